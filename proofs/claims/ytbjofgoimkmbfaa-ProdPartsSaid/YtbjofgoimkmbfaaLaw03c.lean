/- THE WALK of the law on parts of products. -/
import Derived.Test.YtbjofgoimkmbfaaLaw03b
namespace Go.Proofs.Ytbjofgoimkmbfaa
open Go Go.RowKit

attribute [local go_sem ↓] Go.wp_at_zero Go.wp_at_succ
set_option maxRecDepth 100000 in
set_option maxHeartbeats 4000000 in
theorem prodParts_any (a b : Nat) (n : Int) (w : World) (ha : a < M) (hb : b < M) (_h0 : -9223372036854775808 ≤ n) (_h1 : n ≤ 9223372036854775807) :
    Calls Try.prog 13 #[wv a, wv b, .int .i64 n] w fun e w' => e = .returned (.bool true) ∧ Below w.heap.size w w' := by
  obtain ⟨k, hk⟩ : ∃ k : Nat, (k : Int) = max 0 n := ⟨(max 0 n).toNat, by omega⟩
  have S0 := Lib.hid (fun w' => part_w a b n ha hb w')
  rw [show (max 0 n).toNat = k by omega] at S0
  have SA := Lib.hid (fun w' => awake03_any w')
  have HK := Lib.hid hk.symm
  by_cases h14 : 14 < k
  · rw [colS_none a b k (by omega) 8 (by omega), Nat.zero_mod] at S0
    have h14' : (14 : Int) < (k : Int) := by omega
    clear ha hb hk h14
    go_enter Try.func13, Try.ntmps13
    have HB := Lib.hid (Below.refl w.heap.size w)
    have Ga := Lib.hid (alloc_new (w) (.cells (wcells a) 31))
    replace HB := Lib.hid (below_al HB.out (.cells (wcells a) 31))
    replace Ga := Lib.hid (keepAl (o' := .cells (wcells b) 31) Ga.out)
    have Gb := Lib.hid (alloc_new' (w := (w).alloc (.cells (wcells a) 31)) (n := w.heap.size + 1) (.cells (wcells b) 31) (by simp))
    replace HB := Lib.hid (below_al HB.out (.cells (wcells b) 31))
    have cGa := cell_row Ga.out
    have cGb := cell_row Gb.out
    go_wp2_with fail
    refine (S0.out _).mono ?_
    rintro e w1 ⟨rfl, hb⟩
    clear cGa cGb
    replace HB := Lib.hid (below_then HB.out hb)
    replace Ga := Lib.hid ((hb.block _ (lt_of_heap Ga.out)).trans Ga.out)
    replace Gb := Lib.hid ((hb.block _ (lt_of_heap Gb.out)).trans Gb.out)
    clear hb
    replace Ga := Lib.hid (keepAl (o' := .cells (wcells 0) 31) Ga.out)
    replace Gb := Lib.hid (keepAl (o' := .cells (wcells 0) 31) Gb.out)
    have Gg := Lib.hid (alloc_new (w1) (.cells (wcells 0) 31))
    replace HB := Lib.hid (below_al HB.out (.cells (wcells 0) 31))
    have cGa := cell_row Ga.out
    have cGb := cell_row Gb.out
    have cGg := cell_row Gg.out
    go_upto_region 3 with fail
    rw [HK.out]
    clear cGa cGb cGg
    have cGa := cell_row Ga.out
    have cGb := cell_row Gb.out
    have cGg := cell_row Gg.out
    go_wp2_with fail
    refine (SA.out _).mono ?_
    rintro e w2 ⟨rfl, hb⟩
    clear cGa cGb cGg
    replace HB := Lib.hid (below_then HB.out hb)
    replace Ga := Lib.hid ((hb.block _ (lt_of_heap Ga.out)).trans Ga.out)
    replace Gb := Lib.hid ((hb.block _ (lt_of_heap Gb.out)).trans Gb.out)
    replace Gg := Lib.hid ((hb.block _ (lt_of_heap Gg.out)).trans Gg.out)
    clear hb
    have cGa := cell_row Ga.out
    have cGb := cell_row Gb.out
    have cGg := cell_row Gg.out
    go_wp2
    go_ret
    exact ⟨rfl, HB.out⟩
  · have hlow : colS a b k 8 * P2 (64 * k) ≤ a * b := by rw [colS_eq]; exact part_le ha
    have hlack : 0 < k → a * b < colS a b k 8 * P2 (64 * k) + k * P2 (64 * k + 64) := fun h => by rw [colS_eq]; exact part_lacks ha hb h
    have hpl : a * b < P2 1024 := prod_lt ha hb
    have hps : a * b < BIG := small_of hpl (by omega)
    have hcs : colS a b k 8 ≤ colS a b k 8 * P2 (64 * k) := Nat.le_mul_of_pos_right _ (P2_pos _)
    have hkb : k * P2 (64 * k + 64) < P2 (64 * k + 64 + 64) := by
      rw [P2_add (64 * k + 64) 64, Nat.mul_comm]
      exact Nat.mul_lt_mul_of_pos_left (show k < P2 64 by rw [P2_64]; omega) (P2_pos _)
    have hkB : k * P2 (64 * k + 64) < BIG := small_of hkb (by omega)
    have hks : k < BIG := small_of (e := 64) (by rw [P2_64]; omega) (by omega)
    have hsum : colS a b k 8 * P2 (64 * k) + k * P2 (64 * k + 64) < BIG := by
      have h1 : P2 (64 * k + 64 + 64) ≤ P2 1024 := P2_le (by omega)
      have h2 : P2 1024 + P2 1024 = P2 1025 := by rw [show 1025 = 1024 + 1 from rfl, P2_add, show P2 1 = 2 by rw [P2_eq]]; omega
      exact small_of (e := 1025) (by omega) (by omega)
    have S1 := Lib.hid (fun w' => rpart_any a b k ha hb (by omega) w')
    have S2 := Lib.hid (fun v w' h => wide_any v (colS a b k 8) w' (by omega) h)
    have S3 : Hid (∀ (v : Value) (w' : World), IsBig w' v (colS a b k 8) → Calls Try.prog 61 #[v, .int .i64 (64 * (k : Int))] w' (GivesBig (colS a b k 8 * P2 (64 * k)) w')) := Lib.hid fun v w' h => by
      rw [show 64 * (k : Int) = ((64 * k : Nat) : Int) by omega]
      exact rshl_any v _ _ w' (by omega) (by omega) h
    have S4 := Lib.hid (fun w' => rmul3_any a b ha hb w')
    have S5 := Lib.hid (fun w' => small_any k w' (by omega))
    have S6 : Hid (∀ w' : World, Calls Try.prog 47 #[.int .i64 (64 * (k : Int) + 64)] w' (GivesBig (P2 (64 * k + 64)) w')) := Lib.hid fun w' => by
      rw [show 64 * (k : Int) + 64 = ((64 * k + 64 : Nat) : Int) by omega]
      exact power_any _ (by omega) w'
    have S7 := Lib.hid (fun v v2 w' h h' => mul_any v v2 k (P2 (64 * k + 64)) w' hks (P2_small (by omega)) h h')
    have S8 := Lib.hid (fun v v2 w' h h' => cmp_any v v2 (colS a b k 8 * P2 (64 * k)) (a * b) w' (by omega) hps h h')
    have S9 := Lib.hid (fun v v2 w' h h' => add_any v v2 (colS a b k 8 * P2 (64 * k)) (k * P2 (64 * k + 64)) w' (by omega) hkB h h')
    have S10 := Lib.hid (fun v v2 w' h h' => cmp_any v v2 (a * b) (colS a b k 8 * P2 (64 * k) + k * P2 (64 * k + 64)) w' hps hsum h h')
    have hC1 : cmpN (colS a b k 8 * P2 (64 * k)) (a * b) ≤ 0 := by unfold cmpN; split <;> (try split) <;> omega
    have hC2 : 0 < k → cmpN (a * b) (colS a b k 8 * P2 (64 * k) + k * P2 (64 * k + 64)) = -1 := fun h => cmpN_lt (hlack h)
    obtain ⟨p, hp⟩ : ∃ x, x = a * b := ⟨_, rfl⟩
    obtain ⟨s, hs⟩ : ∃ x, x = colS a b k 8 := ⟨_, rfl⟩
    rw [← hs] at S0 S1 S2 S3 S8 S9 S10 hC1 hC2
    rw [← hp] at S4 S8 S10 hC1 hC2
    obtain ⟨low, hl⟩ : ∃ x, x = s * P2 (64 * k) := ⟨_, rfl⟩
    obtain ⟨less, hle⟩ : ∃ x, x = k * P2 (64 * k + 64) := ⟨_, rfl⟩
    rw [← hl] at S3 S8 S9 S10 hC1 hC2
    rw [← hle] at S7 S9 S10 hC2
    obtain ⟨q, hq⟩ : ∃ x, x = s % M := ⟨_, rfl⟩
    rw [← hq] at S0 S2
    obtain ⟨f, hf⟩ : ∃ x, x = decide (M ≤ s) := ⟨_, rfl⟩
    rw [← hf] at S2
    obtain ⟨C1, h1⟩ : ∃ x, x = cmpN low p := ⟨_, rfl⟩
    rw [← h1] at S8 hC1
    obtain ⟨PW, hPW⟩ : ∃ x, x = P2 (64 * k + 64) := ⟨_, rfl⟩
    rw [← hPW] at S6 S7
    obtain ⟨sm, hsm⟩ : ∃ x, x = low + less := ⟨_, rfl⟩
    rw [← hsm] at S9 S10 hC2
    have h14' : ¬ (14 : Int) < (k : Int) := by omega
    have h00 : (0 : Int) ≤ (k : Int) := by omega
    have hcv : IntKind.u64.wrap (k : Int) = (k : Int) := by rw [u64wrap]; omega
    clear ha hb hk h14 hlow hlack hpl hps hcs hkb hkB hks hp hs hl hle hq hf h1 hPW hsm
    clear hsum
    rcases Nat.eq_zero_or_pos k with h0 | h0
    · have hk0 : ((k : Int) == 0) = true := by simp [h0]
      clear h0 hC2 S10
      go_enter Try.func13, Try.ntmps13
      have HB := Lib.hid (Below.refl w.heap.size w)
      have Ga := Lib.hid (alloc_new (w) (.cells (wcells a) 31))
      replace HB := Lib.hid (below_al HB.out (.cells (wcells a) 31))
      replace Ga := Lib.hid (keepAl (o' := .cells (wcells b) 31) Ga.out)
      have Gb := Lib.hid (alloc_new' (w := (w).alloc (.cells (wcells a) 31)) (n := w.heap.size + 1) (.cells (wcells b) 31) (by simp))
      replace HB := Lib.hid (below_al HB.out (.cells (wcells b) 31))
      have cGa := cell_row Ga.out
      have cGb := cell_row Gb.out
      go_wp2_with fail
      refine (S0.out _).mono ?_
      rintro e w3 ⟨rfl, hb⟩
      clear cGa cGb
      replace HB := Lib.hid (below_then HB.out hb)
      replace Ga := Lib.hid ((hb.block _ (lt_of_heap Ga.out)).trans Ga.out)
      replace Gb := Lib.hid ((hb.block _ (lt_of_heap Gb.out)).trans Gb.out)
      clear hb
      replace Ga := Lib.hid (keepAl (o' := .cells (wcells q) 31) Ga.out)
      replace Gb := Lib.hid (keepAl (o' := .cells (wcells q) 31) Gb.out)
      have Gg := Lib.hid (alloc_new (w3) (.cells (wcells q) 31))
      replace HB := Lib.hid (below_al HB.out (.cells (wcells q) 31))
      have cGa := cell_row Ga.out
      have cGb := cell_row Gb.out
      have cGg := cell_row Gg.out
      go_upto_region 3 with fail
      rw [HK.out]
      clear cGa cGb cGg
      obtain ⟨wL, hw⟩ : ∃ wx, wx = (w3).alloc (.cells (wcells q) 31) := ⟨_, rfl⟩
      rw [← hw] at Ga Gb Gg HB ⊢
      clear hw
      have cGa := cell_row Ga.out
      have cGb := cell_row Gb.out
      have cGg := cell_row Gg.out
      go_wp2_with fail
      refine (S1.out _).mono ?_
      rintro e w4 ⟨rp, rfl, hr, hb⟩
      clear cGa cGb cGg
      replace HB := Lib.hid (below_then HB.out hb)
      replace Ga := Lib.hid ((hb.block _ (lt_of_heap Ga.out)).trans Ga.out)
      replace Gb := Lib.hid ((hb.block _ (lt_of_heap Gb.out)).trans Gb.out)
      replace Gg := Lib.hid ((hb.block _ (lt_of_heap Gg.out)).trans Gg.out)
      have Rp := Lib.hid hr
      clear hr hb
      have cGa := cell_row Ga.out
      have cGb := cell_row Gb.out
      have cGg := cell_row Gg.out
      go_wp2_with fail
      refine (S2.out _ _ Rp.out).mono ?_
      rintro e w5 ⟨rfl, hb⟩
      clear cGa cGb cGg
      replace HB := Lib.hid (below_then HB.out hb)
      replace Ga := Lib.hid ((hb.block _ (lt_of_heap Ga.out)).trans Ga.out)
      replace Gb := Lib.hid ((hb.block _ (lt_of_heap Gb.out)).trans Gb.out)
      replace Gg := Lib.hid ((hb.block _ (lt_of_heap Gg.out)).trans Gg.out)
      replace Rp := Lib.hid (Rp.out.below hb)
      clear hb
      replace Ga := Lib.hid (keepAl (o' := .cells (wcells q) 31) Ga.out)
      replace Gb := Lib.hid (keepAl (o' := .cells (wcells q) 31) Gb.out)
      replace Gg := Lib.hid (keepAl (o' := .cells (wcells q) 31) Gg.out)
      replace Rp := Lib.hid (Rp.out.below (below_al (Below.refl (w5).heap.size (w5)) (.cells (wcells q) 31)))
      have Gq := Lib.hid (alloc_new (w5) (.cells (wcells q) 31))
      replace HB := Lib.hid (below_al HB.out (.cells (wcells q) 31))
      have cGa := cell_row Ga.out
      have cGb := cell_row Gb.out
      have cGg := cell_row Gg.out
      have cGq := cell_row Gq.out
      go_wp2_with fail
      refine (S3.out _ _ Rp.out).mono ?_
      rintro e w6 ⟨rl, rfl, hr, hb⟩
      clear cGa cGb cGg cGq
      replace HB := Lib.hid (below_then HB.out hb)
      replace Ga := Lib.hid ((hb.block _ (lt_of_heap Ga.out)).trans Ga.out)
      replace Gb := Lib.hid ((hb.block _ (lt_of_heap Gb.out)).trans Gb.out)
      replace Gg := Lib.hid ((hb.block _ (lt_of_heap Gg.out)).trans Gg.out)
      replace Rp := Lib.hid (Rp.out.below hb)
      replace Gq := Lib.hid ((hb.block _ (lt_of_heap Gq.out)).trans Gq.out)
      have Rl := Lib.hid hr
      clear hr hb
      have cGa := cell_row Ga.out
      have cGb := cell_row Gb.out
      have cGg := cell_row Gg.out
      have cGq := cell_row Gq.out
      go_wp2_with fail
      refine (S4.out _).mono ?_
      rintro e w7 ⟨rm, rfl, hr, hb⟩
      clear cGa cGb cGg cGq
      replace HB := Lib.hid (below_then HB.out hb)
      replace Ga := Lib.hid ((hb.block _ (lt_of_heap Ga.out)).trans Ga.out)
      replace Gb := Lib.hid ((hb.block _ (lt_of_heap Gb.out)).trans Gb.out)
      replace Gg := Lib.hid ((hb.block _ (lt_of_heap Gg.out)).trans Gg.out)
      replace Gq := Lib.hid ((hb.block _ (lt_of_heap Gq.out)).trans Gq.out)
      replace Rl := Lib.hid (Rl.out.below hb)
      have Rm := Lib.hid hr
      clear hr hb
      have cGa := cell_row Ga.out
      have cGb := cell_row Gb.out
      have cGg := cell_row Gg.out
      have cGq := cell_row Gq.out
      go_wp2_with fail
      refine (S5.out _).mono ?_
      rintro e w8 ⟨rk, rfl, hr, hb⟩
      clear cGa cGb cGg cGq
      replace HB := Lib.hid (below_then HB.out hb)
      replace Ga := Lib.hid ((hb.block _ (lt_of_heap Ga.out)).trans Ga.out)
      replace Gb := Lib.hid ((hb.block _ (lt_of_heap Gb.out)).trans Gb.out)
      replace Gg := Lib.hid ((hb.block _ (lt_of_heap Gg.out)).trans Gg.out)
      replace Gq := Lib.hid ((hb.block _ (lt_of_heap Gq.out)).trans Gq.out)
      replace Rl := Lib.hid (Rl.out.below hb)
      replace Rm := Lib.hid (Rm.out.below hb)
      have Rk := Lib.hid hr
      clear hr hb
      have cGa := cell_row Ga.out
      have cGb := cell_row Gb.out
      have cGg := cell_row Gg.out
      have cGq := cell_row Gq.out
      go_wp2_with fail
      refine (S6.out _).mono ?_
      rintro e w9 ⟨rw, rfl, hr, hb⟩
      clear cGa cGb cGg cGq
      replace HB := Lib.hid (below_then HB.out hb)
      replace Ga := Lib.hid ((hb.block _ (lt_of_heap Ga.out)).trans Ga.out)
      replace Gb := Lib.hid ((hb.block _ (lt_of_heap Gb.out)).trans Gb.out)
      replace Gg := Lib.hid ((hb.block _ (lt_of_heap Gg.out)).trans Gg.out)
      replace Gq := Lib.hid ((hb.block _ (lt_of_heap Gq.out)).trans Gq.out)
      replace Rl := Lib.hid (Rl.out.below hb)
      replace Rm := Lib.hid (Rm.out.below hb)
      replace Rk := Lib.hid (Rk.out.below hb)
      have Rw := Lib.hid hr
      clear hr hb
      have cGa := cell_row Ga.out
      have cGb := cell_row Gb.out
      have cGg := cell_row Gg.out
      have cGq := cell_row Gq.out
      go_wp2_with fail
      refine (S7.out _ _ _ Rk.out Rw.out).mono ?_
      rintro e w10 ⟨rx, rfl, hr, hb⟩
      clear cGa cGb cGg cGq
      replace HB := Lib.hid (below_then HB.out hb)
      replace Ga := Lib.hid ((hb.block _ (lt_of_heap Ga.out)).trans Ga.out)
      replace Gb := Lib.hid ((hb.block _ (lt_of_heap Gb.out)).trans Gb.out)
      replace Gg := Lib.hid ((hb.block _ (lt_of_heap Gg.out)).trans Gg.out)
      replace Gq := Lib.hid ((hb.block _ (lt_of_heap Gq.out)).trans Gq.out)
      replace Rl := Lib.hid (Rl.out.below hb)
      replace Rm := Lib.hid (Rm.out.below hb)
      replace Rk := Lib.hid (Rk.out.below hb)
      replace Rw := Lib.hid (Rw.out.below hb)
      have Rx := Lib.hid hr
      clear hr hb
      have cGa := cell_row Ga.out
      have cGb := cell_row Gb.out
      have cGg := cell_row Gg.out
      have cGq := cell_row Gq.out
      go_wp2_with fail
      refine (S8.out _ _ _ Rl.out Rm.out).mono ?_
      rintro e w11 ⟨rfl, hb⟩
      clear cGa cGb cGg cGq
      replace HB := Lib.hid (below_then HB.out hb)
      replace Ga := Lib.hid ((hb.block _ (lt_of_heap Ga.out)).trans Ga.out)
      replace Gb := Lib.hid ((hb.block _ (lt_of_heap Gb.out)).trans Gb.out)
      replace Gg := Lib.hid ((hb.block _ (lt_of_heap Gg.out)).trans Gg.out)
      replace Gq := Lib.hid ((hb.block _ (lt_of_heap Gq.out)).trans Gq.out)
      replace Rl := Lib.hid (Rl.out.below hb)
      replace Rm := Lib.hid (Rm.out.below hb)
      replace Rx := Lib.hid (Rx.out.below hb)
      clear hb
      have cGa := cell_row Ga.out
      have cGb := cell_row Gb.out
      have cGg := cell_row Gg.out
      have cGq := cell_row Gq.out
      go_wp2_with fail
      refine (SA.out _).mono ?_
      rintro e w12 ⟨rfl, hb⟩
      clear cGa cGb cGg cGq
      replace HB := Lib.hid (below_then HB.out hb)
      replace Ga := Lib.hid ((hb.block _ (lt_of_heap Ga.out)).trans Ga.out)
      replace Gb := Lib.hid ((hb.block _ (lt_of_heap Gb.out)).trans Gb.out)
      replace Gg := Lib.hid ((hb.block _ (lt_of_heap Gg.out)).trans Gg.out)
      replace Gq := Lib.hid ((hb.block _ (lt_of_heap Gq.out)).trans Gq.out)
      replace Rl := Lib.hid (Rl.out.below hb)
      replace Rm := Lib.hid (Rm.out.below hb)
      replace Rx := Lib.hid (Rx.out.below hb)
      clear hb
      have cGa := cell_row Ga.out
      have cGb := cell_row Gb.out
      have cGg := cell_row Gg.out
      have cGq := cell_row Gq.out
      go_wp2
      go_ret
      exact ⟨rfl, HB.out⟩
    · have hk0 : ((k : Int) == 0) = false := by simp; omega
      have hC2' := Lib.hid (hC2 h0)
      rw [hC2'.out] at S10
      clear h0 hC2
      go_enter Try.func13, Try.ntmps13
      have HB := Lib.hid (Below.refl w.heap.size w)
      have Ga := Lib.hid (alloc_new (w) (.cells (wcells a) 31))
      replace HB := Lib.hid (below_al HB.out (.cells (wcells a) 31))
      replace Ga := Lib.hid (keepAl (o' := .cells (wcells b) 31) Ga.out)
      have Gb := Lib.hid (alloc_new' (w := (w).alloc (.cells (wcells a) 31)) (n := w.heap.size + 1) (.cells (wcells b) 31) (by simp))
      replace HB := Lib.hid (below_al HB.out (.cells (wcells b) 31))
      have cGa := cell_row Ga.out
      have cGb := cell_row Gb.out
      go_wp2_with fail
      refine (S0.out _).mono ?_
      rintro e w13 ⟨rfl, hb⟩
      clear cGa cGb
      replace HB := Lib.hid (below_then HB.out hb)
      replace Ga := Lib.hid ((hb.block _ (lt_of_heap Ga.out)).trans Ga.out)
      replace Gb := Lib.hid ((hb.block _ (lt_of_heap Gb.out)).trans Gb.out)
      clear hb
      replace Ga := Lib.hid (keepAl (o' := .cells (wcells q) 31) Ga.out)
      replace Gb := Lib.hid (keepAl (o' := .cells (wcells q) 31) Gb.out)
      have Gg := Lib.hid (alloc_new (w13) (.cells (wcells q) 31))
      replace HB := Lib.hid (below_al HB.out (.cells (wcells q) 31))
      have cGa := cell_row Ga.out
      have cGb := cell_row Gb.out
      have cGg := cell_row Gg.out
      go_upto_region 3 with fail
      rw [HK.out]
      clear cGa cGb cGg
      obtain ⟨wL, hw⟩ : ∃ wx, wx = (w13).alloc (.cells (wcells q) 31) := ⟨_, rfl⟩
      rw [← hw] at Ga Gb Gg HB ⊢
      clear hw
      have cGa := cell_row Ga.out
      have cGb := cell_row Gb.out
      have cGg := cell_row Gg.out
      go_wp2_with fail
      refine (S1.out _).mono ?_
      rintro e w14 ⟨rp, rfl, hr, hb⟩
      clear cGa cGb cGg
      replace HB := Lib.hid (below_then HB.out hb)
      replace Ga := Lib.hid ((hb.block _ (lt_of_heap Ga.out)).trans Ga.out)
      replace Gb := Lib.hid ((hb.block _ (lt_of_heap Gb.out)).trans Gb.out)
      replace Gg := Lib.hid ((hb.block _ (lt_of_heap Gg.out)).trans Gg.out)
      have Rp := Lib.hid hr
      clear hr hb
      have cGa := cell_row Ga.out
      have cGb := cell_row Gb.out
      have cGg := cell_row Gg.out
      go_wp2_with fail
      refine (S2.out _ _ Rp.out).mono ?_
      rintro e w15 ⟨rfl, hb⟩
      clear cGa cGb cGg
      replace HB := Lib.hid (below_then HB.out hb)
      replace Ga := Lib.hid ((hb.block _ (lt_of_heap Ga.out)).trans Ga.out)
      replace Gb := Lib.hid ((hb.block _ (lt_of_heap Gb.out)).trans Gb.out)
      replace Gg := Lib.hid ((hb.block _ (lt_of_heap Gg.out)).trans Gg.out)
      replace Rp := Lib.hid (Rp.out.below hb)
      clear hb
      replace Ga := Lib.hid (keepAl (o' := .cells (wcells q) 31) Ga.out)
      replace Gb := Lib.hid (keepAl (o' := .cells (wcells q) 31) Gb.out)
      replace Gg := Lib.hid (keepAl (o' := .cells (wcells q) 31) Gg.out)
      replace Rp := Lib.hid (Rp.out.below (below_al (Below.refl (w15).heap.size (w15)) (.cells (wcells q) 31)))
      have Gq := Lib.hid (alloc_new (w15) (.cells (wcells q) 31))
      replace HB := Lib.hid (below_al HB.out (.cells (wcells q) 31))
      have cGa := cell_row Ga.out
      have cGb := cell_row Gb.out
      have cGg := cell_row Gg.out
      have cGq := cell_row Gq.out
      go_wp2_with fail
      refine (S3.out _ _ Rp.out).mono ?_
      rintro e w16 ⟨rl, rfl, hr, hb⟩
      clear cGa cGb cGg cGq
      replace HB := Lib.hid (below_then HB.out hb)
      replace Ga := Lib.hid ((hb.block _ (lt_of_heap Ga.out)).trans Ga.out)
      replace Gb := Lib.hid ((hb.block _ (lt_of_heap Gb.out)).trans Gb.out)
      replace Gg := Lib.hid ((hb.block _ (lt_of_heap Gg.out)).trans Gg.out)
      replace Rp := Lib.hid (Rp.out.below hb)
      replace Gq := Lib.hid ((hb.block _ (lt_of_heap Gq.out)).trans Gq.out)
      have Rl := Lib.hid hr
      clear hr hb
      have cGa := cell_row Ga.out
      have cGb := cell_row Gb.out
      have cGg := cell_row Gg.out
      have cGq := cell_row Gq.out
      go_wp2_with fail
      refine (S4.out _).mono ?_
      rintro e w17 ⟨rm, rfl, hr, hb⟩
      clear cGa cGb cGg cGq
      replace HB := Lib.hid (below_then HB.out hb)
      replace Ga := Lib.hid ((hb.block _ (lt_of_heap Ga.out)).trans Ga.out)
      replace Gb := Lib.hid ((hb.block _ (lt_of_heap Gb.out)).trans Gb.out)
      replace Gg := Lib.hid ((hb.block _ (lt_of_heap Gg.out)).trans Gg.out)
      replace Gq := Lib.hid ((hb.block _ (lt_of_heap Gq.out)).trans Gq.out)
      replace Rl := Lib.hid (Rl.out.below hb)
      have Rm := Lib.hid hr
      clear hr hb
      have cGa := cell_row Ga.out
      have cGb := cell_row Gb.out
      have cGg := cell_row Gg.out
      have cGq := cell_row Gq.out
      go_wp2_with fail
      refine (S5.out _).mono ?_
      rintro e w18 ⟨rk, rfl, hr, hb⟩
      clear cGa cGb cGg cGq
      replace HB := Lib.hid (below_then HB.out hb)
      replace Ga := Lib.hid ((hb.block _ (lt_of_heap Ga.out)).trans Ga.out)
      replace Gb := Lib.hid ((hb.block _ (lt_of_heap Gb.out)).trans Gb.out)
      replace Gg := Lib.hid ((hb.block _ (lt_of_heap Gg.out)).trans Gg.out)
      replace Gq := Lib.hid ((hb.block _ (lt_of_heap Gq.out)).trans Gq.out)
      replace Rl := Lib.hid (Rl.out.below hb)
      replace Rm := Lib.hid (Rm.out.below hb)
      have Rk := Lib.hid hr
      clear hr hb
      have cGa := cell_row Ga.out
      have cGb := cell_row Gb.out
      have cGg := cell_row Gg.out
      have cGq := cell_row Gq.out
      go_wp2_with fail
      refine (S6.out _).mono ?_
      rintro e w19 ⟨rw, rfl, hr, hb⟩
      clear cGa cGb cGg cGq
      replace HB := Lib.hid (below_then HB.out hb)
      replace Ga := Lib.hid ((hb.block _ (lt_of_heap Ga.out)).trans Ga.out)
      replace Gb := Lib.hid ((hb.block _ (lt_of_heap Gb.out)).trans Gb.out)
      replace Gg := Lib.hid ((hb.block _ (lt_of_heap Gg.out)).trans Gg.out)
      replace Gq := Lib.hid ((hb.block _ (lt_of_heap Gq.out)).trans Gq.out)
      replace Rl := Lib.hid (Rl.out.below hb)
      replace Rm := Lib.hid (Rm.out.below hb)
      replace Rk := Lib.hid (Rk.out.below hb)
      have Rw := Lib.hid hr
      clear hr hb
      have cGa := cell_row Ga.out
      have cGb := cell_row Gb.out
      have cGg := cell_row Gg.out
      have cGq := cell_row Gq.out
      go_wp2_with fail
      refine (S7.out _ _ _ Rk.out Rw.out).mono ?_
      rintro e w20 ⟨rx, rfl, hr, hb⟩
      clear cGa cGb cGg cGq
      replace HB := Lib.hid (below_then HB.out hb)
      replace Ga := Lib.hid ((hb.block _ (lt_of_heap Ga.out)).trans Ga.out)
      replace Gb := Lib.hid ((hb.block _ (lt_of_heap Gb.out)).trans Gb.out)
      replace Gg := Lib.hid ((hb.block _ (lt_of_heap Gg.out)).trans Gg.out)
      replace Gq := Lib.hid ((hb.block _ (lt_of_heap Gq.out)).trans Gq.out)
      replace Rl := Lib.hid (Rl.out.below hb)
      replace Rm := Lib.hid (Rm.out.below hb)
      replace Rk := Lib.hid (Rk.out.below hb)
      replace Rw := Lib.hid (Rw.out.below hb)
      have Rx := Lib.hid hr
      clear hr hb
      have cGa := cell_row Ga.out
      have cGb := cell_row Gb.out
      have cGg := cell_row Gg.out
      have cGq := cell_row Gq.out
      go_wp2_with fail
      refine (S8.out _ _ _ Rl.out Rm.out).mono ?_
      rintro e w21 ⟨rfl, hb⟩
      clear cGa cGb cGg cGq
      replace HB := Lib.hid (below_then HB.out hb)
      replace Ga := Lib.hid ((hb.block _ (lt_of_heap Ga.out)).trans Ga.out)
      replace Gb := Lib.hid ((hb.block _ (lt_of_heap Gb.out)).trans Gb.out)
      replace Gg := Lib.hid ((hb.block _ (lt_of_heap Gg.out)).trans Gg.out)
      replace Gq := Lib.hid ((hb.block _ (lt_of_heap Gq.out)).trans Gq.out)
      replace Rl := Lib.hid (Rl.out.below hb)
      replace Rm := Lib.hid (Rm.out.below hb)
      replace Rx := Lib.hid (Rx.out.below hb)
      clear hb
      have cGa := cell_row Ga.out
      have cGb := cell_row Gb.out
      have cGg := cell_row Gg.out
      have cGq := cell_row Gq.out
      go_wp2_with fail
      refine (S9.out _ _ _ Rl.out Rx.out).mono ?_
      rintro e w22 ⟨ry, rfl, hr, hb⟩
      clear cGa cGb cGg cGq
      replace HB := Lib.hid (below_then HB.out hb)
      replace Ga := Lib.hid ((hb.block _ (lt_of_heap Ga.out)).trans Ga.out)
      replace Gb := Lib.hid ((hb.block _ (lt_of_heap Gb.out)).trans Gb.out)
      replace Gg := Lib.hid ((hb.block _ (lt_of_heap Gg.out)).trans Gg.out)
      replace Gq := Lib.hid ((hb.block _ (lt_of_heap Gq.out)).trans Gq.out)
      replace Rl := Lib.hid (Rl.out.below hb)
      replace Rm := Lib.hid (Rm.out.below hb)
      replace Rx := Lib.hid (Rx.out.below hb)
      have Ry := Lib.hid hr
      clear hr hb
      have cGa := cell_row Ga.out
      have cGb := cell_row Gb.out
      have cGg := cell_row Gg.out
      have cGq := cell_row Gq.out
      go_wp2_with fail
      refine (S10.out _ _ _ Rm.out Ry.out).mono ?_
      rintro e w23 ⟨rfl, hb⟩
      clear cGa cGb cGg cGq
      replace HB := Lib.hid (below_then HB.out hb)
      replace Ga := Lib.hid ((hb.block _ (lt_of_heap Ga.out)).trans Ga.out)
      replace Gb := Lib.hid ((hb.block _ (lt_of_heap Gb.out)).trans Gb.out)
      replace Gg := Lib.hid ((hb.block _ (lt_of_heap Gg.out)).trans Gg.out)
      replace Gq := Lib.hid ((hb.block _ (lt_of_heap Gq.out)).trans Gq.out)
      replace Rl := Lib.hid (Rl.out.below hb)
      replace Rm := Lib.hid (Rm.out.below hb)
      replace Rx := Lib.hid (Rx.out.below hb)
      replace Ry := Lib.hid (Ry.out.below hb)
      clear hb
      have cGa := cell_row Ga.out
      have cGb := cell_row Gb.out
      have cGg := cell_row Gg.out
      have cGq := cell_row Gq.out
      go_wp2_with fail
      refine (SA.out _).mono ?_
      rintro e w24 ⟨rfl, hb⟩
      clear cGa cGb cGg cGq
      replace HB := Lib.hid (below_then HB.out hb)
      replace Ga := Lib.hid ((hb.block _ (lt_of_heap Ga.out)).trans Ga.out)
      replace Gb := Lib.hid ((hb.block _ (lt_of_heap Gb.out)).trans Gb.out)
      replace Gg := Lib.hid ((hb.block _ (lt_of_heap Gg.out)).trans Gg.out)
      replace Gq := Lib.hid ((hb.block _ (lt_of_heap Gq.out)).trans Gq.out)
      replace Rl := Lib.hid (Rl.out.below hb)
      replace Rm := Lib.hid (Rm.out.below hb)
      replace Rx := Lib.hid (Rx.out.below hb)
      replace Ry := Lib.hid (Ry.out.below hb)
      clear hb
      have cGa := cell_row Ga.out
      have cGb := cell_row Gb.out
      have cGg := cell_row Gg.out
      have cGq := cell_row Gq.out
      go_wp2
      go_ret
      exact ⟨rfl, HB.out⟩
end Go.Proofs.Ytbjofgoimkmbfaa
