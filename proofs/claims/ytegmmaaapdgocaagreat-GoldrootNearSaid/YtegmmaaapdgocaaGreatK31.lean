/- SEVERAL TEXTS of the seat, one behind the other: each says at its head what it proves. -/
import Derived.Test.YtegmmaaapdgocaaGreatRt2N
import Derived.Test.YtegmmaaapdgocaaGreatR2b
import Derived.Test.YtegmmaaapdgocaaGreatK30
import Derived.Test.YtegmmaaapdgocaaGreatProd6
import Derived.Test.YtegmmaaapdgocaaGreatLaw11N
/- THE WALKS of the reference of root2: powers, roots; whether a number has a root here. -/
namespace Go.Proofs.YtegmmaaapdgocaaGreat
open Go Go.RowKit

theorem blen_256' {n : Nat} : blen n ≤ 256 ↔ n < P2 256 := ⟨lt_of_blen, blen_le_of⟩
theorem pow_small {b i : Nat} (hb : b < P2 132) (hi : i ≤ 3) : b ^ i < P2 400 := by
  have h1 : b * b < P2 264 := by have := Nat.mul_lt_mul'' hb hb; rwa [← P2_add] at this
  have h2 : b * b * b < P2 396 := by have := Nat.mul_lt_mul'' h1 hb; rwa [← P2_add] at this
  have a1 : P2 0 < P2 400 := P2_lt (by omega)
  have a2 : P2 132 ≤ P2 400 := P2_le (by omega)
  have a3 : P2 264 ≤ P2 400 := P2_le (by omega)
  have a4 : P2 396 ≤ P2 400 := P2_le (by omega)
  rcases (show i = 0 ∨ i = 1 ∨ i = 2 ∨ i = 3 by omega) with rfl | rfl | rfl | rfl
  · rw [Nat.pow_zero, ← P2_0]; exact a1
  · rw [Nat.pow_one]; omega
  · rw [sqr]; omega
  · rw [show (3 : Nat) = 2 + 1 from rfl, Nat.pow_succ, sqr]; omega

attribute [local go_sem ↓] Go.wp_at_zero Go.wp_at_succ
set_option maxHeartbeats 1000000 in
theorem rmayR_any (n : Nat) (hn : n < M) (w : World) : Calls Tryz.prog 28 #[wv n] w fun e w' => e = .returned (.bool (decide (n < P2 256))) ∧ Below w.heap.size w w' := by
  have S1 := Lib.hid (fun w' => big_any n hn w')
  have S2 := Lib.hid (fun v w' h => rlen_any v n w' (small_M hn) h)
  have hb := blen_256' (n := n)
  obtain ⟨l, hl⟩ : ∃ l, l = blen n := ⟨_, rfl⟩
  obtain ⟨F, hF⟩ : ∃ F, F = decide (n < P2 256) := ⟨_, rfl⟩
  rw [← hl] at S2 hb
  rw [← hF]
  rcases (show (decide ((l : Int) ≤ 256) = true ∧ F = true) ∨ (decide ((l : Int) ≤ 256) = false ∧ F = false) by
    by_cases h : n < P2 256
    · left; exact ⟨decide_eq_true (by have := hb.2 h; omega), by rw [hF]; exact decide_eq_true h⟩
    · right; exact ⟨decide_eq_false (fun hh => h (hb.1 (by omega))), by rw [hF]; exact decide_eq_false h⟩) with ⟨h1, rfl⟩ | ⟨h1, rfl⟩
  all_goals
    clear hn hb hl hF
    go_enter Tryz.func28, Tryz.ntmps28
    have HB := Lib.hid (Below.refl w.heap.size w)
    have Gn := Lib.hid (alloc_new (w) (.cells (wcells n) 24))
    replace HB := Lib.hid (below_al HB.out (.cells (wcells n) 24))
    have cGn := cell_row Gn.out
    go_wp2_with fail
    refine (S1.out _).mono ?_
    rintro e w1 ⟨rb, rfl, hr, hb⟩
    clear cGn
    replace HB := Lib.hid (below_then HB.out hb)
    replace Gn := Lib.hid ((hb.block _ (lt_of_heap Gn.out)).trans Gn.out)
    have Rb := Lib.hid hr
    clear hr hb
    have cGn := cell_row Gn.out
    go_wp2_with fail
    refine (S2.out _ _ Rb.out).mono ?_
    rintro e w2 ⟨rfl, hb⟩
    clear cGn
    replace HB := Lib.hid (below_then HB.out hb)
    replace Gn := Lib.hid ((hb.block _ (lt_of_heap Gn.out)).trans Gn.out)
    replace Rb := Lib.hid (Rb.out.below hb)
    clear hb
    have cGn := cell_row Gn.out
    go_wp2
    go_ret
    exact ⟨rfl, HB.out⟩

set_option maxHeartbeats 1000000 in
theorem rpow_any (v : Value) (b k : Nat) (w : World) (hb : b < P2 132) (hk : k ≤ 3) (h : IsBig w v b) :
    Calls Tryz.prog 75 #[v, .int .i64 (k : Int)] w (GivesBig (b ^ k) w) := by
  have h400 : P2 400 < BIG := P2_small (by omega)
  have hbB : b < BIG := by have := pow_small hb (show 1 ≤ 3 by omega); rw [Nat.pow_one] at this; omega
  have S1 := Lib.hid (fun w' => small_any 1 w' (by omega))
  have S2 := Lib.hid (fun i (hi : i ≤ 3) v v2 w' h h' => mul_any v v2 (b ^ i) b w' (Nat.lt_trans (pow_small hb hi) h400) hbB h h')
  have RB := Lib.hid h
  clear hb h h400 hbB
  go_enter Tryz.func75, Tryz.ntmps75
  have HB := Lib.hid (Below.refl w.heap.size w)
  go_wp2_with fail
  refine (S1.out _).mono ?_
  rintro e w3 ⟨ro, rfl, hr, hb⟩
  replace HB := Lib.hid (below_then HB.out hb)
  replace RB := Lib.hid (RB.out.below hb)
  have Ro := Lib.hid hr
  clear hr hb
  go_wp2
  go_loopw [5, 6] (fun s5 s6 wr => ∃ i : Nat, s6 = .int .i64 i ∧ i ≤ k ∧ Hid (IsBig wr s5 (b ^ i)) ∧ Hid (IsBig wr v b) ∧ Hid (Below w.heap.size w wr)) (fun _ s6 _ => k - (intOf s6).toNat)
  case atStart => exact ⟨0, rfl, Nat.zero_le _, by rw [Nat.pow_zero]; exact Ro, RB, HB⟩
  case round =>
    clear HB RB Ro
    obtain ⟨i, rfl, hi, RO, RB, HB⟩ := hrel
    by_cases hlt : i < k
    · have e1 : (i : Int) < (k : Int) := by omega
      have e0 : (0 : Int) ≤ (i : Int) := by omega
      have e3 : (i : Int) ≤ 3 := by omega
      have T2 := Lib.hid (fun v v2 w' h h' => S2.out i (by omega) v v2 w' h h')
      have HLT := Lib.hid hlt
      clear hlt hi
      rw [← Nat.pow_succ] at T2
      go_wp2_with fail
      refine (T2.out _ _ _ RO.out RB.out).mono ?_
      rintro e w4 ⟨rm, rfl, hr, hb⟩
      replace HB := Lib.hid (below_then HB.out hb)
      replace RB := Lib.hid (RB.out.below hb)
      replace RO := Lib.hid (RO.out.below hb)
      have Rm := Lib.hid hr
      clear hr hb
      go_wp2
      go_roundw
      case rel => exact ⟨i + 1, by go_num, HLT.out, Rm, RB, HB⟩
      case measure => have := HLT.out; simp [intOf]; omega
    · obtain rfl : i = k := by omega
      clear hlt hi
      go_wp2
      go_ret
      exact ⟨_, rfl, RO.out, HB.out⟩

set_option maxRecDepth 100000 in
set_option maxHeartbeats 4000000 in
theorem rroot_any (n k : Nat) (w : World) (hn : n < P2 256) (hk : k = 2 ∨ k = 3) :
    Calls Tryz.prog 34 #[wv n, .int .i64 (k : Int)] w fun e w' => e = .returned (.tuple #[wv (rtN k n), wv (n - rtN k n ^ k)]) ∧ Below w.heap.size w w' := by
  have hk0 : k ≠ 0 := by omega
  have hnM : n < M := Nat.lt_trans hn (by rw [M_eq]; exact P2_lt (by omega))
  have hS : rtN k n < P2 131 := by
    rcases hk with rfl | rfl
    · exact Nat.lt_of_lt_of_le (rt_lt hn) (P2_le (by omega))
    · exact Nat.lt_of_lt_of_le (cube_lt hn) (P2_le (by omega))
  have hle := fun x => rt_le k n x hk0
  have hsp := (rt_spec k n hk0).1
  have h132 : P2 132 = P2 131 * 2 := P2_twice 131
  have hS132 : rtN k n < P2 132 := by omega
  have hSM : rtN k n < M := Nat.lt_trans hS (by rw [M_eq]; exact P2_lt (by omega))
  have B1 := Lib.hid (fun w' => big_any n hnM w')
  have A1 := Lib.hid (fun i (hi : i ≤ 130) w' => power_any i (by omega) w')
  have h132B : P2 132 < BIG := P2_small (by omega)
  have A4 := Lib.hid (fun v v2 x w' (hx : x ^ k < P2 400) h h' => cmp_any v v2 (x ^ k) n w' (Nat.lt_trans hx (P2_small (by omega))) (small_M hnM) h h')
  have A3 := Lib.hid (fun v x w' (hx : x < P2 132) h => rpow_any v x k w' hx (by omega) h)
  have C1 := Lib.hid (fun v w' h => wide_any v (rtN k n) w' (small_M hSM) h)
  rw [Nat.mod_eq_of_lt hSM] at C1
  have C2 := Lib.hid (fun v w' h => rpow_any v (rtN k n) k w' hS132 (by omega) h)
  have C3 : Hid (∀ (v v2 : Value) (w' : World), IsBig w' v n → IsBig w' v2 (rtN k n ^ k) → Calls Tryz.prog 74 #[v, v2] w' (GivesBig (n - rtN k n ^ k) w')) := Lib.hid fun v v2 w' h h' =>
    sub_any v v2 (rtN k n ^ k) (n - rtN k n ^ k) w' (by rw [Nat.add_sub_cancel' hsp]; exact small_M hnM) (by rw [Nat.add_sub_cancel' hsp]; exact h) h'
  have hRM : n - rtN k n ^ k < M := by omega
  have C4 := Lib.hid (fun v w' h => wide_any v (n - rtN k n ^ k) w' (small_M hRM) h)
  rw [Nat.mod_eq_of_lt hRM] at C4
  obtain ⟨S, hSe⟩ : ∃ S, S = rtN k n := ⟨_, rfl⟩
  rw [← hSe] at hS hle C1 C2 C3 C4 ⊢
  obtain ⟨pS, hp⟩ : ∃ p, p = S ^ k := ⟨_, rfl⟩
  rw [← hp] at C2 C3 C4 ⊢
  obtain ⟨R, hR⟩ : ∃ R, R = n - pS := ⟨_, rfl⟩
  rw [← hR] at C3 C4 ⊢
  obtain ⟨f1, hf1⟩ : ∃ f, f = decide (M ≤ S) := ⟨_, rfl⟩
  obtain ⟨f2, hf2⟩ : ∃ f, f = decide (M ≤ R) := ⟨_, rfl⟩
  rw [← hf1] at C1
  rw [← hf2] at C4
  have HLE := Lib.hid hle; have HSb := Lib.hid hS; have HK3 := Lib.hid (show k ≤ 3 by omega)
  clear hn hk hk0 hnM hS hle hsp hS132 hSM hRM hSe hp hR hf1 hf2 h132 h132B
  go_enter Tryz.func34, Tryz.ntmps34
  have HB := Lib.hid (Below.refl w.heap.size w)
  have Gn := Lib.hid (alloc_new (w) (.cells (wcells n) 24))
  replace HB := Lib.hid (below_al HB.out (.cells (wcells n) 24))
  replace Gn := Lib.hid (keepAl (o' := .cells (wcells 0) 24) Gn.out)
  have Gx := Lib.hid (alloc_new' (w := (w).alloc (.cells (wcells n) 24)) (n := w.heap.size + 1) (.cells (wcells 0) 24) (by simp))
  replace HB := Lib.hid (below_al HB.out (.cells (wcells 0) 24))
  replace Gn := Lib.hid (keepAl (o' := .cells (wcells 0) 24) Gn.out)
  replace Gx := Lib.hid (keepAl (o' := .cells (wcells 0) 24) Gx.out)
  have Gy := Lib.hid (alloc_new' (w := ((w).alloc (.cells (wcells n) 24)).alloc (.cells (wcells 0) 24)) (n := w.heap.size + 1 + 1) (.cells (wcells 0) 24) (by simp))
  replace HB := Lib.hid (below_al HB.out (.cells (wcells 0) 24))
  have cGn := cell_row Gn.out
  have cGx := cell_row Gx.out
  have cGy := cell_row Gy.out
  go_wp2_with fail
  refine (B1.out _).mono ?_
  rintro e w5 ⟨rn, rfl, hr, hb⟩
  clear cGn cGx cGy
  replace HB := Lib.hid (below_then HB.out hb)
  replace Gn := Lib.hid ((hb.block _ (lt_of_heap Gn.out)).trans Gn.out)
  replace Gx := Lib.hid ((hb.block _ (lt_of_heap Gx.out)).trans Gx.out)
  replace Gy := Lib.hid ((hb.block _ (lt_of_heap Gy.out)).trans Gy.out)
  have Rn := Lib.hid hr
  clear hr hb
  have cGn := cell_row Gn.out
  have cGx := cell_row Gx.out
  have cGy := cell_row Gy.out
  go_wp2
  clear cGn cGx cGy
  go_loopw [7, 8] (fun s7 s8 wr => ∃ j : Nat, j ≤ 131 ∧ s8 = .int .i64 ((j : Int) - 1) ∧ Hid (IsBig wr s7 (S / P2 j * P2 j)) ∧ Hid (IsBig wr rn n) ∧ Hid (wr.heap[w.heap.size + 1]? = some (.cells (wcells 0) 24 (0, 0))) ∧ Hid (wr.heap[w.heap.size + 1 + 1]? = some (.cells (wcells 0) 24 (0, 0))) ∧ Hid (Below w.heap.size w wr)) (fun _ s8 _ => (intOf s8 + 1).toNat)
  case atStart => exact ⟨131, by omega, rfl, Lib.hid (by rw [Nat.div_eq_of_lt HSb.out, Nat.zero_mul]; exact isBig_nil _ _ _), Lib.hid (Rn.out.below (below_al (Below.refl _ _) _)), Lib.hid (keepAl Gx.out), Lib.hid (keepAl Gy.out), Lib.hid (below_al HB.out _)⟩
  case round =>
    clear HB Gx Gy Gn Rn
    obtain ⟨j, hj, rfl, RS, RN, Gx, Gy, HB⟩ := hrel
    rcases j with _ | i
    · have e0 : S / P2 0 * P2 0 = S := by rw [P2_0, Nat.div_one, Nat.mul_one]
      rw [e0] at RS
      clear e0
      have HZ := Lib.hid (lt_of_heap Gy.out)
      have cGx := cell_row Gx.out
      have cGy := cell_row Gy.out
      go_wp2_with fail
      refine (C1.out _ _ RS.out).mono ?_
      rintro e w6 ⟨rfl, hb⟩
      clear cGx cGy
      replace HB := Lib.hid (below_then HB.out hb)
      replace RS := Lib.hid (RS.out.below hb)
      replace RN := Lib.hid (RN.out.below hb)
      replace Gx := Lib.hid ((hb.block _ (lt_of_heap Gx.out)).trans Gx.out)
      replace Gy := Lib.hid ((hb.block _ (lt_of_heap Gy.out)).trans Gy.out)
      clear hb
      have HZ2 := Lib.hid (lt_of_heap Gy.out)
      replace RS := Lib.hid (RS.out.below (below_al (Below.refl (w6).heap.size (w6)) (.cells (wcells S) 24)))
      replace RN := Lib.hid (RN.out.below (below_al (Below.refl (w6).heap.size (w6)) (.cells (wcells S) 24)))
      replace Gx := Lib.hid (keepAl (o' := .cells (wcells S) 24) Gx.out)
      replace Gy := Lib.hid (keepAl (o' := .cells (wcells S) 24) Gy.out)
      have Ga := Lib.hid (alloc_new (w6) (.cells (wcells S) 24))
      replace HB := Lib.hid (below_al HB.out (.cells (wcells S) 24))
      have cGx := cell_row Gx.out
      have cGy := cell_row Gy.out
      have cGa := cell_row Ga.out
      go_wp2_with fail
      refine (C2.out _ _ RS.out).mono ?_
      rintro e w7 ⟨rp, rfl, hr, hb⟩
      clear cGx cGy cGa
      replace HB := Lib.hid (below_then HB.out hb)
      replace RS := Lib.hid (RS.out.below hb)
      replace RN := Lib.hid (RN.out.below hb)
      replace Gx := Lib.hid ((hb.block _ (lt_of_heap Gx.out)).trans Gx.out)
      replace Gy := Lib.hid ((hb.block _ (lt_of_heap Gy.out)).trans Gy.out)
      replace Ga := Lib.hid ((hb.block _ (lt_of_heap Ga.out)).trans Ga.out)
      have Rp := Lib.hid hr
      clear hr hb
      have cGx := cell_row Gx.out
      have cGy := cell_row Gy.out
      have cGa := cell_row Ga.out
      go_wp2_with fail
      refine (C3.out _ _ _ RN.out Rp.out).mono ?_
      rintro e w8 ⟨rr, rfl, hr, hb⟩
      clear cGx cGy cGa
      replace HB := Lib.hid (below_then HB.out hb)
      replace RS := Lib.hid (RS.out.below hb)
      replace RN := Lib.hid (RN.out.below hb)
      replace Gx := Lib.hid ((hb.block _ (lt_of_heap Gx.out)).trans Gx.out)
      replace Gy := Lib.hid ((hb.block _ (lt_of_heap Gy.out)).trans Gy.out)
      replace Ga := Lib.hid ((hb.block _ (lt_of_heap Ga.out)).trans Ga.out)
      replace Rp := Lib.hid (Rp.out.below hb)
      have Rr := Lib.hid hr
      clear hr hb
      have cGx := cell_row Gx.out
      have cGy := cell_row Gy.out
      have cGa := cell_row Ga.out
      go_wp2_with fail
      refine (C4.out _ _ Rr.out).mono ?_
      rintro e w9 ⟨rfl, hb⟩
      clear cGx cGy cGa
      replace HB := Lib.hid (below_then HB.out hb)
      replace Gx := Lib.hid ((hb.block _ (lt_of_heap Gx.out)).trans Gx.out)
      replace Gy := Lib.hid ((hb.block _ (lt_of_heap Gy.out)).trans Gy.out)
      replace Ga := Lib.hid ((hb.block _ (lt_of_heap Ga.out)).trans Ga.out)
      replace Rr := Lib.hid (Rr.out.below hb)
      clear hb
      have HZ3 := Lib.hid (lt_of_heap Gy.out)
      have HZ4 := Lib.hid (lt_of_heap Ga.out)
      replace Gx := Lib.hid (keepAl (o' := .cells (wcells R) 24) Gx.out)
      replace Gy := Lib.hid (keepAl (o' := .cells (wcells R) 24) Gy.out)
      replace Ga := Lib.hid (keepAl (o' := .cells (wcells R) 24) Ga.out)
      have Gb := Lib.hid (alloc_new (w9) (.cells (wcells R) 24))
      replace HB := Lib.hid (below_al HB.out (.cells (wcells R) 24))
      have cGx := cell_row Gx.out
      have cGy := cell_row Gy.out
      have cGa := cell_row Ga.out
      have cGb := cell_row Gb.out
      go_upto_region 11 with fail
      clear cGx cGy cGa cGb
      obtain ⟨wE, hw⟩ : ∃ wx, wx = (w9).alloc (.cells (wcells R) 24) := ⟨_, rfl⟩
      rw [← hw] at Gx Gy Ga Gb HB ⊢
      clear hw
      refine wp_region_store [⟨w.heap.size + 1, 24, .tmp 46⟩, ⟨w.heap.size + 1 + 1, 24, .tmp 47⟩] (by kernel_rfl) (by kernel_rfl) (by kernel_rfl) rfl (List.Pairwise.cons (by intro r hr; simp only [List.mem_cons, List.not_mem_nil, or_false] at hr; subst hr <;> dsimp only <;> (have := HZ2.out; have := HZ3.out; omega)) (List.pairwise_singleton _ _)) ?_ ?_
      · intro r hr
        simp only [List.mem_cons, List.not_mem_nil, or_false] at hr
        rcases hr with rfl | rfl
        · exact ⟨_, Gx.out, by kernel_rfl⟩
        · exact ⟨_, Gy.out, by kernel_rfl⟩
      have xGa := extR_row (B := wE.heap.size) (R := [⟨w.heap.size + 1, 24, .tmp 46⟩, ⟨w.heap.size + 1 + 1, 24, .tmp 47⟩]) Ga.out (lt_of_heap Ga.out) (by intro r hr; simp only [List.mem_cons, List.not_mem_nil, or_false] at hr; rcases hr with rfl | rfl <;> dsimp only <;> (have := HZ2.out; have := HZ3.out; omega))
      have xGb := extR_row (B := wE.heap.size) (R := [⟨w.heap.size + 1, 24, .tmp 46⟩, ⟨w.heap.size + 1 + 1, 24, .tmp 47⟩]) Gb.out (lt_of_heap Gb.out) (by intro r hr; simp only [List.mem_cons, List.not_mem_nil, or_false] at hr; rcases hr with rfl | rfl <;> dsimp only <;> (have := HZ2.out; have := HZ3.out; omega))
      repeat (refine wpCalm_step (fun K hK => ?_); go_simp; first | (refine hK _ ?_; clear hK K) | (apply Exists.intro; refine ⟨fun _ => ?_, hK _ ?_⟩; (first | fail); clear hK K))
      refine wpCalm_nil ⟨?_, fun x hx => ?_⟩
      · intro r hr
        simp only [List.mem_cons, List.not_mem_nil, or_false] at hr
        rcases hr with rfl | rfl <;> exact fits_wv (by kernel_rfl) _
      replace Gx : Hid (x.val.heap[w.heap.size + 1]? = some (.cells (wcells (S)) 24 (0, 0))) := Lib.hid (hx ⟨w.heap.size + 1, 24, .tmp 46⟩ (by simp))
      replace Gy : Hid (x.val.heap[w.heap.size + 1 + 1]? = some (.cells (wcells (R)) 24 (0, 0))) := Lib.hid (hx ⟨w.heap.size + 1 + 1, 24, .tmp 47⟩ (by simp))
      replace Ga := Lib.hid (extR_block x Ga.out (lt_of_heap Ga.out) (by intro r hr; simp only [List.mem_cons, List.not_mem_nil, or_false] at hr; rcases hr with rfl | rfl <;> dsimp only <;> (have := HZ2.out; have := HZ3.out; omega)))
      replace Gb := Lib.hid (extR_block x Gb.out (lt_of_heap Gb.out) (by intro r hr; simp only [List.mem_cons, List.not_mem_nil, or_false] at hr; rcases hr with rfl | rfl <;> dsimp only <;> (have := HZ2.out; have := HZ3.out; omega)))
      replace HB := Lib.hid (extR_below x HB.out HB.out.size (by intro r hr; simp only [List.mem_cons, List.not_mem_nil, or_false] at hr; rcases hr with rfl | rfl <;> dsimp only <;> (have := HZ2.out; have := HZ3.out; omega)))
      clear hx xGa xGb
      obtain ⟨w10, hw⟩ : ∃ wx, wx = x.val := ⟨_, rfl⟩
      rw [← hw] at Gx Gy Ga Gb HB ⊢
      clear hw x
      have c1 := cell_row Gx.out
      have c2 := cell_row Gy.out
      go_wp2
      exact bodyPost_ret (v := .tuple #[wv S, wv R]) (by simp [results, Tryz.results34, go_sem, c1, c2]) rfl ⟨rfl, HB.out⟩
    · have e0 : ((i + 1 : Nat) : Int) - 1 = (i : Int) := by omega
      rw [e0]
      have hg := greedy S i
      have hql : S / P2 (i + 1) * P2 (i + 1) ≤ S := Nat.div_mul_le_self _ _
      have hpk : P2 i ≤ P2 130 := P2_le (by omega)
      have h131 : P2 131 = P2 130 * 2 := P2_twice 130
      have h132 : P2 132 = P2 131 * 2 := P2_twice 131
      have h132B : P2 132 < BIG := P2_small (by omega)
      have hSb := HSb.out
      have hmo : S / P2 (i + 1) * P2 (i + 1) + P2 i < P2 132 := by omega
      have T1 := Lib.hid (fun w' => A1.out i (by omega) w')
      have T2 := Lib.hid (fun v v2 w' h h' => add_any v v2 (S / P2 (i + 1) * P2 (i + 1)) (P2 i) w' (by omega) (by omega) h h')
      have T3 := Lib.hid (fun v w' h => A3.out v _ w' hmo h)
      have T4 := Lib.hid (fun v v2 w' h h' => A4.out v v2 _ w' (pow_small hmo HK3.out) h h')
      have hle := HLE.out (S / P2 (i + 1) * P2 (i + 1) + P2 i)
      obtain ⟨q, hq⟩ : ∃ q, q = S / P2 (i + 1) * P2 (i + 1) := ⟨_, rfl⟩
      rw [← hq] at RS hg T2 T3 T4 hle
      obtain ⟨pk, hp⟩ : ∃ q, q = P2 i := ⟨_, rfl⟩
      rw [← hp] at T1 T2 T3 T4 hle
      obtain ⟨mo, hm⟩ : ∃ m, m = q + pk := ⟨_, rfl⟩
      rw [← hm] at T2 T3 T4 hle
      obtain ⟨pr, hr⟩ : ∃ m, m = mo ^ k := ⟨_, rfl⟩
      rw [← hr] at T3 T4 hle
      have hcmp : (cmpN pr n ≤ 0) ↔ (pr ≤ n) := by unfold cmpN; split <;> (try split) <;> omega
      obtain ⟨C, hC⟩ : ∃ m, m = cmpN pr n := ⟨_, rfl⟩
      rw [← hC] at T4 hcmp
      have HG := Lib.hid (show S / P2 i * P2 i = if mo ≤ S then mo else q by rw [hg, hm, hp])
      have HL2 := Lib.hid hle; have HCM := Lib.hid hcmp; have HJ := Lib.hid hj
      have hki : (i : Int) ≤ 130 := by omega
      clear hg hql hpk h131 h132 h132B hSb hmo hle hcmp hq hp hm hr hC hj
      by_cases hc : C ≤ 0
      · have HG2 := Lib.hid (show S / P2 i * P2 i = mo by rw [HG.out, if_pos (HL2.out.2 (HCM.out.1 hc))])
        have cGx := cell_row Gx.out
        have cGy := cell_row Gy.out
        go_wp2_with fail
        refine (T1.out _).mono ?_
        rintro e w11 ⟨rp, rfl, hr, hb⟩
        clear cGx cGy
        replace HB := Lib.hid (below_then HB.out hb)
        replace RS := Lib.hid (RS.out.below hb)
        replace RN := Lib.hid (RN.out.below hb)
        replace Gx := Lib.hid ((hb.block _ (lt_of_heap Gx.out)).trans Gx.out)
        replace Gy := Lib.hid ((hb.block _ (lt_of_heap Gy.out)).trans Gy.out)
        have Rp := Lib.hid hr
        clear hr hb
        have cGx := cell_row Gx.out
        have cGy := cell_row Gy.out
        go_wp2_with fail
        refine (T2.out _ _ _ RS.out Rp.out).mono ?_
        rintro e w12 ⟨rm, rfl, hr, hb⟩
        clear cGx cGy
        replace HB := Lib.hid (below_then HB.out hb)
        replace RS := Lib.hid (RS.out.below hb)
        replace RN := Lib.hid (RN.out.below hb)
        replace Gx := Lib.hid ((hb.block _ (lt_of_heap Gx.out)).trans Gx.out)
        replace Gy := Lib.hid ((hb.block _ (lt_of_heap Gy.out)).trans Gy.out)
        replace Rp := Lib.hid (Rp.out.below hb)
        have Rm := Lib.hid hr
        clear hr hb
        have cGx := cell_row Gx.out
        have cGy := cell_row Gy.out
        go_wp2_with fail
        refine (T3.out _ _ Rm.out).mono ?_
        rintro e w13 ⟨rx, rfl, hr, hb⟩
        clear cGx cGy
        replace HB := Lib.hid (below_then HB.out hb)
        replace RS := Lib.hid (RS.out.below hb)
        replace RN := Lib.hid (RN.out.below hb)
        replace Gx := Lib.hid ((hb.block _ (lt_of_heap Gx.out)).trans Gx.out)
        replace Gy := Lib.hid ((hb.block _ (lt_of_heap Gy.out)).trans Gy.out)
        replace Rp := Lib.hid (Rp.out.below hb)
        replace Rm := Lib.hid (Rm.out.below hb)
        have Rx := Lib.hid hr
        clear hr hb
        have cGx := cell_row Gx.out
        have cGy := cell_row Gy.out
        go_wp2_with fail
        refine (T4.out _ _ _ Rx.out RN.out).mono ?_
        rintro e w14 ⟨rfl, hb⟩
        clear cGx cGy
        replace HB := Lib.hid (below_then HB.out hb)
        replace RS := Lib.hid (RS.out.below hb)
        replace RN := Lib.hid (RN.out.below hb)
        replace Gx := Lib.hid ((hb.block _ (lt_of_heap Gx.out)).trans Gx.out)
        replace Gy := Lib.hid ((hb.block _ (lt_of_heap Gy.out)).trans Gy.out)
        replace Rp := Lib.hid (Rp.out.below hb)
        replace Rm := Lib.hid (Rm.out.below hb)
        replace Rx := Lib.hid (Rx.out.below hb)
        clear hb
        go_wp2
        go_roundw
        case rel => exact ⟨i, by have := HJ.out; omega, by go_num, by rw [HG2.out]; exact Rm, RN, Gx, Gy, HB⟩
        case measure => simp [intOf]
      · have HG2 := Lib.hid (show S / P2 i * P2 i = q by rw [HG.out, if_neg (fun h => hc (HCM.out.2 (HL2.out.1 h)))])
        have cGx := cell_row Gx.out
        have cGy := cell_row Gy.out
        go_wp2_with fail
        refine (T1.out _).mono ?_
        rintro e w15 ⟨rp, rfl, hr, hb⟩
        clear cGx cGy
        replace HB := Lib.hid (below_then HB.out hb)
        replace RS := Lib.hid (RS.out.below hb)
        replace RN := Lib.hid (RN.out.below hb)
        replace Gx := Lib.hid ((hb.block _ (lt_of_heap Gx.out)).trans Gx.out)
        replace Gy := Lib.hid ((hb.block _ (lt_of_heap Gy.out)).trans Gy.out)
        have Rp := Lib.hid hr
        clear hr hb
        have cGx := cell_row Gx.out
        have cGy := cell_row Gy.out
        go_wp2_with fail
        refine (T2.out _ _ _ RS.out Rp.out).mono ?_
        rintro e w16 ⟨rm, rfl, hr, hb⟩
        clear cGx cGy
        replace HB := Lib.hid (below_then HB.out hb)
        replace RS := Lib.hid (RS.out.below hb)
        replace RN := Lib.hid (RN.out.below hb)
        replace Gx := Lib.hid ((hb.block _ (lt_of_heap Gx.out)).trans Gx.out)
        replace Gy := Lib.hid ((hb.block _ (lt_of_heap Gy.out)).trans Gy.out)
        replace Rp := Lib.hid (Rp.out.below hb)
        have Rm := Lib.hid hr
        clear hr hb
        have cGx := cell_row Gx.out
        have cGy := cell_row Gy.out
        go_wp2_with fail
        refine (T3.out _ _ Rm.out).mono ?_
        rintro e w17 ⟨rx, rfl, hr, hb⟩
        clear cGx cGy
        replace HB := Lib.hid (below_then HB.out hb)
        replace RS := Lib.hid (RS.out.below hb)
        replace RN := Lib.hid (RN.out.below hb)
        replace Gx := Lib.hid ((hb.block _ (lt_of_heap Gx.out)).trans Gx.out)
        replace Gy := Lib.hid ((hb.block _ (lt_of_heap Gy.out)).trans Gy.out)
        replace Rp := Lib.hid (Rp.out.below hb)
        replace Rm := Lib.hid (Rm.out.below hb)
        have Rx := Lib.hid hr
        clear hr hb
        have cGx := cell_row Gx.out
        have cGy := cell_row Gy.out
        go_wp2_with fail
        refine (T4.out _ _ _ Rx.out RN.out).mono ?_
        rintro e w18 ⟨rfl, hb⟩
        clear cGx cGy
        replace HB := Lib.hid (below_then HB.out hb)
        replace RS := Lib.hid (RS.out.below hb)
        replace RN := Lib.hid (RN.out.below hb)
        replace Gx := Lib.hid ((hb.block _ (lt_of_heap Gx.out)).trans Gx.out)
        replace Gy := Lib.hid ((hb.block _ (lt_of_heap Gy.out)).trans Gy.out)
        replace Rp := Lib.hid (Rp.out.below hb)
        replace Rm := Lib.hid (Rm.out.below hb)
        replace Rx := Lib.hid (Rx.out.below hb)
        clear hb
        go_wp2
        go_roundw
        case rel => exact ⟨i, by have := HJ.out; omega, by go_num, by rw [HG2.out]; exact RS, RN, Gx, Gy, HB⟩
        case measure => simp [intOf]
end Go.Proofs.YtegmmaaapdgocaaGreat

/- THE WALK of root2's third root. -/
namespace Go.Proofs.YtegmmaaapdgocaaGreat
open Go Go.RowKit

theorem cube_eq (s : Nat) : s ^ 3 = s * s * s := by rw [show (3 : Nat) = 2 + 1 from rfl, Nat.pow_succ, sqr]
theorem cube_small {s : Nat} (hs : s < P2 100) : s * s < M ∧ s ^ 3 < M := by
  have h1 : s * s < P2 200 := by have := Nat.mul_lt_mul'' hs hs; rwa [← P2_add] at this
  have h2 : s * s * s < P2 300 := by have := Nat.mul_lt_mul'' h1 hs; rwa [← P2_add] at this
  have a1 : P2 200 < P2 512 := P2_lt (by omega)
  have a2 : P2 300 < P2 512 := P2_lt (by omega)
  rw [cube_eq, M_eq]
  omega
theorem pwV_3 {s : Nat} (hs : s < P2 100) : pwV s 3 = s ^ 3 := by
  obtain ⟨h1, h2⟩ := cube_small hs
  have hsM : s < M := by rw [M_eq]; exact Nat.lt_trans hs (P2_lt (by omega))
  rw [cube_eq] at h2 ⊢
  show ((1 * s % M) * s % M) * s % M = _
  rw [Nat.one_mul, Nat.mod_eq_of_lt hsM, Nat.mod_eq_of_lt h1, Nat.mod_eq_of_lt h2]
/-- A third root, and its remainder. -/
def cbS (n : Nat) : Nat := if n < P2 256 then rtN 3 n else 0
def cbR (n : Nat) : Nat := if n < P2 256 then n - rtN 3 n ^ 3 else 0
theorem cb_yes {n : Nat} (h : n < P2 256) : cbS n = rtN 3 n ∧ cbR n = n - rtN 3 n ^ 3 := by unfold cbS cbR; rw [if_pos h, if_pos h]; exact ⟨rfl, rfl⟩
theorem cb_no {n : Nat} (h : ¬ n < P2 256) : cbS n = 0 ∧ cbR n = 0 := by unfold cbS cbR; rw [if_neg h, if_neg h]; exact ⟨rfl, rfl⟩

attribute [local go_sem ↓] Go.wp_at_zero Go.wp_at_succ
end Go.Proofs.YtegmmaaapdgocaaGreat

/- THE WALKS of the laws on root2: roots and third roots. -/
namespace Go.Proofs.YtegmmaaapdgocaaGreat
open Go Go.RowKit

/-- Is a number a square? -/
def sqB (n : Nat) : Bool := decide (n < P2 256) && isZ (rsR n)
theorem rs_lt {n : Nat} (hn : n < M) : rsS n < M ∧ rsR n < M := by
  have := M_pos
  unfold rsS rsR
  split
  · rename_i h
    have := rt_lt h
    have h2 : P2 128 < M := by rw [M_eq]; exact P2_lt (by omega)
    exact ⟨by omega, by omega⟩
  · exact ⟨M_pos, M_pos⟩
theorem root_99 : (99 : Nat) < P2 256 ∧ rtN 2 99 = 9 ∧ rtN 3 99 = 4 := by
  refine ⟨?_, rt_unique (by decide) (by decide), ?_⟩
  · have : P2 64 ≤ P2 256 := P2_le (by omega)
    rw [P2_64] at this
    omega
  · have h1 := (rt_le 3 99 4 (by decide)).2 (by decide)
    have h2 : ¬ 5 ≤ rtN 3 99 := fun h => by
      have := (rt_le 3 99 5 (by decide)).1 h
      revert this
      decide
    omega

attribute [local go_sem ↓] Go.wp_at_zero Go.wp_at_succ
set_option maxHeartbeats 2000000 in
theorem holds12_any (n : Nat) (w : World) (hn : n < M) :
    Calls Tryz.prog 18 #[wv n, wv (rsS n), wv (rsR n), .int .i64 (rsE n)] w fun e w' => e = .returned (.bool true) ∧ Below w.heap.size w w' := by
  have S1 := Lib.hid (fun w' => rmayR_any n hn w')
  by_cases h : n < P2 256
  · obtain ⟨e1, e2, e3⟩ := rs_yes h
    have S2 : Hid (∀ w' : World, Calls Tryz.prog 34 #[wv n, .int .i64 2] w' fun e w'' => e = .returned (.tuple #[wv (rtN 2 n), wv (n - rtN 2 n * rtN 2 n)]) ∧ Below w'.heap.size w' w'') := Lib.hid fun w' => by
      have := rroot_any n 2 w' h (Or.inl rfl)
      rw [sqr] at this
      exact this
    rw [decide_eq_true h] at S1
    rw [e1, e2, e3]
    obtain ⟨S, hS⟩ : ∃ S, S = rtN 2 n := ⟨_, rfl⟩
    rw [← hS] at S2 ⊢
    obtain ⟨R, hR⟩ : ∃ R, R = n - S * S := ⟨_, rfl⟩
    rw [← hR] at S2 ⊢
    clear hn h e1 e2 e3 hS hR
    go_enter Tryz.func18, Tryz.ntmps18
    have HB := Lib.hid (Below.refl w.heap.size w)
    have Gn := Lib.hid (alloc_new (w) (.cells (wcells n) 24))
    replace HB := Lib.hid (below_al HB.out (.cells (wcells n) 24))
    replace Gn := Lib.hid (keepAl (o' := .cells (wcells S) 24) Gn.out)
    have Gs := Lib.hid (alloc_new' (w := (w).alloc (.cells (wcells n) 24)) (n := w.heap.size + 1) (.cells (wcells S) 24) (by simp))
    replace HB := Lib.hid (below_al HB.out (.cells (wcells S) 24))
    replace Gn := Lib.hid (keepAl (o' := .cells (wcells R) 24) Gn.out)
    replace Gs := Lib.hid (keepAl (o' := .cells (wcells R) 24) Gs.out)
    have Gr := Lib.hid (alloc_new' (w := ((w).alloc (.cells (wcells n) 24)).alloc (.cells (wcells S) 24)) (n := w.heap.size + 1 + 1) (.cells (wcells R) 24) (by simp))
    replace HB := Lib.hid (below_al HB.out (.cells (wcells R) 24))
    have cGn := cell_row Gn.out
    have cGs := cell_row Gs.out
    have cGr := cell_row Gr.out
    go_wp2_with fail
    refine (S1.out _).mono ?_
    rintro e w5 ⟨rfl, hb⟩
    clear cGn cGs cGr
    replace HB := Lib.hid (below_then HB.out hb)
    replace Gn := Lib.hid ((hb.block _ (lt_of_heap Gn.out)).trans Gn.out)
    replace Gs := Lib.hid ((hb.block _ (lt_of_heap Gs.out)).trans Gs.out)
    replace Gr := Lib.hid ((hb.block _ (lt_of_heap Gr.out)).trans Gr.out)
    clear hb
    have cGn := cell_row Gn.out
    have cGs := cell_row Gs.out
    have cGr := cell_row Gr.out
    go_wp2_with fail
    refine (S2.out _).mono ?_
    rintro e w6 ⟨rfl, hb⟩
    clear cGn cGs cGr
    replace HB := Lib.hid (below_then HB.out hb)
    replace Gn := Lib.hid ((hb.block _ (lt_of_heap Gn.out)).trans Gn.out)
    replace Gs := Lib.hid ((hb.block _ (lt_of_heap Gs.out)).trans Gs.out)
    replace Gr := Lib.hid ((hb.block _ (lt_of_heap Gr.out)).trans Gr.out)
    clear hb
    replace Gn := Lib.hid (keepAl (o' := .cells (wcells S) 24) Gn.out)
    replace Gs := Lib.hid (keepAl (o' := .cells (wcells S) 24) Gs.out)
    replace Gr := Lib.hid (keepAl (o' := .cells (wcells S) 24) Gr.out)
    have Ga := Lib.hid (alloc_new (w6) (.cells (wcells S) 24))
    replace HB := Lib.hid (below_al HB.out (.cells (wcells S) 24))
    replace Gn := Lib.hid (keepAl (o' := .cells (wcells R) 24) Gn.out)
    replace Gs := Lib.hid (keepAl (o' := .cells (wcells R) 24) Gs.out)
    replace Gr := Lib.hid (keepAl (o' := .cells (wcells R) 24) Gr.out)
    replace Ga := Lib.hid (keepAl (o' := .cells (wcells R) 24) Ga.out)
    have Gb := Lib.hid (alloc_new' (w := (w6).alloc (.cells (wcells S) 24)) (n := w6.heap.size + 1) (.cells (wcells R) 24) (by simp))
    replace HB := Lib.hid (below_al HB.out (.cells (wcells R) 24))
    have cGn := cell_row Gn.out
    have cGs := cell_row Gs.out
    have cGr := cell_row Gr.out
    have cGa := cell_row Ga.out
    have cGb := cell_row Gb.out
    go_wp2
    go_ret
    exact ⟨rfl, HB.out⟩
  · obtain ⟨e1, e2, e3⟩ := rs_no h
    rw [decide_eq_false h] at S1
    rw [e1, e2, e3]
    clear hn h e1 e2 e3
    go_enter Tryz.func18, Tryz.ntmps18
    have HB := Lib.hid (Below.refl w.heap.size w)
    have Gn := Lib.hid (alloc_new (w) (.cells (wcells n) 24))
    replace HB := Lib.hid (below_al HB.out (.cells (wcells n) 24))
    replace Gn := Lib.hid (keepAl (o' := .cells (wcells 0) 24) Gn.out)
    have Gs := Lib.hid (alloc_new' (w := (w).alloc (.cells (wcells n) 24)) (n := w.heap.size + 1) (.cells (wcells 0) 24) (by simp))
    replace HB := Lib.hid (below_al HB.out (.cells (wcells 0) 24))
    replace Gn := Lib.hid (keepAl (o' := .cells (wcells 0) 24) Gn.out)
    replace Gs := Lib.hid (keepAl (o' := .cells (wcells 0) 24) Gs.out)
    have Gr := Lib.hid (alloc_new' (w := ((w).alloc (.cells (wcells n) 24)).alloc (.cells (wcells 0) 24)) (n := w.heap.size + 1 + 1) (.cells (wcells 0) 24) (by simp))
    replace HB := Lib.hid (below_al HB.out (.cells (wcells 0) 24))
    have cGn := cell_row Gn.out
    have cGs := cell_row Gs.out
    have cGr := cell_row Gr.out
    go_wp2_with fail
    refine (S1.out _).mono ?_
    rintro e w7 ⟨rfl, hb⟩
    clear cGn cGs cGr
    replace HB := Lib.hid (below_then HB.out hb)
    replace Gn := Lib.hid ((hb.block _ (lt_of_heap Gn.out)).trans Gn.out)
    replace Gs := Lib.hid ((hb.block _ (lt_of_heap Gs.out)).trans Gs.out)
    replace Gr := Lib.hid ((hb.block _ (lt_of_heap Gr.out)).trans Gr.out)
    clear hb
    have cGn := cell_row Gn.out
    have cGs := cell_row Gs.out
    have cGr := cell_row Gr.out
    go_wp2
    go_ret
    exact ⟨rfl, HB.out⟩

end Go.Proofs.YtegmmaaapdgocaaGreat
