/- THE WALKS of the laws on products. -/
import Derived.Test.YtenkaobgoknlhaaK13
import Derived.Test.YtenkaobgoknlhaaK10
namespace Go.Proofs.Ytenkaobgoknlhaa
open Go Go.RowKit

theorem P2_256M : P2 256 * P2 256 = M := by rw [← P2_add, M_eq]

attribute [local go_sem ↓] Go.wp_at_zero Go.wp_at_succ
set_option maxRecDepth 100000 in
set_option maxHeartbeats 1000000 in
theorem awake03_any (w : World) : Calls Try.prog 69 #[] w fun e w' => e = .returned (.bool true) ∧ Below w.heap.size w w' := by
  have hM := M_pos
  have hp : P2 256 < M := by rw [M_eq]; exact P2_lt (by omega)
  have S1 : Hid (∀ w' : World, Calls Try.prog 45 #[.int .i64 256] w' fun e w'' => e = .returned (wv (P2 256)) ∧ Below w'.heap.size w' w'') := Lib.hid fun w' => by
    have := power_w ((256 : Nat) : Int) w' (by omega) (by omega)
    rwa [powerN_at 256 (by omega)] at this
  have S2 := Lib.hid (fun w' => mul_w (P2 256) (P2 256) hp hp w')
  rw [P2_256M, Nat.mod_self, decide_eq_false (Nat.lt_irrefl M)] at S2
  have S3 := Lib.hid (fun w' => high_w (P2 256) (P2 256) 300 hp hp w')
  have e1 : M / P2 300 = P2 212 := by rw [M_eq, show 512 = 300 + 212 from rfl, P2_add, Nat.mul_div_cancel_left _ (P2_pos _)]
  have e2 : M % P2 300 = 0 := by rw [M_eq, show 512 = 300 + 212 from rfl, P2_add, Nat.mul_mod_right]
  rw [P2_256M, show clampP 300 = 300 from rfl, e1, e2, Nat.mod_eq_of_lt (show P2 212 < M by rw [M_eq]; exact P2_lt (by omega)), decide_eq_false (p := (0 ≠ 0)) (by simp)] at S3
  have S4 : Hid (∀ w' : World, Calls Try.prog 45 #[.int .i64 212] w' fun e w'' => e = .returned (wv (P2 212)) ∧ Below w'.heap.size w' w'') := Lib.hid fun w' => by
    have := power_w ((212 : Nat) : Int) w' (by omega) (by omega)
    rwa [powerN_at 212 (by omega)] at this
  obtain ⟨A, hA⟩ : ∃ A, A = P2 256 := ⟨_, rfl⟩
  obtain ⟨B, hB⟩ : ∃ A, A = P2 212 := ⟨_, rfl⟩
  rw [← hA] at S1 S2 S3
  rw [← hB] at S3 S4
  clear hA hB hp hM e1 e2
  go_enter Try.func69, Try.ntmps69
  have HB := Lib.hid (Below.refl w.heap.size w)
  go_wp2_with fail
  refine (S1.out _).mono ?_
  rintro e w1 ⟨rfl, hb⟩
  replace HB := Lib.hid (below_then HB.out hb)
  clear hb
  go_wp2_with fail
  refine (S1.out _).mono ?_
  rintro e w2 ⟨rfl, hb⟩
  replace HB := Lib.hid (below_then HB.out hb)
  clear hb
  go_wp2_with fail
  refine (S2.out _).mono ?_
  rintro e w3 ⟨rfl, hb⟩
  replace HB := Lib.hid (below_then HB.out hb)
  clear hb
  have Gp := Lib.hid (alloc_new (w3) (.cells (wcells 0) 26))
  replace HB := Lib.hid (below_al HB.out (.cells (wcells 0) 26))
  have cGp := cell_row Gp.out
  go_wp2_with fail
  refine (S1.out _).mono ?_
  rintro e w4 ⟨rfl, hb⟩
  clear cGp
  replace HB := Lib.hid (below_then HB.out hb)
  replace Gp := Lib.hid ((hb.block _ (lt_of_heap Gp.out)).trans Gp.out)
  clear hb
  have cGp := cell_row Gp.out
  go_wp2_with fail
  refine (S1.out _).mono ?_
  rintro e w5 ⟨rfl, hb⟩
  clear cGp
  replace HB := Lib.hid (below_then HB.out hb)
  replace Gp := Lib.hid ((hb.block _ (lt_of_heap Gp.out)).trans Gp.out)
  clear hb
  have cGp := cell_row Gp.out
  go_wp2_with fail
  refine (S3.out _).mono ?_
  rintro e w6 ⟨rfl, hb⟩
  clear cGp
  replace HB := Lib.hid (below_then HB.out hb)
  replace Gp := Lib.hid ((hb.block _ (lt_of_heap Gp.out)).trans Gp.out)
  clear hb
  replace Gp := Lib.hid (keepAl (o' := .cells (wcells B) 26) Gp.out)
  have Gh := Lib.hid (alloc_new (w6) (.cells (wcells B) 26))
  replace HB := Lib.hid (below_al HB.out (.cells (wcells B) 26))
  have cGp := cell_row Gp.out
  have cGh := cell_row Gh.out
  go_upto_region 3 with fail
  clear cGp cGh
  obtain ⟨w7, hw⟩ : ∃ wx, wx = (w6).alloc (.cells (wcells B) 26) := ⟨_, rfl⟩
  rw [← hw] at Gp Gh HB ⊢
  clear hw
  have xGp := ext_row (B := w7.heap.size) Gp.out (lt_of_heap Gp.out)
  have xGh := ext_row (B := w7.heap.size) Gh.out (lt_of_heap Gh.out)
  refine wp_region_ext w7.heap.size (by kernel_rfl) (by kernel_rfl) ?_
  repeat (go_big_quiet_step (first | (go_at_call 45; with_reducible exact Calls.quiet_ext (Nat.le_refl _) (S4.out _))))
  refine wpQuiet_nil ?_
  intro w8 hb
  clear xGp xGh
  replace HB := Lib.hid (below_then HB.out hb)
  replace Gp := Lib.hid ((hb.block _ (lt_of_heap Gp.out)).trans Gp.out)
  replace Gh := Lib.hid ((hb.block _ (lt_of_heap Gh.out)).trans Gh.out)
  clear hb
  go_wp2
  go_ret
  exact ⟨rfl, HB.out⟩

set_option maxHeartbeats 1000000 in
theorem rmul3_any (a b : Nat) (ha : a < M) (hb : b < M) (w : World) : Calls Try.prog 67 #[wv a, wv b] w (GivesBig (a * b) w) := by
  have HMa := Lib.hid ha; have HMb := Lib.hid hb
  have SM := Lib.hid (fun v v2 w' h h' => mul_any v v2 a b w' (small_M ha) (small_M hb) h h')
  clear ha hb
  go_enter Try.func67, Try.ntmps67
  have HB := Lib.hid (Below.refl w.heap.size w)
  have Ga := Lib.hid (alloc_new (w) (.cells (wcells a) 26))
  replace HB := Lib.hid (below_al HB.out (.cells (wcells a) 26))
  replace Ga := Lib.hid (keepAl (o' := .cells (wcells b) 26) Ga.out)
  have Gb := Lib.hid (alloc_new' (w := (w).alloc (.cells (wcells a) 26)) (n := w.heap.size + 1) (.cells (wcells b) 26) (by simp))
  replace HB := Lib.hid (below_al HB.out (.cells (wcells b) 26))
  go_wp2_with fail
  obtain ⟨w0, hw⟩ : ∃ wx, wx = ((w).alloc (.cells (wcells a) 26)).alloc (.cells (wcells b) 26) := ⟨_, rfl⟩
  rw [← hw] at Ga Gb HB ⊢
  clear hw
  have k0 := cell_row Ga.out
  have k1 := cell_row Gb.out
  have HB := Lib.hid HB.out.drew
  have HA0 := Lib.hid (show w0.drew.heap[w.heap.size]? = some (.cells (wcells a) 26 (0, 0)) from Ga.out)
  have HA1 := Lib.hid (show w0.drew.heap[w.heap.size + 1]? = some (.cells (wcells b) 26 (0, 0)) from Gb.out)
  go_region_held3 (fun w' => (∀ j, w'.cell? ⟨w.heap.size, j, none⟩ = (wcells a)[j]?) ∧ (∀ j, w'.cell? ⟨w.heap.size + 1, j, none⟩ = (wcells b)[j]?))
    (first
      | go_keep
      | (go_split_ands
         refine ⟨keepRow hb ?_, keepRow hb ?_⟩ <;> assumption))
    (first
      | (go_at_call 32
         refine (big_any _ ?hM _).mono ?_
         case hM => first | exact HMa.out | exact HMb.out
         rintro e wA ⟨rA, rfl, hr, hb⟩
         have HB := Lib.hid (below_then HB.out hb)
         (try have RA := Lib.hid (RA.out.below hb))
         (try have RB := Lib.hid (RB.out.below hb))
         have HA0 := Lib.hid ((hb.block _ (lt_of_heap HA0.out)).trans HA0.out)
         have HA1 := Lib.hid ((hb.block _ (lt_of_heap HA1.out)).trans HA1.out)
         first | have RA : Hid (IsBig wA rA a) := Lib.hid hr | have RB : Hid (IsBig wA rA b) := Lib.hid hr)
      | (go_at_call 73
         refine (SM.out _ _ _ RA.out RB.out).mono ?_
         rintro e wA ⟨rM, rfl, hr, hb⟩
         have HB := Lib.hid (below_then HB.out hb)
         have RM := Lib.hid hr))
  all_goals
    go_wp2
    go_ret
    exact ⟨_, rfl, RM.out, HB.out⟩

set_option maxRecDepth 100000 in
set_option maxHeartbeats 2000000 in
theorem prodMuls_any (a b : Nat) (n : Int) (w : World) (ha : a < M) (hb : b < M) (h0 : 0 ≤ n) (h1 : n ≤ 18446744073709551615) :
    Calls Try.prog 11 #[wv a, wv b, .int .u64 n] w fun e w' => e = .returned (.bool true) ∧ Below w.heap.size w w' := by
  obtain ⟨m, rfl⟩ := Int.eq_ofNat_of_zero_le h0
  have hm : m ≤ 18446744073709551615 := by omega
  have hmM : m < M := by rw [M_eq]; exact Nat.lt_of_lt_of_le (show m < P2 64 by rw [P2_64]; omega) (P2_le (by omega))
  have big : ∀ {x y : Nat}, x < M → y < M → x * y < BIG := fun hx hy => small_of (prod_lt hx hy) (by omega)
  have S1 := Lib.hid (fun w' => mul_w a b ha hb w')
  have S2 := Lib.hid (fun w' => rmul3_any a b ha hb w')
  have S3 := Lib.hid (fun v w' h => wide_any v (a * b) w' (big ha hb) h)
  have S4 := Lib.hid (fun w' => square_w a ha w')
  have S5 := Lib.hid (fun w' => rmul3_any a a ha ha w')
  have S6 := Lib.hid (fun v w' h => wide_any v (a * a) w' (big ha ha) h)
  have S7 := Lib.hid (fun w' => smallP_w a m ha hm w')
  have S8 := Lib.hid (fun w' => big_any a ha w')
  have S9 := Lib.hid (fun w' => small_any m w' hm)
  have S10 := Lib.hid (fun v v2 w' h h' => mul_any v v2 a m w' (small_M ha) (small_M hmM) h h')
  have S11 := Lib.hid (fun v w' h => wide_any v (a * m) w' (big ha hmM) h)
  have SA := Lib.hid (fun w' => awake03_any w')
  have not_lt : ∀ x : Nat, decide (M ≤ x) = !decide (x < M) := fun x => by by_cases h : x < M <;> simp [h] <;> omega
  rw [not_lt] at S3 S6 S11
  obtain ⟨p1, e1⟩ : ∃ x, x = a * b := ⟨_, rfl⟩
  obtain ⟨p2, e2⟩ : ∃ x, x = a * a := ⟨_, rfl⟩
  obtain ⟨p3, e3⟩ : ∃ x, x = a * m := ⟨_, rfl⟩
  rw [← e1] at S1 S2 S3
  rw [← e2] at S4 S5 S6
  rw [← e3] at S7 S10 S11
  obtain ⟨q1, g1⟩ : ∃ x, x = p1 % M := ⟨_, rfl⟩
  obtain ⟨q2, g2⟩ : ∃ x, x = p2 % M := ⟨_, rfl⟩
  obtain ⟨q3, g3⟩ : ∃ x, x = p3 % M := ⟨_, rfl⟩
  obtain ⟨f1, k1⟩ : ∃ x, x = decide (p1 < M) := ⟨_, rfl⟩
  obtain ⟨f2, k2⟩ : ∃ x, x = decide (p2 < M) := ⟨_, rfl⟩
  obtain ⟨f3, k3⟩ : ∃ x, x = decide (p3 < M) := ⟨_, rfl⟩
  rw [← g1, ← k1] at S1 S3
  rw [← g2, ← k2] at S4 S6
  rw [← g3, ← k3] at S7 S11
  clear ha hb hm hmM e1 e2 e3 g1 g2 g3 k1 k2 k3 big not_lt
  go_enter Try.func11, Try.ntmps11
  have HB := Lib.hid (Below.refl w.heap.size w)
  have Ga := Lib.hid (alloc_new (w) (.cells (wcells a) 26))
  replace HB := Lib.hid (below_al HB.out (.cells (wcells a) 26))
  replace Ga := Lib.hid (keepAl (o' := .cells (wcells b) 26) Ga.out)
  have Gb := Lib.hid (alloc_new' (w := (w).alloc (.cells (wcells a) 26)) (n := w.heap.size + 1) (.cells (wcells b) 26) (by simp))
  replace HB := Lib.hid (below_al HB.out (.cells (wcells b) 26))
  have cGa := cell_row Ga.out
  have cGb := cell_row Gb.out
  go_wp2_with fail
  refine (S1.out _).mono ?_
  rintro e w9 ⟨rfl, hb⟩
  clear cGa cGb
  replace HB := Lib.hid (below_then HB.out hb)
  replace Ga := Lib.hid ((hb.block _ (lt_of_heap Ga.out)).trans Ga.out)
  replace Gb := Lib.hid ((hb.block _ (lt_of_heap Gb.out)).trans Gb.out)
  clear hb
  replace Ga := Lib.hid (keepAl (o' := .cells (wcells q1) 26) Ga.out)
  replace Gb := Lib.hid (keepAl (o' := .cells (wcells q1) 26) Gb.out)
  have Gp := Lib.hid (alloc_new (w9) (.cells (wcells q1) 26))
  replace HB := Lib.hid (below_al HB.out (.cells (wcells q1) 26))
  have cGa := cell_row Ga.out
  have cGb := cell_row Gb.out
  have cGp := cell_row Gp.out
  go_wp2_with fail
  refine (S2.out _).mono ?_
  rintro e w10 ⟨rm, rfl, hr, hb⟩
  clear cGa cGb cGp
  replace HB := Lib.hid (below_then HB.out hb)
  replace Ga := Lib.hid ((hb.block _ (lt_of_heap Ga.out)).trans Ga.out)
  replace Gb := Lib.hid ((hb.block _ (lt_of_heap Gb.out)).trans Gb.out)
  replace Gp := Lib.hid ((hb.block _ (lt_of_heap Gp.out)).trans Gp.out)
  have Rm := Lib.hid hr
  clear hr hb
  have cGa := cell_row Ga.out
  have cGb := cell_row Gb.out
  have cGp := cell_row Gp.out
  go_wp2_with fail
  refine (S3.out _ _ Rm.out).mono ?_
  rintro e w11 ⟨rfl, hb⟩
  clear cGa cGb cGp
  replace HB := Lib.hid (below_then HB.out hb)
  replace Ga := Lib.hid ((hb.block _ (lt_of_heap Ga.out)).trans Ga.out)
  replace Gb := Lib.hid ((hb.block _ (lt_of_heap Gb.out)).trans Gb.out)
  replace Gp := Lib.hid ((hb.block _ (lt_of_heap Gp.out)).trans Gp.out)
  replace Rm := Lib.hid (Rm.out.below hb)
  clear hb
  replace Ga := Lib.hid (keepAl (o' := .cells (wcells q1) 26) Ga.out)
  replace Gb := Lib.hid (keepAl (o' := .cells (wcells q1) 26) Gb.out)
  replace Gp := Lib.hid (keepAl (o' := .cells (wcells q1) 26) Gp.out)
  have Gq := Lib.hid (alloc_new (w11) (.cells (wcells q1) 26))
  replace HB := Lib.hid (below_al HB.out (.cells (wcells q1) 26))
  have cGa := cell_row Ga.out
  have cGb := cell_row Gb.out
  have cGp := cell_row Gp.out
  have cGq := cell_row Gq.out
  go_wp2_with fail
  refine (S4.out _).mono ?_
  rintro e w12 ⟨rfl, hb⟩
  clear cGa cGb cGp cGq
  replace HB := Lib.hid (below_then HB.out hb)
  replace Ga := Lib.hid ((hb.block _ (lt_of_heap Ga.out)).trans Ga.out)
  replace Gb := Lib.hid ((hb.block _ (lt_of_heap Gb.out)).trans Gb.out)
  replace Gp := Lib.hid ((hb.block _ (lt_of_heap Gp.out)).trans Gp.out)
  replace Gq := Lib.hid ((hb.block _ (lt_of_heap Gq.out)).trans Gq.out)
  clear hb
  replace Ga := Lib.hid (keepAl (o' := .cells (wcells q2) 26) Ga.out)
  replace Gb := Lib.hid (keepAl (o' := .cells (wcells q2) 26) Gb.out)
  replace Gp := Lib.hid (keepAl (o' := .cells (wcells q2) 26) Gp.out)
  replace Gq := Lib.hid (keepAl (o' := .cells (wcells q2) 26) Gq.out)
  have Gs := Lib.hid (alloc_new (w12) (.cells (wcells q2) 26))
  replace HB := Lib.hid (below_al HB.out (.cells (wcells q2) 26))
  have cGa := cell_row Ga.out
  have cGb := cell_row Gb.out
  have cGp := cell_row Gp.out
  have cGq := cell_row Gq.out
  have cGs := cell_row Gs.out
  go_wp2_with fail
  refine (S5.out _).mono ?_
  rintro e w13 ⟨rn, rfl, hr, hb⟩
  clear cGa cGb cGp cGq cGs
  replace HB := Lib.hid (below_then HB.out hb)
  replace Ga := Lib.hid ((hb.block _ (lt_of_heap Ga.out)).trans Ga.out)
  replace Gb := Lib.hid ((hb.block _ (lt_of_heap Gb.out)).trans Gb.out)
  replace Gp := Lib.hid ((hb.block _ (lt_of_heap Gp.out)).trans Gp.out)
  replace Gq := Lib.hid ((hb.block _ (lt_of_heap Gq.out)).trans Gq.out)
  replace Gs := Lib.hid ((hb.block _ (lt_of_heap Gs.out)).trans Gs.out)
  have Rn := Lib.hid hr
  clear hr hb
  have cGa := cell_row Ga.out
  have cGb := cell_row Gb.out
  have cGp := cell_row Gp.out
  have cGq := cell_row Gq.out
  have cGs := cell_row Gs.out
  go_wp2_with fail
  refine (S6.out _ _ Rn.out).mono ?_
  rintro e w14 ⟨rfl, hb⟩
  clear cGa cGb cGp cGq cGs
  replace HB := Lib.hid (below_then HB.out hb)
  replace Ga := Lib.hid ((hb.block _ (lt_of_heap Ga.out)).trans Ga.out)
  replace Gb := Lib.hid ((hb.block _ (lt_of_heap Gb.out)).trans Gb.out)
  replace Gp := Lib.hid ((hb.block _ (lt_of_heap Gp.out)).trans Gp.out)
  replace Gq := Lib.hid ((hb.block _ (lt_of_heap Gq.out)).trans Gq.out)
  replace Gs := Lib.hid ((hb.block _ (lt_of_heap Gs.out)).trans Gs.out)
  replace Rn := Lib.hid (Rn.out.below hb)
  clear hb
  replace Ga := Lib.hid (keepAl (o' := .cells (wcells q2) 26) Ga.out)
  replace Gb := Lib.hid (keepAl (o' := .cells (wcells q2) 26) Gb.out)
  replace Gp := Lib.hid (keepAl (o' := .cells (wcells q2) 26) Gp.out)
  replace Gq := Lib.hid (keepAl (o' := .cells (wcells q2) 26) Gq.out)
  replace Gs := Lib.hid (keepAl (o' := .cells (wcells q2) 26) Gs.out)
  have Gt := Lib.hid (alloc_new (w14) (.cells (wcells q2) 26))
  replace HB := Lib.hid (below_al HB.out (.cells (wcells q2) 26))
  have cGa := cell_row Ga.out
  have cGb := cell_row Gb.out
  have cGp := cell_row Gp.out
  have cGq := cell_row Gq.out
  have cGs := cell_row Gs.out
  have cGt := cell_row Gt.out
  go_wp2_with fail
  refine (S7.out _).mono ?_
  rintro e w15 ⟨rfl, hb⟩
  clear cGa cGb cGp cGq cGs cGt
  replace HB := Lib.hid (below_then HB.out hb)
  replace Ga := Lib.hid ((hb.block _ (lt_of_heap Ga.out)).trans Ga.out)
  replace Gb := Lib.hid ((hb.block _ (lt_of_heap Gb.out)).trans Gb.out)
  replace Gp := Lib.hid ((hb.block _ (lt_of_heap Gp.out)).trans Gp.out)
  replace Gq := Lib.hid ((hb.block _ (lt_of_heap Gq.out)).trans Gq.out)
  replace Gs := Lib.hid ((hb.block _ (lt_of_heap Gs.out)).trans Gs.out)
  replace Gt := Lib.hid ((hb.block _ (lt_of_heap Gt.out)).trans Gt.out)
  clear hb
  replace Ga := Lib.hid (keepAl (o' := .cells (wcells q3) 26) Ga.out)
  replace Gb := Lib.hid (keepAl (o' := .cells (wcells q3) 26) Gb.out)
  replace Gp := Lib.hid (keepAl (o' := .cells (wcells q3) 26) Gp.out)
  replace Gq := Lib.hid (keepAl (o' := .cells (wcells q3) 26) Gq.out)
  replace Gs := Lib.hid (keepAl (o' := .cells (wcells q3) 26) Gs.out)
  replace Gt := Lib.hid (keepAl (o' := .cells (wcells q3) 26) Gt.out)
  have Gx := Lib.hid (alloc_new (w15) (.cells (wcells q3) 26))
  replace HB := Lib.hid (below_al HB.out (.cells (wcells q3) 26))
  have cGa := cell_row Ga.out
  have cGb := cell_row Gb.out
  have cGp := cell_row Gp.out
  have cGq := cell_row Gq.out
  have cGs := cell_row Gs.out
  have cGt := cell_row Gt.out
  have cGx := cell_row Gx.out
  go_wp2_with fail
  refine (S8.out _).mono ?_
  rintro e w16 ⟨rb, rfl, hr, hb⟩
  clear cGa cGb cGp cGq cGs cGt cGx
  replace HB := Lib.hid (below_then HB.out hb)
  replace Ga := Lib.hid ((hb.block _ (lt_of_heap Ga.out)).trans Ga.out)
  replace Gb := Lib.hid ((hb.block _ (lt_of_heap Gb.out)).trans Gb.out)
  replace Gp := Lib.hid ((hb.block _ (lt_of_heap Gp.out)).trans Gp.out)
  replace Gq := Lib.hid ((hb.block _ (lt_of_heap Gq.out)).trans Gq.out)
  replace Gs := Lib.hid ((hb.block _ (lt_of_heap Gs.out)).trans Gs.out)
  replace Gt := Lib.hid ((hb.block _ (lt_of_heap Gt.out)).trans Gt.out)
  replace Gx := Lib.hid ((hb.block _ (lt_of_heap Gx.out)).trans Gx.out)
  have Rb := Lib.hid hr
  clear hr hb
  have cGa := cell_row Ga.out
  have cGb := cell_row Gb.out
  have cGp := cell_row Gp.out
  have cGq := cell_row Gq.out
  have cGs := cell_row Gs.out
  have cGt := cell_row Gt.out
  have cGx := cell_row Gx.out
  go_wp2_with fail
  refine (S9.out _).mono ?_
  rintro e w17 ⟨ro, rfl, hr, hb⟩
  clear cGa cGb cGp cGq cGs cGt cGx
  replace HB := Lib.hid (below_then HB.out hb)
  replace Ga := Lib.hid ((hb.block _ (lt_of_heap Ga.out)).trans Ga.out)
  replace Gb := Lib.hid ((hb.block _ (lt_of_heap Gb.out)).trans Gb.out)
  replace Gp := Lib.hid ((hb.block _ (lt_of_heap Gp.out)).trans Gp.out)
  replace Gq := Lib.hid ((hb.block _ (lt_of_heap Gq.out)).trans Gq.out)
  replace Gs := Lib.hid ((hb.block _ (lt_of_heap Gs.out)).trans Gs.out)
  replace Gt := Lib.hid ((hb.block _ (lt_of_heap Gt.out)).trans Gt.out)
  replace Gx := Lib.hid ((hb.block _ (lt_of_heap Gx.out)).trans Gx.out)
  replace Rb := Lib.hid (Rb.out.below hb)
  have Ro := Lib.hid hr
  clear hr hb
  have cGa := cell_row Ga.out
  have cGb := cell_row Gb.out
  have cGp := cell_row Gp.out
  have cGq := cell_row Gq.out
  have cGs := cell_row Gs.out
  have cGt := cell_row Gt.out
  have cGx := cell_row Gx.out
  go_wp2_with fail
  refine (S10.out _ _ _ Rb.out Ro.out).mono ?_
  rintro e w18 ⟨rr, rfl, hr, hb⟩
  clear cGa cGb cGp cGq cGs cGt cGx
  replace HB := Lib.hid (below_then HB.out hb)
  replace Ga := Lib.hid ((hb.block _ (lt_of_heap Ga.out)).trans Ga.out)
  replace Gb := Lib.hid ((hb.block _ (lt_of_heap Gb.out)).trans Gb.out)
  replace Gp := Lib.hid ((hb.block _ (lt_of_heap Gp.out)).trans Gp.out)
  replace Gq := Lib.hid ((hb.block _ (lt_of_heap Gq.out)).trans Gq.out)
  replace Gs := Lib.hid ((hb.block _ (lt_of_heap Gs.out)).trans Gs.out)
  replace Gt := Lib.hid ((hb.block _ (lt_of_heap Gt.out)).trans Gt.out)
  replace Gx := Lib.hid ((hb.block _ (lt_of_heap Gx.out)).trans Gx.out)
  replace Rb := Lib.hid (Rb.out.below hb)
  replace Ro := Lib.hid (Ro.out.below hb)
  have Rr := Lib.hid hr
  clear hr hb
  have cGa := cell_row Ga.out
  have cGb := cell_row Gb.out
  have cGp := cell_row Gp.out
  have cGq := cell_row Gq.out
  have cGs := cell_row Gs.out
  have cGt := cell_row Gt.out
  have cGx := cell_row Gx.out
  go_wp2_with fail
  refine (S11.out _ _ Rr.out).mono ?_
  rintro e w19 ⟨rfl, hb⟩
  clear cGa cGb cGp cGq cGs cGt cGx
  replace HB := Lib.hid (below_then HB.out hb)
  replace Ga := Lib.hid ((hb.block _ (lt_of_heap Ga.out)).trans Ga.out)
  replace Gb := Lib.hid ((hb.block _ (lt_of_heap Gb.out)).trans Gb.out)
  replace Gp := Lib.hid ((hb.block _ (lt_of_heap Gp.out)).trans Gp.out)
  replace Gq := Lib.hid ((hb.block _ (lt_of_heap Gq.out)).trans Gq.out)
  replace Gs := Lib.hid ((hb.block _ (lt_of_heap Gs.out)).trans Gs.out)
  replace Gt := Lib.hid ((hb.block _ (lt_of_heap Gt.out)).trans Gt.out)
  replace Gx := Lib.hid ((hb.block _ (lt_of_heap Gx.out)).trans Gx.out)
  replace Rr := Lib.hid (Rr.out.below hb)
  clear hb
  replace Ga := Lib.hid (keepAl (o' := .cells (wcells q3) 26) Ga.out)
  replace Gb := Lib.hid (keepAl (o' := .cells (wcells q3) 26) Gb.out)
  replace Gp := Lib.hid (keepAl (o' := .cells (wcells q3) 26) Gp.out)
  replace Gq := Lib.hid (keepAl (o' := .cells (wcells q3) 26) Gq.out)
  replace Gs := Lib.hid (keepAl (o' := .cells (wcells q3) 26) Gs.out)
  replace Gt := Lib.hid (keepAl (o' := .cells (wcells q3) 26) Gt.out)
  replace Gx := Lib.hid (keepAl (o' := .cells (wcells q3) 26) Gx.out)
  have Gy := Lib.hid (alloc_new (w19) (.cells (wcells q3) 26))
  replace HB := Lib.hid (below_al HB.out (.cells (wcells q3) 26))
  have cGa := cell_row Ga.out
  have cGb := cell_row Gb.out
  have cGp := cell_row Gp.out
  have cGq := cell_row Gq.out
  have cGs := cell_row Gs.out
  have cGt := cell_row Gt.out
  have cGx := cell_row Gx.out
  have cGy := cell_row Gy.out
  go_wp2_with fail
  refine (SA.out _).mono ?_
  rintro e w20 ⟨rfl, hb⟩
  clear cGa cGb cGp cGq cGs cGt cGx cGy
  replace HB := Lib.hid (below_then HB.out hb)
  replace Ga := Lib.hid ((hb.block _ (lt_of_heap Ga.out)).trans Ga.out)
  replace Gb := Lib.hid ((hb.block _ (lt_of_heap Gb.out)).trans Gb.out)
  replace Gp := Lib.hid ((hb.block _ (lt_of_heap Gp.out)).trans Gp.out)
  replace Gq := Lib.hid ((hb.block _ (lt_of_heap Gq.out)).trans Gq.out)
  replace Gs := Lib.hid ((hb.block _ (lt_of_heap Gs.out)).trans Gs.out)
  replace Gt := Lib.hid ((hb.block _ (lt_of_heap Gt.out)).trans Gt.out)
  replace Gx := Lib.hid ((hb.block _ (lt_of_heap Gx.out)).trans Gx.out)
  replace Gy := Lib.hid ((hb.block _ (lt_of_heap Gy.out)).trans Gy.out)
  clear hb
  have cGa := cell_row Ga.out
  have cGb := cell_row Gb.out
  have cGp := cell_row Gp.out
  have cGq := cell_row Gq.out
  have cGs := cell_row Gs.out
  have cGt := cell_row Gt.out
  have cGx := cell_row Gx.out
  have cGy := cell_row Gy.out
  go_wp2
  go_ret
  exact ⟨rfl, HB.out⟩
end Go.Proofs.Ytenkaobgoknlhaa
