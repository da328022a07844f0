/- THE WALKS of gold, going on: pairs, or why there are none; quotients; an engine made. -/
import Derived.Test.YtegmmaaapdgocaaGold
namespace Go.Proofs.Ytegmmaaapdgocaa
open Go Go.RowKit

/-- Numerator and denominator of two that may be divided. -/
def gpM (n d k : Nat) : Nat := gdM (n * P2 (128 - blen d)) (d * P2 (128 - blen d)) k
def gpD (d k : Nat) : Nat := gdD (d * P2 (128 - blen d)) k
theorem gp_bounds {n d k : Nat} (hm : mayN n d = 0) (hk : k ≤ 10) : gpM n d k < P2 162 ∧ gpD d k ≤ P2 161 := by
  obtain ⟨r1, r2, r3, _⟩ := shift_range hm
  exact ⟨gdM_small (up_len hm) (Nat.le_of_lt r3) hk (Nat.lt_of_lt_of_le (P2_pos _) r1), (gd_all (up_len hm) k).le⟩
theorem gp_near {n d : Nat} (hm : mayN n d = 0) : gpM n d 5 / P2 32 ≤ n / d + 1 ∧ n / d ≤ gpM n d 5 / P2 32 + 1 := by
  obtain ⟨r1, r2, r3, r4, _⟩ := shift_range hm
  have := gd_guess (up_len hm) (Nat.lt_of_lt_of_le (P2_pos _) r1) r3
  rw [r4] at this
  exact this
attribute [local go_sem ↓] Go.wp_at_zero Go.wp_at_succ
set_option maxRecDepth 100000 in
set_option maxHeartbeats 2000000 in
theorem pairA_nil (n d : Nat) (k : Int) (hn : n < M) (hd : d < M) (w : World) :
    Calls Try.prog 11 #[.pointer none, wv n, wv d, .int .i64 k] w fun x w' => x = .returned (.tuple #[wv 0, wv 0, .int .i64 6]) ∧ Below w.heap.size w w' := by
  have S1 := Lib.hid (fun w' => may_w n d hn hd w')
  obtain ⟨E, hE⟩ : ∃ E, E = mayN n d := ⟨_, rfl⟩
  rw [← hE] at S1
  clear hn hd hE
  go_enter Try.func11, Try.ntmps11
  have HB := Lib.hid (Below.refl w.heap.size w)
  have Gn := Lib.hid (alloc_new (w) (.cells (wcells n) 24))
  replace HB := Lib.hid (below_al HB.out (.cells (wcells n) 24))
  replace Gn := Lib.hid (keepAl (o' := .cells (wcells d) 24) Gn.out)
  have Gd := Lib.hid (alloc_new' (w := (w).alloc (.cells (wcells n) 24)) (n := w.heap.size + 1) (.cells (wcells d) 24) (by simp))
  replace HB := Lib.hid (below_al HB.out (.cells (wcells d) 24))
  replace Gn := Lib.hid (keepAl (o' := .cells (wcells 0) 24) Gn.out)
  replace Gd := Lib.hid (keepAl (o' := .cells (wcells 0) 24) Gd.out)
  have Gx := Lib.hid (alloc_new' (w := ((w).alloc (.cells (wcells n) 24)).alloc (.cells (wcells d) 24)) (n := w.heap.size + 1 + 1) (.cells (wcells 0) 24) (by simp))
  replace HB := Lib.hid (below_al HB.out (.cells (wcells 0) 24))
  replace Gn := Lib.hid (keepAl (o' := .cells (wcells 0) 24) Gn.out)
  replace Gd := Lib.hid (keepAl (o' := .cells (wcells 0) 24) Gd.out)
  replace Gx := Lib.hid (keepAl (o' := .cells (wcells 0) 24) Gx.out)
  have Gy := Lib.hid (alloc_new' (w := (((w).alloc (.cells (wcells n) 24)).alloc (.cells (wcells d) 24)).alloc (.cells (wcells 0) 24)) (n := w.heap.size + 1 + 1 + 1) (.cells (wcells 0) 24) (by simp))
  replace HB := Lib.hid (below_al HB.out (.cells (wcells 0) 24))
  have cGn := cell_row Gn.out
  have cGd := cell_row Gd.out
  have cGx := cell_row Gx.out
  have cGy := cell_row Gy.out
  go_wp2_with fail
  refine (S1.out _).mono ?_
  rintro e w1 ⟨rfl, hb⟩
  clear cGn cGd cGx cGy
  replace HB := Lib.hid (below_then HB.out hb)
  replace Gn := Lib.hid ((hb.block _ (lt_of_heap Gn.out)).trans Gn.out)
  replace Gd := Lib.hid ((hb.block _ (lt_of_heap Gd.out)).trans Gd.out)
  replace Gx := Lib.hid ((hb.block _ (lt_of_heap Gx.out)).trans Gx.out)
  replace Gy := Lib.hid ((hb.block _ (lt_of_heap Gy.out)).trans Gy.out)
  clear hb
  have stx := st_row (P := Try.prog) Gx.out rfl (0)
  replace Gn := Lib.hid ((setRow_other (w1) (w.heap.size + 1 + 1) _ (wcells (0)) (by (omega))).trans Gn.out)
  replace Gd := Lib.hid ((setRow_other (w1) (w.heap.size + 1 + 1) _ (wcells (0)) (by (omega))).trans Gd.out)
  replace Gy := Lib.hid ((setRow_other (w1) (w.heap.size + 1 + 1) _ (wcells (0)) (by (omega))).trans Gy.out)
  replace Gx := Lib.hid (setRow_heap (w1) (w.heap.size + 1 + 1) _ (wcells (0)) _ _ Gx.out)
  replace HB := Lib.hid (below_setRow' HB.out (show _ ≤ w.heap.size + 1 + 1 by (omega)) (wcells (0)))
  have q1 := stx
  clear stx
  have sty := st_row (P := Try.prog) Gy.out rfl (0)
  replace Gn := Lib.hid ((setRow_other ((w1).setRow (w.heap.size + 1 + 1) (wcells (0))) (w.heap.size + 1 + 1 + 1) _ (wcells (0)) (by (omega))).trans Gn.out)
  replace Gd := Lib.hid ((setRow_other ((w1).setRow (w.heap.size + 1 + 1) (wcells (0))) (w.heap.size + 1 + 1 + 1) _ (wcells (0)) (by (omega))).trans Gd.out)
  replace Gx := Lib.hid ((setRow_other ((w1).setRow (w.heap.size + 1 + 1) (wcells (0))) (w.heap.size + 1 + 1 + 1) _ (wcells (0)) (by (omega))).trans Gx.out)
  replace Gy := Lib.hid (setRow_heap ((w1).setRow (w.heap.size + 1 + 1) (wcells (0))) (w.heap.size + 1 + 1 + 1) _ (wcells (0)) _ _ Gy.out)
  replace HB := Lib.hid (below_setRow' HB.out (show _ ≤ w.heap.size + 1 + 1 + 1 by (omega)) (wcells (0)))
  have cGn := cell_row Gn.out
  have cGd := cell_row Gd.out
  have cGx := cell_row Gx.out
  have cGy := cell_row Gy.out
  go_wp2
  exact bodyPost_ret (v := .tuple #[wv 0, wv 0, .int .i64 6]) (res_cct Try.results11 _ _ _ _ _ _ _ _ _ _ _ rfl rfl rfl Gx.out Gy.out aggW aggW) rfl ⟨rfl, HB.out⟩
/-- Why there is no pair. -/
def gpE (n d : Nat) (k : Int) : Int := if k < 0 ∨ 10 < k then 4 else mayN n d
set_option maxRecDepth 100000 in
set_option maxHeartbeats 2000000 in
theorem pairA_no (e n d : Nat) (k : Int) (hn : n < M) (hd : d < M) (hE : gpE n d k ≠ 0) (w : World) :
    Calls Try.prog 11 #[.pointer (some ⟨e, 0, none⟩), wv n, wv d, .int .i64 k] w fun x w' => x = .returned (.tuple #[wv 0, wv 0, .int .i64 (gpE n d k)]) ∧ Below w.heap.size w w' := by
  have S1 := Lib.hid (fun w' => may_w n d hn hd w')
  unfold gpE at hE ⊢
  obtain ⟨E, hEe⟩ : ∃ E, E = mayN n d := ⟨_, rfl⟩
  rw [← hEe] at S1 hE ⊢
  by_cases c0 : k < 0
  · have b0 : decide (k < 0) = true := decide_eq_true c0
    rw [if_pos (Or.inl c0)]
    clear hn hd hE hEe c0
    go_enter Try.func11, Try.ntmps11
    have HB := Lib.hid (Below.refl w.heap.size w)
    have Gn := Lib.hid (alloc_new (w) (.cells (wcells n) 24))
    replace HB := Lib.hid (below_al HB.out (.cells (wcells n) 24))
    replace Gn := Lib.hid (keepAl (o' := .cells (wcells d) 24) Gn.out)
    have Gd := Lib.hid (alloc_new' (w := (w).alloc (.cells (wcells n) 24)) (n := w.heap.size + 1) (.cells (wcells d) 24) (by simp))
    replace HB := Lib.hid (below_al HB.out (.cells (wcells d) 24))
    replace Gn := Lib.hid (keepAl (o' := .cells (wcells 0) 24) Gn.out)
    replace Gd := Lib.hid (keepAl (o' := .cells (wcells 0) 24) Gd.out)
    have Gx := Lib.hid (alloc_new' (w := ((w).alloc (.cells (wcells n) 24)).alloc (.cells (wcells d) 24)) (n := w.heap.size + 1 + 1) (.cells (wcells 0) 24) (by simp))
    replace HB := Lib.hid (below_al HB.out (.cells (wcells 0) 24))
    replace Gn := Lib.hid (keepAl (o' := .cells (wcells 0) 24) Gn.out)
    replace Gd := Lib.hid (keepAl (o' := .cells (wcells 0) 24) Gd.out)
    replace Gx := Lib.hid (keepAl (o' := .cells (wcells 0) 24) Gx.out)
    have Gy := Lib.hid (alloc_new' (w := (((w).alloc (.cells (wcells n) 24)).alloc (.cells (wcells d) 24)).alloc (.cells (wcells 0) 24)) (n := w.heap.size + 1 + 1 + 1) (.cells (wcells 0) 24) (by simp))
    replace HB := Lib.hid (below_al HB.out (.cells (wcells 0) 24))
    have cGn := cell_row Gn.out
    have cGd := cell_row Gd.out
    have cGx := cell_row Gx.out
    have cGy := cell_row Gy.out
    go_wp2_with fail
    refine (S1.out _).mono ?_
    rintro e w2 ⟨rfl, hb⟩
    clear cGn cGd cGx cGy
    replace HB := Lib.hid (below_then HB.out hb)
    replace Gn := Lib.hid ((hb.block _ (lt_of_heap Gn.out)).trans Gn.out)
    replace Gd := Lib.hid ((hb.block _ (lt_of_heap Gd.out)).trans Gd.out)
    replace Gx := Lib.hid ((hb.block _ (lt_of_heap Gx.out)).trans Gx.out)
    replace Gy := Lib.hid ((hb.block _ (lt_of_heap Gy.out)).trans Gy.out)
    clear hb
    have stx := st_row (P := Try.prog) Gx.out rfl (0)
    replace Gn := Lib.hid ((setRow_other (w2) (w.heap.size + 1 + 1) _ (wcells (0)) (by (omega))).trans Gn.out)
    replace Gd := Lib.hid ((setRow_other (w2) (w.heap.size + 1 + 1) _ (wcells (0)) (by (omega))).trans Gd.out)
    replace Gy := Lib.hid ((setRow_other (w2) (w.heap.size + 1 + 1) _ (wcells (0)) (by (omega))).trans Gy.out)
    replace Gx := Lib.hid (setRow_heap (w2) (w.heap.size + 1 + 1) _ (wcells (0)) _ _ Gx.out)
    replace HB := Lib.hid (below_setRow' HB.out (show _ ≤ w.heap.size + 1 + 1 by (omega)) (wcells (0)))
    have q1 := stx
    clear stx
    have sty := st_row (P := Try.prog) Gy.out rfl (0)
    replace Gn := Lib.hid ((setRow_other ((w2).setRow (w.heap.size + 1 + 1) (wcells (0))) (w.heap.size + 1 + 1 + 1) _ (wcells (0)) (by (omega))).trans Gn.out)
    replace Gd := Lib.hid ((setRow_other ((w2).setRow (w.heap.size + 1 + 1) (wcells (0))) (w.heap.size + 1 + 1 + 1) _ (wcells (0)) (by (omega))).trans Gd.out)
    replace Gx := Lib.hid ((setRow_other ((w2).setRow (w.heap.size + 1 + 1) (wcells (0))) (w.heap.size + 1 + 1 + 1) _ (wcells (0)) (by (omega))).trans Gx.out)
    replace Gy := Lib.hid (setRow_heap ((w2).setRow (w.heap.size + 1 + 1) (wcells (0))) (w.heap.size + 1 + 1 + 1) _ (wcells (0)) _ _ Gy.out)
    replace HB := Lib.hid (below_setRow' HB.out (show _ ≤ w.heap.size + 1 + 1 + 1 by (omega)) (wcells (0)))
    have cGn := cell_row Gn.out
    have cGd := cell_row Gd.out
    have cGx := cell_row Gx.out
    have cGy := cell_row Gy.out
    go_wp2
    exact bodyPost_ret (v := .tuple #[wv 0, wv 0, .int .i64 4]) (res_cct Try.results11 _ _ _ _ _ _ _ _ _ _ _ rfl rfl rfl Gx.out Gy.out aggW aggW) rfl ⟨rfl, HB.out⟩
  · have b0 : decide (k < 0) = false := decide_eq_false c0
    by_cases c1 : 10 < k
    · have b1 : decide (10 < k) = true := decide_eq_true c1
      rw [if_pos (Or.inr c1)]
      clear hn hd hE hEe c0 c1
      go_enter Try.func11, Try.ntmps11
      have HB := Lib.hid (Below.refl w.heap.size w)
      have Gn := Lib.hid (alloc_new (w) (.cells (wcells n) 24))
      replace HB := Lib.hid (below_al HB.out (.cells (wcells n) 24))
      replace Gn := Lib.hid (keepAl (o' := .cells (wcells d) 24) Gn.out)
      have Gd := Lib.hid (alloc_new' (w := (w).alloc (.cells (wcells n) 24)) (n := w.heap.size + 1) (.cells (wcells d) 24) (by simp))
      replace HB := Lib.hid (below_al HB.out (.cells (wcells d) 24))
      replace Gn := Lib.hid (keepAl (o' := .cells (wcells 0) 24) Gn.out)
      replace Gd := Lib.hid (keepAl (o' := .cells (wcells 0) 24) Gd.out)
      have Gx := Lib.hid (alloc_new' (w := ((w).alloc (.cells (wcells n) 24)).alloc (.cells (wcells d) 24)) (n := w.heap.size + 1 + 1) (.cells (wcells 0) 24) (by simp))
      replace HB := Lib.hid (below_al HB.out (.cells (wcells 0) 24))
      replace Gn := Lib.hid (keepAl (o' := .cells (wcells 0) 24) Gn.out)
      replace Gd := Lib.hid (keepAl (o' := .cells (wcells 0) 24) Gd.out)
      replace Gx := Lib.hid (keepAl (o' := .cells (wcells 0) 24) Gx.out)
      have Gy := Lib.hid (alloc_new' (w := (((w).alloc (.cells (wcells n) 24)).alloc (.cells (wcells d) 24)).alloc (.cells (wcells 0) 24)) (n := w.heap.size + 1 + 1 + 1) (.cells (wcells 0) 24) (by simp))
      replace HB := Lib.hid (below_al HB.out (.cells (wcells 0) 24))
      have cGn := cell_row Gn.out
      have cGd := cell_row Gd.out
      have cGx := cell_row Gx.out
      have cGy := cell_row Gy.out
      go_wp2_with fail
      refine (S1.out _).mono ?_
      rintro e w3 ⟨rfl, hb⟩
      clear cGn cGd cGx cGy
      replace HB := Lib.hid (below_then HB.out hb)
      replace Gn := Lib.hid ((hb.block _ (lt_of_heap Gn.out)).trans Gn.out)
      replace Gd := Lib.hid ((hb.block _ (lt_of_heap Gd.out)).trans Gd.out)
      replace Gx := Lib.hid ((hb.block _ (lt_of_heap Gx.out)).trans Gx.out)
      replace Gy := Lib.hid ((hb.block _ (lt_of_heap Gy.out)).trans Gy.out)
      clear hb
      have stx := st_row (P := Try.prog) Gx.out rfl (0)
      replace Gn := Lib.hid ((setRow_other (w3) (w.heap.size + 1 + 1) _ (wcells (0)) (by (omega))).trans Gn.out)
      replace Gd := Lib.hid ((setRow_other (w3) (w.heap.size + 1 + 1) _ (wcells (0)) (by (omega))).trans Gd.out)
      replace Gy := Lib.hid ((setRow_other (w3) (w.heap.size + 1 + 1) _ (wcells (0)) (by (omega))).trans Gy.out)
      replace Gx := Lib.hid (setRow_heap (w3) (w.heap.size + 1 + 1) _ (wcells (0)) _ _ Gx.out)
      replace HB := Lib.hid (below_setRow' HB.out (show _ ≤ w.heap.size + 1 + 1 by (omega)) (wcells (0)))
      have q1 := stx
      clear stx
      have sty := st_row (P := Try.prog) Gy.out rfl (0)
      replace Gn := Lib.hid ((setRow_other ((w3).setRow (w.heap.size + 1 + 1) (wcells (0))) (w.heap.size + 1 + 1 + 1) _ (wcells (0)) (by (omega))).trans Gn.out)
      replace Gd := Lib.hid ((setRow_other ((w3).setRow (w.heap.size + 1 + 1) (wcells (0))) (w.heap.size + 1 + 1 + 1) _ (wcells (0)) (by (omega))).trans Gd.out)
      replace Gx := Lib.hid ((setRow_other ((w3).setRow (w.heap.size + 1 + 1) (wcells (0))) (w.heap.size + 1 + 1 + 1) _ (wcells (0)) (by (omega))).trans Gx.out)
      replace Gy := Lib.hid (setRow_heap ((w3).setRow (w.heap.size + 1 + 1) (wcells (0))) (w.heap.size + 1 + 1 + 1) _ (wcells (0)) _ _ Gy.out)
      replace HB := Lib.hid (below_setRow' HB.out (show _ ≤ w.heap.size + 1 + 1 + 1 by (omega)) (wcells (0)))
      have cGn := cell_row Gn.out
      have cGd := cell_row Gd.out
      have cGx := cell_row Gx.out
      have cGy := cell_row Gy.out
      go_wp2
      exact bodyPost_ret (v := .tuple #[wv 0, wv 0, .int .i64 4]) (res_cct Try.results11 _ _ _ _ _ _ _ _ _ _ _ rfl rfl rfl Gx.out Gy.out aggW aggW) rfl ⟨rfl, HB.out⟩
    · have b1 : decide (10 < k) = false := decide_eq_false c1
      rw [if_neg (by omega)] at hE ⊢
      have b2 : (E != 0) = true := by simp [hE]
      clear hn hd hE hEe c0 c1
      go_enter Try.func11, Try.ntmps11
      have HB := Lib.hid (Below.refl w.heap.size w)
      have Gn := Lib.hid (alloc_new (w) (.cells (wcells n) 24))
      replace HB := Lib.hid (below_al HB.out (.cells (wcells n) 24))
      replace Gn := Lib.hid (keepAl (o' := .cells (wcells d) 24) Gn.out)
      have Gd := Lib.hid (alloc_new' (w := (w).alloc (.cells (wcells n) 24)) (n := w.heap.size + 1) (.cells (wcells d) 24) (by simp))
      replace HB := Lib.hid (below_al HB.out (.cells (wcells d) 24))
      replace Gn := Lib.hid (keepAl (o' := .cells (wcells 0) 24) Gn.out)
      replace Gd := Lib.hid (keepAl (o' := .cells (wcells 0) 24) Gd.out)
      have Gx := Lib.hid (alloc_new' (w := ((w).alloc (.cells (wcells n) 24)).alloc (.cells (wcells d) 24)) (n := w.heap.size + 1 + 1) (.cells (wcells 0) 24) (by simp))
      replace HB := Lib.hid (below_al HB.out (.cells (wcells 0) 24))
      replace Gn := Lib.hid (keepAl (o' := .cells (wcells 0) 24) Gn.out)
      replace Gd := Lib.hid (keepAl (o' := .cells (wcells 0) 24) Gd.out)
      replace Gx := Lib.hid (keepAl (o' := .cells (wcells 0) 24) Gx.out)
      have Gy := Lib.hid (alloc_new' (w := (((w).alloc (.cells (wcells n) 24)).alloc (.cells (wcells d) 24)).alloc (.cells (wcells 0) 24)) (n := w.heap.size + 1 + 1 + 1) (.cells (wcells 0) 24) (by simp))
      replace HB := Lib.hid (below_al HB.out (.cells (wcells 0) 24))
      have cGn := cell_row Gn.out
      have cGd := cell_row Gd.out
      have cGx := cell_row Gx.out
      have cGy := cell_row Gy.out
      go_wp2_with fail
      refine (S1.out _).mono ?_
      rintro e w4 ⟨rfl, hb⟩
      clear cGn cGd cGx cGy
      replace HB := Lib.hid (below_then HB.out hb)
      replace Gn := Lib.hid ((hb.block _ (lt_of_heap Gn.out)).trans Gn.out)
      replace Gd := Lib.hid ((hb.block _ (lt_of_heap Gd.out)).trans Gd.out)
      replace Gx := Lib.hid ((hb.block _ (lt_of_heap Gx.out)).trans Gx.out)
      replace Gy := Lib.hid ((hb.block _ (lt_of_heap Gy.out)).trans Gy.out)
      clear hb
      have stx := st_row (P := Try.prog) Gx.out rfl (0)
      replace Gn := Lib.hid ((setRow_other (w4) (w.heap.size + 1 + 1) _ (wcells (0)) (by (omega))).trans Gn.out)
      replace Gd := Lib.hid ((setRow_other (w4) (w.heap.size + 1 + 1) _ (wcells (0)) (by (omega))).trans Gd.out)
      replace Gy := Lib.hid ((setRow_other (w4) (w.heap.size + 1 + 1) _ (wcells (0)) (by (omega))).trans Gy.out)
      replace Gx := Lib.hid (setRow_heap (w4) (w.heap.size + 1 + 1) _ (wcells (0)) _ _ Gx.out)
      replace HB := Lib.hid (below_setRow' HB.out (show _ ≤ w.heap.size + 1 + 1 by (omega)) (wcells (0)))
      have q1 := stx
      clear stx
      have sty := st_row (P := Try.prog) Gy.out rfl (0)
      replace Gn := Lib.hid ((setRow_other ((w4).setRow (w.heap.size + 1 + 1) (wcells (0))) (w.heap.size + 1 + 1 + 1) _ (wcells (0)) (by (omega))).trans Gn.out)
      replace Gd := Lib.hid ((setRow_other ((w4).setRow (w.heap.size + 1 + 1) (wcells (0))) (w.heap.size + 1 + 1 + 1) _ (wcells (0)) (by (omega))).trans Gd.out)
      replace Gx := Lib.hid ((setRow_other ((w4).setRow (w.heap.size + 1 + 1) (wcells (0))) (w.heap.size + 1 + 1 + 1) _ (wcells (0)) (by (omega))).trans Gx.out)
      replace Gy := Lib.hid (setRow_heap ((w4).setRow (w.heap.size + 1 + 1) (wcells (0))) (w.heap.size + 1 + 1 + 1) _ (wcells (0)) _ _ Gy.out)
      replace HB := Lib.hid (below_setRow' HB.out (show _ ≤ w.heap.size + 1 + 1 + 1 by (omega)) (wcells (0)))
      have cGn := cell_row Gn.out
      have cGd := cell_row Gd.out
      have cGx := cell_row Gx.out
      have cGy := cell_row Gy.out
      go_wp2
      exact bodyPost_ret (v := .tuple #[wv 0, wv 0, .int .i64 E]) (res_cct Try.results11 _ _ _ _ _ _ _ _ _ _ _ rfl rfl rfl Gx.out Gy.out aggW aggW) rfl ⟨rfl, HB.out⟩
set_option maxRecDepth 100000 in
set_option maxHeartbeats 2000000 in
theorem pairA_yes (e g n d k : Nat) (hn : n < M) (hd : d < M) (hm : mayN n d = 0) (hk : k ≤ 10) (w : World) (hE : w.heap[e]? = some (.cells #[.pointer (some ⟨g, 0, none⟩)] 92 (0, 0))) (hI : IsRom w g) (hne : e ≠ g) :
    Calls Try.prog 11 #[.pointer (some ⟨e, 0, none⟩), wv n, wv d, .int .i64 (k : Int)] w fun x w' => x = .returned (.tuple #[wv (gpM n d k), wv (gpD d k), .int .i64 0]) ∧ VG g w w' := by
  have S1 := Lib.hid (fun w' => may_w n d hn hd w')
  rw [hm] at S1
  have S2 := Lib.hid (fun w' hE hI => pairG_w e g n d k hm hk w' hE hI hne)
  have b0 : decide ((k : Int) < 0) = false := decide_eq_false (by omega)
  have b1 : decide ((10 : Int) < (k : Int)) = false := decide_eq_false (by omega)
  unfold gpM gpD
  obtain ⟨A, hA⟩ : ∃ A, A = gdM (n * P2 (128 - blen d)) (d * P2 (128 - blen d)) k := ⟨_, rfl⟩
  obtain ⟨B, hB⟩ : ∃ A, A = gdD (d * P2 (128 - blen d)) k := ⟨_, rfl⟩
  rw [← hA, ← hB] at S2 ⊢
  have VB := Lib.hid (VG.refl hI)
  have Ge := Lib.hid hE
  have HNE := Lib.hid hne
  clear hn hd hm hk hE hI hne hA hB
  go_enter Try.func11, Try.ntmps11
  replace Ge := Lib.hid (keepAl (o' := .cells (wcells n) 24) Ge.out)
  have Gn := Lib.hid (alloc_new (w) (.cells (wcells n) 24))
  replace VB := Lib.hid (VB.out.al (.cells (wcells n) 24))
  replace Ge := Lib.hid (keepAl (o' := .cells (wcells d) 24) Ge.out)
  replace Gn := Lib.hid (keepAl (o' := .cells (wcells d) 24) Gn.out)
  have Gd := Lib.hid (alloc_new' (w := (w).alloc (.cells (wcells n) 24)) (n := w.heap.size + 1) (.cells (wcells d) 24) (by simp))
  replace VB := Lib.hid (VB.out.al (.cells (wcells d) 24))
  replace Ge := Lib.hid (keepAl (o' := .cells (wcells 0) 24) Ge.out)
  replace Gn := Lib.hid (keepAl (o' := .cells (wcells 0) 24) Gn.out)
  replace Gd := Lib.hid (keepAl (o' := .cells (wcells 0) 24) Gd.out)
  have Gx := Lib.hid (alloc_new' (w := ((w).alloc (.cells (wcells n) 24)).alloc (.cells (wcells d) 24)) (n := w.heap.size + 1 + 1) (.cells (wcells 0) 24) (by simp))
  replace VB := Lib.hid (VB.out.al (.cells (wcells 0) 24))
  replace Ge := Lib.hid (keepAl (o' := .cells (wcells 0) 24) Ge.out)
  replace Gn := Lib.hid (keepAl (o' := .cells (wcells 0) 24) Gn.out)
  replace Gd := Lib.hid (keepAl (o' := .cells (wcells 0) 24) Gd.out)
  replace Gx := Lib.hid (keepAl (o' := .cells (wcells 0) 24) Gx.out)
  have Gy := Lib.hid (alloc_new' (w := (((w).alloc (.cells (wcells n) 24)).alloc (.cells (wcells d) 24)).alloc (.cells (wcells 0) 24)) (n := w.heap.size + 1 + 1 + 1) (.cells (wcells 0) 24) (by simp))
  replace VB := Lib.hid (VB.out.al (.cells (wcells 0) 24))
  have cGe := cell_row Ge.out
  have cGn := cell_row Gn.out
  have cGd := cell_row Gd.out
  have cGx := cell_row Gx.out
  have cGy := cell_row Gy.out
  go_wp2_with fail
  refine (S1.out _).mono ?_
  rintro e w5 ⟨rfl, hb⟩
  clear cGe cGn cGd cGx cGy
  replace VB := Lib.hid (VB.out.below hb)
  replace Ge := Lib.hid ((hb.block _ (lt_of_heap Ge.out)).trans Ge.out)
  replace Gn := Lib.hid ((hb.block _ (lt_of_heap Gn.out)).trans Gn.out)
  replace Gd := Lib.hid ((hb.block _ (lt_of_heap Gd.out)).trans Gd.out)
  replace Gx := Lib.hid ((hb.block _ (lt_of_heap Gx.out)).trans Gx.out)
  replace Gy := Lib.hid ((hb.block _ (lt_of_heap Gy.out)).trans Gy.out)
  clear hb
  have cGe := cell_row Ge.out
  have cGn := cell_row Gn.out
  have cGd := cell_row Gd.out
  have cGx := cell_row Gx.out
  have cGy := cell_row Gy.out
  go_wp2_with fail
  refine (S2.out _ Ge.out VB.out.rom).mono ?_
  rintro e w6 ⟨rfl, hv⟩
  clear cGe cGn cGd cGx cGy
  replace Ge := Lib.hid (hv.heap Ge.out (by have := VB.out.lt; (try have := HNE.out); (try have := HZ.out); omega))
  replace Gn := Lib.hid (hv.heap Gn.out (by have := VB.out.lt; (try have := HNE.out); (try have := HZ.out); omega))
  replace Gd := Lib.hid (hv.heap Gd.out (by have := VB.out.lt; (try have := HNE.out); (try have := HZ.out); omega))
  replace Gx := Lib.hid (hv.heap Gx.out (by have := VB.out.lt; (try have := HNE.out); (try have := HZ.out); omega))
  replace Gy := Lib.hid (hv.heap Gy.out (by have := VB.out.lt; (try have := HNE.out); (try have := HZ.out); omega))
  replace VB := Lib.hid (VB.out.trans hv)
  clear hv
  have HZ := Lib.hid (lt_of_heap Gy.out)
  replace Gx := Lib.hid (keepAl (o' := .cells (fc A B) 64) Gx.out)
  replace Gy := Lib.hid (keepAl (o' := .cells (fc A B) 64) Gy.out)
  have Gp := Lib.hid (alloc_new (w6) (.cells (fc A B) 64))
  replace VB := Lib.hid (VB.out.al (.cells (fc A B) 64))
  have cGx := cell_row Gx.out
  have cGy := cell_row Gy.out
  have cGp := cell_row Gp.out
  go_upto_region 9 with fail
  clear cGx cGy cGp
  obtain ⟨w7, hw⟩ : ∃ wx, wx = (w6).alloc (.cells (fc A B) 64) := ⟨_, rfl⟩
  rw [← hw] at Gx Gy Gp VB ⊢
  clear hw
  refine wp_region_store [⟨w.heap.size + 1 + 1, 24, .tmp 37⟩, ⟨w.heap.size + 1 + 1 + 1, 24, .tmp 39⟩] (by kernel_rfl) (by kernel_rfl) (by kernel_rfl) rfl (List.Pairwise.cons (by intro r hr; simp only [List.mem_cons, List.not_mem_nil, or_false] at hr; subst hr <;> dsimp only <;> (have := HZ.out; omega)) (List.pairwise_singleton _ _)) ?_ ?_
  · intro r hr
    simp only [List.mem_cons, List.not_mem_nil, or_false] at hr
    rcases hr with rfl | rfl
    · exact ⟨_, Gx.out, by kernel_rfl⟩
    · exact ⟨_, Gy.out, by kernel_rfl⟩
  have xGp := extR_row (B := w7.heap.size) (R := [⟨w.heap.size + 1 + 1, 24, .tmp 37⟩, ⟨w.heap.size + 1 + 1 + 1, 24, .tmp 39⟩]) Gp.out (lt_of_heap Gp.out) (by intro r hr; simp only [List.mem_cons, List.not_mem_nil, or_false] at hr; rcases hr with rfl | rfl <;> dsimp only <;> (have := HZ.out; omega))
  repeat (refine wpCalm_step (fun K hK => ?_); go_simp; first | (refine hK _ ?_; clear hK K) | (apply Exists.intro; refine ⟨fun _ => ?_, hK _ ?_⟩; (first | fail); clear hK K))
  refine wpCalm_nil ⟨?_, fun x hx => ?_⟩
  · intro r hr
    simp only [List.mem_cons, List.not_mem_nil, or_false] at hr
    rcases hr with rfl | rfl <;> exact fits_wv (by kernel_rfl) _
  replace Gx : Hid (x.val.heap[w.heap.size + 1 + 1]? = some (.cells (wcells (A)) 24 (0, 0))) := Lib.hid (hx ⟨w.heap.size + 1 + 1, 24, .tmp 37⟩ (by simp))
  replace Gy : Hid (x.val.heap[w.heap.size + 1 + 1 + 1]? = some (.cells (wcells (B)) 24 (0, 0))) := Lib.hid (hx ⟨w.heap.size + 1 + 1 + 1, 24, .tmp 39⟩ (by simp))
  replace Gp := Lib.hid (extR_block x Gp.out (lt_of_heap Gp.out) (by intro r hr; simp only [List.mem_cons, List.not_mem_nil, or_false] at hr; rcases hr with rfl | rfl <;> dsimp only <;> (have := HZ.out; omega)))
  replace VB := Lib.hid (VB.out.extR x (by intro r hr; simp only [List.mem_cons, List.not_mem_nil, or_false] at hr; rcases hr with rfl | rfl <;> dsimp only <;> (have := HZ.out; omega)))
  clear hx xGp
  obtain ⟨w8, hw⟩ : ∃ wx, wx = x.val := ⟨_, rfl⟩
  rw [← hw] at Gx Gy Gp VB ⊢
  clear hw x
  have cGx := cell_row Gx.out
  have cGy := cell_row Gy.out
  have cGp := cell_row Gp.out
  go_wp2
  exact bodyPost_ret (v := .tuple #[wv A, wv B, .int .i64 0]) (res_cct Try.results11 _ _ _ _ _ _ _ _ _ _ _ rfl rfl rfl Gx.out Gy.out aggW aggW) rfl ⟨rfl, VB.out⟩
set_option maxRecDepth 100000 in
set_option maxHeartbeats 2000000 in
theorem divA_no (ep : Value) (n d : Nat) (E : Int) (hE : E ≠ 0) (hM : ∀ w', Calls Try.prog 11 #[ep, wv n, wv d, .int .i64 5] w' fun x w'' => x = .returned (.tuple #[wv 0, wv 0, .int .i64 E]) ∧ Below w'.heap.size w' w'') (w : World) :
    Calls Try.prog 10 #[ep, wv n, wv d] w fun x w' => x = .returned (.tuple #[wv 0, wv 0, .int .i64 E]) ∧ Below w.heap.size w w' := by
  have S1 := Lib.hid hM
  have hb : (E != 0) = true := by simp [hE]
  clear hM hE
  go_enter Try.func10, Try.ntmps10
  have HB := Lib.hid (Below.refl w.heap.size w)
  have Gn := Lib.hid (alloc_new (w) (.cells (wcells n) 24))
  replace HB := Lib.hid (below_al HB.out (.cells (wcells n) 24))
  replace Gn := Lib.hid (keepAl (o' := .cells (wcells d) 24) Gn.out)
  have Gd := Lib.hid (alloc_new' (w := (w).alloc (.cells (wcells n) 24)) (n := w.heap.size + 1) (.cells (wcells d) 24) (by simp))
  replace HB := Lib.hid (below_al HB.out (.cells (wcells d) 24))
  replace Gn := Lib.hid (keepAl (o' := .cells (wcells 0) 24) Gn.out)
  replace Gd := Lib.hid (keepAl (o' := .cells (wcells 0) 24) Gd.out)
  have Gx := Lib.hid (alloc_new' (w := ((w).alloc (.cells (wcells n) 24)).alloc (.cells (wcells d) 24)) (n := w.heap.size + 1 + 1) (.cells (wcells 0) 24) (by simp))
  replace HB := Lib.hid (below_al HB.out (.cells (wcells 0) 24))
  replace Gn := Lib.hid (keepAl (o' := .cells (wcells 0) 24) Gn.out)
  replace Gd := Lib.hid (keepAl (o' := .cells (wcells 0) 24) Gd.out)
  replace Gx := Lib.hid (keepAl (o' := .cells (wcells 0) 24) Gx.out)
  have Gy := Lib.hid (alloc_new' (w := (((w).alloc (.cells (wcells n) 24)).alloc (.cells (wcells d) 24)).alloc (.cells (wcells 0) 24)) (n := w.heap.size + 1 + 1 + 1) (.cells (wcells 0) 24) (by simp))
  replace HB := Lib.hid (below_al HB.out (.cells (wcells 0) 24))
  have cGn := cell_row Gn.out
  have cGd := cell_row Gd.out
  have cGx := cell_row Gx.out
  have cGy := cell_row Gy.out
  go_wp2_with fail
  refine (S1.out _).mono ?_
  rintro e w9 ⟨rfl, hb⟩
  clear cGn cGd cGx cGy
  replace HB := Lib.hid (below_then HB.out hb)
  replace Gn := Lib.hid ((hb.block _ (lt_of_heap Gn.out)).trans Gn.out)
  replace Gd := Lib.hid ((hb.block _ (lt_of_heap Gd.out)).trans Gd.out)
  replace Gx := Lib.hid ((hb.block _ (lt_of_heap Gx.out)).trans Gx.out)
  replace Gy := Lib.hid ((hb.block _ (lt_of_heap Gy.out)).trans Gy.out)
  clear hb
  have HZ := Lib.hid (lt_of_heap Gy.out)
  replace Gn := Lib.hid (keepAl (o' := .cells (wcells 0) 24) Gn.out)
  replace Gd := Lib.hid (keepAl (o' := .cells (wcells 0) 24) Gd.out)
  replace Gx := Lib.hid (keepAl (o' := .cells (wcells 0) 24) Gx.out)
  replace Gy := Lib.hid (keepAl (o' := .cells (wcells 0) 24) Gy.out)
  have Ga := Lib.hid (alloc_new (w9) (.cells (wcells 0) 24))
  replace HB := Lib.hid (below_al HB.out (.cells (wcells 0) 24))
  replace Gn := Lib.hid (keepAl (o' := .cells (wcells 0) 24) Gn.out)
  replace Gd := Lib.hid (keepAl (o' := .cells (wcells 0) 24) Gd.out)
  replace Gx := Lib.hid (keepAl (o' := .cells (wcells 0) 24) Gx.out)
  replace Gy := Lib.hid (keepAl (o' := .cells (wcells 0) 24) Gy.out)
  replace Ga := Lib.hid (keepAl (o' := .cells (wcells 0) 24) Ga.out)
  have Gb := Lib.hid (alloc_new' (w := (w9).alloc (.cells (wcells 0) 24)) (n := w9.heap.size + 1) (.cells (wcells 0) 24) (by simp))
  replace HB := Lib.hid (below_al HB.out (.cells (wcells 0) 24))
  have stx := st_row (P := Try.prog) Gx.out rfl (0)
  replace Gn := Lib.hid ((setRow_other (((w9).alloc (.cells (wcells 0) 24)).alloc (.cells (wcells 0) 24)) (w.heap.size + 1 + 1) _ (wcells (0)) (by (have := HZ.out; omega))).trans Gn.out)
  replace Gd := Lib.hid ((setRow_other (((w9).alloc (.cells (wcells 0) 24)).alloc (.cells (wcells 0) 24)) (w.heap.size + 1 + 1) _ (wcells (0)) (by (have := HZ.out; omega))).trans Gd.out)
  replace Gy := Lib.hid ((setRow_other (((w9).alloc (.cells (wcells 0) 24)).alloc (.cells (wcells 0) 24)) (w.heap.size + 1 + 1) _ (wcells (0)) (by (have := HZ.out; omega))).trans Gy.out)
  replace Ga := Lib.hid ((setRow_other (((w9).alloc (.cells (wcells 0) 24)).alloc (.cells (wcells 0) 24)) (w.heap.size + 1 + 1) _ (wcells (0)) (by (have := HZ.out; omega))).trans Ga.out)
  replace Gb := Lib.hid ((setRow_other (((w9).alloc (.cells (wcells 0) 24)).alloc (.cells (wcells 0) 24)) (w.heap.size + 1 + 1) _ (wcells (0)) (by (have := HZ.out; omega))).trans Gb.out)
  replace Gx := Lib.hid (setRow_heap (((w9).alloc (.cells (wcells 0) 24)).alloc (.cells (wcells 0) 24)) (w.heap.size + 1 + 1) _ (wcells (0)) _ _ Gx.out)
  replace HB := Lib.hid (below_setRow' HB.out (show _ ≤ w.heap.size + 1 + 1 by (have := HZ.out; omega)) (wcells (0)))
  have q1 := stx
  clear stx
  have sty := st_row (P := Try.prog) Gy.out rfl (0)
  replace Gn := Lib.hid ((setRow_other ((((w9).alloc (.cells (wcells 0) 24)).alloc (.cells (wcells 0) 24)).setRow (w.heap.size + 1 + 1) (wcells (0))) (w.heap.size + 1 + 1 + 1) _ (wcells (0)) (by (have := HZ.out; omega))).trans Gn.out)
  replace Gd := Lib.hid ((setRow_other ((((w9).alloc (.cells (wcells 0) 24)).alloc (.cells (wcells 0) 24)).setRow (w.heap.size + 1 + 1) (wcells (0))) (w.heap.size + 1 + 1 + 1) _ (wcells (0)) (by (have := HZ.out; omega))).trans Gd.out)
  replace Gx := Lib.hid ((setRow_other ((((w9).alloc (.cells (wcells 0) 24)).alloc (.cells (wcells 0) 24)).setRow (w.heap.size + 1 + 1) (wcells (0))) (w.heap.size + 1 + 1 + 1) _ (wcells (0)) (by (have := HZ.out; omega))).trans Gx.out)
  replace Ga := Lib.hid ((setRow_other ((((w9).alloc (.cells (wcells 0) 24)).alloc (.cells (wcells 0) 24)).setRow (w.heap.size + 1 + 1) (wcells (0))) (w.heap.size + 1 + 1 + 1) _ (wcells (0)) (by (have := HZ.out; omega))).trans Ga.out)
  replace Gb := Lib.hid ((setRow_other ((((w9).alloc (.cells (wcells 0) 24)).alloc (.cells (wcells 0) 24)).setRow (w.heap.size + 1 + 1) (wcells (0))) (w.heap.size + 1 + 1 + 1) _ (wcells (0)) (by (have := HZ.out; omega))).trans Gb.out)
  replace Gy := Lib.hid (setRow_heap ((((w9).alloc (.cells (wcells 0) 24)).alloc (.cells (wcells 0) 24)).setRow (w.heap.size + 1 + 1) (wcells (0))) (w.heap.size + 1 + 1 + 1) _ (wcells (0)) _ _ Gy.out)
  replace HB := Lib.hid (below_setRow' HB.out (show _ ≤ w.heap.size + 1 + 1 + 1 by (have := HZ.out; omega)) (wcells (0)))
  have cGn := cell_row Gn.out
  have cGd := cell_row Gd.out
  have cGx := cell_row Gx.out
  have cGy := cell_row Gy.out
  have cGa := cell_row Ga.out
  have cGb := cell_row Gb.out
  go_wp2
  exact bodyPost_ret (v := .tuple #[wv 0, wv 0, .int .i64 E]) (res_cct Try.results10 _ _ _ _ _ _ _ _ _ _ _ rfl rfl rfl Gx.out Gy.out aggW aggW) rfl ⟨rfl, HB.out⟩
set_option maxRecDepth 100000 in
set_option maxHeartbeats 2000000 in
theorem divA_yes (e g n d : Nat) (hm : mayN n d = 0) (hn : n < M) (hd : d < M) (w : World) (hE : w.heap[e]? = some (.cells #[.pointer (some ⟨g, 0, none⟩)] 92 (0, 0))) (hI : IsRom w g) (hne : e ≠ g) :
    Calls Try.prog 10 #[.pointer (some ⟨e, 0, none⟩), wv n, wv d] w fun x w' => x = .returned (.tuple #[wv (n / d), wv (n % d), .int .i64 0]) ∧ VG g w w' := by
  obtain ⟨n1, n2⟩ := gp_near hm
  have hb := (gp_bounds hm (show 5 ≤ 10 by decide)).1
  have h162 : P2 162 < M := by rw [M_eq]; exact P2_lt (by omega)
  have S1 : Hid (∀ w' : World, w'.heap[e]? = some (.cells #[.pointer (some ⟨g, 0, none⟩)] 92 (0, 0)) → IsRom w' g → Calls Try.prog 11 #[.pointer (some ⟨e, 0, none⟩), wv n, wv d, .int .i64 5] w' fun x w'' => x = .returned (.tuple #[wv (gpM n d 5), wv (gpD d 5), .int .i64 0]) ∧ VG g w' w'') := Lib.hid fun w' hE hI => pairA_yes e g n d 5 hn hd hm (by decide) w' hE hI hne
  have S2 := Lib.hid (fun w' => shr_any (gpM n d 5) (by omega) ((32 : Nat) : Int) w' (by decide) (by decide))
  rw [clampN_at (show 32 ≤ 512 by decide)] at S2
  have S3 := Lib.hid (fun w' => quotient_yes n d (gpM n d 5 / P2 32) 4 hn hd hm (near_small hm n1) (by decide) (near_4 n1 n2) w')
  obtain ⟨D, hDe⟩ : ∃ q : Nat, q = (gpM n d 5 / P2 32 - n / d) + (n / d - gpM n d 5 / P2 32) := ⟨_, rfl⟩
  rw [← hDe] at S3
  obtain ⟨G, hGe⟩ : ∃ q, q = gpM n d 5 / P2 32 := ⟨_, rfl⟩
  rw [← hGe] at S2 S3
  obtain ⟨f, hf⟩ : ∃ f, f = decide (gpM n d 5 % P2 32 ≠ 0) := ⟨_, rfl⟩
  rw [← hf] at S2
  obtain ⟨A, hA⟩ : ∃ q, q = gpM n d 5 := ⟨_, rfl⟩
  rw [← hA] at S1 S2
  obtain ⟨B, hB⟩ : ∃ q, q = gpD d 5 := ⟨_, rfl⟩
  rw [← hB] at S1
  obtain ⟨Q, hQe⟩ : ∃ q, q = n / d := ⟨_, rfl⟩
  obtain ⟨R, hRe⟩ : ∃ q, q = n % d := ⟨_, rfl⟩
  rw [← hQe, ← hRe] at S3 ⊢
  have VB := Lib.hid (VG.refl hI)
  have Ge := Lib.hid hE
  have HNE := Lib.hid hne
  clear hm hn hd hE hI hne n1 n2 hb h162 hDe hGe hf hA hB hQe hRe
  go_enter Try.func10, Try.ntmps10
  replace Ge := Lib.hid (keepAl (o' := .cells (wcells n) 24) Ge.out)
  have Gn := Lib.hid (alloc_new (w) (.cells (wcells n) 24))
  replace VB := Lib.hid (VB.out.al (.cells (wcells n) 24))
  replace Ge := Lib.hid (keepAl (o' := .cells (wcells d) 24) Ge.out)
  replace Gn := Lib.hid (keepAl (o' := .cells (wcells d) 24) Gn.out)
  have Gd := Lib.hid (alloc_new' (w := (w).alloc (.cells (wcells n) 24)) (n := w.heap.size + 1) (.cells (wcells d) 24) (by simp))
  replace VB := Lib.hid (VB.out.al (.cells (wcells d) 24))
  replace Ge := Lib.hid (keepAl (o' := .cells (wcells 0) 24) Ge.out)
  replace Gn := Lib.hid (keepAl (o' := .cells (wcells 0) 24) Gn.out)
  replace Gd := Lib.hid (keepAl (o' := .cells (wcells 0) 24) Gd.out)
  have Gx := Lib.hid (alloc_new' (w := ((w).alloc (.cells (wcells n) 24)).alloc (.cells (wcells d) 24)) (n := w.heap.size + 1 + 1) (.cells (wcells 0) 24) (by simp))
  replace VB := Lib.hid (VB.out.al (.cells (wcells 0) 24))
  replace Ge := Lib.hid (keepAl (o' := .cells (wcells 0) 24) Ge.out)
  replace Gn := Lib.hid (keepAl (o' := .cells (wcells 0) 24) Gn.out)
  replace Gd := Lib.hid (keepAl (o' := .cells (wcells 0) 24) Gd.out)
  replace Gx := Lib.hid (keepAl (o' := .cells (wcells 0) 24) Gx.out)
  have Gy := Lib.hid (alloc_new' (w := (((w).alloc (.cells (wcells n) 24)).alloc (.cells (wcells d) 24)).alloc (.cells (wcells 0) 24)) (n := w.heap.size + 1 + 1 + 1) (.cells (wcells 0) 24) (by simp))
  replace VB := Lib.hid (VB.out.al (.cells (wcells 0) 24))
  have cGe := cell_row Ge.out
  have cGn := cell_row Gn.out
  have cGd := cell_row Gd.out
  have cGx := cell_row Gx.out
  have cGy := cell_row Gy.out
  go_wp2_with fail
  refine (S1.out _ Ge.out VB.out.rom).mono ?_
  rintro e w10 ⟨rfl, hv⟩
  clear cGe cGn cGd cGx cGy
  replace Ge := Lib.hid (hv.heap Ge.out (by have := VB.out.lt; (try have := HNE.out); (try have := HZ.out); omega))
  replace Gn := Lib.hid (hv.heap Gn.out (by have := VB.out.lt; (try have := HNE.out); (try have := HZ.out); omega))
  replace Gd := Lib.hid (hv.heap Gd.out (by have := VB.out.lt; (try have := HNE.out); (try have := HZ.out); omega))
  replace Gx := Lib.hid (hv.heap Gx.out (by have := VB.out.lt; (try have := HNE.out); (try have := HZ.out); omega))
  replace Gy := Lib.hid (hv.heap Gy.out (by have := VB.out.lt; (try have := HNE.out); (try have := HZ.out); omega))
  replace VB := Lib.hid (VB.out.trans hv)
  clear hv
  have HZ := Lib.hid (lt_of_heap Gy.out)
  replace Gn := Lib.hid (keepAl (o' := .cells (wcells A) 24) Gn.out)
  replace Gd := Lib.hid (keepAl (o' := .cells (wcells A) 24) Gd.out)
  replace Gx := Lib.hid (keepAl (o' := .cells (wcells A) 24) Gx.out)
  replace Gy := Lib.hid (keepAl (o' := .cells (wcells A) 24) Gy.out)
  have Ga := Lib.hid (alloc_new (w10) (.cells (wcells A) 24))
  replace VB := Lib.hid (VB.out.al (.cells (wcells A) 24))
  replace Gn := Lib.hid (keepAl (o' := .cells (wcells B) 24) Gn.out)
  replace Gd := Lib.hid (keepAl (o' := .cells (wcells B) 24) Gd.out)
  replace Gx := Lib.hid (keepAl (o' := .cells (wcells B) 24) Gx.out)
  replace Gy := Lib.hid (keepAl (o' := .cells (wcells B) 24) Gy.out)
  replace Ga := Lib.hid (keepAl (o' := .cells (wcells B) 24) Ga.out)
  have Gb := Lib.hid (alloc_new' (w := (w10).alloc (.cells (wcells A) 24)) (n := w10.heap.size + 1) (.cells (wcells B) 24) (by simp))
  replace VB := Lib.hid (VB.out.al (.cells (wcells B) 24))
  have cGn := cell_row Gn.out
  have cGd := cell_row Gd.out
  have cGx := cell_row Gx.out
  have cGy := cell_row Gy.out
  have cGa := cell_row Ga.out
  go_wp2_with fail
  refine (S2.out _).mono ?_
  rintro e w11 ⟨rfl, hb⟩
  clear cGn cGd cGx cGy cGa
  replace VB := Lib.hid (VB.out.below hb)
  replace Gn := Lib.hid ((hb.block _ (lt_of_heap Gn.out)).trans Gn.out)
  replace Gd := Lib.hid ((hb.block _ (lt_of_heap Gd.out)).trans Gd.out)
  replace Gx := Lib.hid ((hb.block _ (lt_of_heap Gx.out)).trans Gx.out)
  replace Gy := Lib.hid ((hb.block _ (lt_of_heap Gy.out)).trans Gy.out)
  replace Ga := Lib.hid ((hb.block _ (lt_of_heap Ga.out)).trans Ga.out)
  clear hb
  replace Gn := Lib.hid (keepAl (o' := .cells (wcells G) 24) Gn.out)
  replace Gd := Lib.hid (keepAl (o' := .cells (wcells G) 24) Gd.out)
  replace Gx := Lib.hid (keepAl (o' := .cells (wcells G) 24) Gx.out)
  replace Gy := Lib.hid (keepAl (o' := .cells (wcells G) 24) Gy.out)
  have Gz := Lib.hid (alloc_new (w11) (.cells (wcells G) 24))
  replace VB := Lib.hid (VB.out.al (.cells (wcells G) 24))
  have cGn := cell_row Gn.out
  have cGd := cell_row Gd.out
  have cGx := cell_row Gx.out
  have cGy := cell_row Gy.out
  have cGz := cell_row Gz.out
  go_wp2_with fail
  refine (S3.out _).mono ?_
  rintro e w12 ⟨rfl, hb⟩
  clear cGn cGd cGx cGy cGz
  replace VB := Lib.hid (VB.out.below hb)
  replace Gn := Lib.hid ((hb.block _ (lt_of_heap Gn.out)).trans Gn.out)
  replace Gd := Lib.hid ((hb.block _ (lt_of_heap Gd.out)).trans Gd.out)
  replace Gx := Lib.hid ((hb.block _ (lt_of_heap Gx.out)).trans Gx.out)
  replace Gy := Lib.hid ((hb.block _ (lt_of_heap Gy.out)).trans Gy.out)
  replace Gz := Lib.hid ((hb.block _ (lt_of_heap Gz.out)).trans Gz.out)
  clear hb
  have HZ2 := Lib.hid (lt_of_heap Gy.out)
  replace Gx := Lib.hid (keepAl (o' := .cells (wcells Q) 24) Gx.out)
  replace Gy := Lib.hid (keepAl (o' := .cells (wcells Q) 24) Gy.out)
  have Gq := Lib.hid (alloc_new (w12) (.cells (wcells Q) 24))
  replace VB := Lib.hid (VB.out.al (.cells (wcells Q) 24))
  replace Gx := Lib.hid (keepAl (o' := .cells (wcells R) 24) Gx.out)
  replace Gy := Lib.hid (keepAl (o' := .cells (wcells R) 24) Gy.out)
  replace Gq := Lib.hid (keepAl (o' := .cells (wcells R) 24) Gq.out)
  have Gr := Lib.hid (alloc_new' (w := (w12).alloc (.cells (wcells Q) 24)) (n := w12.heap.size + 1) (.cells (wcells R) 24) (by simp))
  replace VB := Lib.hid (VB.out.al (.cells (wcells R) 24))
  have cGx := cell_row Gx.out
  have cGy := cell_row Gy.out
  have cGq := cell_row Gq.out
  have cGr := cell_row Gr.out
  go_upto_region 6 with fail
  clear cGx cGy cGq cGr
  obtain ⟨w13, hw⟩ : ∃ wx, wx = ((w12).alloc (.cells (wcells Q) 24)).alloc (.cells (wcells R) 24) := ⟨_, rfl⟩
  rw [← hw] at Gx Gy Gq Gr VB ⊢
  clear hw
  refine wp_region_store [⟨w.heap.size + 1 + 1, 24, .tmp 44⟩, ⟨w.heap.size + 1 + 1 + 1, 24, .tmp 45⟩] (by kernel_rfl) (by kernel_rfl) (by kernel_rfl) rfl (List.Pairwise.cons (by intro r hr; simp only [List.mem_cons, List.not_mem_nil, or_false] at hr; subst hr <;> dsimp only <;> (have := HZ.out; have := HZ2.out; omega)) (List.pairwise_singleton _ _)) ?_ ?_
  · intro r hr
    simp only [List.mem_cons, List.not_mem_nil, or_false] at hr
    rcases hr with rfl | rfl
    · exact ⟨_, Gx.out, by kernel_rfl⟩
    · exact ⟨_, Gy.out, by kernel_rfl⟩
  have xGq := extR_row (B := w13.heap.size) (R := [⟨w.heap.size + 1 + 1, 24, .tmp 44⟩, ⟨w.heap.size + 1 + 1 + 1, 24, .tmp 45⟩]) Gq.out (lt_of_heap Gq.out) (by intro r hr; simp only [List.mem_cons, List.not_mem_nil, or_false] at hr; rcases hr with rfl | rfl <;> dsimp only <;> (have := HZ.out; have := HZ2.out; omega))
  have xGr := extR_row (B := w13.heap.size) (R := [⟨w.heap.size + 1 + 1, 24, .tmp 44⟩, ⟨w.heap.size + 1 + 1 + 1, 24, .tmp 45⟩]) Gr.out (lt_of_heap Gr.out) (by intro r hr; simp only [List.mem_cons, List.not_mem_nil, or_false] at hr; rcases hr with rfl | rfl <;> dsimp only <;> (have := HZ.out; have := HZ2.out; omega))
  repeat (refine wpCalm_step (fun K hK => ?_); go_simp; first | (refine hK _ ?_; clear hK K) | (apply Exists.intro; refine ⟨fun _ => ?_, hK _ ?_⟩; (first | fail); clear hK K))
  refine wpCalm_nil ⟨?_, fun x hx => ?_⟩
  · intro r hr
    simp only [List.mem_cons, List.not_mem_nil, or_false] at hr
    rcases hr with rfl | rfl <;> exact fits_wv (by kernel_rfl) _
  replace Gx : Hid (x.val.heap[w.heap.size + 1 + 1]? = some (.cells (wcells (Q)) 24 (0, 0))) := Lib.hid (hx ⟨w.heap.size + 1 + 1, 24, .tmp 44⟩ (by simp))
  replace Gy : Hid (x.val.heap[w.heap.size + 1 + 1 + 1]? = some (.cells (wcells (R)) 24 (0, 0))) := Lib.hid (hx ⟨w.heap.size + 1 + 1 + 1, 24, .tmp 45⟩ (by simp))
  replace Gq := Lib.hid (extR_block x Gq.out (lt_of_heap Gq.out) (by intro r hr; simp only [List.mem_cons, List.not_mem_nil, or_false] at hr; rcases hr with rfl | rfl <;> dsimp only <;> (have := HZ.out; have := HZ2.out; omega)))
  replace Gr := Lib.hid (extR_block x Gr.out (lt_of_heap Gr.out) (by intro r hr; simp only [List.mem_cons, List.not_mem_nil, or_false] at hr; rcases hr with rfl | rfl <;> dsimp only <;> (have := HZ.out; have := HZ2.out; omega)))
  replace VB := Lib.hid (VB.out.extR x (by intro r hr; simp only [List.mem_cons, List.not_mem_nil, or_false] at hr; rcases hr with rfl | rfl <;> dsimp only <;> (have := HZ.out; have := HZ2.out; omega)))
  clear hx xGq xGr
  obtain ⟨w14, hw⟩ : ∃ wx, wx = x.val := ⟨_, rfl⟩
  rw [← hw] at Gx Gy Gq Gr VB ⊢
  clear hw x
  have cGx := cell_row Gx.out
  have cGy := cell_row Gy.out
  have cGq := cell_row Gq.out
  have cGr := cell_row Gr.out
  go_wp2
  exact bodyPost_ret (v := .tuple #[wv Q, wv R, .int .i64 0]) (res_cct Try.results10 _ _ _ _ _ _ _ _ _ _ _ rfl rfl rfl Gx.out Gy.out aggW aggW) rfl ⟨rfl, VB.out⟩
theorem divA_w (e g n d : Nat) (hn : n < M) (hd : d < M) (w : World) (hE : w.heap[e]? = some (.cells #[.pointer (some ⟨g, 0, none⟩)] 92 (0, 0))) (hI : IsRom w g) (hne : e ≠ g) :
    Calls Try.prog 10 #[.pointer (some ⟨e, 0, none⟩), wv n, wv d] w fun x w' => x = .returned (.tuple #[wv (dvQ n d), wv (dvR n d), .int .i64 (mayN n d)]) ∧ VG g w w' := by
  by_cases hm : mayN n d = 0
  · obtain ⟨e1, e2⟩ := dv_yes hm
    rw [e1, e2, hm]
    exact divA_yes e g n d hm hn hd w hE hI hne
  · obtain ⟨e1, e2⟩ := dv_no hm
    rw [e1, e2]
    have hg : gpE n d 5 = mayN n d := by unfold gpE; rw [if_neg (by decide)]
    refine (divA_no (.pointer (some ⟨e, 0, none⟩)) n d _ hm (fun w' => ?_) w).mono fun _ _ ⟨h1, h2⟩ => ⟨h1, (VG.refl hI).below h2⟩
    have := pairA_no e n d 5 hn hd (by rw [hg]; exact hm) w'
    rwa [hg] at this
set_option maxRecDepth 100000 in
theorem newA_nil (w : World) : Calls Try.prog 33 #[.pointer none] w fun x w' => ∃ e g, x = .returned (.pointer (some ⟨e, 0, none⟩)) ∧ IsEng 92 w.heap.size e g w' ∧ Below w.heap.size w w' := by
  have S0 := Lib.hid (fun w' => romNew_any w')
  go_enter Try.func33, Try.ntmps33
  go_wp2_with fail
  refine (S0.out _).mono ?_
  rintro x w1 ⟨rfl, hn, hb⟩
  have HN := Lib.hid hn
  have HB := Lib.hid hb
  clear hn hb
  go_wp2
  go_ret
  have h1 := HN.out.lt
  exact ⟨_, _, rfl, ⟨alloc_new _ _, (show IsRom w1 w.heap.size from Or.inl HN.out).keep (alloc_old _ _ _ h1), by omega, by omega, Nat.le_refl _⟩, below_al HB _⟩
set_option maxRecDepth 100000 in
theorem newA_at (g : Nat) (w : World) (h : IsRom w g) : Calls Try.prog 33 #[.pointer (some ⟨g, 0, none⟩)] w fun x w' => x = .returned (.pointer (some ⟨w.heap.size, 0, none⟩)) ∧ w'.heap[w.heap.size]? = some (.cells #[.pointer (some ⟨g, 0, none⟩)] 92 (0, 0)) ∧ IsRom w' g ∧ Below w.heap.size w w' := by
  have HN := Lib.hid h
  clear h
  go_enter Try.func33, Try.ntmps33
  go_wp2
  go_ret
  exact ⟨rfl, alloc_new _ _, HN.out.keep (alloc_old _ _ _ HN.out.lt), below_al (Lib.hid (Below.refl _ _)) _⟩
end Go.Proofs.Ytegmmaaapdgocaa
