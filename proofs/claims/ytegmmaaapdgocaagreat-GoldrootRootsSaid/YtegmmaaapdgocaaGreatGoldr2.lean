/- THE WALKS of goldroot, going on: pairs, or why there are none; roots; an engine made. -/
import Derived.Test.YtegmmaaapdgocaaGreatGoldr
namespace Go.Proofs.YtegmmaaapdgocaaGreat
open Go Go.RowKit

/-- Why there is no pair. -/
def grE (n : Nat) (k : Int) : Int := if k < 0 ∨ 10 < k ∨ ¬ n < P2 256 then 4 else if n = 0 then 5 else 0
attribute [local go_sem ↓] Go.wp_at_zero Go.wp_at_succ
set_option maxRecDepth 100000 in
set_option maxHeartbeats 2000000 in
theorem pairB_nil (n : Nat) (k : Int) (hn : n < M) (w : World) :
    Calls Tryz.prog 39 #[.pointer none, wv n, .int .i64 k] w fun x w' => x = .returned (.tuple #[wv 0, wv 0, .int .i64 6]) ∧ Below w.heap.size w w' := by
  obtain ⟨U, b, hN⟩ := normS_some n hn
  have SN := Lib.hid hN
  obtain ⟨ok, hok⟩ : ∃ x, x = decide (n ≠ 0 ∧ n < P2 256) := ⟨_, rfl⟩
  rw [← hok] at SN
  clear hN hn hok
  go_enter Tryz.func39, Tryz.ntmps39
  have HB := Lib.hid (Below.refl w.heap.size w)
  have Gn := Lib.hid (alloc_new (w) (.cells (wcells n) 24))
  replace HB := Lib.hid (below_al HB.out (.cells (wcells n) 24))
  replace Gn := Lib.hid (keepAl (o' := .cells (wcells 0) 24) Gn.out)
  have Gx := Lib.hid (alloc_new' (w := (w).alloc (.cells (wcells n) 24)) (n := w.heap.size + 1) (.cells (wcells 0) 24) (by simp))
  replace HB := Lib.hid (below_al HB.out (.cells (wcells 0) 24))
  replace Gn := Lib.hid (keepAl (o' := .cells (wcells 0) 24) Gn.out)
  replace Gx := Lib.hid (keepAl (o' := .cells (wcells 0) 24) Gx.out)
  have Gy := Lib.hid (alloc_new' (w := ((w).alloc (.cells (wcells n) 24)).alloc (.cells (wcells 0) 24)) (n := w.heap.size + 1 + 1) (.cells (wcells 0) 24) (by simp))
  replace HB := Lib.hid (below_al HB.out (.cells (wcells 0) 24))
  have cGn := cell_row Gn.out
  have cGx := cell_row Gx.out
  have cGy := cell_row Gy.out
  go_wp2_with fail
  refine (SN.out _).mono ?_
  rintro e w1 ⟨rfl, hb⟩
  clear cGn cGx cGy
  replace HB := Lib.hid (below_then HB.out hb)
  replace Gn := Lib.hid ((hb.block _ (lt_of_heap Gn.out)).trans Gn.out)
  replace Gx := Lib.hid ((hb.block _ (lt_of_heap Gx.out)).trans Gx.out)
  replace Gy := Lib.hid ((hb.block _ (lt_of_heap Gy.out)).trans Gy.out)
  clear hb
  have HZ := Lib.hid (lt_of_heap Gy.out)
  replace Gn := Lib.hid (keepAl (o' := .cells (wcells U) 24) Gn.out)
  replace Gx := Lib.hid (keepAl (o' := .cells (wcells U) 24) Gx.out)
  replace Gy := Lib.hid (keepAl (o' := .cells (wcells U) 24) Gy.out)
  have Gu := Lib.hid (alloc_new (w1) (.cells (wcells U) 24))
  replace HB := Lib.hid (below_al HB.out (.cells (wcells U) 24))
  have stx := st_row (P := Tryz.prog) Gx.out rfl (0)
  replace Gn := Lib.hid ((setRow_other ((w1).alloc (.cells (wcells U) 24)) (w.heap.size + 1) _ (wcells (0)) (by (have := HZ.out; omega))).trans Gn.out)
  replace Gy := Lib.hid ((setRow_other ((w1).alloc (.cells (wcells U) 24)) (w.heap.size + 1) _ (wcells (0)) (by (have := HZ.out; omega))).trans Gy.out)
  replace Gu := Lib.hid ((setRow_other ((w1).alloc (.cells (wcells U) 24)) (w.heap.size + 1) _ (wcells (0)) (by (have := HZ.out; omega))).trans Gu.out)
  replace Gx := Lib.hid (setRow_heap ((w1).alloc (.cells (wcells U) 24)) (w.heap.size + 1) _ (wcells (0)) _ _ Gx.out)
  replace HB := Lib.hid (below_setRow' HB.out (show _ ≤ w.heap.size + 1 by (have := HZ.out; omega)) (wcells (0)))
  have q1 := stx
  clear stx
  have sty := st_row (P := Tryz.prog) Gy.out rfl (0)
  replace Gn := Lib.hid ((setRow_other (((w1).alloc (.cells (wcells U) 24)).setRow (w.heap.size + 1) (wcells (0))) (w.heap.size + 1 + 1) _ (wcells (0)) (by (have := HZ.out; omega))).trans Gn.out)
  replace Gx := Lib.hid ((setRow_other (((w1).alloc (.cells (wcells U) 24)).setRow (w.heap.size + 1) (wcells (0))) (w.heap.size + 1 + 1) _ (wcells (0)) (by (have := HZ.out; omega))).trans Gx.out)
  replace Gu := Lib.hid ((setRow_other (((w1).alloc (.cells (wcells U) 24)).setRow (w.heap.size + 1) (wcells (0))) (w.heap.size + 1 + 1) _ (wcells (0)) (by (have := HZ.out; omega))).trans Gu.out)
  replace Gy := Lib.hid (setRow_heap (((w1).alloc (.cells (wcells U) 24)).setRow (w.heap.size + 1) (wcells (0))) (w.heap.size + 1 + 1) _ (wcells (0)) _ _ Gy.out)
  replace HB := Lib.hid (below_setRow' HB.out (show _ ≤ w.heap.size + 1 + 1 by (have := HZ.out; omega)) (wcells (0)))
  have cGn := cell_row Gn.out
  have cGx := cell_row Gx.out
  have cGy := cell_row Gy.out
  have cGu := cell_row Gu.out
  go_wp2
  exact bodyPost_ret (v := .tuple #[wv 0, wv 0, .int .i64 6]) (res_cct Tryz.results39 _ _ _ _ _ _ _ _ _ _ _ rfl rfl rfl Gx.out Gy.out aggW aggW) rfl ⟨rfl, HB.out⟩
set_option maxRecDepth 100000 in
set_option maxHeartbeats 2000000 in
theorem pairB_no (e n : Nat) (k : Int) (hn : n < M) (hE : grE n k ≠ 0) (w : World) :
    Calls Tryz.prog 39 #[.pointer (some ⟨e, 0, none⟩), wv n, .int .i64 k] w fun x w' => x = .returned (.tuple #[wv 0, wv 0, .int .i64 (grE n k)]) ∧ Below w.heap.size w w' := by
  have SL := Lib.hid (fun w' => len_w n hn w')
  have hq : blen n ≤ 256 ↔ n < P2 256 := blen_256
  obtain ⟨l, hl⟩ : ∃ l, l = blen n := ⟨_, rfl⟩
  rw [← hl] at SL hq
  obtain ⟨U, b, hN⟩ := normS_some n hn
  have SN := Lib.hid hN
  unfold grE at hE ⊢
  obtain ⟨ok, hok⟩ : ∃ x, x = decide (n ≠ 0 ∧ n < P2 256) := ⟨_, rfl⟩
  rw [← hok] at SN
  by_cases c0 : k < 0
  · have b0 : decide (k < 0) = true := decide_eq_true c0
    rw [if_pos (Or.inl c0)]
    clear hn hN hE hq hl hok c0 SL
    go_enter Tryz.func39, Tryz.ntmps39
    have HB := Lib.hid (Below.refl w.heap.size w)
    have Gn := Lib.hid (alloc_new (w) (.cells (wcells n) 24))
    replace HB := Lib.hid (below_al HB.out (.cells (wcells n) 24))
    replace Gn := Lib.hid (keepAl (o' := .cells (wcells 0) 24) Gn.out)
    have Gx := Lib.hid (alloc_new' (w := (w).alloc (.cells (wcells n) 24)) (n := w.heap.size + 1) (.cells (wcells 0) 24) (by simp))
    replace HB := Lib.hid (below_al HB.out (.cells (wcells 0) 24))
    replace Gn := Lib.hid (keepAl (o' := .cells (wcells 0) 24) Gn.out)
    replace Gx := Lib.hid (keepAl (o' := .cells (wcells 0) 24) Gx.out)
    have Gy := Lib.hid (alloc_new' (w := ((w).alloc (.cells (wcells n) 24)).alloc (.cells (wcells 0) 24)) (n := w.heap.size + 1 + 1) (.cells (wcells 0) 24) (by simp))
    replace HB := Lib.hid (below_al HB.out (.cells (wcells 0) 24))
    have cGn := cell_row Gn.out
    have cGx := cell_row Gx.out
    have cGy := cell_row Gy.out
    go_wp2_with fail
    refine (SN.out _).mono ?_
    rintro e w2 ⟨rfl, hb⟩
    clear cGn cGx cGy
    replace HB := Lib.hid (below_then HB.out hb)
    replace Gn := Lib.hid ((hb.block _ (lt_of_heap Gn.out)).trans Gn.out)
    replace Gx := Lib.hid ((hb.block _ (lt_of_heap Gx.out)).trans Gx.out)
    replace Gy := Lib.hid ((hb.block _ (lt_of_heap Gy.out)).trans Gy.out)
    clear hb
    have HZ := Lib.hid (lt_of_heap Gy.out)
    replace Gn := Lib.hid (keepAl (o' := .cells (wcells U) 24) Gn.out)
    replace Gx := Lib.hid (keepAl (o' := .cells (wcells U) 24) Gx.out)
    replace Gy := Lib.hid (keepAl (o' := .cells (wcells U) 24) Gy.out)
    have Gu := Lib.hid (alloc_new (w2) (.cells (wcells U) 24))
    replace HB := Lib.hid (below_al HB.out (.cells (wcells U) 24))
    have stx := st_row (P := Tryz.prog) Gx.out rfl (0)
    replace Gn := Lib.hid ((setRow_other ((w2).alloc (.cells (wcells U) 24)) (w.heap.size + 1) _ (wcells (0)) (by (have := HZ.out; omega))).trans Gn.out)
    replace Gy := Lib.hid ((setRow_other ((w2).alloc (.cells (wcells U) 24)) (w.heap.size + 1) _ (wcells (0)) (by (have := HZ.out; omega))).trans Gy.out)
    replace Gu := Lib.hid ((setRow_other ((w2).alloc (.cells (wcells U) 24)) (w.heap.size + 1) _ (wcells (0)) (by (have := HZ.out; omega))).trans Gu.out)
    replace Gx := Lib.hid (setRow_heap ((w2).alloc (.cells (wcells U) 24)) (w.heap.size + 1) _ (wcells (0)) _ _ Gx.out)
    replace HB := Lib.hid (below_setRow' HB.out (show _ ≤ w.heap.size + 1 by (have := HZ.out; omega)) (wcells (0)))
    have q1 := stx
    clear stx
    have sty := st_row (P := Tryz.prog) Gy.out rfl (0)
    replace Gn := Lib.hid ((setRow_other (((w2).alloc (.cells (wcells U) 24)).setRow (w.heap.size + 1) (wcells (0))) (w.heap.size + 1 + 1) _ (wcells (0)) (by (have := HZ.out; omega))).trans Gn.out)
    replace Gx := Lib.hid ((setRow_other (((w2).alloc (.cells (wcells U) 24)).setRow (w.heap.size + 1) (wcells (0))) (w.heap.size + 1 + 1) _ (wcells (0)) (by (have := HZ.out; omega))).trans Gx.out)
    replace Gu := Lib.hid ((setRow_other (((w2).alloc (.cells (wcells U) 24)).setRow (w.heap.size + 1) (wcells (0))) (w.heap.size + 1 + 1) _ (wcells (0)) (by (have := HZ.out; omega))).trans Gu.out)
    replace Gy := Lib.hid (setRow_heap (((w2).alloc (.cells (wcells U) 24)).setRow (w.heap.size + 1) (wcells (0))) (w.heap.size + 1 + 1) _ (wcells (0)) _ _ Gy.out)
    replace HB := Lib.hid (below_setRow' HB.out (show _ ≤ w.heap.size + 1 + 1 by (have := HZ.out; omega)) (wcells (0)))
    have cGn := cell_row Gn.out
    have cGx := cell_row Gx.out
    have cGy := cell_row Gy.out
    have cGu := cell_row Gu.out
    go_wp2
    exact bodyPost_ret (v := .tuple #[wv 0, wv 0, .int .i64 4]) (res_cct Tryz.results39 _ _ _ _ _ _ _ _ _ _ _ rfl rfl rfl Gx.out Gy.out aggW aggW) rfl ⟨rfl, HB.out⟩
  · have b0 : decide (k < 0) = false := decide_eq_false c0
    by_cases c1 : 10 < k
    · have b1 : decide (10 < k) = true := decide_eq_true c1
      rw [if_pos (Or.inr (Or.inl c1))]
      clear hn hN hE hq hl hok c0 c1 SL
      go_enter Tryz.func39, Tryz.ntmps39
      have HB := Lib.hid (Below.refl w.heap.size w)
      have Gn := Lib.hid (alloc_new (w) (.cells (wcells n) 24))
      replace HB := Lib.hid (below_al HB.out (.cells (wcells n) 24))
      replace Gn := Lib.hid (keepAl (o' := .cells (wcells 0) 24) Gn.out)
      have Gx := Lib.hid (alloc_new' (w := (w).alloc (.cells (wcells n) 24)) (n := w.heap.size + 1) (.cells (wcells 0) 24) (by simp))
      replace HB := Lib.hid (below_al HB.out (.cells (wcells 0) 24))
      replace Gn := Lib.hid (keepAl (o' := .cells (wcells 0) 24) Gn.out)
      replace Gx := Lib.hid (keepAl (o' := .cells (wcells 0) 24) Gx.out)
      have Gy := Lib.hid (alloc_new' (w := ((w).alloc (.cells (wcells n) 24)).alloc (.cells (wcells 0) 24)) (n := w.heap.size + 1 + 1) (.cells (wcells 0) 24) (by simp))
      replace HB := Lib.hid (below_al HB.out (.cells (wcells 0) 24))
      have cGn := cell_row Gn.out
      have cGx := cell_row Gx.out
      have cGy := cell_row Gy.out
      go_wp2_with fail
      refine (SN.out _).mono ?_
      rintro e w3 ⟨rfl, hb⟩
      clear cGn cGx cGy
      replace HB := Lib.hid (below_then HB.out hb)
      replace Gn := Lib.hid ((hb.block _ (lt_of_heap Gn.out)).trans Gn.out)
      replace Gx := Lib.hid ((hb.block _ (lt_of_heap Gx.out)).trans Gx.out)
      replace Gy := Lib.hid ((hb.block _ (lt_of_heap Gy.out)).trans Gy.out)
      clear hb
      have HZ := Lib.hid (lt_of_heap Gy.out)
      replace Gn := Lib.hid (keepAl (o' := .cells (wcells U) 24) Gn.out)
      replace Gx := Lib.hid (keepAl (o' := .cells (wcells U) 24) Gx.out)
      replace Gy := Lib.hid (keepAl (o' := .cells (wcells U) 24) Gy.out)
      have Gu := Lib.hid (alloc_new (w3) (.cells (wcells U) 24))
      replace HB := Lib.hid (below_al HB.out (.cells (wcells U) 24))
      have stx := st_row (P := Tryz.prog) Gx.out rfl (0)
      replace Gn := Lib.hid ((setRow_other ((w3).alloc (.cells (wcells U) 24)) (w.heap.size + 1) _ (wcells (0)) (by (have := HZ.out; omega))).trans Gn.out)
      replace Gy := Lib.hid ((setRow_other ((w3).alloc (.cells (wcells U) 24)) (w.heap.size + 1) _ (wcells (0)) (by (have := HZ.out; omega))).trans Gy.out)
      replace Gu := Lib.hid ((setRow_other ((w3).alloc (.cells (wcells U) 24)) (w.heap.size + 1) _ (wcells (0)) (by (have := HZ.out; omega))).trans Gu.out)
      replace Gx := Lib.hid (setRow_heap ((w3).alloc (.cells (wcells U) 24)) (w.heap.size + 1) _ (wcells (0)) _ _ Gx.out)
      replace HB := Lib.hid (below_setRow' HB.out (show _ ≤ w.heap.size + 1 by (have := HZ.out; omega)) (wcells (0)))
      have q1 := stx
      clear stx
      have sty := st_row (P := Tryz.prog) Gy.out rfl (0)
      replace Gn := Lib.hid ((setRow_other (((w3).alloc (.cells (wcells U) 24)).setRow (w.heap.size + 1) (wcells (0))) (w.heap.size + 1 + 1) _ (wcells (0)) (by (have := HZ.out; omega))).trans Gn.out)
      replace Gx := Lib.hid ((setRow_other (((w3).alloc (.cells (wcells U) 24)).setRow (w.heap.size + 1) (wcells (0))) (w.heap.size + 1 + 1) _ (wcells (0)) (by (have := HZ.out; omega))).trans Gx.out)
      replace Gu := Lib.hid ((setRow_other (((w3).alloc (.cells (wcells U) 24)).setRow (w.heap.size + 1) (wcells (0))) (w.heap.size + 1 + 1) _ (wcells (0)) (by (have := HZ.out; omega))).trans Gu.out)
      replace Gy := Lib.hid (setRow_heap (((w3).alloc (.cells (wcells U) 24)).setRow (w.heap.size + 1) (wcells (0))) (w.heap.size + 1 + 1) _ (wcells (0)) _ _ Gy.out)
      replace HB := Lib.hid (below_setRow' HB.out (show _ ≤ w.heap.size + 1 + 1 by (have := HZ.out; omega)) (wcells (0)))
      have cGn := cell_row Gn.out
      have cGx := cell_row Gx.out
      have cGy := cell_row Gy.out
      have cGu := cell_row Gu.out
      go_wp2
      exact bodyPost_ret (v := .tuple #[wv 0, wv 0, .int .i64 4]) (res_cct Tryz.results39 _ _ _ _ _ _ _ _ _ _ _ rfl rfl rfl Gx.out Gy.out aggW aggW) rfl ⟨rfl, HB.out⟩
    · have b1 : decide (10 < k) = false := decide_eq_false c1
      by_cases c2 : n < P2 256
      · have b2 : decide ((256 : Int) < (l : Int)) = false := decide_eq_false (by have := hq.2 c2; omega)
        rw [if_neg (by omega)] at hE ⊢
        have h0 : n = 0 := by
          by_cases h0 : n = 0
          · exact h0
          · rw [if_neg h0] at hE; exact absurd rfl hE
        rw [if_pos h0]
        obtain rfl : ok = false := by rw [hok]; exact decide_eq_false fun h => h.1 h0
        clear hn hN hE hq hl hok c0 c1 c2 h0
        go_enter Tryz.func39, Tryz.ntmps39
        have HB := Lib.hid (Below.refl w.heap.size w)
        have Gn := Lib.hid (alloc_new (w) (.cells (wcells n) 24))
        replace HB := Lib.hid (below_al HB.out (.cells (wcells n) 24))
        replace Gn := Lib.hid (keepAl (o' := .cells (wcells 0) 24) Gn.out)
        have Gx := Lib.hid (alloc_new' (w := (w).alloc (.cells (wcells n) 24)) (n := w.heap.size + 1) (.cells (wcells 0) 24) (by simp))
        replace HB := Lib.hid (below_al HB.out (.cells (wcells 0) 24))
        replace Gn := Lib.hid (keepAl (o' := .cells (wcells 0) 24) Gn.out)
        replace Gx := Lib.hid (keepAl (o' := .cells (wcells 0) 24) Gx.out)
        have Gy := Lib.hid (alloc_new' (w := ((w).alloc (.cells (wcells n) 24)).alloc (.cells (wcells 0) 24)) (n := w.heap.size + 1 + 1) (.cells (wcells 0) 24) (by simp))
        replace HB := Lib.hid (below_al HB.out (.cells (wcells 0) 24))
        have cGn := cell_row Gn.out
        have cGx := cell_row Gx.out
        have cGy := cell_row Gy.out
        go_wp2_with fail
        refine (SN.out _).mono ?_
        rintro e w4 ⟨rfl, hb⟩
        clear cGn cGx cGy
        replace HB := Lib.hid (below_then HB.out hb)
        replace Gn := Lib.hid ((hb.block _ (lt_of_heap Gn.out)).trans Gn.out)
        replace Gx := Lib.hid ((hb.block _ (lt_of_heap Gx.out)).trans Gx.out)
        replace Gy := Lib.hid ((hb.block _ (lt_of_heap Gy.out)).trans Gy.out)
        clear hb
        have HZ := Lib.hid (lt_of_heap Gy.out)
        replace Gn := Lib.hid (keepAl (o' := .cells (wcells U) 24) Gn.out)
        replace Gx := Lib.hid (keepAl (o' := .cells (wcells U) 24) Gx.out)
        replace Gy := Lib.hid (keepAl (o' := .cells (wcells U) 24) Gy.out)
        have Gu := Lib.hid (alloc_new (w4) (.cells (wcells U) 24))
        replace HB := Lib.hid (below_al HB.out (.cells (wcells U) 24))
        have cGn := cell_row Gn.out
        have cGx := cell_row Gx.out
        have cGy := cell_row Gy.out
        have cGu := cell_row Gu.out
        go_wp2_with fail
        refine (SL.out _).mono ?_
        rintro e w5 ⟨rfl, hb⟩
        clear cGn cGx cGy cGu
        replace HB := Lib.hid (below_then HB.out hb)
        replace Gn := Lib.hid ((hb.block _ (lt_of_heap Gn.out)).trans Gn.out)
        replace Gx := Lib.hid ((hb.block _ (lt_of_heap Gx.out)).trans Gx.out)
        replace Gy := Lib.hid ((hb.block _ (lt_of_heap Gy.out)).trans Gy.out)
        replace Gu := Lib.hid ((hb.block _ (lt_of_heap Gu.out)).trans Gu.out)
        clear hb
        have stx := st_row (P := Tryz.prog) Gx.out rfl (0)
        replace Gn := Lib.hid ((setRow_other (w5) (w.heap.size + 1) _ (wcells (0)) (by (have := HZ.out; omega))).trans Gn.out)
        replace Gy := Lib.hid ((setRow_other (w5) (w.heap.size + 1) _ (wcells (0)) (by (have := HZ.out; omega))).trans Gy.out)
        replace Gu := Lib.hid ((setRow_other (w5) (w.heap.size + 1) _ (wcells (0)) (by (have := HZ.out; omega))).trans Gu.out)
        replace Gx := Lib.hid (setRow_heap (w5) (w.heap.size + 1) _ (wcells (0)) _ _ Gx.out)
        replace HB := Lib.hid (below_setRow' HB.out (show _ ≤ w.heap.size + 1 by (have := HZ.out; omega)) (wcells (0)))
        have q1 := stx
        clear stx
        have sty := st_row (P := Tryz.prog) Gy.out rfl (0)
        replace Gn := Lib.hid ((setRow_other ((w5).setRow (w.heap.size + 1) (wcells (0))) (w.heap.size + 1 + 1) _ (wcells (0)) (by (have := HZ.out; omega))).trans Gn.out)
        replace Gx := Lib.hid ((setRow_other ((w5).setRow (w.heap.size + 1) (wcells (0))) (w.heap.size + 1 + 1) _ (wcells (0)) (by (have := HZ.out; omega))).trans Gx.out)
        replace Gu := Lib.hid ((setRow_other ((w5).setRow (w.heap.size + 1) (wcells (0))) (w.heap.size + 1 + 1) _ (wcells (0)) (by (have := HZ.out; omega))).trans Gu.out)
        replace Gy := Lib.hid (setRow_heap ((w5).setRow (w.heap.size + 1) (wcells (0))) (w.heap.size + 1 + 1) _ (wcells (0)) _ _ Gy.out)
        replace HB := Lib.hid (below_setRow' HB.out (show _ ≤ w.heap.size + 1 + 1 by (have := HZ.out; omega)) (wcells (0)))
        have cGn := cell_row Gn.out
        have cGx := cell_row Gx.out
        have cGy := cell_row Gy.out
        have cGu := cell_row Gu.out
        go_wp2
        exact bodyPost_ret (v := .tuple #[wv 0, wv 0, .int .i64 5]) (res_cct Tryz.results39 _ _ _ _ _ _ _ _ _ _ _ rfl rfl rfl Gx.out Gy.out aggW aggW) rfl ⟨rfl, HB.out⟩
      · have b2 : decide ((256 : Int) < (l : Int)) = true := decide_eq_true (by have : ¬ l ≤ 256 := fun hh => c2 (hq.1 hh); omega)
        rw [if_pos (Or.inr (Or.inr c2))]
        clear hn hN hE hq hl hok c0 c1 c2
        go_enter Tryz.func39, Tryz.ntmps39
        have HB := Lib.hid (Below.refl w.heap.size w)
        have Gn := Lib.hid (alloc_new (w) (.cells (wcells n) 24))
        replace HB := Lib.hid (below_al HB.out (.cells (wcells n) 24))
        replace Gn := Lib.hid (keepAl (o' := .cells (wcells 0) 24) Gn.out)
        have Gx := Lib.hid (alloc_new' (w := (w).alloc (.cells (wcells n) 24)) (n := w.heap.size + 1) (.cells (wcells 0) 24) (by simp))
        replace HB := Lib.hid (below_al HB.out (.cells (wcells 0) 24))
        replace Gn := Lib.hid (keepAl (o' := .cells (wcells 0) 24) Gn.out)
        replace Gx := Lib.hid (keepAl (o' := .cells (wcells 0) 24) Gx.out)
        have Gy := Lib.hid (alloc_new' (w := ((w).alloc (.cells (wcells n) 24)).alloc (.cells (wcells 0) 24)) (n := w.heap.size + 1 + 1) (.cells (wcells 0) 24) (by simp))
        replace HB := Lib.hid (below_al HB.out (.cells (wcells 0) 24))
        have cGn := cell_row Gn.out
        have cGx := cell_row Gx.out
        have cGy := cell_row Gy.out
        go_wp2_with fail
        refine (SN.out _).mono ?_
        rintro e w6 ⟨rfl, hb⟩
        clear cGn cGx cGy
        replace HB := Lib.hid (below_then HB.out hb)
        replace Gn := Lib.hid ((hb.block _ (lt_of_heap Gn.out)).trans Gn.out)
        replace Gx := Lib.hid ((hb.block _ (lt_of_heap Gx.out)).trans Gx.out)
        replace Gy := Lib.hid ((hb.block _ (lt_of_heap Gy.out)).trans Gy.out)
        clear hb
        have HZ := Lib.hid (lt_of_heap Gy.out)
        replace Gn := Lib.hid (keepAl (o' := .cells (wcells U) 24) Gn.out)
        replace Gx := Lib.hid (keepAl (o' := .cells (wcells U) 24) Gx.out)
        replace Gy := Lib.hid (keepAl (o' := .cells (wcells U) 24) Gy.out)
        have Gu := Lib.hid (alloc_new (w6) (.cells (wcells U) 24))
        replace HB := Lib.hid (below_al HB.out (.cells (wcells U) 24))
        have cGn := cell_row Gn.out
        have cGx := cell_row Gx.out
        have cGy := cell_row Gy.out
        have cGu := cell_row Gu.out
        go_wp2_with fail
        refine (SL.out _).mono ?_
        rintro e w7 ⟨rfl, hb⟩
        clear cGn cGx cGy cGu
        replace HB := Lib.hid (below_then HB.out hb)
        replace Gn := Lib.hid ((hb.block _ (lt_of_heap Gn.out)).trans Gn.out)
        replace Gx := Lib.hid ((hb.block _ (lt_of_heap Gx.out)).trans Gx.out)
        replace Gy := Lib.hid ((hb.block _ (lt_of_heap Gy.out)).trans Gy.out)
        replace Gu := Lib.hid ((hb.block _ (lt_of_heap Gu.out)).trans Gu.out)
        clear hb
        have stx := st_row (P := Tryz.prog) Gx.out rfl (0)
        replace Gn := Lib.hid ((setRow_other (w7) (w.heap.size + 1) _ (wcells (0)) (by (have := HZ.out; omega))).trans Gn.out)
        replace Gy := Lib.hid ((setRow_other (w7) (w.heap.size + 1) _ (wcells (0)) (by (have := HZ.out; omega))).trans Gy.out)
        replace Gu := Lib.hid ((setRow_other (w7) (w.heap.size + 1) _ (wcells (0)) (by (have := HZ.out; omega))).trans Gu.out)
        replace Gx := Lib.hid (setRow_heap (w7) (w.heap.size + 1) _ (wcells (0)) _ _ Gx.out)
        replace HB := Lib.hid (below_setRow' HB.out (show _ ≤ w.heap.size + 1 by (have := HZ.out; omega)) (wcells (0)))
        have q1 := stx
        clear stx
        have sty := st_row (P := Tryz.prog) Gy.out rfl (0)
        replace Gn := Lib.hid ((setRow_other ((w7).setRow (w.heap.size + 1) (wcells (0))) (w.heap.size + 1 + 1) _ (wcells (0)) (by (have := HZ.out; omega))).trans Gn.out)
        replace Gx := Lib.hid ((setRow_other ((w7).setRow (w.heap.size + 1) (wcells (0))) (w.heap.size + 1 + 1) _ (wcells (0)) (by (have := HZ.out; omega))).trans Gx.out)
        replace Gu := Lib.hid ((setRow_other ((w7).setRow (w.heap.size + 1) (wcells (0))) (w.heap.size + 1 + 1) _ (wcells (0)) (by (have := HZ.out; omega))).trans Gu.out)
        replace Gy := Lib.hid (setRow_heap ((w7).setRow (w.heap.size + 1) (wcells (0))) (w.heap.size + 1 + 1) _ (wcells (0)) _ _ Gy.out)
        replace HB := Lib.hid (below_setRow' HB.out (show _ ≤ w.heap.size + 1 + 1 by (have := HZ.out; omega)) (wcells (0)))
        have cGn := cell_row Gn.out
        have cGx := cell_row Gx.out
        have cGy := cell_row Gy.out
        have cGu := cell_row Gu.out
        go_wp2
        exact bodyPost_ret (v := .tuple #[wv 0, wv 0, .int .i64 4]) (res_cct Tryz.results39 _ _ _ _ _ _ _ _ _ _ _ rfl rfl rfl Gx.out Gy.out aggW aggW) rfl ⟨rfl, HB.out⟩
set_option maxRecDepth 100000 in
set_option maxHeartbeats 2000000 in
theorem pairB_yes (e g n k : Nat) (h0 : n ≠ 0) (h : n < P2 256) (hk : k ≤ 10) (w : World) (hE : w.heap[e]? = some (.cells #[.pointer (some ⟨g, 0, none⟩)] 115 (0, 0))) (hI : IsRom w g) (hne : e ≠ g) :
    Calls Tryz.prog 39 #[.pointer (some ⟨e, 0, none⟩), wv n, .int .i64 (k : Int)] w fun x w' => x = .returned (.tuple #[wv (grG (upN n) k), wv (grH (upN n) k), .int .i64 0]) ∧ VG g w w' := by
  obtain ⟨u1, u2, u3⟩ := up_range h0 h
  have hn : n < M := Nat.lt_trans h (by rw [M_eq]; exact P2_lt (by omega))
  have SL := Lib.hid (fun w' => len_w n hn w')
  have hq : blen n ≤ 256 := blen_256.2 h
  have SN := Lib.hid (fun w' => normS_yes n h0 h w')
  have S1 := Lib.hid (fun w' h => firstR_w g (upN n) u2 w' h)
  have S2 := Lib.hid (fun w' => stepsR_any (upN n) k u3 u1 u2 hk w')
  have b0 : decide ((k : Int) < 0) = false := decide_eq_false (by omega)
  have b1 : decide ((10 : Int) < (k : Int)) = false := decide_eq_false (by omega)
  have b2 : decide ((256 : Int) < ((blen n : Nat) : Int)) = false := decide_eq_false (by omega)
  obtain ⟨l, hl⟩ : ∃ l, l = blen n := ⟨_, rfl⟩
  rw [← hl] at SL b2
  obtain ⟨A, hA⟩ : ∃ A, A = grG (upN n) k := ⟨_, rfl⟩
  obtain ⟨B, hB⟩ : ∃ A, A = grH (upN n) k := ⟨_, rfl⟩
  rw [← hA, ← hB] at S2 ⊢
  obtain ⟨A0, hA0⟩ : ∃ A, A = grG (upN n) 0 := ⟨_, rfl⟩
  obtain ⟨B0, hB0⟩ : ∃ A, A = grH (upN n) 0 := ⟨_, rfl⟩
  rw [← hA0, ← hB0] at S1 S2
  obtain ⟨U, hU⟩ : ∃ y, y = upN n := ⟨_, rfl⟩
  rw [← hU] at SN S1
  obtain ⟨b, hb⟩ : ∃ y, y = nrmN n := ⟨_, rfl⟩
  rw [← hb] at SN
  have VB := Lib.hid (VG.refl hI)
  have Ge := Lib.hid hE
  have HNE := Lib.hid hne
  clear h0 h hk hE hI hne u1 u2 u3 hn hq hl hA hB hA0 hB0 hU hb
  go_enter Tryz.func39, Tryz.ntmps39
  replace Ge := Lib.hid (keepAl (o' := .cells (wcells n) 24) Ge.out)
  have Gn := Lib.hid (alloc_new (w) (.cells (wcells n) 24))
  replace VB := Lib.hid (VB.out.al (.cells (wcells n) 24))
  replace Ge := Lib.hid (keepAl (o' := .cells (wcells 0) 24) Ge.out)
  replace Gn := Lib.hid (keepAl (o' := .cells (wcells 0) 24) Gn.out)
  have Gx := Lib.hid (alloc_new' (w := (w).alloc (.cells (wcells n) 24)) (n := w.heap.size + 1) (.cells (wcells 0) 24) (by simp))
  replace VB := Lib.hid (VB.out.al (.cells (wcells 0) 24))
  replace Ge := Lib.hid (keepAl (o' := .cells (wcells 0) 24) Ge.out)
  replace Gn := Lib.hid (keepAl (o' := .cells (wcells 0) 24) Gn.out)
  replace Gx := Lib.hid (keepAl (o' := .cells (wcells 0) 24) Gx.out)
  have Gy := Lib.hid (alloc_new' (w := ((w).alloc (.cells (wcells n) 24)).alloc (.cells (wcells 0) 24)) (n := w.heap.size + 1 + 1) (.cells (wcells 0) 24) (by simp))
  replace VB := Lib.hid (VB.out.al (.cells (wcells 0) 24))
  have cGe := cell_row Ge.out
  have cGn := cell_row Gn.out
  have cGx := cell_row Gx.out
  have cGy := cell_row Gy.out
  go_wp2_with fail
  refine (SN.out _).mono ?_
  rintro e w8 ⟨rfl, hb⟩
  clear cGe cGn cGx cGy
  replace VB := Lib.hid (VB.out.below hb)
  replace Ge := Lib.hid ((hb.block _ (lt_of_heap Ge.out)).trans Ge.out)
  replace Gn := Lib.hid ((hb.block _ (lt_of_heap Gn.out)).trans Gn.out)
  replace Gx := Lib.hid ((hb.block _ (lt_of_heap Gx.out)).trans Gx.out)
  replace Gy := Lib.hid ((hb.block _ (lt_of_heap Gy.out)).trans Gy.out)
  clear hb
  have HZ := Lib.hid (lt_of_heap Gy.out)
  replace Ge := Lib.hid (keepAl (o' := .cells (wcells U) 24) Ge.out)
  replace Gn := Lib.hid (keepAl (o' := .cells (wcells U) 24) Gn.out)
  replace Gx := Lib.hid (keepAl (o' := .cells (wcells U) 24) Gx.out)
  replace Gy := Lib.hid (keepAl (o' := .cells (wcells U) 24) Gy.out)
  have Gu := Lib.hid (alloc_new (w8) (.cells (wcells U) 24))
  replace VB := Lib.hid (VB.out.al (.cells (wcells U) 24))
  have cGe := cell_row Ge.out
  have cGn := cell_row Gn.out
  have cGx := cell_row Gx.out
  have cGy := cell_row Gy.out
  have cGu := cell_row Gu.out
  go_wp2_with fail
  refine (SL.out _).mono ?_
  rintro e w9 ⟨rfl, hb⟩
  clear cGe cGn cGx cGy cGu
  replace VB := Lib.hid (VB.out.below hb)
  replace Ge := Lib.hid ((hb.block _ (lt_of_heap Ge.out)).trans Ge.out)
  replace Gn := Lib.hid ((hb.block _ (lt_of_heap Gn.out)).trans Gn.out)
  replace Gx := Lib.hid ((hb.block _ (lt_of_heap Gx.out)).trans Gx.out)
  replace Gy := Lib.hid ((hb.block _ (lt_of_heap Gy.out)).trans Gy.out)
  replace Gu := Lib.hid ((hb.block _ (lt_of_heap Gu.out)).trans Gu.out)
  clear hb
  have cGe := cell_row Ge.out
  have cGn := cell_row Gn.out
  have cGx := cell_row Gx.out
  have cGy := cell_row Gy.out
  have cGu := cell_row Gu.out
  go_upto_region 11 with fail
  clear cGe cGn cGx cGy cGu
  obtain ⟨wL, hw⟩ : ∃ wx, wx = w9 := ⟨_, rfl⟩
  rw [← hw] at Ge Gn Gx Gy Gu VB ⊢
  clear hw
  have HZ2 := Lib.hid (lt_of_heap Gy.out)
  have xGe := extg_row (g := g) (B := wL.heap.size) Ge.out (lt_of_heap Ge.out) (by have := VB.out.lt; (try have := HNE.out); (try have := HZ.out); (try have := HLG.out); omega)
  have xGn := extg_row (g := g) (B := wL.heap.size) Gn.out (lt_of_heap Gn.out) (by have := VB.out.lt; (try have := HNE.out); (try have := HZ.out); (try have := HLG.out); omega)
  have xGx := extg_row (g := g) (B := wL.heap.size) Gx.out (lt_of_heap Gx.out) (by have := VB.out.lt; (try have := HNE.out); (try have := HZ.out); (try have := HLG.out); omega)
  have xGy := extg_row (g := g) (B := wL.heap.size) Gy.out (lt_of_heap Gy.out) (by have := VB.out.lt; (try have := HNE.out); (try have := HZ.out); (try have := HLG.out); omega)
  have xGu := extg_row (g := g) (B := wL.heap.size) Gu.out (lt_of_heap Gu.out) (by have := VB.out.lt; (try have := HNE.out); (try have := HZ.out); (try have := HLG.out); omega)
  have hnx : Nonempty (ExtG g wL.heap.size wL) := ⟨⟨wL, BelowG.refl VB.out.rom _⟩⟩
  apply wp_region_looseG VB.out.rom (looseRV [_, _, _, _, _, _, _, _, undef, undef]) (pureL [0, 1, 2, 6])
  · kernel_rfl
  · kernel_rfl
  · kernel_rfl
  · exact allocs_ok [124] rfl (by intro T hT; simp only [List.mem_cons, List.not_mem_nil, or_false] at hT; subst hT; exact makes_rp)
  · exact looseRV_st _ _
  · change wpLG _ _ _ _ _ _ _ _ 10 0 _ _
    refine wpL_pureG wL rfl rfl rfl rfl (fun K hK K0 hK0 => ?_)
    go_simp
    first | refine hK _ _ rfl rfl ?_ | refine hK0 _ rfl ?_
    clear hK hK0 K K0
    refine wpL_pureG wL rfl rfl rfl rfl (fun K hK K0 hK0 => ?_)
    go_simp
    first | refine hK _ _ rfl rfl ?_ | refine hK0 _ rfl ?_
    clear hK hK0 K K0
    refine wpL_pureG wL rfl rfl rfl rfl (fun K hK K0 hK0 => ?_)
    go_simp
    first | refine hK _ _ rfl rfl ?_ | refine hK0 _ rfl ?_
    clear hK hK0 K K0
    refine wpL_calmG wL rfl rfl rfl rfl (fun K hK K0 hK0 => ?_)
    go_simp
    first | refine hK _ _ rfl rfl ?_ | refine hK0 _ rfl ?_
    clear hK hK0 K K0
    refine wpL_calmG wL rfl rfl rfl rfl (fun K hK K0 hK0 => ?_)
    go_simp
    first | refine hK _ _ rfl rfl ?_ | refine hK0 _ rfl ?_
    clear hK hK0 K K0
    refine wpL_calmG wL rfl rfl rfl rfl (fun K hK K0 hK0 => ?_)
    go_simp
    apply Exists.intro
    apply And.intro
    · intro x
      go_at_call 78
      with_reducible exact Calls.stepV (S1.out _ (extg_rom _))
    refine hK _ _ rfl rfl ?_
    clear hK hK0 K K0
    refine wpL_pureG wL rfl rfl rfl rfl (fun K hK K0 hK0 => ?_)
    go_simp
    first | refine hK _ _ rfl rfl ?_ | refine hK0 _ rfl ?_
    clear hK hK0 K K0
    refine wpL_calmG wL rfl rfl rfl rfl (fun K hK K0 hK0 => ?_)
    go_simp
    apply Exists.intro
    apply And.intro
    · intro x
      go_at_call 77
      with_reducible exact Calls.stepG _ (S2.out _)
    refine hK _ _ rfl rfl ?_
    clear hK hK0 K K0
    refine wpL_allocG rfl rfl rfl rfl (fun g8 hg8 => ?_)
    refine wpL_storeG rfl rfl ?_
    refine wpL_nilG (endLG [(124, .tmp 13, .tmp 50)] rfl (by intro q hq; simp only [List.mem_cons, List.not_mem_nil, or_false] at hq; subst hq; first | exact fits_wv (by kernel_rfl) _ | exact fits_16 (by kernel_rfl) _ _) (fun w10 hv hst hap hfin => ?_))
    have Gp : Hid (w10.heap[g8]? = some (.cells (fc (A) (B)) 124 (0, 0))) := Lib.hid (hst 9 _ _ _ _ g8 rfl rfl rfl)
    replace Ge := Lib.hid ((hv.block _ (lt_of_heap Ge.out) (by have := VB.out.lt; (try have := HNE.out); (try have := HZ.out); (try have := HLG.out); omega)).trans Ge.out)
    replace Gn := Lib.hid ((hv.block _ (lt_of_heap Gn.out) (by have := VB.out.lt; (try have := HNE.out); (try have := HZ.out); (try have := HLG.out); omega)).trans Gn.out)
    replace Gx := Lib.hid ((hv.block _ (lt_of_heap Gx.out) (by have := VB.out.lt; (try have := HNE.out); (try have := HZ.out); (try have := HLG.out); omega)).trans Gx.out)
    replace Gy := Lib.hid ((hv.block _ (lt_of_heap Gy.out) (by have := VB.out.lt; (try have := HNE.out); (try have := HZ.out); (try have := HLG.out); omega)).trans Gy.out)
    replace Gu := Lib.hid ((hv.block _ (lt_of_heap Gu.out) (by have := VB.out.lt; (try have := HNE.out); (try have := HZ.out); (try have := HLG.out); omega)).trans Gu.out)
    have HG8 := Lib.hid hg8
    replace VB := Lib.hid (VB.out.trans' hv)
    clear hv hst hap hfin xGe xGn xGx xGy xGu hnx
    have cGx := cell_row Gx.out
    have cGy := cell_row Gy.out
    have cGp := cell_row Gp.out
    go_upto_region 12 with fail
    clear cGx cGy cGp
    refine wp_region_store [⟨w.heap.size + 1, 24, .tmp 52⟩, ⟨w.heap.size + 1 + 1, 24, .tmp 54⟩] (by kernel_rfl) (by kernel_rfl) (by kernel_rfl) rfl (List.Pairwise.cons (by intro r hr; simp only [List.mem_cons, List.not_mem_nil, or_false] at hr; subst hr <;> dsimp only <;> (have := HZ.out; have := HZ2.out; have := HG8.out; omega)) (List.pairwise_singleton _ _)) ?_ ?_
    · intro r hr
      simp only [List.mem_cons, List.not_mem_nil, or_false] at hr
      rcases hr with rfl | rfl
      · exact ⟨_, Gx.out, by kernel_rfl⟩
      · exact ⟨_, Gy.out, by kernel_rfl⟩
    have xGp := extR_row (B := w10.heap.size) (R := [⟨w.heap.size + 1, 24, .tmp 52⟩, ⟨w.heap.size + 1 + 1, 24, .tmp 54⟩]) Gp.out (lt_of_heap Gp.out) (by intro r hr; simp only [List.mem_cons, List.not_mem_nil, or_false] at hr; rcases hr with rfl | rfl <;> dsimp only <;> (have := HZ.out; have := HZ2.out; have := HG8.out; omega))
    repeat (refine wpCalm_step (fun K hK => ?_); go_simp; first | (refine hK _ ?_; clear hK K) | (apply Exists.intro; refine ⟨fun _ => ?_, hK _ ?_⟩; (first | fail); clear hK K))
    refine wpCalm_nil ⟨?_, fun x hx => ?_⟩
    · intro r hr
      simp only [List.mem_cons, List.not_mem_nil, or_false] at hr
      rcases hr with rfl | rfl <;> exact fits_wv (by kernel_rfl) _
    replace Gx : Hid (x.val.heap[w.heap.size + 1]? = some (.cells (wcells (A)) 24 (0, 0))) := Lib.hid (hx ⟨w.heap.size + 1, 24, .tmp 52⟩ (by simp))
    replace Gy : Hid (x.val.heap[w.heap.size + 1 + 1]? = some (.cells (wcells (B)) 24 (0, 0))) := Lib.hid (hx ⟨w.heap.size + 1 + 1, 24, .tmp 54⟩ (by simp))
    replace Gp := Lib.hid (extR_block x Gp.out (lt_of_heap Gp.out) (by intro r hr; simp only [List.mem_cons, List.not_mem_nil, or_false] at hr; rcases hr with rfl | rfl <;> dsimp only <;> (have := HZ.out; have := HZ2.out; have := HG8.out; omega)))
    replace VB := Lib.hid (VB.out.extR x (by intro r hr; simp only [List.mem_cons, List.not_mem_nil, or_false] at hr; rcases hr with rfl | rfl <;> dsimp only <;> (have := HZ.out; have := HZ2.out; have := HG8.out; omega)))
    clear hx xGp
    obtain ⟨w11, hw⟩ : ∃ wx, wx = x.val := ⟨_, rfl⟩
    rw [← hw] at Gx Gy Gp VB ⊢
    clear hw x
    have cGx := cell_row Gx.out
    have cGy := cell_row Gy.out
    have cGp := cell_row Gp.out
    go_wp2
    exact bodyPost_ret (v := .tuple #[wv A, wv B, .int .i64 0]) (res_cct Tryz.results39 _ _ _ _ _ _ _ _ _ _ _ rfl rfl rfl Gx.out Gy.out aggW aggW) rfl ⟨rfl, VB.out⟩
set_option maxRecDepth 100000 in
set_option maxHeartbeats 2000000 in
theorem rootB_no (ep : Value) (n : Nat) (E R : Int) (hE : (E = 5 ∧ R = 0) ∨ (E ≠ 0 ∧ E ≠ 5 ∧ R = E)) (hM : ∀ w', Calls Tryz.prog 39 #[ep, wv n, .int .i64 5] w' fun x w'' => x = .returned (.tuple #[wv 0, wv 0, .int .i64 E]) ∧ Below w'.heap.size w' w'') (w : World) :
    Calls Tryz.prog 25 #[ep, wv n] w fun x w' => x = .returned (.tuple #[wv 0, wv 0, .int .i64 R]) ∧ Below w.heap.size w w' := by
  have S1 := Lib.hid hM
  clear hM
  rcases hE with ⟨rfl, rfl⟩ | ⟨h0, h5, rfl⟩
  · skip
    go_enter Tryz.func25, Tryz.ntmps25
    have HB := Lib.hid (Below.refl w.heap.size w)
    have Gn := Lib.hid (alloc_new (w) (.cells (wcells n) 24))
    replace HB := Lib.hid (below_al HB.out (.cells (wcells n) 24))
    replace Gn := Lib.hid (keepAl (o' := .cells (wcells 0) 24) Gn.out)
    have Gx := Lib.hid (alloc_new' (w := (w).alloc (.cells (wcells n) 24)) (n := w.heap.size + 1) (.cells (wcells 0) 24) (by simp))
    replace HB := Lib.hid (below_al HB.out (.cells (wcells 0) 24))
    replace Gn := Lib.hid (keepAl (o' := .cells (wcells 0) 24) Gn.out)
    replace Gx := Lib.hid (keepAl (o' := .cells (wcells 0) 24) Gx.out)
    have Gy := Lib.hid (alloc_new' (w := ((w).alloc (.cells (wcells n) 24)).alloc (.cells (wcells 0) 24)) (n := w.heap.size + 1 + 1) (.cells (wcells 0) 24) (by simp))
    replace HB := Lib.hid (below_al HB.out (.cells (wcells 0) 24))
    have cGn := cell_row Gn.out
    have cGx := cell_row Gx.out
    have cGy := cell_row Gy.out
    go_wp2_with fail
    refine (S1.out _).mono ?_
    rintro e w12 ⟨rfl, hb⟩
    clear cGn cGx cGy
    replace HB := Lib.hid (below_then HB.out hb)
    replace Gn := Lib.hid ((hb.block _ (lt_of_heap Gn.out)).trans Gn.out)
    replace Gx := Lib.hid ((hb.block _ (lt_of_heap Gx.out)).trans Gx.out)
    replace Gy := Lib.hid ((hb.block _ (lt_of_heap Gy.out)).trans Gy.out)
    clear hb
    have HZ := Lib.hid (lt_of_heap Gy.out)
    replace Gn := Lib.hid (keepAl (o' := .cells (wcells 0) 24) Gn.out)
    replace Gx := Lib.hid (keepAl (o' := .cells (wcells 0) 24) Gx.out)
    replace Gy := Lib.hid (keepAl (o' := .cells (wcells 0) 24) Gy.out)
    have Ga := Lib.hid (alloc_new (w12) (.cells (wcells 0) 24))
    replace HB := Lib.hid (below_al HB.out (.cells (wcells 0) 24))
    replace Gn := Lib.hid (keepAl (o' := .cells (wcells 0) 24) Gn.out)
    replace Gx := Lib.hid (keepAl (o' := .cells (wcells 0) 24) Gx.out)
    replace Gy := Lib.hid (keepAl (o' := .cells (wcells 0) 24) Gy.out)
    replace Ga := Lib.hid (keepAl (o' := .cells (wcells 0) 24) Ga.out)
    have Gb := Lib.hid (alloc_new' (w := (w12).alloc (.cells (wcells 0) 24)) (n := w12.heap.size + 1) (.cells (wcells 0) 24) (by simp))
    replace HB := Lib.hid (below_al HB.out (.cells (wcells 0) 24))
    have stx := st_row (P := Tryz.prog) Gx.out rfl (0)
    replace Gn := Lib.hid ((setRow_other (((w12).alloc (.cells (wcells 0) 24)).alloc (.cells (wcells 0) 24)) (w.heap.size + 1) _ (wcells (0)) (by (have := HZ.out; omega))).trans Gn.out)
    replace Gy := Lib.hid ((setRow_other (((w12).alloc (.cells (wcells 0) 24)).alloc (.cells (wcells 0) 24)) (w.heap.size + 1) _ (wcells (0)) (by (have := HZ.out; omega))).trans Gy.out)
    replace Ga := Lib.hid ((setRow_other (((w12).alloc (.cells (wcells 0) 24)).alloc (.cells (wcells 0) 24)) (w.heap.size + 1) _ (wcells (0)) (by (have := HZ.out; omega))).trans Ga.out)
    replace Gb := Lib.hid ((setRow_other (((w12).alloc (.cells (wcells 0) 24)).alloc (.cells (wcells 0) 24)) (w.heap.size + 1) _ (wcells (0)) (by (have := HZ.out; omega))).trans Gb.out)
    replace Gx := Lib.hid (setRow_heap (((w12).alloc (.cells (wcells 0) 24)).alloc (.cells (wcells 0) 24)) (w.heap.size + 1) _ (wcells (0)) _ _ Gx.out)
    replace HB := Lib.hid (below_setRow' HB.out (show _ ≤ w.heap.size + 1 by (have := HZ.out; omega)) (wcells (0)))
    have q1 := stx
    clear stx
    have sty := st_row (P := Tryz.prog) Gy.out rfl (0)
    replace Gn := Lib.hid ((setRow_other ((((w12).alloc (.cells (wcells 0) 24)).alloc (.cells (wcells 0) 24)).setRow (w.heap.size + 1) (wcells (0))) (w.heap.size + 1 + 1) _ (wcells (0)) (by (have := HZ.out; omega))).trans Gn.out)
    replace Gx := Lib.hid ((setRow_other ((((w12).alloc (.cells (wcells 0) 24)).alloc (.cells (wcells 0) 24)).setRow (w.heap.size + 1) (wcells (0))) (w.heap.size + 1 + 1) _ (wcells (0)) (by (have := HZ.out; omega))).trans Gx.out)
    replace Ga := Lib.hid ((setRow_other ((((w12).alloc (.cells (wcells 0) 24)).alloc (.cells (wcells 0) 24)).setRow (w.heap.size + 1) (wcells (0))) (w.heap.size + 1 + 1) _ (wcells (0)) (by (have := HZ.out; omega))).trans Ga.out)
    replace Gb := Lib.hid ((setRow_other ((((w12).alloc (.cells (wcells 0) 24)).alloc (.cells (wcells 0) 24)).setRow (w.heap.size + 1) (wcells (0))) (w.heap.size + 1 + 1) _ (wcells (0)) (by (have := HZ.out; omega))).trans Gb.out)
    replace Gy := Lib.hid (setRow_heap ((((w12).alloc (.cells (wcells 0) 24)).alloc (.cells (wcells 0) 24)).setRow (w.heap.size + 1) (wcells (0))) (w.heap.size + 1 + 1) _ (wcells (0)) _ _ Gy.out)
    replace HB := Lib.hid (below_setRow' HB.out (show _ ≤ w.heap.size + 1 + 1 by (have := HZ.out; omega)) (wcells (0)))
    have cGn := cell_row Gn.out
    have cGx := cell_row Gx.out
    have cGy := cell_row Gy.out
    have cGa := cell_row Ga.out
    have cGb := cell_row Gb.out
    go_wp2
    exact bodyPost_ret (v := .tuple #[wv 0, wv 0, .int .i64 0]) (res_cct Tryz.results25 _ _ _ _ _ _ _ _ _ _ _ rfl rfl rfl Gx.out Gy.out aggW aggW) rfl ⟨rfl, HB.out⟩
  · have b0 : (R == 0) = false := by simp [h0]
    have b5 : (R == 5) = false := by simp [h5]
    clear h0 h5
    go_enter Tryz.func25, Tryz.ntmps25
    have HB := Lib.hid (Below.refl w.heap.size w)
    have Gn := Lib.hid (alloc_new (w) (.cells (wcells n) 24))
    replace HB := Lib.hid (below_al HB.out (.cells (wcells n) 24))
    replace Gn := Lib.hid (keepAl (o' := .cells (wcells 0) 24) Gn.out)
    have Gx := Lib.hid (alloc_new' (w := (w).alloc (.cells (wcells n) 24)) (n := w.heap.size + 1) (.cells (wcells 0) 24) (by simp))
    replace HB := Lib.hid (below_al HB.out (.cells (wcells 0) 24))
    replace Gn := Lib.hid (keepAl (o' := .cells (wcells 0) 24) Gn.out)
    replace Gx := Lib.hid (keepAl (o' := .cells (wcells 0) 24) Gx.out)
    have Gy := Lib.hid (alloc_new' (w := ((w).alloc (.cells (wcells n) 24)).alloc (.cells (wcells 0) 24)) (n := w.heap.size + 1 + 1) (.cells (wcells 0) 24) (by simp))
    replace HB := Lib.hid (below_al HB.out (.cells (wcells 0) 24))
    have cGn := cell_row Gn.out
    have cGx := cell_row Gx.out
    have cGy := cell_row Gy.out
    go_wp2_with fail
    refine (S1.out _).mono ?_
    rintro e w13 ⟨rfl, hb⟩
    clear cGn cGx cGy
    replace HB := Lib.hid (below_then HB.out hb)
    replace Gn := Lib.hid ((hb.block _ (lt_of_heap Gn.out)).trans Gn.out)
    replace Gx := Lib.hid ((hb.block _ (lt_of_heap Gx.out)).trans Gx.out)
    replace Gy := Lib.hid ((hb.block _ (lt_of_heap Gy.out)).trans Gy.out)
    clear hb
    have HZ := Lib.hid (lt_of_heap Gy.out)
    replace Gn := Lib.hid (keepAl (o' := .cells (wcells 0) 24) Gn.out)
    replace Gx := Lib.hid (keepAl (o' := .cells (wcells 0) 24) Gx.out)
    replace Gy := Lib.hid (keepAl (o' := .cells (wcells 0) 24) Gy.out)
    have Ga := Lib.hid (alloc_new (w13) (.cells (wcells 0) 24))
    replace HB := Lib.hid (below_al HB.out (.cells (wcells 0) 24))
    replace Gn := Lib.hid (keepAl (o' := .cells (wcells 0) 24) Gn.out)
    replace Gx := Lib.hid (keepAl (o' := .cells (wcells 0) 24) Gx.out)
    replace Gy := Lib.hid (keepAl (o' := .cells (wcells 0) 24) Gy.out)
    replace Ga := Lib.hid (keepAl (o' := .cells (wcells 0) 24) Ga.out)
    have Gb := Lib.hid (alloc_new' (w := (w13).alloc (.cells (wcells 0) 24)) (n := w13.heap.size + 1) (.cells (wcells 0) 24) (by simp))
    replace HB := Lib.hid (below_al HB.out (.cells (wcells 0) 24))
    have stx := st_row (P := Tryz.prog) Gx.out rfl (0)
    replace Gn := Lib.hid ((setRow_other (((w13).alloc (.cells (wcells 0) 24)).alloc (.cells (wcells 0) 24)) (w.heap.size + 1) _ (wcells (0)) (by (have := HZ.out; omega))).trans Gn.out)
    replace Gy := Lib.hid ((setRow_other (((w13).alloc (.cells (wcells 0) 24)).alloc (.cells (wcells 0) 24)) (w.heap.size + 1) _ (wcells (0)) (by (have := HZ.out; omega))).trans Gy.out)
    replace Ga := Lib.hid ((setRow_other (((w13).alloc (.cells (wcells 0) 24)).alloc (.cells (wcells 0) 24)) (w.heap.size + 1) _ (wcells (0)) (by (have := HZ.out; omega))).trans Ga.out)
    replace Gb := Lib.hid ((setRow_other (((w13).alloc (.cells (wcells 0) 24)).alloc (.cells (wcells 0) 24)) (w.heap.size + 1) _ (wcells (0)) (by (have := HZ.out; omega))).trans Gb.out)
    replace Gx := Lib.hid (setRow_heap (((w13).alloc (.cells (wcells 0) 24)).alloc (.cells (wcells 0) 24)) (w.heap.size + 1) _ (wcells (0)) _ _ Gx.out)
    replace HB := Lib.hid (below_setRow' HB.out (show _ ≤ w.heap.size + 1 by (have := HZ.out; omega)) (wcells (0)))
    have q1 := stx
    clear stx
    have sty := st_row (P := Tryz.prog) Gy.out rfl (0)
    replace Gn := Lib.hid ((setRow_other ((((w13).alloc (.cells (wcells 0) 24)).alloc (.cells (wcells 0) 24)).setRow (w.heap.size + 1) (wcells (0))) (w.heap.size + 1 + 1) _ (wcells (0)) (by (have := HZ.out; omega))).trans Gn.out)
    replace Gx := Lib.hid ((setRow_other ((((w13).alloc (.cells (wcells 0) 24)).alloc (.cells (wcells 0) 24)).setRow (w.heap.size + 1) (wcells (0))) (w.heap.size + 1 + 1) _ (wcells (0)) (by (have := HZ.out; omega))).trans Gx.out)
    replace Ga := Lib.hid ((setRow_other ((((w13).alloc (.cells (wcells 0) 24)).alloc (.cells (wcells 0) 24)).setRow (w.heap.size + 1) (wcells (0))) (w.heap.size + 1 + 1) _ (wcells (0)) (by (have := HZ.out; omega))).trans Ga.out)
    replace Gb := Lib.hid ((setRow_other ((((w13).alloc (.cells (wcells 0) 24)).alloc (.cells (wcells 0) 24)).setRow (w.heap.size + 1) (wcells (0))) (w.heap.size + 1 + 1) _ (wcells (0)) (by (have := HZ.out; omega))).trans Gb.out)
    replace Gy := Lib.hid (setRow_heap ((((w13).alloc (.cells (wcells 0) 24)).alloc (.cells (wcells 0) 24)).setRow (w.heap.size + 1) (wcells (0))) (w.heap.size + 1 + 1) _ (wcells (0)) _ _ Gy.out)
    replace HB := Lib.hid (below_setRow' HB.out (show _ ≤ w.heap.size + 1 + 1 by (have := HZ.out; omega)) (wcells (0)))
    have cGn := cell_row Gn.out
    have cGx := cell_row Gx.out
    have cGy := cell_row Gy.out
    have cGa := cell_row Ga.out
    have cGb := cell_row Gb.out
    go_wp2
    exact bodyPost_ret (v := .tuple #[wv 0, wv 0, .int .i64 R]) (res_cct Tryz.results25 _ _ _ _ _ _ _ _ _ _ _ rfl rfl rfl Gx.out Gy.out aggW aggW) rfl ⟨rfl, HB.out⟩
set_option maxRecDepth 100000 in
set_option maxHeartbeats 4000000 in
theorem rootB_yes (e g n : Nat) (h0 : n ≠ 0) (h : n < P2 256) (w : World) (hE : w.heap[e]? = some (.cells #[.pointer (some ⟨g, 0, none⟩)] 115 (0, 0))) (hI : IsRom w g) (hne : e ≠ g) :
    Calls Tryz.prog 25 #[.pointer (some ⟨e, 0, none⟩), wv n] w fun x w' => x = .returned (.tuple #[wv (rtN 2 n), wv (n - rtN 2 n * rtN 2 n), .int .i64 0]) ∧ VG g w w' := by
  obtain ⟨u1, u2, u3⟩ := up_range h0 h
  obtain ⟨g1, g2⟩ := gr_guess u3 u1 u2
  have hn : n < M := Nat.lt_trans h (by rw [M_eq]; exact P2_lt (by omega))
  have hG := (gr_step u3 u1 u2 (show 5 ≤ 10 by decide)).1
  have h164 : P2 164 < M := by rw [M_eq]; exact P2_lt (by omega)
  have SN := Lib.hid (fun w' => normS_yes n h0 h w')
  have S1 : Hid (∀ w' : World, w'.heap[e]? = some (.cells #[.pointer (some ⟨g, 0, none⟩)] 115 (0, 0)) → IsRom w' g → Calls Tryz.prog 39 #[.pointer (some ⟨e, 0, none⟩), wv n, .int .i64 5] w' fun x w'' => x = .returned (.tuple #[wv (grG (upN n) 5), wv (grH (upN n) 5), .int .i64 0]) ∧ VG g w' w'') := Lib.hid fun w' hE hI => pairB_yes e g n 5 h0 h (by decide) w' hE hI hne
  have S1b := Lib.hid (fun w' => shr_any (grG (upN n) 5) (by omega) ((32 : Nat) : Int) w' (by decide) (by decide))
  rw [clampN_at (show 32 ≤ 512 by decide)] at S1b
  have S2 := Lib.hid (fun w' => fixroot_yes (upN n) (grG (upN n) 5 / P2 32) 4 u2 (near_rt u2 g1) (by decide) (near_4 g1 g2) w')
  have h128 : P2 128 < M := by rw [M_eq]; exact P2_lt (by omega)
  have hr := rt_lt u2
  have hbn : nrmN n / 2 ≤ 512 := by unfold nrmN; omega
  have S3 := Lib.hid (fun w' => shr_any (rtN 2 (upN n)) (by omega) ((nrmN n / 2 : Nat) : Int) w' (by omega) (by omega))
  rw [clampN_at hbn, rt_up n] at S3
  have hS := rt_lt h
  have hSS : rtN 2 n * rtN 2 n ≤ n := by have := (rt_spec 2 n (by decide)).1; rwa [sqr] at this
  have S4 := Lib.hid (fun w' => square_w (rtN 2 n) (by omega) w')
  rw [Nat.mod_eq_of_lt (show rtN 2 n * rtN 2 n < M by omega)] at S4
  have S5 := Lib.hid (fun w' => sub_down n (rtN 2 n * rtN 2 n) hn hSS w')
  have hb2 : Int.tdiv ((nrmN n : Nat) : Int) 2 = ((nrmN n / 2 : Nat) : Int) := by rw [Int.tdiv_eq_ediv_of_nonneg (by omega)]; omega
  have hw2 : IntKind.i64.wrap ((nrmN n / 2 : Nat) : Int) = ((nrmN n / 2 : Nat) : Int) := IntWalk.i64_in _ (by omega)
  obtain ⟨R, hR⟩ : ∃ y, y = n - rtN 2 n * rtN 2 n := ⟨_, rfl⟩
  rw [← hR] at S5 ⊢
  obtain ⟨f2, hf2⟩ : ∃ f, f = decide (n < rtN 2 n * rtN 2 n) := ⟨_, rfl⟩
  rw [← hf2] at S5
  obtain ⟨f1, hf1⟩ : ∃ f, f = decide (rtN 2 n * rtN 2 n < M) := ⟨_, rfl⟩
  rw [← hf1] at S4
  obtain ⟨Q, hQ⟩ : ∃ y, y = rtN 2 n * rtN 2 n := ⟨_, rfl⟩
  rw [← hQ] at S4 S5
  obtain ⟨S, hSe⟩ : ∃ y, y = rtN 2 n := ⟨_, rfl⟩
  rw [← hSe] at S3 S4 ⊢
  obtain ⟨f3, hf3⟩ : ∃ f, f = decide (rtN 2 (upN n) % P2 (nrmN n / 2) ≠ 0) := ⟨_, rfl⟩
  rw [← hf3] at S3
  obtain ⟨D, hD⟩ : ∃ D : Nat, D = (grG (upN n) 5 / P2 32 - rtN 2 (upN n)) + (rtN 2 (upN n) - grG (upN n) 5 / P2 32) := ⟨_, rfl⟩
  rw [← hD] at S2
  obtain ⟨V, hV⟩ : ∃ D : Nat, D = upN n - rtN 2 (upN n) * rtN 2 (upN n) := ⟨_, rfl⟩
  rw [← hV] at S2
  obtain ⟨T, hT⟩ : ∃ D : Nat, D = rtN 2 (upN n) := ⟨_, rfl⟩
  rw [← hT] at S2 S3
  obtain ⟨Zg, hGz⟩ : ∃ D : Nat, D = grG (upN n) 5 / P2 32 := ⟨_, rfl⟩
  rw [← hGz] at S1b S2
  obtain ⟨f4, hf4⟩ : ∃ f, f = decide (grG (upN n) 5 % P2 32 ≠ 0) := ⟨_, rfl⟩
  rw [← hf4] at S1b
  obtain ⟨A, hA⟩ : ∃ D : Nat, D = grG (upN n) 5 := ⟨_, rfl⟩
  rw [← hA] at S1 S1b
  obtain ⟨B, hB⟩ : ∃ D : Nat, D = grH (upN n) 5 := ⟨_, rfl⟩
  rw [← hB] at S1
  obtain ⟨U, hU⟩ : ∃ y, y = upN n := ⟨_, rfl⟩
  rw [← hU] at SN S2
  obtain ⟨c, hc⟩ : ∃ y, y = nrmN n / 2 := ⟨_, rfl⟩
  rw [← hc] at S3 hb2 hw2
  obtain ⟨b, hb⟩ : ∃ y, y = nrmN n := ⟨_, rfl⟩
  rw [← hb] at SN hb2
  have VB := Lib.hid (VG.refl hI)
  have Ge := Lib.hid hE
  have HNE := Lib.hid hne
  clear h0 h hE hI hne u1 u2 u3 g1 g2 hn hG h164 h128 hr hbn hS hSS hR hf2 hf1 hQ hSe hf3 hD hV hT hGz hf4 hA hB hU hc hb
  go_enter Tryz.func25, Tryz.ntmps25
  replace Ge := Lib.hid (keepAl (o' := .cells (wcells n) 24) Ge.out)
  have Gn := Lib.hid (alloc_new (w) (.cells (wcells n) 24))
  replace VB := Lib.hid (VB.out.al (.cells (wcells n) 24))
  replace Ge := Lib.hid (keepAl (o' := .cells (wcells 0) 24) Ge.out)
  replace Gn := Lib.hid (keepAl (o' := .cells (wcells 0) 24) Gn.out)
  have Gx := Lib.hid (alloc_new' (w := (w).alloc (.cells (wcells n) 24)) (n := w.heap.size + 1) (.cells (wcells 0) 24) (by simp))
  replace VB := Lib.hid (VB.out.al (.cells (wcells 0) 24))
  replace Ge := Lib.hid (keepAl (o' := .cells (wcells 0) 24) Ge.out)
  replace Gn := Lib.hid (keepAl (o' := .cells (wcells 0) 24) Gn.out)
  replace Gx := Lib.hid (keepAl (o' := .cells (wcells 0) 24) Gx.out)
  have Gy := Lib.hid (alloc_new' (w := ((w).alloc (.cells (wcells n) 24)).alloc (.cells (wcells 0) 24)) (n := w.heap.size + 1 + 1) (.cells (wcells 0) 24) (by simp))
  replace VB := Lib.hid (VB.out.al (.cells (wcells 0) 24))
  have cGe := cell_row Ge.out
  have cGn := cell_row Gn.out
  have cGx := cell_row Gx.out
  have cGy := cell_row Gy.out
  go_wp2_with fail
  refine (S1.out _ Ge.out VB.out.rom).mono ?_
  rintro e w14 ⟨rfl, hv⟩
  clear cGe cGn cGx cGy
  replace Ge := Lib.hid (hv.heap Ge.out (by have := VB.out.lt; (try have := HNE.out); (try have := HZ.out); (try have := HLG.out); omega))
  replace Gn := Lib.hid (hv.heap Gn.out (by have := VB.out.lt; (try have := HNE.out); (try have := HZ.out); (try have := HLG.out); omega))
  replace Gx := Lib.hid (hv.heap Gx.out (by have := VB.out.lt; (try have := HNE.out); (try have := HZ.out); (try have := HLG.out); omega))
  replace Gy := Lib.hid (hv.heap Gy.out (by have := VB.out.lt; (try have := HNE.out); (try have := HZ.out); (try have := HLG.out); omega))
  replace VB := Lib.hid (VB.out.trans hv)
  clear hv
  have HZ := Lib.hid (lt_of_heap Gy.out)
  replace Gn := Lib.hid (keepAl (o' := .cells (wcells A) 24) Gn.out)
  replace Gx := Lib.hid (keepAl (o' := .cells (wcells A) 24) Gx.out)
  replace Gy := Lib.hid (keepAl (o' := .cells (wcells A) 24) Gy.out)
  have Ga := Lib.hid (alloc_new (w14) (.cells (wcells A) 24))
  replace VB := Lib.hid (VB.out.al (.cells (wcells A) 24))
  replace Gn := Lib.hid (keepAl (o' := .cells (wcells B) 24) Gn.out)
  replace Gx := Lib.hid (keepAl (o' := .cells (wcells B) 24) Gx.out)
  replace Gy := Lib.hid (keepAl (o' := .cells (wcells B) 24) Gy.out)
  replace Ga := Lib.hid (keepAl (o' := .cells (wcells B) 24) Ga.out)
  have Gb := Lib.hid (alloc_new' (w := (w14).alloc (.cells (wcells A) 24)) (n := w14.heap.size + 1) (.cells (wcells B) 24) (by simp))
  replace VB := Lib.hid (VB.out.al (.cells (wcells B) 24))
  have cGn := cell_row Gn.out
  have cGx := cell_row Gx.out
  have cGy := cell_row Gy.out
  have cGa := cell_row Ga.out
  go_wp2_with fail
  refine (SN.out _).mono ?_
  rintro e w15 ⟨rfl, hb⟩
  clear cGn cGx cGy cGa
  replace VB := Lib.hid (VB.out.below hb)
  replace Gn := Lib.hid ((hb.block _ (lt_of_heap Gn.out)).trans Gn.out)
  replace Gx := Lib.hid ((hb.block _ (lt_of_heap Gx.out)).trans Gx.out)
  replace Gy := Lib.hid ((hb.block _ (lt_of_heap Gy.out)).trans Gy.out)
  replace Ga := Lib.hid ((hb.block _ (lt_of_heap Ga.out)).trans Ga.out)
  clear hb
  replace Gn := Lib.hid (keepAl (o' := .cells (wcells U) 24) Gn.out)
  replace Gx := Lib.hid (keepAl (o' := .cells (wcells U) 24) Gx.out)
  replace Gy := Lib.hid (keepAl (o' := .cells (wcells U) 24) Gy.out)
  replace Ga := Lib.hid (keepAl (o' := .cells (wcells U) 24) Ga.out)
  have Gu := Lib.hid (alloc_new (w15) (.cells (wcells U) 24))
  replace VB := Lib.hid (VB.out.al (.cells (wcells U) 24))
  have cGn := cell_row Gn.out
  have cGx := cell_row Gx.out
  have cGy := cell_row Gy.out
  have cGa := cell_row Ga.out
  have cGu := cell_row Gu.out
  go_wp2_with fail
  refine (S1b.out _).mono ?_
  rintro e w16 ⟨rfl, hb⟩
  clear cGn cGx cGy cGa cGu
  replace VB := Lib.hid (VB.out.below hb)
  replace Gn := Lib.hid ((hb.block _ (lt_of_heap Gn.out)).trans Gn.out)
  replace Gx := Lib.hid ((hb.block _ (lt_of_heap Gx.out)).trans Gx.out)
  replace Gy := Lib.hid ((hb.block _ (lt_of_heap Gy.out)).trans Gy.out)
  replace Ga := Lib.hid ((hb.block _ (lt_of_heap Ga.out)).trans Ga.out)
  replace Gu := Lib.hid ((hb.block _ (lt_of_heap Gu.out)).trans Gu.out)
  clear hb
  replace Gn := Lib.hid (keepAl (o' := .cells (wcells Zg) 24) Gn.out)
  replace Gx := Lib.hid (keepAl (o' := .cells (wcells Zg) 24) Gx.out)
  replace Gy := Lib.hid (keepAl (o' := .cells (wcells Zg) 24) Gy.out)
  replace Gu := Lib.hid (keepAl (o' := .cells (wcells Zg) 24) Gu.out)
  have Gz := Lib.hid (alloc_new (w16) (.cells (wcells Zg) 24))
  replace VB := Lib.hid (VB.out.al (.cells (wcells Zg) 24))
  have cGn := cell_row Gn.out
  have cGx := cell_row Gx.out
  have cGy := cell_row Gy.out
  have cGu := cell_row Gu.out
  have cGz := cell_row Gz.out
  go_wp2_with fail
  refine (S2.out _).mono ?_
  rintro e w17 ⟨rfl, hb⟩
  clear cGn cGx cGy cGu cGz
  replace VB := Lib.hid (VB.out.below hb)
  replace Gn := Lib.hid ((hb.block _ (lt_of_heap Gn.out)).trans Gn.out)
  replace Gx := Lib.hid ((hb.block _ (lt_of_heap Gx.out)).trans Gx.out)
  replace Gy := Lib.hid ((hb.block _ (lt_of_heap Gy.out)).trans Gy.out)
  replace Gu := Lib.hid ((hb.block _ (lt_of_heap Gu.out)).trans Gu.out)
  replace Gz := Lib.hid ((hb.block _ (lt_of_heap Gz.out)).trans Gz.out)
  clear hb
  have HZ2 := Lib.hid (lt_of_heap Gn.out)
  have HZ3 := Lib.hid (lt_of_heap Gy.out)
  replace Gn := Lib.hid (keepAl (o' := .cells (wcells T) 24) Gn.out)
  replace Gx := Lib.hid (keepAl (o' := .cells (wcells T) 24) Gx.out)
  replace Gy := Lib.hid (keepAl (o' := .cells (wcells T) 24) Gy.out)
  have Gs := Lib.hid (alloc_new (w17) (.cells (wcells T) 24))
  replace VB := Lib.hid (VB.out.al (.cells (wcells T) 24))
  replace Gn := Lib.hid (keepAl (o' := .cells (wcells V) 24) Gn.out)
  replace Gx := Lib.hid (keepAl (o' := .cells (wcells V) 24) Gx.out)
  replace Gy := Lib.hid (keepAl (o' := .cells (wcells V) 24) Gy.out)
  replace Gs := Lib.hid (keepAl (o' := .cells (wcells V) 24) Gs.out)
  have Gr := Lib.hid (alloc_new' (w := (w17).alloc (.cells (wcells T) 24)) (n := w17.heap.size + 1) (.cells (wcells V) 24) (by simp))
  replace VB := Lib.hid (VB.out.al (.cells (wcells V) 24))
  have cGn := cell_row Gn.out
  have cGx := cell_row Gx.out
  have cGy := cell_row Gy.out
  have cGs := cell_row Gs.out
  go_wp2_with fail
  refine (S3.out _).mono ?_
  rintro e w18 ⟨rfl, hb⟩
  clear cGn cGx cGy cGs
  replace VB := Lib.hid (VB.out.below hb)
  replace Gn := Lib.hid ((hb.block _ (lt_of_heap Gn.out)).trans Gn.out)
  replace Gx := Lib.hid ((hb.block _ (lt_of_heap Gx.out)).trans Gx.out)
  replace Gy := Lib.hid ((hb.block _ (lt_of_heap Gy.out)).trans Gy.out)
  replace Gs := Lib.hid ((hb.block _ (lt_of_heap Gs.out)).trans Gs.out)
  clear hb
  have sts := st_row (P := Tryz.prog) Gs.out rfl (S)
  replace Gn := Lib.hid ((setRow_other (w18) (w17.heap.size) _ (wcells (S)) (by (have := HZ.out; have := HZ2.out; have := HZ3.out; omega))).trans Gn.out)
  replace Gx := Lib.hid ((setRow_other (w18) (w17.heap.size) _ (wcells (S)) (by (have := HZ.out; have := HZ2.out; have := HZ3.out; omega))).trans Gx.out)
  replace Gy := Lib.hid ((setRow_other (w18) (w17.heap.size) _ (wcells (S)) (by (have := HZ.out; have := HZ2.out; have := HZ3.out; omega))).trans Gy.out)
  replace Gs := Lib.hid (setRow_heap (w18) (w17.heap.size) _ (wcells (S)) _ _ Gs.out)
  replace VB := Lib.hid (VB.out.row (show _ ≤ w17.heap.size by (have := HZ.out; have := HZ2.out; have := HZ3.out; omega)) (wcells (S)))
  have cGn := cell_row Gn.out
  have cGx := cell_row Gx.out
  have cGy := cell_row Gy.out
  have cGs := cell_row Gs.out
  go_wp2_with fail
  refine (S4.out _).mono ?_
  rintro e w19 ⟨rfl, hb⟩
  clear cGn cGx cGy cGs sts
  replace VB := Lib.hid (VB.out.below hb)
  replace Gn := Lib.hid ((hb.block _ (lt_of_heap Gn.out)).trans Gn.out)
  replace Gx := Lib.hid ((hb.block _ (lt_of_heap Gx.out)).trans Gx.out)
  replace Gy := Lib.hid ((hb.block _ (lt_of_heap Gy.out)).trans Gy.out)
  replace Gs := Lib.hid ((hb.block _ (lt_of_heap Gs.out)).trans Gs.out)
  clear hb
  replace Gn := Lib.hid (keepAl (o' := .cells (wcells Q) 24) Gn.out)
  replace Gx := Lib.hid (keepAl (o' := .cells (wcells Q) 24) Gx.out)
  replace Gy := Lib.hid (keepAl (o' := .cells (wcells Q) 24) Gy.out)
  replace Gs := Lib.hid (keepAl (o' := .cells (wcells Q) 24) Gs.out)
  have Gq := Lib.hid (alloc_new (w19) (.cells (wcells Q) 24))
  replace VB := Lib.hid (VB.out.al (.cells (wcells Q) 24))
  have cGn := cell_row Gn.out
  have cGx := cell_row Gx.out
  have cGy := cell_row Gy.out
  have cGs := cell_row Gs.out
  have cGq := cell_row Gq.out
  go_wp2_with fail
  refine (S5.out _).mono ?_
  rintro e w20 ⟨rfl, hb⟩
  clear cGn cGx cGy cGs cGq
  replace VB := Lib.hid (VB.out.below hb)
  replace Gn := Lib.hid ((hb.block _ (lt_of_heap Gn.out)).trans Gn.out)
  replace Gx := Lib.hid ((hb.block _ (lt_of_heap Gx.out)).trans Gx.out)
  replace Gy := Lib.hid ((hb.block _ (lt_of_heap Gy.out)).trans Gy.out)
  replace Gs := Lib.hid ((hb.block _ (lt_of_heap Gs.out)).trans Gs.out)
  replace Gq := Lib.hid ((hb.block _ (lt_of_heap Gq.out)).trans Gq.out)
  clear hb
  have HZ4 := Lib.hid (lt_of_heap Gy.out)
  replace Gx := Lib.hid (keepAl (o' := .cells (wcells R) 24) Gx.out)
  replace Gy := Lib.hid (keepAl (o' := .cells (wcells R) 24) Gy.out)
  replace Gs := Lib.hid (keepAl (o' := .cells (wcells R) 24) Gs.out)
  have Gv := Lib.hid (alloc_new (w20) (.cells (wcells R) 24))
  replace VB := Lib.hid (VB.out.al (.cells (wcells R) 24))
  have cGx := cell_row Gx.out
  have cGy := cell_row Gy.out
  have cGs := cell_row Gs.out
  have cGv := cell_row Gv.out
  go_upto_region 13 with fail
  clear cGx cGy cGs cGv
  obtain ⟨w21, hw⟩ : ∃ wx, wx = (w20).alloc (.cells (wcells R) 24) := ⟨_, rfl⟩
  rw [← hw] at Gx Gy Gs Gv VB ⊢
  clear hw
  refine wp_region_store [⟨w.heap.size + 1, 24, .tmp 76⟩, ⟨w.heap.size + 1 + 1, 24, .tmp 77⟩] (by kernel_rfl) (by kernel_rfl) (by kernel_rfl) rfl (List.Pairwise.cons (by intro r hr; simp only [List.mem_cons, List.not_mem_nil, or_false] at hr; subst hr <;> dsimp only <;> (have := HZ.out; have := HZ3.out; have := HZ4.out; omega)) (List.pairwise_singleton _ _)) ?_ ?_
  · intro r hr
    simp only [List.mem_cons, List.not_mem_nil, or_false] at hr
    rcases hr with rfl | rfl
    · exact ⟨_, Gx.out, by kernel_rfl⟩
    · exact ⟨_, Gy.out, by kernel_rfl⟩
  have xGs := extR_row (B := w21.heap.size) (R := [⟨w.heap.size + 1, 24, .tmp 76⟩, ⟨w.heap.size + 1 + 1, 24, .tmp 77⟩]) Gs.out (lt_of_heap Gs.out) (by intro r hr; simp only [List.mem_cons, List.not_mem_nil, or_false] at hr; rcases hr with rfl | rfl <;> dsimp only <;> (have := HZ.out; have := HZ3.out; have := HZ4.out; omega))
  have xGv := extR_row (B := w21.heap.size) (R := [⟨w.heap.size + 1, 24, .tmp 76⟩, ⟨w.heap.size + 1 + 1, 24, .tmp 77⟩]) Gv.out (lt_of_heap Gv.out) (by intro r hr; simp only [List.mem_cons, List.not_mem_nil, or_false] at hr; rcases hr with rfl | rfl <;> dsimp only <;> (have := HZ.out; have := HZ3.out; have := HZ4.out; omega))
  repeat (refine wpCalm_step (fun K hK => ?_); go_simp; first | (refine hK _ ?_; clear hK K) | (apply Exists.intro; refine ⟨fun _ => ?_, hK _ ?_⟩; (first | fail); clear hK K))
  refine wpCalm_nil ⟨?_, fun x hx => ?_⟩
  · intro r hr
    simp only [List.mem_cons, List.not_mem_nil, or_false] at hr
    rcases hr with rfl | rfl <;> exact fits_wv (by kernel_rfl) _
  replace Gx : Hid (x.val.heap[w.heap.size + 1]? = some (.cells (wcells (S)) 24 (0, 0))) := Lib.hid (hx ⟨w.heap.size + 1, 24, .tmp 76⟩ (by simp))
  replace Gy : Hid (x.val.heap[w.heap.size + 1 + 1]? = some (.cells (wcells (R)) 24 (0, 0))) := Lib.hid (hx ⟨w.heap.size + 1 + 1, 24, .tmp 77⟩ (by simp))
  replace Gs := Lib.hid (extR_block x Gs.out (lt_of_heap Gs.out) (by intro r hr; simp only [List.mem_cons, List.not_mem_nil, or_false] at hr; rcases hr with rfl | rfl <;> dsimp only <;> (have := HZ.out; have := HZ3.out; have := HZ4.out; omega)))
  replace Gv := Lib.hid (extR_block x Gv.out (lt_of_heap Gv.out) (by intro r hr; simp only [List.mem_cons, List.not_mem_nil, or_false] at hr; rcases hr with rfl | rfl <;> dsimp only <;> (have := HZ.out; have := HZ3.out; have := HZ4.out; omega)))
  replace VB := Lib.hid (VB.out.extR x (by intro r hr; simp only [List.mem_cons, List.not_mem_nil, or_false] at hr; rcases hr with rfl | rfl <;> dsimp only <;> (have := HZ.out; have := HZ3.out; have := HZ4.out; omega)))
  clear hx xGs xGv
  obtain ⟨w22, hw⟩ : ∃ wx, wx = x.val := ⟨_, rfl⟩
  rw [← hw] at Gx Gy Gs Gv VB ⊢
  clear hw x
  have cGx := cell_row Gx.out
  have cGy := cell_row Gy.out
  have cGs := cell_row Gs.out
  have cGv := cell_row Gv.out
  go_wp2
  exact bodyPost_ret (v := .tuple #[wv S, wv R, .int .i64 0]) (res_cct Tryz.results25 _ _ _ _ _ _ _ _ _ _ _ rfl rfl rfl Gx.out Gy.out aggW aggW) rfl ⟨rfl, VB.out⟩
theorem rootB_w (e g n : Nat) (hn : n < M) (w : World) (hE : w.heap[e]? = some (.cells #[.pointer (some ⟨g, 0, none⟩)] 115 (0, 0))) (hI : IsRom w g) (hne : e ≠ g) :
    Calls Tryz.prog 25 #[.pointer (some ⟨e, 0, none⟩), wv n] w fun x w' => x = .returned (.tuple #[wv (rsS n), wv (rsR n), .int .i64 (rsE n)]) ∧ VG g w w' := by
  by_cases h0 : n = 0
  · have h : n < P2 256 := by rw [h0]; exact P2_pos _
    obtain ⟨e1, e2, e3⟩ := rs_yes h
    have e4 : rtN 2 n = 0 := by rw [h0]; exact rt_unique (by decide) (by decide)
    have hg : grE n 5 = 5 := by unfold grE; rw [if_neg (by omega), if_pos h0]
    have key := rootB_no (.pointer (some ⟨e, 0, none⟩)) n 5 0 (Or.inl ⟨rfl, rfl⟩) (fun w' => by have := pairB_no e n 5 hn (by rw [hg]; decide) w'; rwa [hg] at this) w
    rw [e1, e2, e3, e4, h0, Nat.zero_mul, Nat.sub_zero]
    rw [h0] at key
    exact key.mono fun _ _ ⟨h1, h2⟩ => ⟨h1, (VG.refl hI).below h2⟩
  · by_cases h : n < P2 256
    · obtain ⟨e1, e2, e3⟩ := rs_yes h
      rw [e1, e2, e3]
      exact rootB_yes e g n h0 h w hE hI hne
    · obtain ⟨e1, e2, e3⟩ := rs_no h
      have hg : grE n 5 = 4 := by unfold grE; rw [if_pos (Or.inr (Or.inr h))]
      have key := rootB_no (.pointer (some ⟨e, 0, none⟩)) n 4 4 (Or.inr ⟨by decide, by decide, rfl⟩) (fun w' => by have := pairB_no e n 5 hn (by rw [hg]; decide) w'; rwa [hg] at this) w
      rw [e1, e2, e3]
      exact key.mono fun _ _ ⟨h1, h2⟩ => ⟨h1, (VG.refl hI).below h2⟩
set_option maxRecDepth 100000 in
theorem newB_nil (w : World) : Calls Tryz.prog 24 #[.pointer none] w fun x w' => ∃ e g, x = .returned (.pointer (some ⟨e, 0, none⟩)) ∧ IsEng 115 w.heap.size e g w' ∧ Below w.heap.size w w' := by
  have S0 := Lib.hid (fun w' => romNew_any w')
  go_enter Tryz.func24, Tryz.ntmps24
  go_wp2_with fail
  refine (S0.out _).mono ?_
  rintro x w1 ⟨rfl, hn, hb⟩
  have HN := Lib.hid hn
  have HB := Lib.hid hb
  clear hn hb
  go_wp2
  go_ret
  have h1 := HN.out.lt
  exact ⟨_, _, rfl, ⟨alloc_new _ _, (show IsRom w1 w.heap.size from Or.inl HN.out).keep (alloc_old _ _ _ h1), by omega, by omega, Nat.le_refl _⟩, below_al HB _⟩
set_option maxRecDepth 100000 in
theorem newB_at (g : Nat) (w : World) (h : IsRom w g) : Calls Tryz.prog 24 #[.pointer (some ⟨g, 0, none⟩)] w fun x w' => x = .returned (.pointer (some ⟨w.heap.size, 0, none⟩)) ∧ w'.heap[w.heap.size]? = some (.cells #[.pointer (some ⟨g, 0, none⟩)] 115 (0, 0)) ∧ IsRom w' g ∧ Below w.heap.size w w' := by
  have HN := Lib.hid h
  clear h
  go_enter Tryz.func24, Tryz.ntmps24
  go_wp2
  go_ret
  exact ⟨rfl, alloc_new _ _, HN.out.keep (alloc_old _ _ _ HN.out.lt), below_al (Lib.hid (Below.refl _ _)) _⟩
end Go.Proofs.YtegmmaaapdgocaaGreat
