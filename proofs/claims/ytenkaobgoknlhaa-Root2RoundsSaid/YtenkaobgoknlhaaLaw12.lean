/- THE WALKS of the laws on root2: roots and third roots. -/
import Derived.Test.YtenkaobgoknlhaaRt2d
import Derived.Test.YtenkaobgoknlhaaRt2c
import Derived.Test.YtenkaobgoknlhaaLaw11N
namespace Go.Proofs.Ytenkaobgoknlhaa
open Go Go.RowKit

/-- Is a number a square? -/
def sqB (n : Nat) : Bool := decide (n < P2 256) && isZ (rsR n)
theorem rs_lt {n : Nat} (hn : n < M) : rsS n < M ∧ rsR n < M := by
  have := M_pos
  unfold rsS rsR
  split
  · rename_i h
    have := rt_lt h
    have h2 : P2 128 < M := by rw [M_eq]; exact P2_lt (by omega)
    exact ⟨by omega, by omega⟩
  · exact ⟨M_pos, M_pos⟩
theorem root_99 : (99 : Nat) < P2 256 ∧ rtN 2 99 = 9 ∧ rtN 3 99 = 4 := by
  refine ⟨?_, rt_unique (by decide) (by decide), ?_⟩
  · have : P2 64 ≤ P2 256 := P2_le (by omega)
    rw [P2_64] at this
    omega
  · have h1 := (rt_le 3 99 4 (by decide)).2 (by decide)
    have h2 : ¬ 5 ≤ rtN 3 99 := fun h => by
      have := (rt_le 3 99 5 (by decide)).1 h
      revert this
      decide
    omega

attribute [local go_sem ↓] Go.wp_at_zero Go.wp_at_succ
set_option maxRecDepth 100000 in
set_option maxHeartbeats 1000000 in
theorem awake12_any (w : World) : Calls Try.prog 98 #[] w fun e w' => e = .returned (.bool true) ∧ Below w.heap.size w w' := by
  obtain ⟨h0, h1, h2⟩ := root_99
  obtain ⟨a1, a2, a3⟩ := rs_yes h0
  obtain ⟨b1, b2⟩ := cb_yes h0
  have S1 := Lib.hid (fun w' => root_w 99 (lit_ltM _ (by decide)) w')
  rw [a1, a2, a3, h1] at S1
  have S2 := Lib.hid (fun w' => cube_w 99 (lit_ltM _ (by decide)) w')
  rw [b1, b2, a3, h2] at S2
  have E99 : (#[.int .u64 99, .int .u64 0, .int .u64 0, .int .u64 0, .int .u64 0, .int .u64 0, .int .u64 0, .int .u64 0] : Array Value) = wcells 99 := lit_cells 99 (by decide)
  have E9 : (#[.int .u64 9, .int .u64 0, .int .u64 0, .int .u64 0, .int .u64 0, .int .u64 0, .int .u64 0, .int .u64 0] : Array Value) = wcells 9 := lit_cells 9 (by decide)
  have E18 : (#[.int .u64 18, .int .u64 0, .int .u64 0, .int .u64 0, .int .u64 0, .int .u64 0, .int .u64 0, .int .u64 0] : Array Value) = wcells 18 := lit_cells 18 (by decide)
  have E4 : (#[.int .u64 4, .int .u64 0, .int .u64 0, .int .u64 0, .int .u64 0, .int .u64 0, .int .u64 0, .int .u64 0] : Array Value) = wcells 4 := lit_cells 4 (by decide)
  have E35 : (#[.int .u64 35, .int .u64 0, .int .u64 0, .int .u64 0, .int .u64 0, .int .u64 0, .int .u64 0, .int .u64 0] : Array Value) = wcells 35 := lit_cells 35 (by decide)
  clear h0 h1 h2 a1 a2 a3 b1 b2
  go_enter Try.func98, Try.ntmps98
  have HB := Lib.hid (Below.refl w.heap.size w)
  go_wp2_with fail
  refine (S1.out _).mono ?_
  rintro e w1 ⟨rfl, hb⟩
  replace HB := Lib.hid (below_then HB.out hb)
  clear hb
  have Gs := Lib.hid (alloc_new (w1) (.cells (wcells 9) 26))
  replace HB := Lib.hid (below_al HB.out (.cells (wcells 9) 26))
  replace Gs := Lib.hid (keepAl (o' := .cells (wcells 18) 26) Gs.out)
  have Gr := Lib.hid (alloc_new' (w := (w1).alloc (.cells (wcells 9) 26)) (n := w1.heap.size + 1) (.cells (wcells 18) 26) (by simp))
  replace HB := Lib.hid (below_al HB.out (.cells (wcells 18) 26))
  have cGs := cell_row Gs.out
  have cGr := cell_row Gr.out
  go_wp2_with fail
  refine (S2.out _).mono ?_
  rintro e w2 ⟨rfl, hb⟩
  clear cGs cGr
  replace HB := Lib.hid (below_then HB.out hb)
  replace Gs := Lib.hid ((hb.block _ (lt_of_heap Gs.out)).trans Gs.out)
  replace Gr := Lib.hid ((hb.block _ (lt_of_heap Gr.out)).trans Gr.out)
  clear hb
  replace Gs := Lib.hid (keepAl (o' := .cells (wcells 4) 26) Gs.out)
  replace Gr := Lib.hid (keepAl (o' := .cells (wcells 4) 26) Gr.out)
  have Gc := Lib.hid (alloc_new (w2) (.cells (wcells 4) 26))
  replace HB := Lib.hid (below_al HB.out (.cells (wcells 4) 26))
  replace Gs := Lib.hid (keepAl (o' := .cells (wcells 35) 26) Gs.out)
  replace Gr := Lib.hid (keepAl (o' := .cells (wcells 35) 26) Gr.out)
  replace Gc := Lib.hid (keepAl (o' := .cells (wcells 35) 26) Gc.out)
  have Gx := Lib.hid (alloc_new' (w := (w2).alloc (.cells (wcells 4) 26)) (n := w2.heap.size + 1) (.cells (wcells 35) 26) (by simp))
  replace HB := Lib.hid (below_al HB.out (.cells (wcells 35) 26))
  have cGs := cell_row Gs.out
  have cGr := cell_row Gr.out
  have cGc := cell_row Gc.out
  have cGx := cell_row Gx.out
  go_wp2
  go_ret
  exact ⟨rfl, HB.out⟩

set_option maxHeartbeats 1000000 in
theorem square12_w (n : Nat) (hn : n < M) (w : World) : Calls Try.prog 102 #[wv n] w fun e w' => e = .returned (.bool (sqB n)) ∧ Below w.heap.size w w' := by
  have S1 := Lib.hid (fun w' => root_w n hn w')
  by_cases h : n < P2 256
  · have hq : sqB n = isZ (rsR n) := by unfold sqB; rw [decide_eq_true h, Bool.true_and]
    rw [hq]
    rw [(rs_yes h).2.2] at S1
    obtain ⟨S, hS⟩ : ∃ S, S = rsS n := ⟨_, rfl⟩
    obtain ⟨R, hR⟩ : ∃ S, S = rsR n := ⟨_, rfl⟩
    rw [← hS, ← hR] at S1
    rw [← hR]
    clear hn h hq hS hR
    go_enter Try.func102, Try.ntmps102
    have HB := Lib.hid (Below.refl w.heap.size w)
    have Gn := Lib.hid (alloc_new (w) (.cells (wcells n) 26))
    replace HB := Lib.hid (below_al HB.out (.cells (wcells n) 26))
    have cGn := cell_row Gn.out
    go_wp2_with fail
    refine (S1.out _).mono ?_
    rintro e w3 ⟨rfl, hb⟩
    clear cGn
    replace HB := Lib.hid (below_then HB.out hb)
    replace Gn := Lib.hid ((hb.block _ (lt_of_heap Gn.out)).trans Gn.out)
    clear hb
    replace Gn := Lib.hid (keepAl (o' := .cells (wcells S) 26) Gn.out)
    have Gs := Lib.hid (alloc_new (w3) (.cells (wcells S) 26))
    replace HB := Lib.hid (below_al HB.out (.cells (wcells S) 26))
    replace Gn := Lib.hid (keepAl (o' := .cells (wcells R) 26) Gn.out)
    replace Gs := Lib.hid (keepAl (o' := .cells (wcells R) 26) Gs.out)
    have Gr := Lib.hid (alloc_new' (w := (w3).alloc (.cells (wcells S) 26)) (n := w3.heap.size + 1) (.cells (wcells R) 26) (by simp))
    replace HB := Lib.hid (below_al HB.out (.cells (wcells R) 26))
    have cGn := cell_row Gn.out
    have cGs := cell_row Gs.out
    have cGr := cell_row Gr.out
    go_wp2
    go_ret
    exact ⟨rfl, HB.out⟩
  · have hq : sqB n = false := by unfold sqB; rw [decide_eq_false h, Bool.false_and]
    obtain ⟨e1, e2, e3⟩ := rs_no h
    rw [hq]
    rw [e1, e2, e3] at S1
    clear hn h hq e1 e2 e3
    go_enter Try.func102, Try.ntmps102
    have HB := Lib.hid (Below.refl w.heap.size w)
    have Gn := Lib.hid (alloc_new (w) (.cells (wcells n) 26))
    replace HB := Lib.hid (below_al HB.out (.cells (wcells n) 26))
    have cGn := cell_row Gn.out
    go_wp2_with fail
    refine (S1.out _).mono ?_
    rintro e w4 ⟨rfl, hb⟩
    clear cGn
    replace HB := Lib.hid (below_then HB.out hb)
    replace Gn := Lib.hid ((hb.block _ (lt_of_heap Gn.out)).trans Gn.out)
    clear hb
    replace Gn := Lib.hid (keepAl (o' := .cells (wcells 0) 26) Gn.out)
    have Gs := Lib.hid (alloc_new (w4) (.cells (wcells 0) 26))
    replace HB := Lib.hid (below_al HB.out (.cells (wcells 0) 26))
    replace Gn := Lib.hid (keepAl (o' := .cells (wcells 0) 26) Gn.out)
    replace Gs := Lib.hid (keepAl (o' := .cells (wcells 0) 26) Gs.out)
    have Gr := Lib.hid (alloc_new' (w := (w4).alloc (.cells (wcells 0) 26)) (n := w4.heap.size + 1) (.cells (wcells 0) 26) (by simp))
    replace HB := Lib.hid (below_al HB.out (.cells (wcells 0) 26))
    have cGn := cell_row Gn.out
    have cGs := cell_row Gs.out
    have cGr := cell_row Gr.out
    go_wp2
    go_ret
    exact ⟨rfl, HB.out⟩

set_option maxHeartbeats 2000000 in
theorem holds12_any (n : Nat) (w : World) (hn : n < M) :
    Calls Try.prog 101 #[wv n, wv (rsS n), wv (rsR n), .int .i64 (rsE n)] w fun e w' => e = .returned (.bool true) ∧ Below w.heap.size w w' := by
  have S1 := Lib.hid (fun w' => rmayR_any n hn w')
  by_cases h : n < P2 256
  · obtain ⟨e1, e2, e3⟩ := rs_yes h
    have S2 : Hid (∀ w' : World, Calls Try.prog 99 #[wv n, .int .i64 2] w' fun e w'' => e = .returned (.tuple #[wv (rtN 2 n), wv (n - rtN 2 n * rtN 2 n)]) ∧ Below w'.heap.size w' w'') := Lib.hid fun w' => by
      have := rroot_any n 2 w' h (Or.inl rfl)
      rw [sqr] at this
      exact this
    rw [decide_eq_true h] at S1
    rw [e1, e2, e3]
    obtain ⟨S, hS⟩ : ∃ S, S = rtN 2 n := ⟨_, rfl⟩
    rw [← hS] at S2 ⊢
    obtain ⟨R, hR⟩ : ∃ R, R = n - S * S := ⟨_, rfl⟩
    rw [← hR] at S2 ⊢
    clear hn h e1 e2 e3 hS hR
    go_enter Try.func101, Try.ntmps101
    have HB := Lib.hid (Below.refl w.heap.size w)
    have Gn := Lib.hid (alloc_new (w) (.cells (wcells n) 26))
    replace HB := Lib.hid (below_al HB.out (.cells (wcells n) 26))
    replace Gn := Lib.hid (keepAl (o' := .cells (wcells S) 26) Gn.out)
    have Gs := Lib.hid (alloc_new' (w := (w).alloc (.cells (wcells n) 26)) (n := w.heap.size + 1) (.cells (wcells S) 26) (by simp))
    replace HB := Lib.hid (below_al HB.out (.cells (wcells S) 26))
    replace Gn := Lib.hid (keepAl (o' := .cells (wcells R) 26) Gn.out)
    replace Gs := Lib.hid (keepAl (o' := .cells (wcells R) 26) Gs.out)
    have Gr := Lib.hid (alloc_new' (w := ((w).alloc (.cells (wcells n) 26)).alloc (.cells (wcells S) 26)) (n := w.heap.size + 1 + 1) (.cells (wcells R) 26) (by simp))
    replace HB := Lib.hid (below_al HB.out (.cells (wcells R) 26))
    have cGn := cell_row Gn.out
    have cGs := cell_row Gs.out
    have cGr := cell_row Gr.out
    go_wp2_with fail
    refine (S1.out _).mono ?_
    rintro e w5 ⟨rfl, hb⟩
    clear cGn cGs cGr
    replace HB := Lib.hid (below_then HB.out hb)
    replace Gn := Lib.hid ((hb.block _ (lt_of_heap Gn.out)).trans Gn.out)
    replace Gs := Lib.hid ((hb.block _ (lt_of_heap Gs.out)).trans Gs.out)
    replace Gr := Lib.hid ((hb.block _ (lt_of_heap Gr.out)).trans Gr.out)
    clear hb
    have cGn := cell_row Gn.out
    have cGs := cell_row Gs.out
    have cGr := cell_row Gr.out
    go_wp2_with fail
    refine (S2.out _).mono ?_
    rintro e w6 ⟨rfl, hb⟩
    clear cGn cGs cGr
    replace HB := Lib.hid (below_then HB.out hb)
    replace Gn := Lib.hid ((hb.block _ (lt_of_heap Gn.out)).trans Gn.out)
    replace Gs := Lib.hid ((hb.block _ (lt_of_heap Gs.out)).trans Gs.out)
    replace Gr := Lib.hid ((hb.block _ (lt_of_heap Gr.out)).trans Gr.out)
    clear hb
    replace Gn := Lib.hid (keepAl (o' := .cells (wcells S) 26) Gn.out)
    replace Gs := Lib.hid (keepAl (o' := .cells (wcells S) 26) Gs.out)
    replace Gr := Lib.hid (keepAl (o' := .cells (wcells S) 26) Gr.out)
    have Ga := Lib.hid (alloc_new (w6) (.cells (wcells S) 26))
    replace HB := Lib.hid (below_al HB.out (.cells (wcells S) 26))
    replace Gn := Lib.hid (keepAl (o' := .cells (wcells R) 26) Gn.out)
    replace Gs := Lib.hid (keepAl (o' := .cells (wcells R) 26) Gs.out)
    replace Gr := Lib.hid (keepAl (o' := .cells (wcells R) 26) Gr.out)
    replace Ga := Lib.hid (keepAl (o' := .cells (wcells R) 26) Ga.out)
    have Gb := Lib.hid (alloc_new' (w := (w6).alloc (.cells (wcells S) 26)) (n := w6.heap.size + 1) (.cells (wcells R) 26) (by simp))
    replace HB := Lib.hid (below_al HB.out (.cells (wcells R) 26))
    have cGn := cell_row Gn.out
    have cGs := cell_row Gs.out
    have cGr := cell_row Gr.out
    have cGa := cell_row Ga.out
    have cGb := cell_row Gb.out
    go_wp2
    go_ret
    exact ⟨rfl, HB.out⟩
  · obtain ⟨e1, e2, e3⟩ := rs_no h
    rw [decide_eq_false h] at S1
    rw [e1, e2, e3]
    clear hn h e1 e2 e3
    go_enter Try.func101, Try.ntmps101
    have HB := Lib.hid (Below.refl w.heap.size w)
    have Gn := Lib.hid (alloc_new (w) (.cells (wcells n) 26))
    replace HB := Lib.hid (below_al HB.out (.cells (wcells n) 26))
    replace Gn := Lib.hid (keepAl (o' := .cells (wcells 0) 26) Gn.out)
    have Gs := Lib.hid (alloc_new' (w := (w).alloc (.cells (wcells n) 26)) (n := w.heap.size + 1) (.cells (wcells 0) 26) (by simp))
    replace HB := Lib.hid (below_al HB.out (.cells (wcells 0) 26))
    replace Gn := Lib.hid (keepAl (o' := .cells (wcells 0) 26) Gn.out)
    replace Gs := Lib.hid (keepAl (o' := .cells (wcells 0) 26) Gs.out)
    have Gr := Lib.hid (alloc_new' (w := ((w).alloc (.cells (wcells n) 26)).alloc (.cells (wcells 0) 26)) (n := w.heap.size + 1 + 1) (.cells (wcells 0) 26) (by simp))
    replace HB := Lib.hid (below_al HB.out (.cells (wcells 0) 26))
    have cGn := cell_row Gn.out
    have cGs := cell_row Gs.out
    have cGr := cell_row Gr.out
    go_wp2_with fail
    refine (S1.out _).mono ?_
    rintro e w7 ⟨rfl, hb⟩
    clear cGn cGs cGr
    replace HB := Lib.hid (below_then HB.out hb)
    replace Gn := Lib.hid ((hb.block _ (lt_of_heap Gn.out)).trans Gn.out)
    replace Gs := Lib.hid ((hb.block _ (lt_of_heap Gs.out)).trans Gs.out)
    replace Gr := Lib.hid ((hb.block _ (lt_of_heap Gr.out)).trans Gr.out)
    clear hb
    have cGn := cell_row Gn.out
    have cGs := cell_row Gs.out
    have cGr := cell_row Gr.out
    go_wp2
    go_ret
    exact ⟨rfl, HB.out⟩

set_option maxHeartbeats 2000000 in
theorem root2Roots_any (n : Nat) (w : World) (hn : n < M) :
    Calls Try.prog 24 #[wv n] w fun e w' => e = .returned (.bool true) ∧ Below w.heap.size w w' := by
  have S1 := Lib.hid (fun w' => root_w n hn w')
  have S2 := Lib.hid (fun w' => holds12_any n w' hn)
  have S3 := Lib.hid (fun w' => square12_w n hn w')
  have SA := Lib.hid (fun w' => awake12_any w')
  by_cases h : n < P2 256
  · have hq : sqB n = isZ (rsR n) := by unfold sqB; rw [decide_eq_true h, Bool.true_and]
    rw [hq] at S3
    rw [(rs_yes h).2.2] at S1 S2
    obtain ⟨S, hS⟩ : ∃ S, S = rsS n := ⟨_, rfl⟩
    obtain ⟨R, hR⟩ : ∃ S, S = rsR n := ⟨_, rfl⟩
    rw [← hS, ← hR] at S1 S2
    rw [← hR] at S3
    clear hn h hq hS hR
    cases hz : isZ R
    all_goals
      rw [hz] at S3
      go_enter Try.func24, Try.ntmps24
      have HB := Lib.hid (Below.refl w.heap.size w)
      have Gn := Lib.hid (alloc_new (w) (.cells (wcells n) 26))
      replace HB := Lib.hid (below_al HB.out (.cells (wcells n) 26))
      have cGn := cell_row Gn.out
      go_wp2_with fail
      refine (S1.out _).mono ?_
      rintro e w8 ⟨rfl, hb⟩
      clear cGn
      replace HB := Lib.hid (below_then HB.out hb)
      replace Gn := Lib.hid ((hb.block _ (lt_of_heap Gn.out)).trans Gn.out)
      clear hb
      replace Gn := Lib.hid (keepAl (o' := .cells (wcells S) 26) Gn.out)
      have Gs := Lib.hid (alloc_new (w8) (.cells (wcells S) 26))
      replace HB := Lib.hid (below_al HB.out (.cells (wcells S) 26))
      replace Gn := Lib.hid (keepAl (o' := .cells (wcells R) 26) Gn.out)
      replace Gs := Lib.hid (keepAl (o' := .cells (wcells R) 26) Gs.out)
      have Gr := Lib.hid (alloc_new' (w := (w8).alloc (.cells (wcells S) 26)) (n := w8.heap.size + 1) (.cells (wcells R) 26) (by simp))
      replace HB := Lib.hid (below_al HB.out (.cells (wcells R) 26))
      have cGn := cell_row Gn.out
      have cGs := cell_row Gs.out
      have cGr := cell_row Gr.out
      go_wp2_with fail
      refine (S2.out _).mono ?_
      rintro e w9 ⟨rfl, hb⟩
      clear cGn cGs cGr
      replace HB := Lib.hid (below_then HB.out hb)
      replace Gn := Lib.hid ((hb.block _ (lt_of_heap Gn.out)).trans Gn.out)
      replace Gs := Lib.hid ((hb.block _ (lt_of_heap Gs.out)).trans Gs.out)
      replace Gr := Lib.hid ((hb.block _ (lt_of_heap Gr.out)).trans Gr.out)
      clear hb
      have cGn := cell_row Gn.out
      have cGs := cell_row Gs.out
      have cGr := cell_row Gr.out
      go_wp2_with fail
      refine (S3.out _).mono ?_
      rintro e w10 ⟨rfl, hb⟩
      clear cGn cGs cGr
      replace HB := Lib.hid (below_then HB.out hb)
      replace Gn := Lib.hid ((hb.block _ (lt_of_heap Gn.out)).trans Gn.out)
      replace Gs := Lib.hid ((hb.block _ (lt_of_heap Gs.out)).trans Gs.out)
      replace Gr := Lib.hid ((hb.block _ (lt_of_heap Gr.out)).trans Gr.out)
      clear hb
      have cGn := cell_row Gn.out
      have cGs := cell_row Gs.out
      have cGr := cell_row Gr.out
      go_wp2_with fail
      refine (SA.out _).mono ?_
      rintro e w11 ⟨rfl, hb⟩
      clear cGn cGs cGr
      replace HB := Lib.hid (below_then HB.out hb)
      replace Gn := Lib.hid ((hb.block _ (lt_of_heap Gn.out)).trans Gn.out)
      replace Gs := Lib.hid ((hb.block _ (lt_of_heap Gs.out)).trans Gs.out)
      replace Gr := Lib.hid ((hb.block _ (lt_of_heap Gr.out)).trans Gr.out)
      clear hb
      have cGn := cell_row Gn.out
      have cGs := cell_row Gs.out
      have cGr := cell_row Gr.out
      go_wp2
      go_ret
      exact ⟨rfl, HB.out⟩
  · have hq : sqB n = false := by unfold sqB; rw [decide_eq_false h, Bool.false_and]
    obtain ⟨e1, e2, e3⟩ := rs_no h
    rw [hq] at S3
    rw [e1, e2, e3] at S1 S2
    clear hn h hq e1 e2 e3
    go_enter Try.func24, Try.ntmps24
    have HB := Lib.hid (Below.refl w.heap.size w)
    have Gn := Lib.hid (alloc_new (w) (.cells (wcells n) 26))
    replace HB := Lib.hid (below_al HB.out (.cells (wcells n) 26))
    have cGn := cell_row Gn.out
    go_wp2_with fail
    refine (S1.out _).mono ?_
    rintro e w12 ⟨rfl, hb⟩
    clear cGn
    replace HB := Lib.hid (below_then HB.out hb)
    replace Gn := Lib.hid ((hb.block _ (lt_of_heap Gn.out)).trans Gn.out)
    clear hb
    replace Gn := Lib.hid (keepAl (o' := .cells (wcells 0) 26) Gn.out)
    have Gs := Lib.hid (alloc_new (w12) (.cells (wcells 0) 26))
    replace HB := Lib.hid (below_al HB.out (.cells (wcells 0) 26))
    replace Gn := Lib.hid (keepAl (o' := .cells (wcells 0) 26) Gn.out)
    replace Gs := Lib.hid (keepAl (o' := .cells (wcells 0) 26) Gs.out)
    have Gr := Lib.hid (alloc_new' (w := (w12).alloc (.cells (wcells 0) 26)) (n := w12.heap.size + 1) (.cells (wcells 0) 26) (by simp))
    replace HB := Lib.hid (below_al HB.out (.cells (wcells 0) 26))
    have cGn := cell_row Gn.out
    have cGs := cell_row Gs.out
    have cGr := cell_row Gr.out
    go_wp2_with fail
    refine (S2.out _).mono ?_
    rintro e w13 ⟨rfl, hb⟩
    clear cGn cGs cGr
    replace HB := Lib.hid (below_then HB.out hb)
    replace Gn := Lib.hid ((hb.block _ (lt_of_heap Gn.out)).trans Gn.out)
    replace Gs := Lib.hid ((hb.block _ (lt_of_heap Gs.out)).trans Gs.out)
    replace Gr := Lib.hid ((hb.block _ (lt_of_heap Gr.out)).trans Gr.out)
    clear hb
    have cGn := cell_row Gn.out
    have cGs := cell_row Gs.out
    have cGr := cell_row Gr.out
    go_wp2_with fail
    refine (S3.out _).mono ?_
    rintro e w14 ⟨rfl, hb⟩
    clear cGn cGs cGr
    replace HB := Lib.hid (below_then HB.out hb)
    replace Gn := Lib.hid ((hb.block _ (lt_of_heap Gn.out)).trans Gn.out)
    replace Gs := Lib.hid ((hb.block _ (lt_of_heap Gs.out)).trans Gs.out)
    replace Gr := Lib.hid ((hb.block _ (lt_of_heap Gr.out)).trans Gr.out)
    clear hb
    have cGn := cell_row Gn.out
    have cGs := cell_row Gs.out
    have cGr := cell_row Gr.out
    go_wp2_with fail
    refine (SA.out _).mono ?_
    rintro e w15 ⟨rfl, hb⟩
    clear cGn cGs cGr
    replace HB := Lib.hid (below_then HB.out hb)
    replace Gn := Lib.hid ((hb.block _ (lt_of_heap Gn.out)).trans Gn.out)
    replace Gs := Lib.hid ((hb.block _ (lt_of_heap Gs.out)).trans Gs.out)
    replace Gr := Lib.hid ((hb.block _ (lt_of_heap Gr.out)).trans Gr.out)
    clear hb
    have cGn := cell_row Gn.out
    have cGs := cell_row Gs.out
    have cGr := cell_row Gr.out
    go_wp2
    go_ret
    exact ⟨rfl, HB.out⟩

set_option maxHeartbeats 2000000 in
theorem root2Cubes_any (n : Nat) (w : World) (hn : n < M) :
    Calls Try.prog 23 #[wv n] w fun e w' => e = .returned (.bool true) ∧ Below w.heap.size w w' := by
  have S1 := Lib.hid (fun w' => cube_w n hn w')
  have S2 := Lib.hid (fun w' => rmayR_any n hn w')
  have SA := Lib.hid (fun w' => awake12_any w')
  by_cases h : n < P2 256
  · obtain ⟨e1, e2⟩ := cb_yes h
    have S3 : Hid (∀ w' : World, Calls Try.prog 99 #[wv n, .int .i64 3] w' fun e w'' => e = .returned (.tuple #[wv (rtN 3 n), wv (n - rtN 3 n ^ 3)]) ∧ Below w'.heap.size w' w'') := Lib.hid fun w' => rroot_any n 3 w' h (Or.inr rfl)
    rw [decide_eq_true h] at S2
    rw [e1, e2, (rs_yes h).2.2] at S1
    obtain ⟨S, hS⟩ : ∃ S, S = rtN 3 n := ⟨_, rfl⟩
    rw [← hS] at S1 S3
    obtain ⟨R, hR⟩ : ∃ R, R = n - S ^ 3 := ⟨_, rfl⟩
    rw [← hR] at S1 S3
    clear hn h e1 e2 hS hR
    go_enter Try.func23, Try.ntmps23
    have HB := Lib.hid (Below.refl w.heap.size w)
    have Gn := Lib.hid (alloc_new (w) (.cells (wcells n) 26))
    replace HB := Lib.hid (below_al HB.out (.cells (wcells n) 26))
    have cGn := cell_row Gn.out
    go_wp2_with fail
    refine (S1.out _).mono ?_
    rintro e w16 ⟨rfl, hb⟩
    clear cGn
    replace HB := Lib.hid (below_then HB.out hb)
    replace Gn := Lib.hid ((hb.block _ (lt_of_heap Gn.out)).trans Gn.out)
    clear hb
    replace Gn := Lib.hid (keepAl (o' := .cells (wcells S) 26) Gn.out)
    have Gs := Lib.hid (alloc_new (w16) (.cells (wcells S) 26))
    replace HB := Lib.hid (below_al HB.out (.cells (wcells S) 26))
    replace Gn := Lib.hid (keepAl (o' := .cells (wcells R) 26) Gn.out)
    replace Gs := Lib.hid (keepAl (o' := .cells (wcells R) 26) Gs.out)
    have Gr := Lib.hid (alloc_new' (w := (w16).alloc (.cells (wcells S) 26)) (n := w16.heap.size + 1) (.cells (wcells R) 26) (by simp))
    replace HB := Lib.hid (below_al HB.out (.cells (wcells R) 26))
    have cGn := cell_row Gn.out
    have cGs := cell_row Gs.out
    have cGr := cell_row Gr.out
    go_wp2_with fail
    refine (S2.out _).mono ?_
    rintro e w17 ⟨rfl, hb⟩
    clear cGn cGs cGr
    replace HB := Lib.hid (below_then HB.out hb)
    replace Gn := Lib.hid ((hb.block _ (lt_of_heap Gn.out)).trans Gn.out)
    replace Gs := Lib.hid ((hb.block _ (lt_of_heap Gs.out)).trans Gs.out)
    replace Gr := Lib.hid ((hb.block _ (lt_of_heap Gr.out)).trans Gr.out)
    clear hb
    have cGn := cell_row Gn.out
    have cGs := cell_row Gs.out
    have cGr := cell_row Gr.out
    go_wp2_with fail
    refine (S3.out _).mono ?_
    rintro e w18 ⟨rfl, hb⟩
    clear cGn cGs cGr
    replace HB := Lib.hid (below_then HB.out hb)
    replace Gn := Lib.hid ((hb.block _ (lt_of_heap Gn.out)).trans Gn.out)
    replace Gs := Lib.hid ((hb.block _ (lt_of_heap Gs.out)).trans Gs.out)
    replace Gr := Lib.hid ((hb.block _ (lt_of_heap Gr.out)).trans Gr.out)
    clear hb
    replace Gn := Lib.hid (keepAl (o' := .cells (wcells S) 26) Gn.out)
    replace Gs := Lib.hid (keepAl (o' := .cells (wcells S) 26) Gs.out)
    replace Gr := Lib.hid (keepAl (o' := .cells (wcells S) 26) Gr.out)
    have Ga := Lib.hid (alloc_new (w18) (.cells (wcells S) 26))
    replace HB := Lib.hid (below_al HB.out (.cells (wcells S) 26))
    replace Gn := Lib.hid (keepAl (o' := .cells (wcells R) 26) Gn.out)
    replace Gs := Lib.hid (keepAl (o' := .cells (wcells R) 26) Gs.out)
    replace Gr := Lib.hid (keepAl (o' := .cells (wcells R) 26) Gr.out)
    replace Ga := Lib.hid (keepAl (o' := .cells (wcells R) 26) Ga.out)
    have Gb := Lib.hid (alloc_new' (w := (w18).alloc (.cells (wcells S) 26)) (n := w18.heap.size + 1) (.cells (wcells R) 26) (by simp))
    replace HB := Lib.hid (below_al HB.out (.cells (wcells R) 26))
    have cGn := cell_row Gn.out
    have cGs := cell_row Gs.out
    have cGr := cell_row Gr.out
    have cGa := cell_row Ga.out
    have cGb := cell_row Gb.out
    go_wp2_with fail
    refine (SA.out _).mono ?_
    rintro e w19 ⟨rfl, hb⟩
    clear cGn cGs cGr cGa cGb
    replace HB := Lib.hid (below_then HB.out hb)
    replace Gn := Lib.hid ((hb.block _ (lt_of_heap Gn.out)).trans Gn.out)
    replace Gs := Lib.hid ((hb.block _ (lt_of_heap Gs.out)).trans Gs.out)
    replace Gr := Lib.hid ((hb.block _ (lt_of_heap Gr.out)).trans Gr.out)
    replace Ga := Lib.hid ((hb.block _ (lt_of_heap Ga.out)).trans Ga.out)
    replace Gb := Lib.hid ((hb.block _ (lt_of_heap Gb.out)).trans Gb.out)
    clear hb
    have cGn := cell_row Gn.out
    have cGs := cell_row Gs.out
    have cGr := cell_row Gr.out
    have cGa := cell_row Ga.out
    have cGb := cell_row Gb.out
    go_wp2
    go_ret
    exact ⟨rfl, HB.out⟩
  · obtain ⟨e1, e2⟩ := cb_no h
    rw [decide_eq_false h] at S2
    rw [e1, e2, (rs_no h).2.2] at S1
    clear hn h e1 e2
    go_enter Try.func23, Try.ntmps23
    have HB := Lib.hid (Below.refl w.heap.size w)
    have Gn := Lib.hid (alloc_new (w) (.cells (wcells n) 26))
    replace HB := Lib.hid (below_al HB.out (.cells (wcells n) 26))
    have cGn := cell_row Gn.out
    go_wp2_with fail
    refine (S1.out _).mono ?_
    rintro e w20 ⟨rfl, hb⟩
    clear cGn
    replace HB := Lib.hid (below_then HB.out hb)
    replace Gn := Lib.hid ((hb.block _ (lt_of_heap Gn.out)).trans Gn.out)
    clear hb
    replace Gn := Lib.hid (keepAl (o' := .cells (wcells 0) 26) Gn.out)
    have Gs := Lib.hid (alloc_new (w20) (.cells (wcells 0) 26))
    replace HB := Lib.hid (below_al HB.out (.cells (wcells 0) 26))
    replace Gn := Lib.hid (keepAl (o' := .cells (wcells 0) 26) Gn.out)
    replace Gs := Lib.hid (keepAl (o' := .cells (wcells 0) 26) Gs.out)
    have Gr := Lib.hid (alloc_new' (w := (w20).alloc (.cells (wcells 0) 26)) (n := w20.heap.size + 1) (.cells (wcells 0) 26) (by simp))
    replace HB := Lib.hid (below_al HB.out (.cells (wcells 0) 26))
    have cGn := cell_row Gn.out
    have cGs := cell_row Gs.out
    have cGr := cell_row Gr.out
    go_wp2_with fail
    refine (S2.out _).mono ?_
    rintro e w21 ⟨rfl, hb⟩
    clear cGn cGs cGr
    replace HB := Lib.hid (below_then HB.out hb)
    replace Gn := Lib.hid ((hb.block _ (lt_of_heap Gn.out)).trans Gn.out)
    replace Gs := Lib.hid ((hb.block _ (lt_of_heap Gs.out)).trans Gs.out)
    replace Gr := Lib.hid ((hb.block _ (lt_of_heap Gr.out)).trans Gr.out)
    clear hb
    have cGn := cell_row Gn.out
    have cGs := cell_row Gs.out
    have cGr := cell_row Gr.out
    go_wp2_with fail
    refine (SA.out _).mono ?_
    rintro e w22 ⟨rfl, hb⟩
    clear cGn cGs cGr
    replace HB := Lib.hid (below_then HB.out hb)
    replace Gn := Lib.hid ((hb.block _ (lt_of_heap Gn.out)).trans Gn.out)
    replace Gs := Lib.hid ((hb.block _ (lt_of_heap Gs.out)).trans Gs.out)
    replace Gr := Lib.hid ((hb.block _ (lt_of_heap Gr.out)).trans Gr.out)
    clear hb
    have cGn := cell_row Gn.out
    have cGs := cell_row Gs.out
    have cGr := cell_row Gr.out
    go_wp2
    go_ret
    exact ⟨rfl, HB.out⟩
end Go.Proofs.Ytenkaobgoknlhaa
