/- THE WALKS of the laws on root2: roots and third roots. -/
import Derived.Test.YtffengboblekpaaRt2d
import Derived.Test.YtffengboblekpaaRt2c
import Derived.Test.YtffengboblekpaaLaw11N
namespace Go.Proofs.Ytffengboblekpaa
open Go Go.RowKit

/-- Is a number a square? -/
def sqB (n : Nat) : Bool := decide (n < P2 256) && isZ (rsR n)
theorem rs_lt {n : Nat} (hn : n < M) : rsS n < M ∧ rsR n < M := by
  have := M_pos
  unfold rsS rsR
  split
  · rename_i h
    have := rt_lt h
    have h2 : P2 128 < M := by rw [M_eq]; exact P2_lt (by omega)
    exact ⟨by omega, by omega⟩
  · exact ⟨M_pos, M_pos⟩
theorem root_99 : (99 : Nat) < P2 256 ∧ rtN 2 99 = 9 ∧ rtN 3 99 = 4 := by
  refine ⟨?_, rt_unique (by decide) (by decide), ?_⟩
  · have : P2 64 ≤ P2 256 := P2_le (by omega)
    rw [P2_64] at this
    omega
  · have h1 := (rt_le 3 99 4 (by decide)).2 (by decide)
    have h2 : ¬ 5 ≤ rtN 3 99 := fun h => by
      have := (rt_le 3 99 5 (by decide)).1 h
      revert this
      decide
    omega

attribute [local go_sem ↓] Go.wp_at_zero Go.wp_at_succ
set_option maxHeartbeats 2000000 in
theorem holds12_any (n : Nat) (w : World) (hn : n < M) :
    Calls Try.prog 12 #[wv n, wv (rsS n), wv (rsR n), .int .i64 (rsE n)] w fun e w' => e = .returned (.bool true) ∧ Below w.heap.size w w' := by
  have S1 := Lib.hid (fun w' => rmayR_any n hn w')
  by_cases h : n < P2 256
  · obtain ⟨e1, e2, e3⟩ := rs_yes h
    have S2 : Hid (∀ w' : World, Calls Try.prog 50 #[wv n, .int .i64 2] w' fun e w'' => e = .returned (.tuple #[wv (rtN 2 n), wv (n - rtN 2 n * rtN 2 n)]) ∧ Below w'.heap.size w' w'') := Lib.hid fun w' => by
      have := rroot_any n 2 w' h (Or.inl rfl)
      rw [sqr] at this
      exact this
    rw [decide_eq_true h] at S1
    rw [e1, e2, e3]
    obtain ⟨S, hS⟩ : ∃ S, S = rtN 2 n := ⟨_, rfl⟩
    rw [← hS] at S2 ⊢
    obtain ⟨R, hR⟩ : ∃ R, R = n - S * S := ⟨_, rfl⟩
    rw [← hR] at S2 ⊢
    clear hn h e1 e2 e3 hS hR
    go_enter Try.func12, Try.ntmps12
    have HB := Lib.hid (Below.refl w.heap.size w)
    have Gn := Lib.hid (alloc_new (w) (.cells (wcells n) 24))
    replace HB := Lib.hid (below_al HB.out (.cells (wcells n) 24))
    replace Gn := Lib.hid (keepAl (o' := .cells (wcells S) 24) Gn.out)
    have Gs := Lib.hid (alloc_new' (w := (w).alloc (.cells (wcells n) 24)) (n := w.heap.size + 1) (.cells (wcells S) 24) (by simp))
    replace HB := Lib.hid (below_al HB.out (.cells (wcells S) 24))
    replace Gn := Lib.hid (keepAl (o' := .cells (wcells R) 24) Gn.out)
    replace Gs := Lib.hid (keepAl (o' := .cells (wcells R) 24) Gs.out)
    have Gr := Lib.hid (alloc_new' (w := ((w).alloc (.cells (wcells n) 24)).alloc (.cells (wcells S) 24)) (n := w.heap.size + 1 + 1) (.cells (wcells R) 24) (by simp))
    replace HB := Lib.hid (below_al HB.out (.cells (wcells R) 24))
    have cGn := cell_row Gn.out
    have cGs := cell_row Gs.out
    have cGr := cell_row Gr.out
    go_wp2_with fail
    refine (S1.out _).mono ?_
    rintro e w5 ⟨rfl, hb⟩
    clear cGn cGs cGr
    replace HB := Lib.hid (below_then HB.out hb)
    replace Gn := Lib.hid ((hb.block _ (lt_of_heap Gn.out)).trans Gn.out)
    replace Gs := Lib.hid ((hb.block _ (lt_of_heap Gs.out)).trans Gs.out)
    replace Gr := Lib.hid ((hb.block _ (lt_of_heap Gr.out)).trans Gr.out)
    clear hb
    have cGn := cell_row Gn.out
    have cGs := cell_row Gs.out
    have cGr := cell_row Gr.out
    go_wp2_with fail
    refine (S2.out _).mono ?_
    rintro e w6 ⟨rfl, hb⟩
    clear cGn cGs cGr
    replace HB := Lib.hid (below_then HB.out hb)
    replace Gn := Lib.hid ((hb.block _ (lt_of_heap Gn.out)).trans Gn.out)
    replace Gs := Lib.hid ((hb.block _ (lt_of_heap Gs.out)).trans Gs.out)
    replace Gr := Lib.hid ((hb.block _ (lt_of_heap Gr.out)).trans Gr.out)
    clear hb
    replace Gn := Lib.hid (keepAl (o' := .cells (wcells S) 24) Gn.out)
    replace Gs := Lib.hid (keepAl (o' := .cells (wcells S) 24) Gs.out)
    replace Gr := Lib.hid (keepAl (o' := .cells (wcells S) 24) Gr.out)
    have Ga := Lib.hid (alloc_new (w6) (.cells (wcells S) 24))
    replace HB := Lib.hid (below_al HB.out (.cells (wcells S) 24))
    replace Gn := Lib.hid (keepAl (o' := .cells (wcells R) 24) Gn.out)
    replace Gs := Lib.hid (keepAl (o' := .cells (wcells R) 24) Gs.out)
    replace Gr := Lib.hid (keepAl (o' := .cells (wcells R) 24) Gr.out)
    replace Ga := Lib.hid (keepAl (o' := .cells (wcells R) 24) Ga.out)
    have Gb := Lib.hid (alloc_new' (w := (w6).alloc (.cells (wcells S) 24)) (n := w6.heap.size + 1) (.cells (wcells R) 24) (by simp))
    replace HB := Lib.hid (below_al HB.out (.cells (wcells R) 24))
    have cGn := cell_row Gn.out
    have cGs := cell_row Gs.out
    have cGr := cell_row Gr.out
    have cGa := cell_row Ga.out
    have cGb := cell_row Gb.out
    go_wp2
    go_ret
    exact ⟨rfl, HB.out⟩
  · obtain ⟨e1, e2, e3⟩ := rs_no h
    rw [decide_eq_false h] at S1
    rw [e1, e2, e3]
    clear hn h e1 e2 e3
    go_enter Try.func12, Try.ntmps12
    have HB := Lib.hid (Below.refl w.heap.size w)
    have Gn := Lib.hid (alloc_new (w) (.cells (wcells n) 24))
    replace HB := Lib.hid (below_al HB.out (.cells (wcells n) 24))
    replace Gn := Lib.hid (keepAl (o' := .cells (wcells 0) 24) Gn.out)
    have Gs := Lib.hid (alloc_new' (w := (w).alloc (.cells (wcells n) 24)) (n := w.heap.size + 1) (.cells (wcells 0) 24) (by simp))
    replace HB := Lib.hid (below_al HB.out (.cells (wcells 0) 24))
    replace Gn := Lib.hid (keepAl (o' := .cells (wcells 0) 24) Gn.out)
    replace Gs := Lib.hid (keepAl (o' := .cells (wcells 0) 24) Gs.out)
    have Gr := Lib.hid (alloc_new' (w := ((w).alloc (.cells (wcells n) 24)).alloc (.cells (wcells 0) 24)) (n := w.heap.size + 1 + 1) (.cells (wcells 0) 24) (by simp))
    replace HB := Lib.hid (below_al HB.out (.cells (wcells 0) 24))
    have cGn := cell_row Gn.out
    have cGs := cell_row Gs.out
    have cGr := cell_row Gr.out
    go_wp2_with fail
    refine (S1.out _).mono ?_
    rintro e w7 ⟨rfl, hb⟩
    clear cGn cGs cGr
    replace HB := Lib.hid (below_then HB.out hb)
    replace Gn := Lib.hid ((hb.block _ (lt_of_heap Gn.out)).trans Gn.out)
    replace Gs := Lib.hid ((hb.block _ (lt_of_heap Gs.out)).trans Gs.out)
    replace Gr := Lib.hid ((hb.block _ (lt_of_heap Gr.out)).trans Gr.out)
    clear hb
    have cGn := cell_row Gn.out
    have cGs := cell_row Gs.out
    have cGr := cell_row Gr.out
    go_wp2
    go_ret
    exact ⟨rfl, HB.out⟩

end Go.Proofs.Ytffengboblekpaa
