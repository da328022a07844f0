/- THE WALKS of package table's rows for roots, and of the reference beside it. -/
import Derived.Test.YtbjofgoimkmbfaaDoorTabLaw
namespace Go.Proofs.YtbjofgoimkmbfaaDoor
open Go Go.RowKit

/-- What a digit's square counts at a step. -/
def sq (j n : Int) : Int := if j = 0 then 4 * n else if j = 1 then n else if j = 2 then n / 4 else 0
theorem sq_0 (n : Int) : sq 0 n = 4 * n := rfl
theorem sq_1 (n : Int) : sq 1 n = n := rfl
theorem sq_2 (n : Int) : sq 2 n = n / 4 := rfl
theorem sq_3 (j n : Int) (h : 3 ≤ j) : sq j n = 0 := by unfold sq; rw [if_neg (by omega), if_neg (by omega), if_neg (by omega)]
abbrev rbnd (j s : Int) : Value := q4 (3 * s + sq j 9) (s + sq j 1) (-s + sq j 1) (-3 * s + sq j 9)

set_option maxHeartbeats 2000000 in
theorem refRootBounds_any (j s : Int) (w : World) (j0 : 0 ≤ j) (j1 : j ≤ 9223372036854775807) (s0 : 28 ≤ s) (s1 : s ≤ 64) :
    Calls Tryd.prog 15 #[.int .i64 j, .int .i64 s] w fun e w' => e = .returned (rbnd j s) ∧ Below w.heap.size w w' := by
  have hj : j = 0 ∨ j = 1 ∨ j = 2 ∨ 3 ≤ j := by omega
  rcases hj with rfl | rfl | rfl | hj
  all_goals
    go_enter Tryd.func15, Tryd.ntmps15
    go_wp2
    repeat (any_goals (first | (refine wp_loop_rounds 5 ?_) | (rw [rounds_succ]; go_wp2)))
    all_goals refine bodyPost_ret (v := rbnd _ s) (by simp [results, Tryd.results15, go_sem, sq_0, sq_1, sq_2]; try rw [sq_3 _ _ hj, sq_3 _ _ hj]; simp) rfl ⟨rfl, below_al (below_al (Below.refl _ _) _) _⟩

set_option maxHeartbeats 2000000 in
theorem rootBounds_in (j s : Int) (w : World) (j0 : 0 ≤ j) (s0 : 28 ≤ s) (s1 : s ≤ 64) :
    Calls Tryd.prog 13 #[.int .i64 j, .int .i64 s] w fun e w' => e = .returned (.tuple #[rbnd j s, .bool true]) ∧ Below w.heap.size w w' := by
  have hj : j = 0 ∨ j = 1 ∨ j = 2 ∨ 3 ≤ j := by omega
  rcases hj with rfl | rfl | rfl | hj
  all_goals
    go_enter Tryd.func13, Tryd.ntmps13
    go_wp2
    repeat (any_goals (first | (refine wp_loop_rounds 5 ?_) | (rw [rounds_succ]; go_wp2)))
    all_goals refine bodyPost_ret (v := .tuple #[rbnd _ s, .bool true]) (by simp [results, Tryd.results13, go_sem, sq_0, sq_1, sq_2]; try rw [sq_3 _ _ hj, sq_3 _ _ hj]; simp) rfl ⟨rfl, below_al (below_al (Below.refl _ _) _) _⟩

set_option maxHeartbeats 400000 in
theorem rootBounds_out (j s : Int) (w : World) (h : j < 0 ∨ s < 28 ∨ 64 < s) :
    Calls Tryd.prog 13 #[.int .i64 j, .int .i64 s] w fun e w' => e = .returned (.tuple #[q4 0 0 0 0, .bool false]) ∧ Below w.heap.size w w' := by
  by_cases h1 : j < 0
  · clear h
    go_enter Tryd.func13, Tryd.ntmps13
    go_wp2
    exact bodyPost_ret (v := .tuple #[q4 0 0 0 0, .bool false]) (by simp [results, Tryd.results13, go_sem]) rfl ⟨rfl, below_al (below_al (Below.refl _ _) _) _⟩
  by_cases h2 : s < 28
  · clear h
    go_enter Tryd.func13, Tryd.ntmps13
    go_wp2
    exact bodyPost_ret (v := .tuple #[q4 0 0 0 0, .bool false]) (by simp [results, Tryd.results13, go_sem]) rfl ⟨rfl, below_al (below_al (Below.refl _ _) _) _⟩
  have h3 : 64 < s := by omega
  clear h
  go_enter Tryd.func13, Tryd.ntmps13
  go_wp2
  exact bodyPost_ret (v := .tuple #[q4 0 0 0 0, .bool false]) (by simp [results, Tryd.results13, go_sem]) rfl ⟨rfl, below_al (below_al (Below.refl _ _) _) _⟩

abbrev rdgAt (j s y : Int) : Int := dg (3 * s + sq j 9) (s + sq j 1) (-s + sq j 1) (-3 * s + sq j 9) y

set_option maxHeartbeats 400000 in
theorem rootDigit_in (j s y : Int) (w : World) (j0 : 0 ≤ j) (s0 : 28 ≤ s) (s1 : s ≤ 64) :
    Calls Tryd.prog 14 #[.int .i64 j, .int .i64 s, .int .i64 y] w fun e w' => e = .returned (.tuple #[.int .i64 (rdgAt j s y), .bool true]) ∧ Below w.heap.size w w' := by
  go_enter Tryd.func14, Tryd.ntmps14
  go_wp2_with fail
  refine (rootBounds_in j s _ j0 s0 s1).mono ?_
  rintro e w1 ⟨rfl, hb1⟩
  go_wp2_with fail
  refine (pick_any _ _ _ _ _ _).mono ?_
  rintro e w2 ⟨rfl, hb2⟩
  go_wp2_with fail
  go_ret2
  exact ⟨rfl, below_then (below_al hb1 _) hb2⟩

set_option maxHeartbeats 400000 in
theorem rootDigit_out (j s y : Int) (w : World) (h : j < 0 ∨ s < 28 ∨ 64 < s) :
    Calls Tryd.prog 14 #[.int .i64 j, .int .i64 s, .int .i64 y] w fun e w' => e = .returned (.tuple #[.int .i64 0, .bool false]) ∧ Below w.heap.size w w' := by
  have HI := Lib.hid h; clear h
  go_enter Tryd.func14, Tryd.ntmps14
  go_wp2_with fail
  refine (rootBounds_out j s _ HI.out).mono ?_
  rintro e w1 ⟨rfl, hb1⟩
  go_wp2_with fail
  go_ret2
  exact ⟨rfl, below_al hb1 _⟩

set_option maxHeartbeats 1000000 in
theorem tableRoots_out (j s y : Int) (w : World) (h : j < 0 ∨ s < 28 ∨ 64 < s) (hl : Laid w) :
    Calls Tryd.prog 5 #[.int .i64 j, .int .i64 s, .int .i64 y] w fun e w' => e = .returned (.bool true) ∧ Below w.heap.size w w' := by
  have HL := Lib.hid hl
  have hlt := hl.lt
  clear hl
  have HI := Lib.hid h
  have E := eq_q4 0 0 0 0 0 0 0 0
  have h' : (j < 0) ∨ (0 ≤ j ∧ s < 28) ∨ (0 ≤ j ∧ 64 < s) := by omega
  clear h
  rcases h' with hi | ⟨hi, hi2⟩ | ⟨hi, hi2⟩
  all_goals
    go_enter Tryd.func5, Tryd.ntmps5
    go_wp2_with fail
    refine (rootBounds_out j s _ HI.out).mono ?_
    rintro e w1 ⟨rfl, hb1⟩
    have hs := hb1.size
    go_wp2_with fail
    have hb2 := below_al hb1 (Obj.cells #[.int .i64 0, .int .i64 0, .int .i64 0, .int .i64 0] 22)
    refine (rootDigit_out j s y _ HI.out).mono ?_
    rintro e w3 ⟨rfl, hb3⟩
    have g3 : w3.heap[w1.heap.size]? = some (.cells #[.int .i64 0, .int .i64 0, .int .i64 0, .int .i64 0] 22 (0, 0)) := by rw [hb3.block _ (by simp), alloc_new]
    have c3 := cell_row g3
    have hb4 := below_then hb2 hb3
    have HL3 := Lib.hid (HL.out.below hb4 hlt)
    have hB := Lib.hid hb4
    clear hb1 hb2 hb3 g3 hb4
    go_wp2_with fail
    refine (tabAwake_any _ HL3.out).mono ?_
    rintro e w5 ⟨rfl, hb5⟩
    have hB5 := Lib.hid (below_then hB.out hb5)
    clear hb5
    go_wp2_with fail
    go_ret
    exact ⟨rfl, hB5.out⟩

set_option maxHeartbeats 1000000 in
theorem tableRoots_any (j s y : Int) (w : World) (j0 : -9223372036854775808 ≤ j) (j1 : j ≤ 9223372036854775807) (_ : -9223372036854775808 ≤ s) (_ : s ≤ 9223372036854775807) (_ : -9223372036854775808 ≤ y) (_ : y ≤ 9223372036854775807) (hl : Laid w) :
    Calls Tryd.prog 5 #[.int .i64 j, .int .i64 s, .int .i64 y] w fun e w' => e = .returned (.bool true) ∧ Below w.heap.size w w' := by
  by_cases hi : j < 0 ∨ s < 28 ∨ 64 < s
  · exact tableRoots_out j s y w hi hl
  have HL := Lib.hid hl
  have hlt := hl.lt
  clear hl
  have j2 : 0 ≤ j := by omega
  have s0 : 28 ≤ s := by omega
  have s1 : s ≤ 64 := by omega
  clear hi
  have E := eq_q4 (3 * s + sq j 9) (s + sq j 1) (-s + sq j 1) (-3 * s + sq j 9) (3 * s + sq j 9) (s + sq j 1) (-s + sq j 1) (-3 * s + sq j 9)
  go_enter Tryd.func5, Tryd.ntmps5
  go_wp2_with fail
  refine (rootBounds_in j s _ j2 s0 s1).mono ?_
  rintro e w1 ⟨rfl, hb1⟩
  have hs := hb1.size
  go_wp2_with fail
  have hb2 := below_al hb1 (Obj.cells #[.int .i64 (3 * s + sq j 9), .int .i64 (s + sq j 1), .int .i64 (-s + sq j 1), .int .i64 (-3 * s + sq j 9)] 22)
  refine (rootDigit_in j s y _ j2 s0 s1).mono ?_
  rintro e w3 ⟨rfl, hb3⟩
  have g3 : w3.heap[w1.heap.size]? = some (.cells #[.int .i64 (3 * s + sq j 9), .int .i64 (s + sq j 1), .int .i64 (-s + sq j 1), .int .i64 (-3 * s + sq j 9)] 22 (0, 0)) := by rw [hb3.block _ (by simp), alloc_new]
  have hb4 := below_then hb2 hb3
  have hs3 := hb4.size
  have HL3 := Lib.hid (HL.out.below hb4 hlt)
  have hB := Lib.hid hb4
  have e3 := ext_row g3 (lt_of_heap g3)
  have HLx : ∀ x : Ext w3.heap.size w3, Laid x.val := fun x => HL3.out.below x.property (by omega)
  clear hb1 hb2 hb3 g3 hb4
  go_wp2_with fail
  refine wp_region_ext w3.heap.size (by kernel_rfl) (by kernel_rfl) ?_
  repeat (go_big_quiet_step (first
    | (go_at_call 15; exact Calls.quiet_ext (Nat.le_refl _) (refRootBounds_any j s _ j2 j1 s0 s1))
    | (go_at_call 12; exact Calls.quiet_ext (Nat.le_refl _) (refDigit_any _ _ _ _ _ _))
    | (go_at_call 10; exact Calls.quiet_ext (Nat.le_refl _) (tabAwake_any _ (HLx _)))))
  refine wpQuiet_nil ?_
  intro w4 hb4
  have hB4 := Lib.hid (below_then hB.out hb4)
  clear hb4
  go_wp2
  go_ret
  exact ⟨rfl, hB4.out⟩
end Go.Proofs.YtbjofgoimkmbfaaDoor
