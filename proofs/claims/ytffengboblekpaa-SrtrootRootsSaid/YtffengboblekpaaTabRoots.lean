/- THE WALKS of package table's rows for roots, and of the reference beside it. -/
import Derived.Test.YtffengboblekpaaTabLaw
namespace Go.Proofs.Ytffengboblekpaa
open Go Go.RowKit

abbrev rbnd (j s : Int) : Value := q4 (3 * s + sq j 9) (s + sq j 1) (-s + sq j 1) (-3 * s + sq j 9)

set_option maxHeartbeats 2000000 in
theorem refRootBounds_any (j s : Int) (w : World) (j0 : 0 ≤ j) (j1 : j ≤ 9223372036854775807) (s0 : 28 ≤ s) (s1 : s ≤ 64) :
    Calls Try.prog 56 #[.int .i64 j, .int .i64 s] w fun e w' => e = .returned (rbnd j s) ∧ Below w.heap.size w w' := by
  have hj : j = 0 ∨ j = 1 ∨ j = 2 ∨ 3 ≤ j := by omega
  rcases hj with rfl | rfl | rfl | hj
  all_goals
    go_enter Try.func56, Try.ntmps56
    go_wp2
    repeat (any_goals (first | (refine wp_loop_rounds 5 ?_) | (rw [rounds_succ]; go_wp2)))
    all_goals refine bodyPost_ret (v := rbnd _ s) (by simp [results, Try.results56, go_sem, sq_0, sq_1, sq_2]; try rw [sq_3 _ _ hj, sq_3 _ _ hj]; simp) rfl ⟨rfl, below_al (below_al (Below.refl _ _) _) _⟩

set_option maxHeartbeats 2000000 in
theorem rootBounds_in (j s : Int) (w : World) (j0 : 0 ≤ j) (s0 : 28 ≤ s) (s1 : s ≤ 64) :
    Calls Try.prog 121 #[.int .i64 j, .int .i64 s] w fun e w' => e = .returned (.tuple #[rbnd j s, .bool true]) ∧ Below w.heap.size w w' := by
  have hj : j = 0 ∨ j = 1 ∨ j = 2 ∨ 3 ≤ j := by omega
  rcases hj with rfl | rfl | rfl | hj
  all_goals
    go_enter Try.func121, Try.ntmps121
    go_wp2
    repeat (any_goals (first | (refine wp_loop_rounds 5 ?_) | (rw [rounds_succ]; go_wp2)))
    all_goals refine bodyPost_ret (v := .tuple #[rbnd _ s, .bool true]) (by simp [results, Try.results121, go_sem, sq_0, sq_1, sq_2]; try rw [sq_3 _ _ hj, sq_3 _ _ hj]; simp) rfl ⟨rfl, below_al (below_al (Below.refl _ _) _) _⟩

set_option maxHeartbeats 400000 in
theorem rootBounds_out (j s : Int) (w : World) (h : j < 0 ∨ s < 28 ∨ 64 < s) :
    Calls Try.prog 121 #[.int .i64 j, .int .i64 s] w fun e w' => e = .returned (.tuple #[q4 0 0 0 0, .bool false]) ∧ Below w.heap.size w w' := by
  by_cases h1 : j < 0
  · clear h
    go_enter Try.func121, Try.ntmps121
    go_wp2
    exact bodyPost_ret (v := .tuple #[q4 0 0 0 0, .bool false]) (by simp [results, Try.results121, go_sem]) rfl ⟨rfl, below_al (below_al (Below.refl _ _) _) _⟩
  by_cases h2 : s < 28
  · clear h
    go_enter Try.func121, Try.ntmps121
    go_wp2
    exact bodyPost_ret (v := .tuple #[q4 0 0 0 0, .bool false]) (by simp [results, Try.results121, go_sem]) rfl ⟨rfl, below_al (below_al (Below.refl _ _) _) _⟩
  have h3 : 64 < s := by omega
  clear h
  go_enter Try.func121, Try.ntmps121
  go_wp2
  exact bodyPost_ret (v := .tuple #[q4 0 0 0 0, .bool false]) (by simp [results, Try.results121, go_sem]) rfl ⟨rfl, below_al (below_al (Below.refl _ _) _) _⟩

abbrev rdgAt (j s y : Int) : Int := dg (3 * s + sq j 9) (s + sq j 1) (-s + sq j 1) (-3 * s + sq j 9) y

set_option maxHeartbeats 400000 in
theorem rootDigit_in (j s y : Int) (w : World) (j0 : 0 ≤ j) (s0 : 28 ≤ s) (s1 : s ≤ 64) :
    Calls Try.prog 83 #[.int .i64 j, .int .i64 s, .int .i64 y] w fun e w' => e = .returned (.tuple #[.int .i64 (rdgAt j s y), .bool true]) ∧ Below w.heap.size w w' := by
  go_enter Try.func83, Try.ntmps83
  go_wp2_with fail
  refine (rootBounds_in j s _ j0 s0 s1).mono ?_
  rintro e w1 ⟨rfl, hb1⟩
  go_wp2_with fail
  refine (pick_any _ _ _ _ _ _).mono ?_
  rintro e w2 ⟨rfl, hb2⟩
  go_wp2_with fail
  go_ret2
  exact ⟨rfl, below_then (below_al hb1 _) hb2⟩

set_option maxHeartbeats 400000 in
theorem rootDigit_out (j s y : Int) (w : World) (h : j < 0 ∨ s < 28 ∨ 64 < s) :
    Calls Try.prog 83 #[.int .i64 j, .int .i64 s, .int .i64 y] w fun e w' => e = .returned (.tuple #[.int .i64 0, .bool false]) ∧ Below w.heap.size w w' := by
  have HI := Lib.hid h; clear h
  go_enter Try.func83, Try.ntmps83
  go_wp2_with fail
  refine (rootBounds_out j s _ HI.out).mono ?_
  rintro e w1 ⟨rfl, hb1⟩
  go_wp2_with fail
  go_ret2
  exact ⟨rfl, below_al hb1 _⟩

end Go.Proofs.Ytffengboblekpaa
