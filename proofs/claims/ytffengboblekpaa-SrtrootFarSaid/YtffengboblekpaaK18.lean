/- SEVERAL TEXTS of the seat, one behind the other: each says at its head what it proves. -/
import Derived.Test.YtffengboblekpaaRows
import Derived.Test.YtffengboblekpaaK2
import Derived.Test.YtffengboblekpaaTabN
import Derived.Handy
/- THE WALKS of package table's quotient rows and of the reference beside it. -/
namespace Go.Proofs.Ytffengboblekpaa
open Go Go.RowKit

abbrev q4 (a b c d : Int) : Value := .agg #[.int .i64 a, .int .i64 b, .int .i64 c, .int .i64 d]

set_option maxHeartbeats 400000 in
theorem pick_any (b0 b1 b2 b3 y : Int) (w : World) :
    Calls Try.prog 122 #[q4 b0 b1 b2 b3, .int .i64 y] w fun e w' => e = .returned (.int .i64 (dg b0 b1 b2 b3 y)) ∧ Below w.heap.size w w' := by
  have i0 : ∀ w, (Instr.index 81 (q4 b0 b1 b2 b3) (.int .i64 0)).run Try.prog w = .ok (.int .i64 b0) w := fun _ => by kernel_rfl
  have i1 : ∀ w, (Instr.index 81 (q4 b0 b1 b2 b3) (.int .i64 1)).run Try.prog w = .ok (.int .i64 b1) w := fun _ => by kernel_rfl
  have i2 : ∀ w, (Instr.index 81 (q4 b0 b1 b2 b3) (.int .i64 2)).run Try.prog w = .ok (.int .i64 b2) w := fun _ => by kernel_rfl
  have i3 : ∀ w, (Instr.index 81 (q4 b0 b1 b2 b3) (.int .i64 3)).run Try.prog w = .ok (.int .i64 b3) w := fun _ => by kernel_rfl
  go_enter Try.func122, Try.ntmps122
  go_wp2
  go_rounds 5
  all_goals
    go_ret
    refine ⟨ret_int ?_, (Below.refl _ _).alloc (Nat.le_refl _) _⟩
    unfold dg
    (repeat' split) <;> omega

set_option maxHeartbeats 400000 in
theorem refDigit_any (b0 b1 b2 b3 y : Int) (w : World) :
    Calls Try.prog 55 #[q4 b0 b1 b2 b3, .int .i64 y] w fun e w' => e = .returned (.int .i64 (dg b0 b1 b2 b3 y)) ∧ Below w.heap.size w w' := by
  go_enter Try.func55, Try.ntmps55
  go_wp2
  go_rounds 5
  all_goals
    go_ret
    refine ⟨ret_int ?_, (Below.refl _ _).alloc (Nat.le_refl _) _⟩
    unfold dg
    (repeat' split) <;> omega


/-- A row's four bounds. -/
abbrev bnd (i : Int) : Value := q4 (l3 (4 * (i + 1))) (l3 (i + 1)) (l3 (-2 * i)) (l3 (-5 * i))

theorem eq_q4 (a b c d a' b' c' d' : Int) (w : World) : (Op.equalIn 10000 81 (q4 a b c d) (q4 a' b' c' d')).run Try.prog w = .ok (decide (a = a' ∧ b = b' ∧ c = c' ∧ d = d')) w := by
  rw [run_eq_ints (d := 9998) Try.underlying81 Try.underlying3 (by kernel_rfl) _ _ (fun i => [a, b, c, d].getD i 0) (fun i => [a', b', c', d'].getD i 0)
    (fun i hi => by match i, hi with | 0, _ => rfl | 1, _ => rfl | 2, _ => rfl | 3, _ => rfl) (fun i hi => by match i, hi with | 0, _ => rfl | 1, _ => rfl | 2, _ => rfl | 3, _ => rfl)]
  congr 1
  refine decide_eq_decide.2 ⟨fun h => ⟨h 0 (by decide), h 1 (by decide), h 2 (by decide), h 3 (by decide)⟩, fun ⟨h0, h1, h2, h3⟩ i hi => ?_⟩
  match i, hi with
  | 0, _ => exact h0
  | 1, _ => exact h1
  | 2, _ => exact h2
  | 3, _ => exact h3

/-- The rows' cells. -/
abbrev rowsCells : Array Value := #[.int .i64 12, .int .i64 3, .int .i64 (-5), .int .i64 (-13), .int .i64 14, .int .i64 4, .int .i64 (-6), .int .i64 (-15), .int .i64 15, .int .i64 4, .int .i64 (-6), .int .i64 (-16), .int .i64 16, .int .i64 4, .int .i64 (-7), .int .i64 (-18), .int .i64 18, .int .i64 5, .int .i64 (-8), .int .i64 (-20), .int .i64 19, .int .i64 5, .int .i64 (-8), .int .i64 (-21), .int .i64 20, .int .i64 5, .int .i64 (-9), .int .i64 (-23), .int .i64 22, .int .i64 6, .int .i64 (-10), .int .i64 (-25)]
/-- The table lies as the program's text has it. -/
def Laid (w : World) : Prop := w.var? Try.prog "radicand/table.rows" = some rowsCells
def bndOk (i : Int) : Bool := decide (8 ≤ i ∧ i ≤ 15)

end Go.Proofs.Ytffengboblekpaa

/- THE WALKS of 'Digit', and of the laws on a quotient's rows. -/
namespace Go.Proofs.Ytffengboblekpaa
open Go Go.RowKit

abbrev dgAt (i y : Int) : Int := dg (l3 (4 * (i + 1))) (l3 (i + 1)) (l3 (-2 * i)) (l3 (-5 * i)) y

end Go.Proofs.Ytffengboblekpaa

/- THE WALKS of package table's rows for roots, and of the reference beside it. -/
namespace Go.Proofs.Ytffengboblekpaa
open Go Go.RowKit

abbrev rbnd (j s : Int) : Value := q4 (3 * s + sq j 9) (s + sq j 1) (-s + sq j 1) (-3 * s + sq j 9)

set_option maxHeartbeats 2000000 in
theorem refRootBounds_any (j s : Int) (w : World) (j0 : 0 ≤ j) (j1 : j ≤ 9223372036854775807) (s0 : 28 ≤ s) (s1 : s ≤ 64) :
    Calls Try.prog 56 #[.int .i64 j, .int .i64 s] w fun e w' => e = .returned (rbnd j s) ∧ Below w.heap.size w w' := by
  have hj : j = 0 ∨ j = 1 ∨ j = 2 ∨ 3 ≤ j := by omega
  rcases hj with rfl | rfl | rfl | hj
  all_goals
    go_enter Try.func56, Try.ntmps56
    go_wp2
    repeat (any_goals (first | (refine wp_loop_rounds 5 ?_) | (rw [rounds_succ]; go_wp2)))
    all_goals refine bodyPost_ret (v := rbnd _ s) (by simp [results, Try.results56, go_sem, sq_0, sq_1, sq_2]; try rw [sq_3 _ _ hj, sq_3 _ _ hj]; simp) rfl ⟨rfl, below_al (below_al (Below.refl _ _) _) _⟩

set_option maxHeartbeats 2000000 in
theorem rootBounds_in (j s : Int) (w : World) (j0 : 0 ≤ j) (s0 : 28 ≤ s) (s1 : s ≤ 64) :
    Calls Try.prog 121 #[.int .i64 j, .int .i64 s] w fun e w' => e = .returned (.tuple #[rbnd j s, .bool true]) ∧ Below w.heap.size w w' := by
  have hj : j = 0 ∨ j = 1 ∨ j = 2 ∨ 3 ≤ j := by omega
  rcases hj with rfl | rfl | rfl | hj
  all_goals
    go_enter Try.func121, Try.ntmps121
    go_wp2
    repeat (any_goals (first | (refine wp_loop_rounds 5 ?_) | (rw [rounds_succ]; go_wp2)))
    all_goals refine bodyPost_ret (v := .tuple #[rbnd _ s, .bool true]) (by simp [results, Try.results121, go_sem, sq_0, sq_1, sq_2]; try rw [sq_3 _ _ hj, sq_3 _ _ hj]; simp) rfl ⟨rfl, below_al (below_al (Below.refl _ _) _) _⟩

set_option maxHeartbeats 400000 in
theorem rootBounds_out (j s : Int) (w : World) (h : j < 0 ∨ s < 28 ∨ 64 < s) :
    Calls Try.prog 121 #[.int .i64 j, .int .i64 s] w fun e w' => e = .returned (.tuple #[q4 0 0 0 0, .bool false]) ∧ Below w.heap.size w w' := by
  by_cases h1 : j < 0
  · clear h
    go_enter Try.func121, Try.ntmps121
    go_wp2
    exact bodyPost_ret (v := .tuple #[q4 0 0 0 0, .bool false]) (by simp [results, Try.results121, go_sem]) rfl ⟨rfl, below_al (below_al (Below.refl _ _) _) _⟩
  by_cases h2 : s < 28
  · clear h
    go_enter Try.func121, Try.ntmps121
    go_wp2
    exact bodyPost_ret (v := .tuple #[q4 0 0 0 0, .bool false]) (by simp [results, Try.results121, go_sem]) rfl ⟨rfl, below_al (below_al (Below.refl _ _) _) _⟩
  have h3 : 64 < s := by omega
  clear h
  go_enter Try.func121, Try.ntmps121
  go_wp2
  exact bodyPost_ret (v := .tuple #[q4 0 0 0 0, .bool false]) (by simp [results, Try.results121, go_sem]) rfl ⟨rfl, below_al (below_al (Below.refl _ _) _) _⟩

abbrev rdgAt (j s y : Int) : Int := dg (3 * s + sq j 9) (s + sq j 1) (-s + sq j 1) (-3 * s + sq j 9) y

set_option maxHeartbeats 400000 in
theorem rootDigit_in (j s y : Int) (w : World) (j0 : 0 ≤ j) (s0 : 28 ≤ s) (s1 : s ≤ 64) :
    Calls Try.prog 83 #[.int .i64 j, .int .i64 s, .int .i64 y] w fun e w' => e = .returned (.tuple #[.int .i64 (rdgAt j s y), .bool true]) ∧ Below w.heap.size w w' := by
  go_enter Try.func83, Try.ntmps83
  go_wp2_with fail
  refine (rootBounds_in j s _ j0 s0 s1).mono ?_
  rintro e w1 ⟨rfl, hb1⟩
  go_wp2_with fail
  refine (pick_any _ _ _ _ _ _).mono ?_
  rintro e w2 ⟨rfl, hb2⟩
  go_wp2_with fail
  go_ret2
  exact ⟨rfl, below_then (below_al hb1 _) hb2⟩

set_option maxHeartbeats 400000 in
theorem rootDigit_out (j s y : Int) (w : World) (h : j < 0 ∨ s < 28 ∨ 64 < s) :
    Calls Try.prog 83 #[.int .i64 j, .int .i64 s, .int .i64 y] w fun e w' => e = .returned (.tuple #[.int .i64 0, .bool false]) ∧ Below w.heap.size w w' := by
  have HI := Lib.hid h; clear h
  go_enter Try.func83, Try.ntmps83
  go_wp2_with fail
  refine (rootBounds_out j s _ HI.out).mono ?_
  rintro e w1 ⟨rfl, hb1⟩
  go_wp2_with fail
  go_ret2
  exact ⟨rfl, below_al hb1 _⟩

end Go.Proofs.Ytffengboblekpaa
