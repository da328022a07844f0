/- THE WALKS of package table's quotient rows and of the reference beside it. -/
import Derived.Test.YtffengboblekpaaRows
import Derived.Test.YtffengboblekpaaK2
import Derived.Test.YtffengboblekpaaTabN
import Derived.Handy
namespace Go.Proofs.Ytffengboblekpaa
open Go Go.RowKit

abbrev q4 (a b c d : Int) : Value := .agg #[.int .i64 a, .int .i64 b, .int .i64 c, .int .i64 d]

set_option maxHeartbeats 400000 in
theorem pick_any (b0 b1 b2 b3 y : Int) (w : World) :
    Calls Try.prog 122 #[q4 b0 b1 b2 b3, .int .i64 y] w fun e w' => e = .returned (.int .i64 (dg b0 b1 b2 b3 y)) ∧ Below w.heap.size w w' := by
  have i0 : ∀ w, (Instr.index 81 (q4 b0 b1 b2 b3) (.int .i64 0)).run Try.prog w = .ok (.int .i64 b0) w := fun _ => by kernel_rfl
  have i1 : ∀ w, (Instr.index 81 (q4 b0 b1 b2 b3) (.int .i64 1)).run Try.prog w = .ok (.int .i64 b1) w := fun _ => by kernel_rfl
  have i2 : ∀ w, (Instr.index 81 (q4 b0 b1 b2 b3) (.int .i64 2)).run Try.prog w = .ok (.int .i64 b2) w := fun _ => by kernel_rfl
  have i3 : ∀ w, (Instr.index 81 (q4 b0 b1 b2 b3) (.int .i64 3)).run Try.prog w = .ok (.int .i64 b3) w := fun _ => by kernel_rfl
  go_enter Try.func122, Try.ntmps122
  go_wp2
  go_rounds 5
  all_goals
    go_ret
    refine ⟨ret_int ?_, (Below.refl _ _).alloc (Nat.le_refl _) _⟩
    unfold dg
    (repeat' split) <;> omega

set_option maxHeartbeats 400000 in
theorem refDigit_any (b0 b1 b2 b3 y : Int) (w : World) :
    Calls Try.prog 55 #[q4 b0 b1 b2 b3, .int .i64 y] w fun e w' => e = .returned (.int .i64 (dg b0 b1 b2 b3 y)) ∧ Below w.heap.size w w' := by
  go_enter Try.func55, Try.ntmps55
  go_wp2
  go_rounds 5
  all_goals
    go_ret
    refine ⟨ret_int ?_, (Below.refl _ _).alloc (Nat.le_refl _) _⟩
    unfold dg
    (repeat' split) <;> omega


/-- A row's four bounds. -/
abbrev bnd (i : Int) : Value := q4 (l3 (4 * (i + 1))) (l3 (i + 1)) (l3 (-2 * i)) (l3 (-5 * i))

theorem eq_q4 (a b c d a' b' c' d' : Int) (w : World) : (Op.equalIn 10000 81 (q4 a b c d) (q4 a' b' c' d')).run Try.prog w = .ok (decide (a = a' ∧ b = b' ∧ c = c' ∧ d = d')) w := by
  rw [run_eq_ints (d := 9998) Try.underlying81 Try.underlying3 (by kernel_rfl) _ _ (fun i => [a, b, c, d].getD i 0) (fun i => [a', b', c', d'].getD i 0)
    (fun i hi => by match i, hi with | 0, _ => rfl | 1, _ => rfl | 2, _ => rfl | 3, _ => rfl) (fun i hi => by match i, hi with | 0, _ => rfl | 1, _ => rfl | 2, _ => rfl | 3, _ => rfl)]
  congr 1
  refine decide_eq_decide.2 ⟨fun h => ⟨h 0 (by decide), h 1 (by decide), h 2 (by decide), h 3 (by decide)⟩, fun ⟨h0, h1, h2, h3⟩ i hi => ?_⟩
  match i, hi with
  | 0, _ => exact h0
  | 1, _ => exact h1
  | 2, _ => exact h2
  | 3, _ => exact h3

/-- The rows' cells. -/
abbrev rowsCells : Array Value := #[.int .i64 12, .int .i64 3, .int .i64 (-5), .int .i64 (-13), .int .i64 14, .int .i64 4, .int .i64 (-6), .int .i64 (-15), .int .i64 15, .int .i64 4, .int .i64 (-6), .int .i64 (-16), .int .i64 16, .int .i64 4, .int .i64 (-7), .int .i64 (-18), .int .i64 18, .int .i64 5, .int .i64 (-8), .int .i64 (-20), .int .i64 19, .int .i64 5, .int .i64 (-8), .int .i64 (-21), .int .i64 20, .int .i64 5, .int .i64 (-9), .int .i64 (-23), .int .i64 22, .int .i64 6, .int .i64 (-10), .int .i64 (-25)]
/-- The table lies as the program's text has it. -/
def Laid (w : World) : Prop := w.var? Try.prog "radicand/table.rows" = some rowsCells
def bndOk (i : Int) : Bool := decide (8 ≤ i ∧ i ≤ 15)

end Go.Proofs.Ytffengboblekpaa
