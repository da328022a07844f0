/- SEVERAL TEXTS of the seat, one behind the other: each says at its head what it proves. -/
import Derived.Test.YtffengboblekpaaDoorRows
import Derived.Test.YtffengboblekpaaDoorK2
import Derived.Test.YtffengboblekpaaDoorTabN
import Derived.Handy
/- THE WALKS of package table's quotient rows and of the reference beside it. -/
namespace Go.Proofs.YtffengboblekpaaDoor
open Go Go.RowKit

abbrev q4 (a b c d : Int) : Value := .agg #[.int .i64 a, .int .i64 b, .int .i64 c, .int .i64 d]

set_option maxHeartbeats 400000 in
theorem pick_any (b0 b1 b2 b3 y : Int) (w : World) :
    Calls Tryd.prog 79 #[q4 b0 b1 b2 b3, .int .i64 y] w fun e w' => e = .returned (.int .i64 (dg b0 b1 b2 b3 y)) ∧ Below w.heap.size w w' := by
  have i0 : ∀ w, (Instr.index 73 (q4 b0 b1 b2 b3) (.int .i64 0)).run Tryd.prog w = .ok (.int .i64 b0) w := fun _ => by kernel_rfl
  have i1 : ∀ w, (Instr.index 73 (q4 b0 b1 b2 b3) (.int .i64 1)).run Tryd.prog w = .ok (.int .i64 b1) w := fun _ => by kernel_rfl
  have i2 : ∀ w, (Instr.index 73 (q4 b0 b1 b2 b3) (.int .i64 2)).run Tryd.prog w = .ok (.int .i64 b2) w := fun _ => by kernel_rfl
  have i3 : ∀ w, (Instr.index 73 (q4 b0 b1 b2 b3) (.int .i64 3)).run Tryd.prog w = .ok (.int .i64 b3) w := fun _ => by kernel_rfl
  go_enter Tryd.func79, Tryd.ntmps79
  go_wp2
  go_rounds 5
  all_goals
    go_ret
    refine ⟨ret_int ?_, (Below.refl _ _).alloc (Nat.le_refl _) _⟩
    unfold dg
    (repeat' split) <;> omega

set_option maxHeartbeats 400000 in
theorem refDigit_any (b0 b1 b2 b3 y : Int) (w : World) :
    Calls Tryd.prog 57 #[q4 b0 b1 b2 b3, .int .i64 y] w fun e w' => e = .returned (.int .i64 (dg b0 b1 b2 b3 y)) ∧ Below w.heap.size w w' := by
  go_enter Tryd.func57, Tryd.ntmps57
  go_wp2
  go_rounds 5
  all_goals
    go_ret
    refine ⟨ret_int ?_, (Below.refl _ _).alloc (Nat.le_refl _) _⟩
    unfold dg
    (repeat' split) <;> omega


set_option maxHeartbeats 400000 in
theorem least_any (n : Int) (w : World) (h1 : -290 ≤ n) (h2 : n ≤ 290) :
    Calls Tryd.prog 90 #[.int .i64 n] w fun e w' => e = .returned (.int .i64 (l3 n)) ∧ Below w.heap.size w w' := by
  go_enter Tryd.func90, Tryd.ntmps90
  go_wp2
  go_loop [3] (fun k => ∃ j : Int, -100 ≤ j ∧ j ≤ (n + 2) / 3 ∧ k = .int .i64 j) (fun k => ((n + 2) / 3 - intOf k).toNat)
  case atStart => exact ⟨-100, by omega, by omega, rfl⟩
  case round =>
    obtain ⟨j, hj1, hj2, rfl⟩ := hrel
    by_cases hlt : 3 * j < n
    · go_wp2
      go_round
      case rel => exact ⟨j + 1, by omega, by omega, rfl⟩
      case measure => simp [intOf]; omega
    · go_wp2
      go_ret
      exact ⟨ret_int (by unfold l3; omega), Below.refl _ _⟩

/-- A row's four bounds. -/
abbrev bnd (i : Int) : Value := q4 (l3 (4 * (i + 1))) (l3 (i + 1)) (l3 (-2 * i)) (l3 (-5 * i))

theorem eq_q4 (a b c d a' b' c' d' : Int) (w : World) : (Op.equalIn 10000 73 (q4 a b c d) (q4 a' b' c' d')).run Tryd.prog w = .ok (decide (a = a' ∧ b = b' ∧ c = c' ∧ d = d')) w := by
  rw [run_eq_ints (d := 9998) Tryd.underlying73 Tryd.underlying3 (by kernel_rfl) _ _ (fun i => [a, b, c, d].getD i 0) (fun i => [a', b', c', d'].getD i 0)
    (fun i hi => by match i, hi with | 0, _ => rfl | 1, _ => rfl | 2, _ => rfl | 3, _ => rfl) (fun i hi => by match i, hi with | 0, _ => rfl | 1, _ => rfl | 2, _ => rfl | 3, _ => rfl)]
  congr 1
  refine decide_eq_decide.2 ⟨fun h => ⟨h 0 (by decide), h 1 (by decide), h 2 (by decide), h 3 (by decide)⟩, fun ⟨h0, h1, h2, h3⟩ i hi => ?_⟩
  match i, hi with
  | 0, _ => exact h0
  | 1, _ => exact h1
  | 2, _ => exact h2
  | 3, _ => exact h3

set_option maxHeartbeats 400000 in
theorem refBounds_any (i : Int) (w : World) (h1 : 8 ≤ i) (h2 : i ≤ 15) :
    Calls Tryd.prog 58 #[.int .i64 i] w fun e w' => e = .returned (bnd i) ∧ Below w.heap.size w w' := by
  go_enter Tryd.func58, Tryd.ntmps58
  go_wp2_with fail
  refine (least_any _ _ (by omega) (by omega)).mono ?_
  rintro e w1 ⟨rfl, hb1⟩
  go_wp2_with fail
  refine (least_any _ _ (by omega) (by omega)).mono ?_
  rintro e w2 ⟨rfl, hb2⟩
  go_wp2_with fail
  refine (least_any _ _ (by omega) (by omega)).mono ?_
  rintro e w3 ⟨rfl, hb3⟩
  go_wp2_with fail
  refine (least_any _ _ (by omega) (by omega)).mono ?_
  rintro e w4 ⟨rfl, hb4⟩
  have g4 : w4.heap[w.heap.size]? = some (.cells #[.int .i64 0, .int .i64 0, .int .i64 0, .int .i64 0] 73 (0, 0)) := by
    have hz := hb1.size; have hz2 := hb2.size; have hz3 := hb3.size
    simp at hz
    rw [hb4.block _ (by omega), hb3.block _ (by omega), hb2.block _ (by omega), hb1.block _ (by simp), alloc_new]
  have hB := below_then (below_then (below_then (below_then (below_al (Below.refl _ w) _) hb1) hb2) hb3) hb4
  have c := cell_row g4
  have f := free_row g4
  go_wp2
  exact bodyPost_ret (v := bnd i) (by simp [results, Tryd.results58, go_sem, c]) rfl
    ⟨rfl, (((hB.setCell (Nat.le_refl _) _).setCell (Nat.le_refl _) _).setCell (Nat.le_refl _) _).setCell (Nat.le_refl _) _⟩

/-- The rows' cells. -/
abbrev rowsCells : Array Value := #[.int .i64 12, .int .i64 3, .int .i64 (-5), .int .i64 (-13), .int .i64 14, .int .i64 4, .int .i64 (-6), .int .i64 (-15), .int .i64 15, .int .i64 4, .int .i64 (-6), .int .i64 (-16), .int .i64 16, .int .i64 4, .int .i64 (-7), .int .i64 (-18), .int .i64 18, .int .i64 5, .int .i64 (-8), .int .i64 (-20), .int .i64 19, .int .i64 5, .int .i64 (-8), .int .i64 (-21), .int .i64 20, .int .i64 5, .int .i64 (-9), .int .i64 (-23), .int .i64 22, .int .i64 6, .int .i64 (-10), .int .i64 (-25)]
/-- The table lies as the program's text has it. -/
def Laid (w : World) : Prop := w.var? Tryd.prog "radicand/table.rows" = some rowsCells
theorem rowsGlobal : Tryd.prog.globalNamed "radicand/table.rows" = some 1 := by kernel_rfl
theorem Laid.cell {w : World} (h : Laid w) (j : Nat) : w.cell? ⟨1, j, none⟩ = rowsCells[j]? := by
  unfold Laid World.var? at h
  rw [rowsGlobal] at h
  simp only [Option.bind_some] at h
  unfold World.cell?
  cases hh : w.heap[1]? with
  | none => simp [hh] at h
  | some o =>
    cases o <;> simp only [hh, Option.some.injEq, reduceCtorEq] at h ⊢
    subst h
    rfl
theorem Laid.lt {w : World} (h : Laid w) : 1 < w.heap.size := block_lt_of_cell (h.cell 0)
theorem Laid.below {w w' : World} {B : Nat} (h : Laid w) (hb : Below B w w') (hB : 1 < B) : Laid w' := by
  unfold Laid World.var? at h ⊢
  rw [rowsGlobal] at h ⊢
  simp only [Option.bind_some] at h ⊢
  rw [hb.block _ hB]
  exact h

def bndOk (i : Int) : Bool := decide (8 ≤ i ∧ i ≤ 15)

set_option maxHeartbeats 400000 in
theorem bounds_out (i : Int) (w : World) (hi : i < 8 ∨ 15 < i) :
    Calls Tryd.prog 43 #[.int .i64 i] w fun e w' => e = .returned (.tuple #[q4 0 0 0 0, .bool false]) ∧ Below w.heap.size w w' := by
  rcases hi with hi | hi
  all_goals
    go_enter Tryd.func43, Tryd.ntmps43
    go_wp2
    exact bodyPost_ret (v := .tuple #[q4 0 0 0 0, .bool false]) (by simp [results, Tryd.results43, go_sem]) rfl ⟨rfl, below_al (Below.refl _ _) _⟩

set_option maxHeartbeats 1000000 in
theorem bounds_in (i : Int) (w : World) (h8 : 8 ≤ i) (h15 : i ≤ 15) (hl : Laid w) :
    Calls Tryd.prog 43 #[.int .i64 i] w fun e w' => e = .returned (.tuple #[bnd i, .bool true]) ∧ Below w.heap.size w w' := by
  have hc := hl.cell
  have hlt := hl.lt
  clear hl
  have hi : i = 8 ∨ i = 9 ∨ i = 10 ∨ i = 11 ∨ i = 12 ∨ i = 13 ∨ i = 14 ∨ i = 15 := by omega
  rcases hi with rfl | rfl | rfl | rfl | rfl | rfl | rfl | rfl
  all_goals
    clear h8 h15
    go_enter Tryd.func43, Tryd.ntmps43
    go_wp2
    refine bodyPost_ret (v := .tuple #[bnd _, .bool true]) (by simp [results, Tryd.results43, go_sem, l3]) rfl ⟨rfl, ?_⟩
    first
      | exact below_al (Below.refl _ _) _
      | exact ((((below_al (Below.refl _ _) _).setCell (Nat.le_refl _) _).setCell (Nat.le_refl _) _).setCell (Nat.le_refl _) _).setCell (Nat.le_refl _) _
end Go.Proofs.YtffengboblekpaaDoor

/- THE WALKS of 'Digit', and of the laws on a quotient's rows. -/
namespace Go.Proofs.YtffengboblekpaaDoor
open Go Go.RowKit

set_option maxHeartbeats 400000 in
theorem digit_out (i y : Int) (w : World) (hi : i < 8 ∨ 15 < i) :
    Calls Tryd.prog 44 #[.int .i64 i, .int .i64 y] w fun e w' => e = .returned (.tuple #[.int .i64 0, .bool false]) ∧ Below w.heap.size w w' := by
  have HI := Lib.hid hi; clear hi
  go_enter Tryd.func44, Tryd.ntmps44
  go_wp2_with fail
  refine (bounds_out i _ HI.out).mono ?_
  rintro e w1 ⟨rfl, hb1⟩
  go_wp2_with fail
  go_ret2
  exact ⟨rfl, below_al hb1 _⟩

abbrev dgAt (i y : Int) : Int := dg (l3 (4 * (i + 1))) (l3 (i + 1)) (l3 (-2 * i)) (l3 (-5 * i)) y

set_option maxHeartbeats 400000 in
theorem digit_in (i y : Int) (w : World) (h8 : 8 ≤ i) (h15 : i ≤ 15) (hl : Laid w) :
    Calls Tryd.prog 44 #[.int .i64 i, .int .i64 y] w fun e w' => e = .returned (.tuple #[.int .i64 (dgAt i y), .bool true]) ∧ Below w.heap.size w w' := by
  have HL := Lib.hid hl; clear hl
  go_enter Tryd.func44, Tryd.ntmps44
  go_wp2_with fail
  refine (bounds_in i _ h8 h15 HL.out).mono ?_
  rintro e w1 ⟨rfl, hb1⟩
  go_wp2_with fail
  refine (pick_any _ _ _ _ _ _).mono ?_
  rintro e w2 ⟨rfl, hb2⟩
  go_wp2_with fail
  go_ret2
  exact ⟨rfl, below_then (below_al hb1 _) hb2⟩

theorem bounds_8 (w : World) (hl : Laid w) : Calls Tryd.prog 43 #[.int .i64 8] w fun e w' => e = .returned (.tuple #[q4 12 3 (-5) (-13), .bool true]) ∧ Below w.heap.size w w' :=
  bounds_in 8 w (by decide) (by decide) hl
theorem digit_8_11 (w : World) (hl : Laid w) : Calls Tryd.prog 44 #[.int .i64 8, .int .i64 11] w fun e w' => e = .returned (.tuple #[.int .i64 1, .bool true]) ∧ Below w.heap.size w w' :=
  digit_in 8 11 w (by decide) (by decide) hl

set_option maxHeartbeats 400000 in
theorem tabAwake_any (w : World) (hl : Laid w) :
    Calls Tryd.prog 12 #[] w fun e w' => e = .returned (.bool true) ∧ Below w.heap.size w w' := by
  have HL := Lib.hid hl
  have hlt := hl.lt
  clear hl
  have E := eq_q4 12 3 (-5) (-13) 12 3 (-5) (-13)
  go_enter Tryd.func12, Tryd.ntmps12
  go_wp2_with fail
  refine (bounds_8 _ HL.out).mono ?_
  rintro e w1 ⟨rfl, hb1⟩
  have HL1 := Lib.hid (HL.out.below hb1 hlt)
  have hs := hb1.size
  go_wp2_with fail
  have hb2 := below_al hb1 (Obj.cells #[.int .i64 12, .int .i64 3, .int .i64 (-5), .int .i64 (-13)] 73)
  have HL2 := Lib.hid (HL1.out.below (below_al (Below.refl _ _) (Obj.cells #[.int .i64 12, .int .i64 3, .int .i64 (-5), .int .i64 (-13)] 73)) (by omega))
  refine (digit_8_11 _ HL2.out).mono ?_
  rintro e w3 ⟨rfl, hb3⟩
  have g3 : w3.heap[w1.heap.size]? = some (.cells #[.int .i64 12, .int .i64 3, .int .i64 (-5), .int .i64 (-13)] 73 (0, 0)) := by rw [hb3.block _ (by simp), alloc_new]
  have c3 := cell_row g3
  have hB := Lib.hid (below_then hb2 hb3)
  clear hb1 hb2 hb3 g3
  go_wp2_with fail
  go_ret
  exact ⟨rfl, hB.out⟩

end Go.Proofs.YtffengboblekpaaDoor

/- THE WALKS of package table's rows for roots, and of the reference beside it. -/
namespace Go.Proofs.YtffengboblekpaaDoor
open Go Go.RowKit

abbrev rbnd (j s : Int) : Value := q4 (3 * s + sq j 9) (s + sq j 1) (-s + sq j 1) (-3 * s + sq j 9)

abbrev rdgAt (j s y : Int) : Int := dg (3 * s + sq j 9) (s + sq j 1) (-s + sq j 1) (-3 * s + sq j 9) y

end Go.Proofs.YtffengboblekpaaDoor
