/- THE WALKS of 'Digit', and of the laws on a quotient's rows. -/
import Derived.Test.YtffengboblekpaaDoorTab
namespace Go.Proofs.YtffengboblekpaaDoor
open Go Go.RowKit

set_option maxHeartbeats 400000 in
theorem digit_out (i y : Int) (w : World) (hi : i < 8 ∨ 15 < i) :
    Calls Tryd.prog 44 #[.int .i64 i, .int .i64 y] w fun e w' => e = .returned (.tuple #[.int .i64 0, .bool false]) ∧ Below w.heap.size w w' := by
  have HI := Lib.hid hi; clear hi
  go_enter Tryd.func44, Tryd.ntmps44
  go_wp2_with fail
  refine (bounds_out i _ HI.out).mono ?_
  rintro e w1 ⟨rfl, hb1⟩
  go_wp2_with fail
  go_ret2
  exact ⟨rfl, below_al hb1 _⟩

abbrev dgAt (i y : Int) : Int := dg (l3 (4 * (i + 1))) (l3 (i + 1)) (l3 (-2 * i)) (l3 (-5 * i)) y

set_option maxHeartbeats 400000 in
theorem digit_in (i y : Int) (w : World) (h8 : 8 ≤ i) (h15 : i ≤ 15) (hl : Laid w) :
    Calls Tryd.prog 44 #[.int .i64 i, .int .i64 y] w fun e w' => e = .returned (.tuple #[.int .i64 (dgAt i y), .bool true]) ∧ Below w.heap.size w w' := by
  have HL := Lib.hid hl; clear hl
  go_enter Tryd.func44, Tryd.ntmps44
  go_wp2_with fail
  refine (bounds_in i _ h8 h15 HL.out).mono ?_
  rintro e w1 ⟨rfl, hb1⟩
  go_wp2_with fail
  refine (pick_any _ _ _ _ _ _).mono ?_
  rintro e w2 ⟨rfl, hb2⟩
  go_wp2_with fail
  go_ret2
  exact ⟨rfl, below_then (below_al hb1 _) hb2⟩

theorem bounds_8 (w : World) (hl : Laid w) : Calls Tryd.prog 43 #[.int .i64 8] w fun e w' => e = .returned (.tuple #[q4 12 3 (-5) (-13), .bool true]) ∧ Below w.heap.size w w' :=
  bounds_in 8 w (by decide) (by decide) hl
theorem digit_8_11 (w : World) (hl : Laid w) : Calls Tryd.prog 44 #[.int .i64 8, .int .i64 11] w fun e w' => e = .returned (.tuple #[.int .i64 1, .bool true]) ∧ Below w.heap.size w w' :=
  digit_in 8 11 w (by decide) (by decide) hl

set_option maxHeartbeats 400000 in
theorem tabAwake_any (w : World) (hl : Laid w) :
    Calls Tryd.prog 12 #[] w fun e w' => e = .returned (.bool true) ∧ Below w.heap.size w w' := by
  have HL := Lib.hid hl
  have hlt := hl.lt
  clear hl
  have E := eq_q4 12 3 (-5) (-13) 12 3 (-5) (-13)
  go_enter Tryd.func12, Tryd.ntmps12
  go_wp2_with fail
  refine (bounds_8 _ HL.out).mono ?_
  rintro e w1 ⟨rfl, hb1⟩
  have HL1 := Lib.hid (HL.out.below hb1 hlt)
  have hs := hb1.size
  go_wp2_with fail
  have hb2 := below_al hb1 (Obj.cells #[.int .i64 12, .int .i64 3, .int .i64 (-5), .int .i64 (-13)] 73)
  have HL2 := Lib.hid (HL1.out.below (below_al (Below.refl _ _) (Obj.cells #[.int .i64 12, .int .i64 3, .int .i64 (-5), .int .i64 (-13)] 73)) (by omega))
  refine (digit_8_11 _ HL2.out).mono ?_
  rintro e w3 ⟨rfl, hb3⟩
  have g3 : w3.heap[w1.heap.size]? = some (.cells #[.int .i64 12, .int .i64 3, .int .i64 (-5), .int .i64 (-13)] 73 (0, 0)) := by rw [hb3.block _ (by simp), alloc_new]
  have c3 := cell_row g3
  have hB := Lib.hid (below_then hb2 hb3)
  clear hb1 hb2 hb3 g3
  go_wp2_with fail
  go_ret
  exact ⟨rfl, hB.out⟩

end Go.Proofs.YtffengboblekpaaDoor
