/- THE WALKS of 'Digit', and of the laws on a quotient's rows. -/
import Derived.Test.YtbjofgoimkmbfaaDoorTab
namespace Go.Proofs.YtbjofgoimkmbfaaDoor
open Go Go.RowKit

set_option maxHeartbeats 400000 in
theorem digit_out (i y : Int) (w : World) (hi : i < 8 ∨ 15 < i) :
    Calls Tryd.prog 9 #[.int .i64 i, .int .i64 y] w fun e w' => e = .returned (.tuple #[.int .i64 0, .bool false]) ∧ Below w.heap.size w w' := by
  have HI := Lib.hid hi; clear hi
  go_enter Tryd.func9, Tryd.ntmps9
  go_wp2_with fail
  refine (bounds_out i _ HI.out).mono ?_
  rintro e w1 ⟨rfl, hb1⟩
  go_wp2_with fail
  go_ret2
  exact ⟨rfl, below_al hb1 _⟩

abbrev dgAt (i y : Int) : Int := dg (l3 (4 * (i + 1))) (l3 (i + 1)) (l3 (-2 * i)) (l3 (-5 * i)) y

set_option maxHeartbeats 400000 in
theorem digit_in (i y : Int) (w : World) (h8 : 8 ≤ i) (h15 : i ≤ 15) (hl : Laid w) :
    Calls Tryd.prog 9 #[.int .i64 i, .int .i64 y] w fun e w' => e = .returned (.tuple #[.int .i64 (dgAt i y), .bool true]) ∧ Below w.heap.size w w' := by
  have HL := Lib.hid hl; clear hl
  go_enter Tryd.func9, Tryd.ntmps9
  go_wp2_with fail
  refine (bounds_in i _ h8 h15 HL.out).mono ?_
  rintro e w1 ⟨rfl, hb1⟩
  go_wp2_with fail
  refine (pick_any _ _ _ _ _ _).mono ?_
  rintro e w2 ⟨rfl, hb2⟩
  go_wp2_with fail
  go_ret2
  exact ⟨rfl, below_then (below_al hb1 _) hb2⟩

theorem bounds_8 (w : World) (hl : Laid w) : Calls Tryd.prog 8 #[.int .i64 8] w fun e w' => e = .returned (.tuple #[q4 12 3 (-5) (-13), .bool true]) ∧ Below w.heap.size w w' :=
  bounds_in 8 w (by decide) (by decide) hl
theorem digit_8_11 (w : World) (hl : Laid w) : Calls Tryd.prog 9 #[.int .i64 8, .int .i64 11] w fun e w' => e = .returned (.tuple #[.int .i64 1, .bool true]) ∧ Below w.heap.size w w' :=
  digit_in 8 11 w (by decide) (by decide) hl

set_option maxHeartbeats 400000 in
theorem tabAwake_any (w : World) (hl : Laid w) :
    Calls Tryd.prog 10 #[] w fun e w' => e = .returned (.bool true) ∧ Below w.heap.size w w' := by
  have HL := Lib.hid hl
  have hlt := hl.lt
  clear hl
  have E := eq_q4 12 3 (-5) (-13) 12 3 (-5) (-13)
  go_enter Tryd.func10, Tryd.ntmps10
  go_wp2_with fail
  refine (bounds_8 _ HL.out).mono ?_
  rintro e w1 ⟨rfl, hb1⟩
  have HL1 := Lib.hid (HL.out.below hb1 hlt)
  have hs := hb1.size
  go_wp2_with fail
  have hb2 := below_al hb1 (Obj.cells #[.int .i64 12, .int .i64 3, .int .i64 (-5), .int .i64 (-13)] 22)
  have HL2 := Lib.hid (HL1.out.below (below_al (Below.refl _ _) (Obj.cells #[.int .i64 12, .int .i64 3, .int .i64 (-5), .int .i64 (-13)] 22)) (by omega))
  refine (digit_8_11 _ HL2.out).mono ?_
  rintro e w3 ⟨rfl, hb3⟩
  have g3 : w3.heap[w1.heap.size]? = some (.cells #[.int .i64 12, .int .i64 3, .int .i64 (-5), .int .i64 (-13)] 22 (0, 0)) := by rw [hb3.block _ (by simp), alloc_new]
  have c3 := cell_row g3
  have hB := Lib.hid (below_then hb2 hb3)
  clear hb1 hb2 hb3 g3
  go_wp2_with fail
  go_ret
  exact ⟨rfl, hB.out⟩

set_option maxHeartbeats 1000000 in
theorem tableDigits_any (i y : Int) (w : World) (hl : Laid w) :
    Calls Tryd.prog 3 #[.int .i64 i, .int .i64 y] w fun e w' => e = .returned (.bool true) ∧ Below w.heap.size w w' := by
  have HL := Lib.hid hl
  have hlt := hl.lt
  clear hl
  by_cases hi : i < 8 ∨ 15 < i
  · have HI := Lib.hid hi
    have E := eq_q4 0 0 0 0 0 0 0 0
    rcases hi with hi | hi
    all_goals
      go_enter Tryd.func3, Tryd.ntmps3
      go_wp2_with fail
      refine (bounds_out i _ HI.out).mono ?_
      rintro e w1 ⟨rfl, hb1⟩
      have hs := hb1.size
      go_wp2_with fail
      have hb2 := below_al hb1 (Obj.cells #[.int .i64 0, .int .i64 0, .int .i64 0, .int .i64 0] 22)
      refine (digit_out i y _ HI.out).mono ?_
      rintro e w3 ⟨rfl, hb3⟩
      have g3 : w3.heap[w1.heap.size]? = some (.cells #[.int .i64 0, .int .i64 0, .int .i64 0, .int .i64 0] 22 (0, 0)) := by rw [hb3.block _ (by simp), alloc_new]
      have c3 := cell_row g3
      have hb4 := below_then hb2 hb3
      have HL3 := Lib.hid (HL.out.below hb4 hlt)
      have hB := Lib.hid hb4
      clear hb1 hb2 hb3 g3 hb4
      go_wp2_with fail
      refine (tabAwake_any _ HL3.out).mono ?_
      rintro e w5 ⟨rfl, hb5⟩
      have hB5 := Lib.hid (below_then hB.out hb5)
      clear hb5
      go_wp2_with fail
      go_ret
      exact ⟨rfl, hB5.out⟩
  · have h8 : 8 ≤ i := by omega
    have h15 : i ≤ 15 := by omega
    clear hi
    have E := eq_q4 (l3 (4 * (i + 1))) (l3 (i + 1)) (l3 (-2 * i)) (l3 (-5 * i)) (l3 (4 * (i + 1))) (l3 (i + 1)) (l3 (-2 * i)) (l3 (-5 * i))
    go_enter Tryd.func3, Tryd.ntmps3
    go_wp2_with fail
    refine (bounds_in i _ h8 h15 HL.out).mono ?_
    rintro e w1 ⟨rfl, hb1⟩
    have hs := hb1.size
    go_wp2_with fail
    have hb2 := below_al hb1 (Obj.cells #[.int .i64 (l3 (4 * (i + 1))), .int .i64 (l3 (i + 1)), .int .i64 (l3 (-2 * i)), .int .i64 (l3 (-5 * i))] 22)
    refine (digit_in i y _ h8 h15 (HL.out.below hb2 hlt)).mono ?_
    rintro e w3 ⟨rfl, hb3⟩
    have g3 : w3.heap[w1.heap.size]? = some (.cells #[.int .i64 (l3 (4 * (i + 1))), .int .i64 (l3 (i + 1)), .int .i64 (l3 (-2 * i)), .int .i64 (l3 (-5 * i))] 22 (0, 0)) := by rw [hb3.block _ (by simp), alloc_new]
    have hb4 := below_then hb2 hb3
    have hs3 := hb4.size
    have HL3 := Lib.hid (HL.out.below hb4 hlt)
    have hB := Lib.hid hb4
    have e3 := ext_row g3 (lt_of_heap g3)
    have HLx : ∀ x : Ext w3.heap.size w3, Laid x.val := fun x => HL3.out.below x.property (by omega)
    clear hb1 hb2 hb3 g3 hb4
    go_wp2_with fail
    refine wp_region_ext w3.heap.size (by kernel_rfl) (by kernel_rfl) ?_
    repeat (go_big_quiet_step (first
      | (go_at_call 11; exact Calls.quiet_ext (Nat.le_refl _) (refBounds_any i _ h8 h15))
      | (go_at_call 12; exact Calls.quiet_ext (Nat.le_refl _) (refDigit_any _ _ _ _ _ _))
      | (go_at_call 10; exact Calls.quiet_ext (Nat.le_refl _) (tabAwake_any _ (HLx _)))))
    refine wpQuiet_nil ?_
    intro w4 hb4
    have hB4 := Lib.hid (below_then hB.out hb4)
    clear hb4
    go_wp2
    go_ret
    exact ⟨rfl, hB4.out⟩
end Go.Proofs.YtbjofgoimkmbfaaDoor
