/- THE ROW of the law that a square has its root. -/
import Derived.Test.YtenkaobgoknlhaaLaw12b
import Derived.Test.YtenkaobgoknlhaaK15
import Derived.Test.YtenkaobgoknlhaaClosed
namespace Go.Proofs.Ytenkaobgoknlhaa.root2Squares
open Go Go.ChangeShapes Go.WideShapes Go.ChangeAt Go.RowKit

theorem own : ownKnob Try.prog.godebug = none := by kernel_rfl

set_option maxRecDepth 100000 in
/-- For every argument, and every world that holds what is laid: it returns true. -/
theorem contract (H : Type) (enc : TypeId × Value → H) (W : World) (base : Nat) (args : Array Value) (ds gs : List (DataW H)) (before : List MemPlace)
    (hval : ∀ (j : Nat) t v, Try.f25.params[j]? = some t → args[j]? = some v → Value.okWide Try.prog W .any base t v)
    (hW : DataW.Whole enc Try.prog Try.f25.params.toList Rows.root2SquaresSpec.vars false W args.toList ds gs before) :
    Calls Try.prog 25 args W fun e W' => ∃ v, e = .returned v ∧ Rows.root2SquaresSpec.post enc Try.prog Try.f25 false true false false W args v W' := by
  have hW' := hW
  obtain ⟨p, q, hA0, hV, rfl, hfz, hnd⟩ := hW
  have hA : DataW.TrodAll enc Try.prog W 0 (fun _ => true) true Try.f25.params.toList args.toList ds p := hA0
  rw [Try.params25] at hA hval
  obtain ⟨v0, vs0, d0, ds0, p0, q0, hargs, rfl, rfl, h0, r0⟩ := trodAll_cons hA
  obtain ⟨v1, vs1, d1, ds1, p1, q1, rfl, rfl, rfl, h1, r1⟩ := trodAll_cons r0
  obtain ⟨rfl, rfl, rfl⟩ := trodAll_nil r1
  obtain rfl : args = #[v0, v1] := by cases args; simp_all
  obtain ⟨rfl, rfl⟩ := trodVars_none hV
  clear hA0
  obtain ⟨cs0, rfl, hL0⟩ := open_flat [.int .u64, .int .u64] 4 (by kernel_rfl) (by kernel_rfl) (hval 0 35 v0 rfl rfl) h0
  obtain ⟨x0, y0, bx0, by0, e0⟩ := word_of hL0
  rw [e0] at hW' h0 ⊢
  obtain ⟨cs1, rfl, hL1⟩ := open_flat [.int .u64, .int .u64] 4 (by kernel_rfl) (by kernel_rfl) (hval 1 35 v1 rfl rfl) h1
  obtain ⟨x1, y1, bx1, by1, e1⟩ := word_of hL1
  rw [e1] at hW' h1 ⊢
  refine (root2Squares_any x0 y0 x1 y1 W bx0 by0 bx1 by1).mono fun e W' ⟨he, hb⟩ => ?_
  subst he
  exact ⟨_, rfl, law_post laidOut (by kernel_rfl) rfl Try.underlying4 rfl hW' hb rfl rfl rfl⟩

theorem inPlace : (Rows.root2SquaresRow.inPlace == Try.prog.inPlace 25) = true := by kernel_rfl
theorem unfollowed : (Rows.root2SquaresRow.unfollowed == Try.prog.unfollowed 25) = true := by kernel_rfl
theorem recurses : (Rows.root2SquaresRow.recurses == Try.prog.recurses 25) = true := by kernel_rfl
theorem named : (Rows.root2SquaresRow.named == Try.prog.varsNamed 25) = true := by kernel_rfl
theorem closed : joinedFacts Try.pinned.checked.prog 25 Try.f25 Rows.root2SquaresSpec Rows.root2SquaresRow = true := by
  unfold joinedFacts
  with_reducible repeat' (refine and_both ?_ ?_)
  · kernel_rfl
  · exact laidOut
  · exact mapsRows
  · kernel_rfl
  · kernel_rfl
  · kernel_rfl
  · exact noStops
  · kernel_rfl
  · exact noStopKnobs
  · exact inPlace
  · exact unfollowed
  · exact recurses
  · exact named
  · kernel_rfl
  · kernel_rfl
  · kernel_rfl
  · kernel_rfl
  · kernel_rfl
  · kernel_rfl
  · kernel_rfl
  · kernel_rfl
  · kernel_rfl
  · exact plainKeys
  · kernel_rfl
  · exact stopsHeard
  · exact mayEnter
  · exact liftsNone
  · exact makeCut
  all_goals kernel_rfl

set_option maxRecDepth 100000 in
theorem lifted (os : Os) (started : os.Started) (H : Type) (enc : TypeId × Value → H) :
    ReturnsInHanded {} Try.checked os 25 .any (Rows.root2SquaresSpec.pre6 enc Try.prog Try.f25 Rows.root2SquaresRow.domain false) (Rows.root2SquaresSpec.post enc Try.prog Try.f25 false true false false) := by
  refine returnsInHanded_of_change (C := Try.checked) own started (by kernel_rfl) Try.func25
    (ChangeSpec.witness6 (enc := enc) (C := Try.checked) false ⟨#[], #[.agg #[.int .u64 0, .int .u64 0], .agg #[.int .u64 0, .int .u64 0]], []⟩ 8 (by kernel_rfl) (by kernel_rfl) (by kernel_rfl) (by kernel_rfl)) ?_
  intro W base args ds gs before hval hW _ _
  exact contract H enc W base args ds gs before hval hW

theorem said : Rows.Root2SquaresSaid :=
  OpenClaim.holds_of_wide 25 Try.f25 rfl rfl rfl rfl rfl rfl rfl ⟨rfl, rfl, rfl, rfl, rfl⟩ rfl rfl rfl rfl rfl (by kernel_rfl) Try.func25 closed
    (of_decide_eq_true (by kernel_rfl)) (by unfold Func.isWrapper; first | (rw [if_pos (by decide +kernel)]; kernel_rfl) | (rw [if_neg (by decide +kernel)]; exact ⟨rfl, rfl⟩))
    (fun os started H enc _ => lifted os started H enc)

#print axioms said
end Go.Proofs.Ytenkaobgoknlhaa.root2Squares
