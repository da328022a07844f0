/- P22.2: of an engine that isn't there nothing comes. -/
import Derived.Test.YtegmmaaapdgocaaLaw22n
import Derived.Test.YtegmmaaapdgocaaK15
import Derived.Test.YtegmmaaapdgocaaClosed
namespace Go.Proofs.Ytegmmaaapdgocaa.goldrootNone
open Go Go.ChangeShapes Go.WideShapes Go.ChangeAt Go.RowKit

theorem own : ownKnob Try.prog.godebug = none := by kernel_rfl

set_option maxRecDepth 100000 in
/-- For every argument, and every world that holds what is laid: it returns true. -/
theorem contract (H : Type) (enc : TypeId × Value → H) (W : World) (base : Nat) (args : Array Value) (ds gs : List (DataW H)) (before : List MemPlace)
    (hval : ∀ (j : Nat) t v, Try.f3.params[j]? = some t → args[j]? = some v → Value.okWide Try.prog W .any base t v)
    (hW : DataW.Whole enc Try.prog Try.f3.params.toList Rows.goldrootNoneSpec.vars false W args.toList ds gs before) :
    Calls Try.prog 3 args W fun e W' => ∃ v, e = .returned v ∧ Rows.goldrootNoneSpec.post enc Try.prog Try.f3 false true false false W args v W' := by
  have hW' := hW
  obtain ⟨p, q, hA0, hV, rfl, hfz, hnd⟩ := hW
  have hA : DataW.TrodAll enc Try.prog W 0 (fun _ => true) true Try.f3.params.toList args.toList ds p := hA0
  rw [Try.params3] at hA hval
  obtain ⟨v0, vs0, d0, ds0, p0, q0, hargs, rfl, rfl, h0, r0⟩ := trodAll_cons hA
  obtain ⟨v1, vs1, d1, ds1, p1, q1, rfl, rfl, rfl, h1, r1⟩ := trodAll_cons r0
  obtain ⟨rfl, rfl, rfl⟩ := trodAll_nil r1
  obtain rfl : args = #[v0, v1] := by cases args; simp_all
  obtain ⟨rfl, rfl⟩ := trodVars_none hV
  clear hA0
  obtain ⟨cs0, rfl, hL0⟩ := open_flat [.int .u64, .int .u64, .int .u64, .int .u64, .int .u64, .int .u64, .int .u64, .int .u64] 4 (by kernel_rfl) (by kernel_rfl) (hval 0 24 v0 rfl rfl) h0
  obtain ⟨a0, b0, e0⟩ := wide_of hL0
  rw [e0] at hW' h0 ⊢
  obtain ⟨a1, rfl, rfl, rfl, w1⟩ := open_int Try.underlying3 (hval 1 3 v1 rfl rfl) h1
  have b1 := bounds_i64 w1
  refine (goldrootNone_any a0 a1 W b0 b1.1 b1.2).mono fun e W' ⟨he, hb⟩ => ?_
  subst he
  exact ⟨_, rfl, law_post laidOut (by kernel_rfl) rfl Try.underlying4 rfl hW' hb rfl rfl rfl⟩

theorem inPlace : (Rows.goldrootNoneRow.inPlace == Try.prog.inPlace 3) = true := by kernel_rfl
theorem unfollowed : (Rows.goldrootNoneRow.unfollowed == Try.prog.unfollowed 3) = true := by kernel_rfl
theorem recurses : (Rows.goldrootNoneRow.recurses == Try.prog.recurses 3) = true := by kernel_rfl
theorem named : (Rows.goldrootNoneRow.named == Try.prog.varsNamed 3) = true := by kernel_rfl
theorem closed : joinedFacts Try.pinned.checked.prog 3 Try.f3 Rows.goldrootNoneSpec Rows.goldrootNoneRow = true := by
  unfold joinedFacts
  with_reducible repeat' (refine and_both ?_ ?_)
  · kernel_rfl
  · exact laidOut
  · exact mapsRows
  · kernel_rfl
  · kernel_rfl
  · kernel_rfl
  · exact noStops
  · kernel_rfl
  · exact noStopKnobs
  · exact inPlace
  · exact unfollowed
  · exact recurses
  · exact named
  · kernel_rfl
  · kernel_rfl
  · kernel_rfl
  · kernel_rfl
  · kernel_rfl
  · kernel_rfl
  · kernel_rfl
  · kernel_rfl
  · kernel_rfl
  · exact plainKeys
  · kernel_rfl
  · exact stopsHeard
  · exact mayEnter
  · exact liftsNone
  · exact makeCut
  all_goals kernel_rfl

set_option maxRecDepth 100000 in
theorem lifted (os : Os) (started : os.Started) (H : Type) (enc : TypeId × Value → H) :
    ReturnsInHanded {} Try.checked os 3 .any (Rows.goldrootNoneSpec.pre6 enc Try.prog Try.f3 Rows.goldrootNoneRow.domain false) (Rows.goldrootNoneSpec.post enc Try.prog Try.f3 false true false false) := by
  refine returnsInHanded_of_change (C := Try.checked) own started (by kernel_rfl) Try.func3
    (ChangeSpec.witness6 (enc := enc) (C := Try.checked) false ⟨#[], #[.agg #[.int .u64 0, .int .u64 0, .int .u64 0, .int .u64 0, .int .u64 0, .int .u64 0, .int .u64 0, .int .u64 0], .int .i64 0], []⟩ 8 (by kernel_rfl) (by kernel_rfl) (by kernel_rfl) (by kernel_rfl)) ?_
  intro W base args ds gs before hval hW _ _
  exact contract H enc W base args ds gs before hval hW

theorem said : Rows.GoldrootNoneSaid :=
  OpenClaim.holds_of_wide 3 Try.f3 rfl rfl rfl rfl rfl rfl rfl ⟨rfl, rfl, rfl, rfl, rfl⟩ rfl rfl rfl rfl rfl (by kernel_rfl) Try.func3 closed
    (of_decide_eq_true (by kernel_rfl)) (by unfold Func.isWrapper; first | (rw [if_pos (by decide +kernel)]; kernel_rfl) | (rw [if_neg (by decide +kernel)]; exact ⟨rfl, rfl⟩))
    (fun os started H enc _ => lifted os started H enc)

#print axioms said
end Go.Proofs.Ytegmmaaapdgocaa.goldrootNone
