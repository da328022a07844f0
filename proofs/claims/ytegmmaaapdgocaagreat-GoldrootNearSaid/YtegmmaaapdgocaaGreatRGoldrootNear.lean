/- P22.3: behind the rounds the product is near one half, and the first one near the root (without the document's answer, but for the root). -/
import Derived.Test.YtegmmaaapdgocaaGreatLaw22c
import Derived.Test.YtegmmaaapdgocaaGreatK15
import Derived.Test.YtegmmaaapdgocaaGreatClosed
namespace Go.Proofs.YtegmmaaapdgocaaGreat.goldrootNear
open Go Go.ChangeShapes Go.WideShapes Go.ChangeAt Go.RowKit

theorem own : ownKnob Tryz.prog.godebug = none := by kernel_rfl

set_option maxRecDepth 100000 in
/-- For every argument, and every world that holds what is laid: it returns true. -/
theorem contract (H : Type) (enc : TypeId × Value → H) (W : World) (base : Nat) (args : Array Value) (ds gs : List (DataW H)) (before : List MemPlace)
    (hval : ∀ (j : Nat) t v, Tryz.f8.params[j]? = some t → args[j]? = some v → Value.okWide Tryz.prog W .any base t v)
    (hW : DataW.Whole enc Tryz.prog Tryz.f8.params.toList Rows.goldrootNearSpec.vars false W args.toList ds gs before) :
    Calls Tryz.prog 8 args W fun e W' => ∃ v, e = .returned v ∧ Rows.goldrootNearSpec.post enc Tryz.prog Tryz.f8 false true false false W args v W' := by
  have hW' := hW
  obtain ⟨p, q, hA0, hV, rfl, hfz, hnd⟩ := hW
  have hA : DataW.TrodAll enc Tryz.prog W 0 (fun _ => true) true Tryz.f8.params.toList args.toList ds p := hA0
  rw [Tryz.params8] at hA hval
  obtain ⟨v0, vs0, d0, ds0, p0, q0, hargs, rfl, rfl, h0, r0⟩ := trodAll_cons hA
  obtain ⟨rfl, rfl, rfl⟩ := trodAll_nil r0
  obtain rfl : args = #[v0] := by cases args; simp_all
  obtain ⟨rfl, rfl⟩ := trodVars_none hV
  clear hA0
  obtain ⟨cs0, rfl, hL0⟩ := open_flat [.int .u64, .int .u64, .int .u64, .int .u64, .int .u64, .int .u64, .int .u64, .int .u64] 4 (by kernel_rfl) (by kernel_rfl) (hval 0 24 v0 rfl rfl) h0
  obtain ⟨a0, b0, e0⟩ := wide_of hL0
  rw [e0] at hW' h0 ⊢
  refine (goldrootNear_any a0 W b0).mono fun e W' ⟨he, hb⟩ => ?_
  subst he
  exact ⟨_, rfl, law_post laidOut (by kernel_rfl) rfl Tryz.underlying4 rfl hW' hb rfl rfl rfl⟩

theorem inPlace : (Rows.goldrootNearRow.inPlace == Tryz.prog.inPlace 8) = true := by kernel_rfl
theorem unfollowed : (Rows.goldrootNearRow.unfollowed == Tryz.prog.unfollowed 8) = true := by kernel_rfl
theorem recurses : (Rows.goldrootNearRow.recurses == Tryz.prog.recurses 8) = true := by kernel_rfl
theorem named : (Rows.goldrootNearRow.named == Tryz.prog.varsNamed 8) = true := by kernel_rfl
theorem closed : joinedFacts Tryz.pinned.checked.prog 8 Tryz.f8 Rows.goldrootNearSpec Rows.goldrootNearRow = true := by
  unfold joinedFacts
  with_reducible repeat' (refine and_both ?_ ?_)
  · kernel_rfl
  · exact laidOut
  · exact mapsRows
  · kernel_rfl
  · kernel_rfl
  · kernel_rfl
  · exact noStops
  · kernel_rfl
  · exact noStopKnobs
  · exact inPlace
  · exact unfollowed
  · exact recurses
  · exact named
  · kernel_rfl
  · kernel_rfl
  · kernel_rfl
  · kernel_rfl
  · kernel_rfl
  · kernel_rfl
  · kernel_rfl
  · kernel_rfl
  · kernel_rfl
  · exact plainKeys
  · kernel_rfl
  · exact stopsHeard
  · exact mayEnter
  · exact liftsNone
  · exact makeCut
  all_goals kernel_rfl

set_option maxRecDepth 100000 in
theorem lifted (os : Os) (started : os.Started) (H : Type) (enc : TypeId × Value → H) :
    ReturnsInHanded {} Tryz.checked os 8 .any (Rows.goldrootNearSpec.pre6 enc Tryz.prog Tryz.f8 Rows.goldrootNearRow.domain false) (Rows.goldrootNearSpec.post enc Tryz.prog Tryz.f8 false true false false) := by
  refine returnsInHanded_of_change (C := Tryz.checked) own started (by kernel_rfl) Tryz.func8
    (ChangeSpec.witness6 (enc := enc) (C := Tryz.checked) false ⟨#[], #[.agg #[.int .u64 0, .int .u64 0, .int .u64 0, .int .u64 0, .int .u64 0, .int .u64 0, .int .u64 0, .int .u64 0]], []⟩ 8 (by kernel_rfl) (by kernel_rfl) (by kernel_rfl) (by kernel_rfl)) ?_
  intro W base args ds gs before hval hW _ _
  exact contract H enc W base args ds gs before hval hW

theorem said : Rows.GoldrootNearSaid :=
  OpenClaim.holds_of_wide 8 Tryz.f8 rfl rfl rfl rfl rfl rfl rfl ⟨rfl, rfl, rfl, rfl, rfl⟩ rfl rfl rfl rfl rfl (by kernel_rfl) Tryz.func8 closed
    (of_decide_eq_true (by kernel_rfl)) (by unfold Func.isWrapper; first | (rw [if_pos (by decide +kernel)]; kernel_rfl) | (rw [if_neg (by decide +kernel)]; exact ⟨rfl, rfl⟩))
    (fun os started H enc _ => lifted os started H enc)

#print axioms said
end Go.Proofs.YtegmmaaapdgocaaGreat.goldrootNear
