/- THE ROW of FixRoots: of any wide, by any guess and any number of steps fix.Root gives root, remainder and how far the guess was away, or why not; no condition. -/
import Derived.Test.YtkkjbkadaofjpaaLaw18f
import Derived.Test.YtkkjbkadaofjpaaClosed
import Derived.Test.YtkkjbkadaofjpaaK15
namespace Go.Proofs.Ytkkjbkadaofjpaa.fixRoots
open Go Go.ChangeShapes Go.WideShapes Go.ChangeAt Go.RowKit

theorem own : ownKnob Try.prog.godebug = none := by kernel_rfl

set_option maxRecDepth 100000 in
/-- For every argument, and every world that holds what is laid: it returns true. -/
theorem contract (H : Type) (enc : TypeId × Value → H) (W : World) (base : Nat) (args : Array Value) (ds gs : List (DataW H)) (before : List MemPlace)
    (hval : ∀ (j : Nat) t v, Try.f10.params[j]? = some t → args[j]? = some v → Value.okWide Try.prog W .any base t v)
    (hW : DataW.Whole enc Try.prog Try.f10.params.toList Rows.fixRootsSpec.vars false W args.toList ds gs before) :
    Calls Try.prog 10 args W fun e W' => ∃ v, e = .returned v ∧ Rows.fixRootsSpec.post enc Try.prog Try.f10 false true false false W args v W' := by
  have hW' := hW
  obtain ⟨p, q, hA0, hV, rfl, hfz, hnd⟩ := hW
  have hA : DataW.TrodAll enc Try.prog W 0 (fun _ => true) true Try.f10.params.toList args.toList ds p := hA0
  rw [Try.params10] at hA hval
  obtain ⟨v0, vs0, d0, ds0, p0, q0, hargs, rfl, rfl, h0, r0⟩ := trodAll_cons hA
  obtain ⟨v1, vs1, d1, ds1, p1, q1, rfl, rfl, rfl, h1, r1⟩ := trodAll_cons r0
  obtain ⟨rfl, rfl, rfl⟩ := trodAll_nil r1
  obtain rfl : args = #[v0, v1] := by cases args; simp_all
  obtain ⟨rfl, rfl⟩ := trodVars_none hV
  clear hA0
  obtain ⟨cs0, rfl, hL0⟩ := open_flat [.int .u64, .int .u64, .int .u64, .int .u64, .int .u64, .int .u64, .int .u64, .int .u64] 4 (by kernel_rfl) (by kernel_rfl) (hval 0 31 v0 rfl rfl) h0
  obtain ⟨a0, b0, e0⟩ := wide_of hL0
  rw [e0] at hW' h0 ⊢
  obtain ⟨cs1, rfl, hL1⟩ := open_flat [.int .u64, .int .u64, .int .u64, .int .u64, .int .u64, .int .u64, .int .u64, .int .u64, .bool, .int .i8, .int .i64] 4 (by kernel_rfl) (by kernel_rfl) (hval 1 63 v1 rfl rfl) h1
  obtain ⟨a1, r1_, b1_, m1, ha1, hb1, hm1, e1⟩ := guess_of hL1
  rw [e1] at hW' h1 ⊢
  refine (fixRoots_any a0 a1 r1_ b1_ m1 W b0 ha1 hb1.1 hb1.2).mono fun e W' ⟨he, hb⟩ => ?_
  subst he
  exact ⟨_, rfl, law_post laidOut (by kernel_rfl) rfl Try.underlying4 rfl hW' hb rfl rfl rfl⟩

theorem inPlace : (Rows.fixRootsRow.inPlace == Try.prog.inPlace 10) = true := by kernel_rfl
theorem unfollowed : (Rows.fixRootsRow.unfollowed == Try.prog.unfollowed 10) = true := by kernel_rfl
theorem recurses : (Rows.fixRootsRow.recurses == Try.prog.recurses 10) = true := by kernel_rfl
theorem named : (Rows.fixRootsRow.named == Try.prog.varsNamed 10) = true := by kernel_rfl
theorem closed : joinedFacts Try.pinned.checked.prog 10 Try.f10 Rows.fixRootsSpec Rows.fixRootsRow = true := by
  unfold joinedFacts
  with_reducible repeat' (refine and_both ?_ ?_)
  · kernel_rfl
  · exact laidOut
  · exact mapsRows
  · kernel_rfl
  · kernel_rfl
  · kernel_rfl
  · exact noStops
  · kernel_rfl
  · exact noStopKnobs
  · exact inPlace
  · exact unfollowed
  · exact recurses
  · exact named
  · kernel_rfl
  · kernel_rfl
  · kernel_rfl
  · kernel_rfl
  · kernel_rfl
  · kernel_rfl
  · kernel_rfl
  · kernel_rfl
  · kernel_rfl
  · exact plainKeys
  · kernel_rfl
  · exact stopsHeard
  · exact mayEnter
  · exact liftsNone
  · exact makeCut
  all_goals kernel_rfl

set_option maxRecDepth 100000 in
theorem lifted (os : Os) (started : os.Started) (H : Type) (enc : TypeId × Value → H) :
    ReturnsInHanded {} Try.checked os 10 .any (Rows.fixRootsSpec.pre6 enc Try.prog Try.f10 Rows.fixRootsRow.domain false) (Rows.fixRootsSpec.post enc Try.prog Try.f10 false true false false) := by
  refine returnsInHanded_of_change (C := Try.checked) own started (by kernel_rfl) Try.func10
    (ChangeSpec.witness6 (enc := enc) (C := Try.checked) false ⟨#[], #[.agg #[.int .u64 0, .int .u64 0, .int .u64 0, .int .u64 0, .int .u64 0, .int .u64 0, .int .u64 0, .int .u64 0], .agg #[.int .u64 0, .int .u64 0, .int .u64 0, .int .u64 0, .int .u64 0, .int .u64 0, .int .u64 0, .int .u64 0, .bool false, .int .i8 0, .int .i64 0]], []⟩ 8 (by kernel_rfl) (by kernel_rfl) (by kernel_rfl) (by kernel_rfl)) ?_
  intro W base args ds gs before hval hW _ _
  exact contract H enc W base args ds gs before hval hW

theorem said : Rows.FixRootsSaid :=
  OpenClaim.holds_of_wide 10 Try.f10 rfl rfl rfl rfl rfl rfl rfl ⟨rfl, rfl, rfl, rfl, rfl⟩ rfl rfl rfl rfl rfl (by kernel_rfl) Try.func10 closed
    (of_decide_eq_true (by kernel_rfl)) (by unfold Func.isWrapper; first | (rw [if_pos (by decide +kernel)]; kernel_rfl) | (rw [if_neg (by decide +kernel)]; exact ⟨rfl, rfl⟩))
    (fun os started H enc _ => lifted os started H enc)

#print axioms said
end Go.Proofs.Ytkkjbkadaofjpaa.fixRoots
