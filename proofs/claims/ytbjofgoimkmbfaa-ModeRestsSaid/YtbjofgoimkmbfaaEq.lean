/- '==' on numbers of 512 bits. -/
import Derived.Test.YtbjofgoimkmbfaaEqInts
import Derived.Test.YtbjofgoimkmbfaaNum
import Derived.Test.YtbjofgoimkmbfaaRows
namespace Go.Proofs.Ytbjofgoimkmbfaa
open Go Go.RowKit
theorem same_wide (a b : Nat) : (∀ i, i < 8 → ((limb a i : Nat) : Int) = (limb b i : Nat)) ↔ a % M = b % M := by
  constructor
  · intro h
    refine limb_ext (Nat.mod_lt _ M_pos) (Nat.mod_lt _ M_pos) fun i hi => ?_
    rw [limb_mod _ _ hi, limb_mod _ _ hi]
    have := h i hi
    omega
  · intro h i hi
    rw [← limb_mod a i hi, ← limb_mod b i hi, h]
@[go_sem] theorem eq_wide (a b : Nat) (w : World) : (Op.equalIn 10000 31 (.agg (wcells a)) (.agg (wcells b))).run Try.prog w = .ok (decide (a % M = b % M)) w := by
  rw [run_eq_ints (d := 9998) Try.underlying31 Try.underlying24 (by kernel_rfl) _ _ (fun i => (limb a i : Nat)) (fun i => (limb b i : Nat)) (fun i hi => wcells_get a i hi) (fun i hi => wcells_get b i hi)]
  congr 1
  exact decide_eq_decide.2 (same_wide a b)
end Go.Proofs.Ytbjofgoimkmbfaa
