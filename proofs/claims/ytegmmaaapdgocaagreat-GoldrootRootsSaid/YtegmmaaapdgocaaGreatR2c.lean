/- THE WALK of radix2's steps, with any function that takes them; the division. -/
import Derived.Test.YtegmmaaapdgocaaGreatLaw11N
import Derived.Test.YtegmmaaapdgocaaGreatK22
import Derived.WalkMore
namespace Go.Proofs.YtegmmaaapdgocaaGreat
open Go Go.RowKit

theorem But.row {S : Nat → Prop} {w w' : World} (h : But S w w') {g : Nat} (hg : S g) (cs : Array Value) : But S w (w'.setRow g cs) :=
  h.trans ⟨rfl, rfl, rfl, by simp [World.setRow], fun i _ hs => setRow_other _ _ _ _ (fun e => hs (by rw [e]; exact hg))⟩

attribute [local go_sem ↓] Go.wp_at_zero Go.wp_at_succ
end Go.Proofs.YtegmmaaapdgocaaGreat
