/- SEVERAL TEXTS of the seat, one behind the other: each says at its head what it proves. -/
import Derived.Test.YtegmmaaapdgocaaR2c
import Derived.Test.YtegmmaaapdgocaaK22
import Derived.Test.YtegmmaaapdgocaaR2b
/- THE WALKS of radix2: what the division does with each step; the division; quotients with places behind the point. -/
namespace Go.Proofs.Ytegmmaaapdgocaa
open Go Go.RowKit

attribute [local go_sem ↓] Go.wp_at_zero Go.wp_at_succ
end Go.Proofs.Ytegmmaaapdgocaa

/- THE WALK of radix2's division. -/
namespace Go.Proofs.Ytegmmaaapdgocaa
open Go Go.RowKit

/-- What the division has in hand behind i steps. -/
structure DivIn (n d Qb Rb : Nat) (wq : World) (i : Nat) (w' : World) : Prop where
  q : w'.heap[Qb]? = some (.cells (wcells (quoN n d i)) 24 (0, 0))
  r : ∃ r0, w'.heap[Rb]? = some (.cells (wcells r0) 24 (0, 0)) ∧ (0 < i → r0 = lftN n d i)
  but : But (fun k => k = Qb ∨ k = Rb ∨ wq.heap.size ≤ k) wq w'

attribute [local go_sem ↓] Go.wp_at_zero Go.wp_at_succ
end Go.Proofs.Ytegmmaaapdgocaa

/- THE WALKS of the laws on radix2: quotients and remainders. -/
namespace Go.Proofs.Ytegmmaaapdgocaa
open Go Go.RowKit

attribute [local go_sem ↓] Go.wp_at_zero Go.wp_at_succ
end Go.Proofs.Ytegmmaaapdgocaa
