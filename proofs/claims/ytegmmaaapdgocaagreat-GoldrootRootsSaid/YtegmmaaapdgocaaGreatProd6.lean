/- THE WALKS of package prod, the last: a power (of a small exponent). -/
import Derived.Test.YtegmmaaapdgocaaGreatK13
import Derived.Test.YtegmmaaapdgocaaGreatK6
namespace Go.Proofs.YtegmmaaapdgocaaGreat
open Go Go.RowKit

/-- A power, cut to 512 bits at each step; whether it never had to be cut. -/
def pwV (a : Nat) : Nat → Nat
  | 0 => 1
  | k + 1 => pwV a k * a % M
def pwF (a : Nat) : Nat → Bool
  | 0 => true
  | k + 1 => pwF a k && decide (pwV a k * a < M)
theorem one_ltM : 1 < M := by rw [M_eq, ← P2_0]; exact P2_lt (by omega)
theorem pwV_lt (a k : Nat) : pwV a k < M := by
  cases k with
  | zero => exact one_ltM
  | succ k => exact Nat.mod_lt _ M_pos

attribute [local go_sem ↓] Go.wp_at_zero Go.wp_at_succ
end Go.Proofs.YtegmmaaapdgocaaGreat
