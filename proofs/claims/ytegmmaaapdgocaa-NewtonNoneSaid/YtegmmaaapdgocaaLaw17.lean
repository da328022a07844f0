/- THE WALKS of the reference of rom; of the laws on rom: the document's example, what each table has of any place. -/
import Derived.Test.YtegmmaaapdgocaaRom3
import Derived.Test.YtegmmaaapdgocaaK14
namespace Go.Proofs.Ytegmmaaapdgocaa
open Go Go.RowKit

attribute [local go_sem ↓] Go.wp_at_zero Go.wp_at_succ
theorem half_step (rt q j K : Nat) (hq : ∀ k, k ≤ rt ↔ k * k ≤ q) (hK : K = P2 j) :
    rt / P2 j * P2 j = if (rt / P2 (j + 1) * P2 (j + 1) + K) * (rt / P2 (j + 1) * P2 (j + 1) + K) ≤ q then rt / P2 (j + 1) * P2 (j + 1) + K else rt / P2 (j + 1) * P2 (j + 1) := by
  have hg := greedy rt j
  rw [hg, hK]
  by_cases h : rt / P2 (j + 1) * P2 (j + 1) + P2 j ≤ rt
  · rw [if_pos h, if_pos ((hq _).1 h)]
  · rw [if_neg h, if_neg (fun hh => h ((hq _).2 hh))]
end Go.Proofs.Ytegmmaaapdgocaa
