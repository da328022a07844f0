/- SEVERAL TEXTS of the seat, one behind the other: each says at its head what it proves. -/
import Derived.Test.YtegmmaaapdgocaaK24
import Derived.Test.YtegmmaaapdgocaaK14
/- THE WALKS of the reference of rom; of the laws on rom: the document's example, what each table has of any place. -/
namespace Go.Proofs.Ytegmmaaapdgocaa
open Go Go.RowKit

attribute [local go_sem ↓] Go.wp_at_zero Go.wp_at_succ
theorem half_step (rt q j K : Nat) (hq : ∀ k, k ≤ rt ↔ k * k ≤ q) (hK : K = P2 j) :
    rt / P2 j * P2 j = if (rt / P2 (j + 1) * P2 (j + 1) + K) * (rt / P2 (j + 1) * P2 (j + 1) + K) ≤ q then rt / P2 (j + 1) * P2 (j + 1) + K else rt / P2 (j + 1) * P2 (j + 1) := by
  have hg := greedy rt j
  rw [hg, hK]
  by_cases h : rt / P2 (j + 1) * P2 (j + 1) + P2 j ≤ rt
  · rw [if_pos h, if_pos ((hq _).1 h)]
  · rw [if_neg h, if_neg (fun hh => h ((hq _).2 hh))]
end Go.Proofs.Ytegmmaaapdgocaa

/- THE WALKS of the laws on rom: the document's example; what each table has of any place. -/
namespace Go.Proofs.Ytegmmaaapdgocaa
open Go Go.RowKit

theorem rtg_0 : rtgN 0 = 1016 := by
  unfold rtgN
  exact rt_unique (by decide) (by decide)
theorem rootV_32 : rootV 32 = 1016 := by
  unfold rootV
  rw [if_pos (by decide), show ((32 : Int) - 32).toNat = 0 from rfl, rtg_0]
attribute [local go_sem ↓] Go.wp_at_zero Go.wp_at_succ
end Go.Proofs.Ytegmmaaapdgocaa
