/- THE WALKS of the laws on rom: the document's example; what each table has of any place. -/
import Derived.Test.YtegmmaaapdgocaaLaw17
namespace Go.Proofs.Ytegmmaaapdgocaa
open Go Go.RowKit

theorem rtg_0 : rtgN 0 = 1016 := by
  unfold rtgN
  exact rt_unique (by decide) (by decide)
theorem rootV_32 : rootV 32 = 1016 := by
  unfold rootV
  rw [if_pos (by decide), show ((32 : Int) - 32).toNat = 0 from rfl, rtg_0]
attribute [local go_sem ↓] Go.wp_at_zero Go.wp_at_succ
end Go.Proofs.Ytegmmaaapdgocaa
