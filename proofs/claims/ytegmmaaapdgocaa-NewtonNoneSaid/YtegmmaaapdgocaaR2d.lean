/- THE WALKS of radix2: what the division does with each step; the division; quotients with places behind the point. -/
import Derived.Test.YtegmmaaapdgocaaR2c
import Derived.Test.YtegmmaaapdgocaaK22
namespace Go.Proofs.Ytegmmaaapdgocaa
open Go Go.RowKit

attribute [local go_sem ↓] Go.wp_at_zero Go.wp_at_succ
end Go.Proofs.Ytegmmaaapdgocaa
