/- THE WALKS of the laws on radix2: quotients and remainders. -/
import Derived.Test.YtegmmaaapdgocaaR2e
import Derived.Test.YtegmmaaapdgocaaR2b
namespace Go.Proofs.Ytegmmaaapdgocaa
open Go Go.RowKit

attribute [local go_sem ↓] Go.wp_at_zero Go.wp_at_succ
end Go.Proofs.Ytegmmaaapdgocaa
