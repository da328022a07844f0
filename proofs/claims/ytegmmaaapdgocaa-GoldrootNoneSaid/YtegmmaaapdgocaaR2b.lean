/- THE WALKS of the reference of radix2: whether two can be divided, and their quotient. -/
import Derived.Test.YtegmmaaapdgocaaK14
namespace Go.Proofs.Ytegmmaaapdgocaa
open Go Go.RowKit

attribute [local go_sem ↓] Go.wp_at_zero Go.wp_at_succ
end Go.Proofs.Ytegmmaaapdgocaa
