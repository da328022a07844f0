/- THE WALKS of package fly, going on: a digit further. -/
import Derived.Test.YtffengboblekpaaFly
import Derived.Test.YtffengboblekpaaK17
namespace Go.Proofs.Ytffengboblekpaa
open Go Go.RowKit

attribute [local go_sem ↓] Go.wp_at_zero Go.wp_at_succ
end Go.Proofs.Ytffengboblekpaa
