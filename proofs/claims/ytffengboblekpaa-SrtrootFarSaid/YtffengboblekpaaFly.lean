/- THE WALKS of package fly: a state, and a digit further. -/
import Derived.Test.YtffengboblekpaaFlyN
import Derived.Test.YtffengboblekpaaK16
import Derived.Test.YtffengboblekpaaK11
import Derived.Test.YtffengboblekpaaLaw11N
namespace Go.Proofs.Ytffengboblekpaa
open Go Go.RowKit

attribute [local go_sem ↓] Go.wp_at_zero Go.wp_at_succ
end Go.Proofs.Ytffengboblekpaa
