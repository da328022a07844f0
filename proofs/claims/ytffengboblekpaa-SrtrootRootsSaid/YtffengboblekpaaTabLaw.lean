/- THE WALKS of 'Digit', and of the laws on a quotient's rows. -/
import Derived.Test.YtffengboblekpaaTab
namespace Go.Proofs.Ytffengboblekpaa
open Go Go.RowKit

abbrev dgAt (i y : Int) : Int := dg (l3 (4 * (i + 1))) (l3 (i + 1)) (l3 (-2 * i)) (l3 (-5 * i)) y

end Go.Proofs.Ytffengboblekpaa
