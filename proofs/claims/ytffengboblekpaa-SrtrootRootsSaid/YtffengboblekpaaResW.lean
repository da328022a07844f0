/- THE TYPES of this seat that lie in cells. -/
import Derived.Test.YtffengboblekpaaRes
import Derived.Test.YtffengboblekpaaRows
namespace Go.Proofs.Ytffengboblekpaa
open Go Go.RowKit

theorem aggW : Agg Try.prog 24 8 := ⟨_, Try.underlying24, rfl, by kernel_rfl⟩
end Go.Proofs.Ytffengboblekpaa
