/- THE TYPES of this seat that lie in cells. -/
import Derived.Test.YtkkjbkadaofjpaaRes
import Derived.Test.YtkkjbkadaofjpaaRows
namespace Go.Proofs.Ytkkjbkadaofjpaa
open Go Go.RowKit

theorem aggW : Agg Try.prog 31 8 := ⟨_, Try.underlying31, rfl, by kernel_rfl⟩
end Go.Proofs.Ytkkjbkadaofjpaa
