/- THE LAW RomGuesses, all its ways. -/
import Derived.Test.YtkkjbkadaofjpaaLaw17f
namespace Go.Proofs.Ytkkjbkadaofjpaa
open Go Go.RowKit
theorem romGuesses_any (x y p q : Nat) (w : World) (hx : x ≤ 18446744073709551615) (hy : y ≤ 18446744073709551615) (hp : p ≤ 18446744073709551615) (hq : q ≤ 18446744073709551615) :
    Calls Try.prog 7 #[.agg #[.int .u64 (x : Int), .int .u64 (y : Int)], .agg #[.int .u64 (p : Int), .int .u64 (q : Int)]] w fun e w' => e = .returned (.bool true) ∧ Below w.heap.size w w' := by
  have h64 := P2_64
  have h1 : x < P2 64 := by omega
  have h2 : y < P2 64 := by omega
  have h3 : p < P2 64 := by omega
  have h4 : q < P2 64 := by omega
  rcases Nat.lt_or_ge x (P2 63) with ha | ha
  · rcases Nat.lt_or_ge p (P2 62) with hc | hc
    · exact romGuesses_AC x y p q w h1 h2 h3 h4 ha hc
    · exact romGuesses_AD x y p q w h1 h2 h3 h4 ha hc
  · rcases Nat.lt_or_ge p (P2 62) with hc | hc
    · exact romGuesses_BC x y p q w h1 h2 h3 h4 ha hc
    · exact romGuesses_BD x y p q w h1 h2 h3 h4 ha hc
end Go.Proofs.Ytkkjbkadaofjpaa
