/- PLAIN WORDS of the tables: the digit by four bounds, a third rounded up, what a digit's square counts. -/
import Derived.WalkKit
namespace Go.Proofs.YtffengboblekpaaDoor

/-- The greatest digit whose bound isn't above y. -/
def dg (b0 b1 b2 b3 y : Int) : Int := if b0 ≤ y then 2 else if b1 ≤ y then 1 else if b2 ≤ y then 0 else if b3 ≤ y then -1 else -2
def l3 (n : Int) : Int := (n + 2) / 3
/-- What a digit's square counts at a step. -/
def sq (j n : Int) : Int := if j = 0 then 4 * n else if j = 1 then n else if j = 2 then n / 4 else 0
theorem sq_0 (n : Int) : sq 0 n = 4 * n := rfl
theorem sq_1 (n : Int) : sq 1 n = n := rfl
theorem sq_2 (n : Int) : sq 2 n = n / 4 := rfl
theorem sq_3 (j n : Int) (h : 3 ≤ j) : sq j n = 0 := by unfold sq; rw [if_neg (by omega), if_neg (by omega), if_neg (by omega)]
end Go.Proofs.YtffengboblekpaaDoor
