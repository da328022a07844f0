/- LITERALS: a number of 512 bits, written out by its lowest limbs. -/
import Derived.Test.YtbjofgoimkmbfaaWide10
namespace Go.Proofs.Ytbjofgoimkmbfaa
open Go Go.RowKit
theorem word_cells (x y : Nat) (hx : x ≤ 18446744073709551615) (hy : y ≤ 18446744073709551615) : (#[.int .u64 y, .int .u64 x, .int .u64 0, .int .u64 0, .int .u64 0, .int .u64 0, .int .u64 0, .int .u64 0] : Array Value) = wcells (y + P2 64 * x) := by
  obtain ⟨h0, h1, h2⟩ := word_limbs x y hx hy
  unfold wcells
  rw [h0, h1, limb_gone _ 2 2 h2 (by omega), limb_gone _ 3 2 h2 (by omega), limb_gone _ 4 2 h2 (by omega), limb_gone _ 5 2 h2 (by omega), limb_gone _ 6 2 h2 (by omega), limb_gone _ 7 2 h2 (by omega)]
  rfl
theorem lit_cells (y : Nat) (hy : y ≤ 18446744073709551615) : (#[.int .u64 y, .int .u64 0, .int .u64 0, .int .u64 0, .int .u64 0, .int .u64 0, .int .u64 0, .int .u64 0] : Array Value) = wcells y := by
  have := word_cells 0 y (by omega) hy
  rw [Nat.mul_zero, Nat.add_zero] at this
  exact this
@[go_sem] theorem wcells_ne (n : Nat) : (wcells n = #[]) = False := by unfold wcells; simp
@[go_sem] theorem wset0 (v : Value) : (wcells 0).setIfInBounds 0 v = #[v, .int .u64 0, .int .u64 0, .int .u64 0, .int .u64 0, .int .u64 0, .int .u64 0, .int .u64 0] := by
  unfold wcells; simp only [limb_zero]; rfl
end Go.Proofs.Ytbjofgoimkmbfaa
