/- LITERALS: a number of 512 bits, written out by its lowest limbs. -/
import Derived.Test.YtbjofgoimkmbfaaWide10
namespace Go.Proofs.Ytbjofgoimkmbfaa
open Go Go.RowKit
theorem word_cells (x y : Nat) (hx : x ≤ 18446744073709551615) (hy : y ≤ 18446744073709551615) : (#[.int .u64 y, .int .u64 x, .int .u64 0, .int .u64 0, .int .u64 0, .int .u64 0, .int .u64 0, .int .u64 0] : Array Value) = wcells (y + P2 64 * x) := by
  obtain ⟨h0, h1, h2⟩ := word_limbs x y hx hy
  unfold wcells
  rw [h0, h1, limb_gone _ 2 2 h2 (by omega), limb_gone _ 3 2 h2 (by omega), limb_gone _ 4 2 h2 (by omega), limb_gone _ 5 2 h2 (by omega), limb_gone _ 6 2 h2 (by omega), limb_gone _ 7 2 h2 (by omega)]
  rfl
theorem lit_cells (y : Nat) (hy : y ≤ 18446744073709551615) : (#[.int .u64 y, .int .u64 0, .int .u64 0, .int .u64 0, .int .u64 0, .int .u64 0, .int .u64 0, .int .u64 0] : Array Value) = wcells y := by
  have := word_cells 0 y (by omega) hy
  rw [Nat.mul_zero, Nat.add_zero] at this
  exact this
@[go_sem] theorem wcells_ne (n : Nat) : (wcells n = #[]) = False := by unfold wcells; simp
@[go_sem] theorem wset0 (v : Value) : (wcells 0).setIfInBounds 0 v = #[v, .int .u64 0, .int .u64 0, .int .u64 0, .int .u64 0, .int .u64 0, .int .u64 0, .int .u64 0] := by
  unfold wcells; simp only [limb_zero]; rfl
/-- Is a number 0? (a Bool of its own, so that a walk can be told of it) -/
def isZ (a : Nat) : Bool := decide (a % M = 0)
theorem isZ_yes {a : Nat} (h : a = 0) : isZ a = true := by unfold isZ; rw [h, Nat.zero_mod]; rfl
theorem isZ_no {a : Nat} (ha : a < M) (h : a ≠ 0) : isZ a = false := by unfold isZ; rw [Nat.mod_eq_of_lt ha]; exact decide_eq_false h
@[go_sem] theorem isZ_zero : isZ 0 = true := isZ_yes rfl
@[go_sem high] theorem eq_wide_z (a : Nat) (w : World) : (Op.equalIn 10000 31 (.agg (wcells a)) (.agg (wcells 0))).run Try.prog w = .ok (isZ a) w := by
  rw [eq_wide a 0 w, Nat.zero_mod]; rfl
theorem ret_i64 {a b : Int} (h : a = b) : Ending.returned (.int .i64 a) = .returned (.int .i64 b) := by rw [h]
theorem clampN_at {k : Nat} (h : k ≤ 512) : clampN (k : Int) = k := by have := clampN_mid (n := (k : Int)) (by omega) (by omega); omega
theorem powerN_at (k : Nat) (hk : k < 512) : powerN (k : Int) = P2 k := by unfold powerN; rw [if_pos ⟨by omega, by omega⟩]; rfl
theorem blen_zero_iff {d : Nat} : (((blen d : Nat) : Int) == 0) = decide (d = 0) := by
  by_cases h : d = 0
  · rw [h, blen_zero]; simp
  · have := blen_pos h
    rw [decide_eq_false h]; simp; omega

theorem P2_1 : P2 1 = 2 := by rw [P2_eq]
end Go.Proofs.Ytbjofgoimkmbfaa
