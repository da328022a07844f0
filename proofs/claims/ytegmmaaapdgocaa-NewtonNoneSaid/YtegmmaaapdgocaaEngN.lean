/- PLAIN ARITHMETIC of engines that go round by round: errors square; a number near a quotient, near a root. No program is walked in this text. -/
import Derived.Test.YtegmmaaapdgocaaLaw17d
namespace Go.Proofs.Ytegmmaaapdgocaa
open Go Go.RowKit

theorem P2_tw {a b : Nat} (h : a = b + 1) : P2 a = P2 b * 2 := by subst h; exact P2_twice b
theorem nat_cancel {a b : Nat} (c : Nat) (hc : 0 < c) (h : a * c ≤ b * c) : a ≤ b := Nat.le_of_mul_le_mul_right h hc
/-- An error that squares, but for a little, keeps within a bound that squares, and a rest. -/
theorem quad {T E E' a b a' c : Int} (hT : 0 < T) (h1 : T * E' ≤ E * E + c * T) (h2 : -(E * E + c * T) ≤ T * E') (e1 : E ≤ a + b) (e2 : -(a + b) ≤ E) (hb0 : 0 ≤ b)
    (ha : a * a ≤ T * a') (hb : 2 * (2 * a + b) ≤ T) (hc : 2 * c ≤ b) : E' ≤ a' + b ∧ -(a' + b) ≤ E' := by
  have k1 : E * E ≤ (a + b) * (a + b) := by
    have h := Int.mul_nonneg (show 0 ≤ a + b - E by omega) (show 0 ≤ a + b + E by omega)
    grind
  have k2 : 2 * (2 * a + b) * b ≤ T * b := Int.mul_le_mul_of_nonneg_right hb hb0
  have k3 : 2 * c * T ≤ b * T := Int.mul_le_mul_of_nonneg_right hc (by omega)
  have k4 : E * E + c * T ≤ T * (a' + b) := by grind
  constructor
  · exact Int.le_of_mul_le_mul_left (Int.le_trans h1 k4) hT
  · refine Int.le_of_mul_le_mul_left (a := T) ?_ hT
    rw [Int.mul_neg]
    omega
/-- What is near a quotient, rounded down, isn't away by more than one. -/
theorem near_quo {g q Z T N D : Nat} (hD : 0 < D) (g1 : g * T ≤ Z) (g2 : Z < (g + 1) * T) (q1 : q * D ≤ N) (q2 : N < (q + 1) * D)
    (h1 : Z * D ≤ N * T + D * T) (h2 : N * T ≤ Z * D + D * T) : g ≤ q + 1 ∧ q ≤ g + 1 := by
  have hT : 0 < T := by
    rcases Nat.eq_zero_or_pos T with h | h
    · subst h; omega
    · exact h
  constructor
  · apply Nat.le_of_not_lt
    intro h
    have a1 : (q + 2) * T * D ≤ Z * D := Nat.mul_le_mul_right D (Nat.le_trans (Nat.mul_le_mul_right T h) g1)
    have a2 : (N + 1) * T ≤ (q + 1) * D * T := Nat.mul_le_mul_right T q2
    grind
  · apply Nat.le_of_not_lt
    intro h
    have a1 : (Z + 1) * D ≤ (g + 1) * T * D := Nat.mul_le_mul_right D g2
    have a2 : q * D * T ≤ N * T := Nat.mul_le_mul_right T q1
    have a3 : (g + 2) * (D * T) ≤ q * (D * T) := Nat.mul_le_mul_right _ h
    grind
/-- What is near a root, rounded down, isn't away by more than one. -/
theorem near_root {g s Z U N : Nat} (hs : 1 ≤ s) (g1 : g * U ≤ Z) (g2 : Z < (g + 1) * U) (s1 : s * s ≤ N) (s2 : N ≤ s * s + 2 * s)
    (h1 : Z * Z ≤ N * (U * U) + s * (U * U)) (h2 : N * (U * U) ≤ Z * Z + s * (U * U)) : g ≤ s + 1 ∧ s ≤ g + 1 := by
  have hU : 0 < U := by
    rcases Nat.eq_zero_or_pos U with h | h
    · subst h; omega
    · exact h
  have hUU : 0 < U * U := Nat.mul_pos hU hU
  constructor
  · apply Nat.le_of_not_lt
    intro h
    have a1 : (s + 2) * U ≤ Z := Nat.le_trans (Nat.mul_le_mul_right U h) g1
    have a2 := Nat.mul_le_mul a1 a1
    have a3 : N * (U * U) ≤ (s * s + 2 * s) * (U * U) := Nat.mul_le_mul_right _ s2
    have a4 : 1 * (U * U) ≤ s * (U * U) := Nat.mul_le_mul_right _ hs
    obtain ⟨V, hV⟩ : ∃ V, V = U * U := ⟨_, rfl⟩
    rw [show (s + 2) * U * ((s + 2) * U) = (s * s + 4 * s + 4) * (U * U) by grind] at a2
    rw [← hV] at *
    grind
  · apply Nat.le_of_not_lt
    intro h
    obtain ⟨t, rfl⟩ : ∃ t, s = t + 1 := ⟨s - 1, by omega⟩
    have a1 : Z + 1 ≤ t * U := Nat.le_trans g2 (Nat.mul_le_mul_right U (by omega))
    have a2 := Nat.mul_le_mul a1 a1
    have a3 : (t + 1) * (t + 1) * (U * U) ≤ N * (U * U) := Nat.mul_le_mul_right _ s1
    rw [show t * U * (t * U) = t * t * (U * U) by grind] at a2
    obtain ⟨V, hV⟩ : ∃ V, V = U * U := ⟨_, rfl⟩
    rw [← hV] at *
    grind
end Go.Proofs.Ytegmmaaapdgocaa
