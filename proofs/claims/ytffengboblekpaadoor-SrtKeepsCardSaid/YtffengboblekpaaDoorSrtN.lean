/- PLAIN ARITHMETIC of division by digits of either sign: what is left keeps within two thirds of the divisor; in the end the digits' number is the quotient, or one more. No program is walked in this text. -/
import Derived.Test.YtffengboblekpaaDoorFlyN
import Derived.Test.YtffengboblekpaaDoorK14
import Derived.Test.YtffengboblekpaaDoorTabN
namespace Go.Proofs.YtffengboblekpaaDoor
open Go Go.RowKit

/-- The digit of a row. -/
def sdg (r y : Int) : Int := dg (l3 (4 * (r + 1))) (l3 (r + 1)) (l3 (-2 * r)) (l3 (-5 * r)) y
theorem sdg_range (r y : Int) : -2 ≤ sdg r y ∧ sdg r y ≤ 2 := by
  unfold sdg dg
  (repeat' split) <;> omega
theorem cut_at {y L U : Int} (hU : 0 < U) (h1 : y * U ≤ L) (h2 : L < (y + 1) * U) (b : Int) : (b ≤ y → b * U ≤ L) ∧ (¬ b ≤ y → L < b * U) := by
  refine ⟨fun h => Int.le_trans (Int.mul_le_mul_of_nonneg_right h (by omega)) h1, fun h => Int.lt_of_lt_of_le h2 (Int.mul_le_mul_of_nonneg_right (by omega) (by omega))⟩
theorem srt_keep {r y L E U : Int} (hr1 : 8 ≤ r) (hr2 : r ≤ 15) (hU : 0 < U) (h1 : r * U ≤ E) (h2 : E < (r + 1) * U) (h3 : 3 * L ≤ 8 * E) (h4 : -(8 * E) ≤ 3 * L) (hy1 : y * U ≤ L) (hy2 : L < (y + 1) * U) :
    3 * (L - sdg r y * E) ≤ 2 * E ∧ -(2 * E) ≤ 3 * (L - sdg r y * E) := by
  have hc := cut_at hU hy1 hy2
  clear hy1 hy2
  obtain ⟨b0, e0⟩ : ∃ b, b = l3 (4 * (r + 1)) := ⟨_, rfl⟩
  obtain ⟨b1, e1⟩ : ∃ b, b = l3 (r + 1) := ⟨_, rfl⟩
  obtain ⟨b2, e2⟩ : ∃ b, b = l3 (-2 * r) := ⟨_, rfl⟩
  obtain ⟨b3, e3⟩ : ∃ b, b = l3 (-5 * r) := ⟨_, rfl⟩
  unfold sdg
  rw [← e0, ← e1, ← e2, ← e3]
  unfold l3 at e0 e1 e2 e3
  obtain ⟨c0, d0⟩ := hc b0
  obtain ⟨c1, d1⟩ := hc b1
  obtain ⟨c2, d2⟩ := hc b2
  obtain ⟨c3, d3⟩ := hc b3
  clear hc
  unfold dg
  rcases (show r = 8 ∨ r = 9 ∨ r = 10 ∨ r = 11 ∨ r = 12 ∨ r = 13 ∨ r = 14 ∨ r = 15 by omega) with rfl | rfl | rfl | rfl | rfl | rfl | rfl | rfl
  all_goals
    simp at e0 e1 e2 e3 h1 h2
    subst e0 e1 e2 e3
    split
    · rename_i g; have := c0 g; omega
    · rename_i g
      have g0 := d0 g
      split
      · rename_i g; have := c1 g; omega
      · rename_i g
        have g1 := d1 g
        split
        · rename_i g; have := c2 g; omega
        · rename_i g
          have g2 := d2 g
          split
          · rename_i g; have := c3 g; omega
          · rename_i g; have := d3 g; omega

/-- What is left behind i steps of a dividend and a divisor that are shifted up. -/
def sLeft (N D : Nat) (r : Int) : Nat → Int
  | 0 => (N : Int)
  | i + 1 => sLeft N D r i - sdg r (sLeft N D r i / ((P2 (124 + 2 * (64 - i)) : Nat) : Int)) * ((D * P2 (2 * (64 - i)) : Nat) : Int)
/-- The digit of step i. -/
def sDig (N D : Nat) (r : Int) (i : Nat) : Int := sdg r (sLeft N D r i / ((P2 (124 + 2 * (64 - i)) : Nat) : Int))
theorem sLeft_succ (N D : Nat) (r : Int) (i : Nat) : sLeft N D r (i + 1) = sLeft N D r i - sDig N D r i * ((D * P2 (2 * (64 - i)) : Nat) : Int) := rfl
def sDigs (N D : Nat) (r : Int) (k : Nat) : List Int := (List.range k).map (sDig N D r)
theorem sDigs_len (N D : Nat) (r : Int) (k : Nat) : (sDigs N D r k).length = k := by unfold sDigs; rw [List.length_map, List.length_range]
theorem sDigs_succ (N D : Nat) (r : Int) (k : Nat) : sDigs N D r (k + 1) = sDigs N D r k ++ [sDig N D r k] := by
  unfold sDigs
  rw [List.range_succ, List.map_append]
  rfl
theorem sDig_range (N D : Nat) (r : Int) (i : Nat) : -2 ≤ sDig N D r i ∧ sDig N D r i ≤ 2 := sdg_range _ _
theorem sDigs_mem {N D : Nat} {r : Int} {k : Nat} {d : Int} (h : d ∈ sDigs N D r k) : -2 ≤ d ∧ d ≤ 2 := by
  unfold sDigs at h
  obtain ⟨i, _, rfl⟩ := List.mem_map.1 h
  exact sDig_range N D r i
theorem digitsZ_snoc (zs : List Int) (d : Int) : digitsZ (zs ++ [d]) = 4 * digitsZ zs + d := by
  unfold digitsZ
  rw [List.foldl_append]
  rfl
/-- Row r fits the divisor D. -/
structure Fit (D : Nat) (r : Int) : Prop where
  lo : 8 ≤ r
  hi : r ≤ 15
  le : r * ((P2 124 : Nat) : Int) ≤ (D : Int)
  lt : (D : Int) < (r + 1) * ((P2 124 : Nat) : Int)
theorem P2_4of (k : Nat) (h : k ≤ 64) : P2 (2 * (65 - k)) = 4 * P2 (2 * (64 - k)) := by
  rw [show 2 * (65 - k) = 2 + 2 * (64 - k) by omega, P2_add, P2_2]
theorem sLeft_keep {N D : Nat} {r : Int} (hf : Fit D r) (hN : N < D * P2 128) : ∀ i, i ≤ 65 → 3 * sLeft N D r i ≤ 2 * ((D * P2 (2 * (65 - i)) : Nat) : Int) ∧ -(2 * ((D * P2 (2 * (65 - i)) : Nat) : Int)) ≤ 3 * sLeft N D r i := by
  intro i
  induction i with
  | zero =>
    intro _
    have h : D * P2 (2 * (65 - 0)) = 4 * (D * P2 128) := by rw [show 2 * (65 - 0) = 2 + 128 from rfl, P2_add, P2_2, Nat.mul_left_comm]
    rw [h]
    show 3 * (N : Int) ≤ _ ∧ _ ≤ 3 * (N : Int)
    omega
  | succ i ih =>
    intro hi
    obtain ⟨h1, h2⟩ := ih (by omega)
    rw [P2_4of i (by omega), Nat.mul_left_comm] at h1 h2
    rw [sLeft_succ, show 2 * (65 - (i + 1)) = 2 * (64 - i) by omega]
    have hp := P2_pos (2 * (64 - i))
    have hU : (0 : Int) < ((P2 (124 + 2 * (64 - i)) : Nat) : Int) := by have := P2_pos (124 + 2 * (64 - i)); omega
    have e1 : ((P2 (124 + 2 * (64 - i)) : Nat) : Int) = ((P2 124 : Nat) : Int) * ((P2 (2 * (64 - i)) : Nat) : Int) := by rw [P2_add, Int.natCast_mul]
    have hE : ((D * P2 (2 * (64 - i)) : Nat) : Int) = (D : Int) * ((P2 (2 * (64 - i)) : Nat) : Int) := Int.natCast_mul _ _
    have g1 : r * ((P2 (124 + 2 * (64 - i)) : Nat) : Int) ≤ ((D * P2 (2 * (64 - i)) : Nat) : Int) := by
      rw [e1, hE, ← Int.mul_assoc]
      exact Int.mul_le_mul_of_nonneg_right hf.le (by omega)
    have g2 : ((D * P2 (2 * (64 - i)) : Nat) : Int) < (r + 1) * ((P2 (124 + 2 * (64 - i)) : Nat) : Int) := by
      rw [e1, hE, ← Int.mul_assoc]
      exact Int.mul_lt_mul_of_pos_right hf.lt (by omega)
    obtain ⟨U, hUe⟩ : ∃ U, U = ((P2 (124 + 2 * (64 - i)) : Nat) : Int) := ⟨_, rfl⟩
    unfold sDig
    rw [← hUe] at g1 g2 hU ⊢
    have d1 : sLeft N D r i / U * U ≤ sLeft N D r i := Int.ediv_mul_le _ (by omega)
    have d2 : sLeft N D r i < (sLeft N D r i / U + 1) * U := by
      have := Int.lt_ediv_add_one_mul_self (sLeft N D r i) hU
      exact this
    push_cast at h1 h2
    exact srt_keep hf.lo hf.hi hU g1 g2 (by push_cast; omega) (by push_cast; omega) d1 d2
theorem sLeft_digits (N D : Nat) (r : Int) : ∀ i, i ≤ 65 → sLeft N D r i = (N : Int) - digitsZ (sDigs N D r i) * ((D * P2 (2 * (65 - i)) : Nat) : Int) := by
  intro i
  induction i with
  | zero => intro _; unfold sDigs; simp [sLeft, digitsZ]
  | succ i ih =>
    intro hi
    rw [sLeft_succ, ih (by omega), sDigs_succ, digitsZ_snoc, P2_4of i (by omega), show 2 * (65 - (i + 1)) = 2 * (64 - i) by omega, Nat.mul_left_comm]
    obtain ⟨E, hE⟩ : ∃ E, E = D * P2 (2 * (64 - i)) := ⟨_, rfl⟩
    rw [← hE]
    push_cast
    rw [Int.add_mul, ← Int.mul_assoc, Int.mul_comm (digitsZ _) 4]
    omega
/-- In the end the digits' number is the quotient, or one more. -/
theorem srt_end {N D : Nat} {r : Int} (hf : Fit D r) (hN : N < D * P2 128) (hD : 0 < D) :
    (0 ≤ sLeft N D r 65 → digitsZ (sDigs N D r 65) = ((N / D : Nat) : Int) ∧ sLeft N D r 65 = ((N % D : Nat) : Int)) ∧ (sLeft N D r 65 < 0 → digitsZ (sDigs N D r 65) = ((N / D : Nat) : Int) + 1 ∧ sLeft N D r 65 + (D : Int) = ((N % D : Nat) : Int)) := by
  have h1 := sLeft_digits N D r 65 (Nat.le_refl _)
  obtain ⟨h2, h3⟩ := sLeft_keep hf hN 65 (Nat.le_refl _)
  rw [show 2 * (65 - 65) = 0 from rfl, P2_0, Nat.mul_one] at h1 h2 h3
  obtain ⟨L, hL⟩ : ∃ L, L = sLeft N D r 65 := ⟨_, rfl⟩
  obtain ⟨Q, hQ⟩ : ∃ L, L = digitsZ (sDigs N D r 65) := ⟨_, rfl⟩
  rw [← hL] at h1 h2 h3 ⊢
  rw [← hQ] at h1 ⊢
  have hDi : (0 : Int) < (D : Int) := by omega
  have key : ∀ (q rem : Int), (N : Int) = q * (D : Int) + rem → 0 ≤ rem → rem < (D : Int) → q = ((N / D : Nat) : Int) ∧ rem = ((N % D : Nat) : Int) := by
    intro q rem e r1 r2
    have e2 : (N : Int) = (D : Int) * q + rem := by rw [e, Int.mul_comm]
    rw [Int.natCast_ediv, Int.natCast_emod, e2]
    constructor
    · rw [Int.mul_add_ediv_left _ _ (by omega), Int.ediv_eq_zero_of_lt r1 r2, Int.add_zero]
    · rw [Int.mul_add_emod_self_left, Int.emod_eq_of_lt r1 r2]
  constructor
  · intro h0
    exact key Q L (by omega) h0 (by omega)
  · intro h0
    obtain ⟨k1, k2⟩ := key (Q - 1) (L + D) (by rw [Int.sub_mul, Int.one_mul]; omega) (by omega) (by omega)
    exact ⟨by omega, k2⟩
theorem sLeft_small {N D : Nat} {r : Int} (hf : Fit D r) (hN : N < D * P2 128) (hD : D < P2 128) (i : Nat) (hi : i ≤ 65) : sLeft N D r i < ((P2 260 : Nat) : Int) ∧ -((P2 260 : Nat) : Int) < sLeft N D r i := by
  obtain ⟨h2, h3⟩ := sLeft_keep hf hN i hi
  have h4 : D * P2 (2 * (65 - i)) ≤ D * P2 130 := Nat.mul_le_mul_left _ (P2_le (by omega))
  have h5 : D * P2 130 < P2 258 := by
    have := Nat.mul_lt_mul_of_pos_right hD (P2_pos 130)
    rwa [← P2_add] at this
  have h6 : P2 260 = P2 258 * 4 := by rw [show 260 = 258 + 2 from rfl, P2_add, P2_2]
  omega
end Go.Proofs.YtffengboblekpaaDoor
