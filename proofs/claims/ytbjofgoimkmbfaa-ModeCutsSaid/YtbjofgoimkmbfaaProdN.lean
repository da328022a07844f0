/- PLAIN ARITHMETIC: a limb put into a number; a product, limb by limb, whole and from a place on. No program stands in this text. -/
import Derived.Test.YtbjofgoimkmbfaaWide8
namespace Go.Proofs.Ytbjofgoimkmbfaa
open Go Go.RowKit

theorem P2_mono_mul (i j : Nat) : P2 (64 * (i + j)) = P2 (64 * i) * P2 (64 * j) := by rw [← P2_add]; congr 1; omega
theorem P2_next (j : Nat) : P2 (64 * (j + 1)) = P2 (64 * j) * P2 64 := by rw [← P2_add]; congr 1
/-- A number with limb j replaced. -/
def setL (n j v : Nat) : Nat := n % P2 (64 * j) + P2 (64 * j) * (v + P2 64 * (n / P2 (64 * (j + 1))))
theorem limb_parts (n j : Nat) : n % P2 (64 * j) + P2 (64 * j) * (limb n j + P2 64 * (n / P2 (64 * (j + 1)))) = n := by
  rw [← limb_split]; exact Nat.mod_add_div n (P2 (64 * j))
theorem limb_modK (n K i : Nat) (h : i < K) : limb (n % P2 (64 * K)) i = limb n i := by
  apply Nat.eq_of_testBit_eq
  intro j
  rw [limb_bit, limb_bit, bit_mod]
  by_cases hj : j < 64
  · have : 64 * i + j < 64 * K := by omega
    simp [hj, this]
  · simp [hj]
theorem limb_setL (n j v i : Nat) (hv : v < P2 64) : limb (setL n j v) i = if i = j then v else limb n i := by
  rcases Nat.lt_trichotomy i j with h | h | h
  · rw [if_neg (by omega), ← limb_modK _ j i h, ← limb_modK n j i h]
    unfold setL
    rw [Nat.add_mul_mod_self_left, Nat.mod_mod]
  · subst h
    rw [if_pos rfl]
    unfold limb setL
    rw [Nat.add_mul_div_left _ _ (P2_pos _), Nat.div_eq_of_lt (Nat.mod_lt _ (P2_pos _)), Nat.zero_add, Nat.add_mul_mod_self_left, Nat.mod_eq_of_lt hv]
  · rw [if_neg (by omega)]
    unfold limb setL
    obtain ⟨d, rfl⟩ : ∃ d, i = j + 1 + d := ⟨i - j - 1, by omega⟩
    have e : P2 (64 * (j + 1 + d)) = P2 (64 * j) * (P2 64 * P2 (64 * d)) := by rw [P2_mono_mul, P2_next, Nat.mul_assoc]
    rw [e, ← Nat.div_div_eq_div_mul, Nat.add_mul_div_left _ _ (P2_pos _), Nat.div_eq_of_lt (Nat.mod_lt _ (P2_pos _)), Nat.zero_add, ← Nat.div_div_eq_div_mul, Nat.add_mul_div_left _ _ (P2_pos _), Nat.div_eq_of_lt hv, Nat.zero_add, Nat.div_div_eq_div_mul, ← P2_mono_mul, P2_mono_mul (j + 1) d, P2_next, Nat.mul_assoc]
theorem setL_lt (n j v K : Nat) (hn : n < P2 (64 * K)) (hj : j < K) (hv : v < P2 64) : setL n j v < P2 (64 * K) := by
  obtain ⟨d, rfl⟩ : ∃ d, K = j + 1 + d := ⟨K - j - 1, by omega⟩
  have h1 : n / P2 (64 * (j + 1)) < P2 (64 * d) := by
    rw [Nat.div_lt_iff_lt_mul (P2_pos _), Nat.mul_comm, ← P2_mono_mul]; exact hn
  have h2 := Nat.mod_lt n (P2_pos (64 * j))
  unfold setL
  have h3 : v + P2 64 * (n / P2 (64 * (j + 1))) < P2 64 * P2 (64 * d) := by
    have : P2 64 * (n / P2 (64 * (j + 1)) + 1) ≤ P2 64 * P2 (64 * d) := Nat.mul_le_mul_left _ h1
    rw [Nat.mul_add] at this
    omega
  have h4 : P2 (64 * j) * (v + P2 64 * (n / P2 (64 * (j + 1))) + 1) ≤ P2 (64 * j) * (P2 64 * P2 (64 * d)) := Nat.mul_le_mul_left _ h3
  rw [Nat.mul_add] at h4
  have e : P2 (64 * (j + 1 + d)) = P2 (64 * j) * (P2 64 * P2 (64 * d)) := by rw [P2_mono_mul (j + 1) d, P2_next, Nat.mul_assoc]
  rw [e]
  omega
/-- A limb is added: what is carried goes on to the next one. -/
theorem add_setL (n j c : Nat) : setL n j ((limb n j + c) % P2 64) + (limb n j + c) / P2 64 * P2 (64 * (j + 1)) = n + c * P2 (64 * j) := by
  have h0 := limb_parts n j
  unfold setL
  have h1 := Nat.mod_add_div (limb n j + c) (P2 64)
  generalize n / P2 (64 * (j + 1)) = H at *
  rw [P2_next]
  generalize P2 (64 * j) = P at *
  generalize n % P = L at *
  generalize P2 64 = Q at *
  generalize limb n j = l at *
  generalize (l + c) % Q = x at *
  generalize (l + c) / Q = y at *
  have e : P * (x + Q * H) + y * (P * Q) = P * (l + c + Q * H) := by
    rw [← h1, Nat.mul_add, Nat.mul_add, Nat.mul_add, Nat.mul_comm y, Nat.mul_assoc, Nat.mul_comm Q y]
    omega
  have e2 : P * (l + c + Q * H) = P * (l + Q * H) + c * P := by
    rw [Nat.mul_comm c P, ← Nat.mul_add]; congr 1; omega
  omega

/-! ### The product, row by row -/
/-- The first k products of row i, as far as their places are not below m. -/
def rowN (a b m i : Nat) : Nat → Nat
  | 0 => 0
  | k + 1 => rowN a b m i k + if m ≤ i + k then limb a i * limb b k * P2 (64 * (i + k)) else 0
/-- The first i rows. -/
def colN (a b m : Nat) : Nat → Nat
  | 0 => 0
  | i + 1 => colN a b m i + rowN a b m i 8
theorem low_next (b k : Nat) : b % P2 (64 * (k + 1)) = b % P2 (64 * k) + limb b k * P2 (64 * k) := by
  have h := limb_parts (b % P2 (64 * (k + 1))) k
  have e : b % P2 (64 * (k + 1)) % P2 (64 * k) = b % P2 (64 * k) := by rw [P2_next, Nat.mod_mul_right_mod]
  rw [limb_modK _ _ _ (Nat.lt_succ_self k), Nat.div_eq_of_lt (Nat.mod_lt _ (P2_pos _)), Nat.mul_zero, Nat.add_zero, e, Nat.mul_comm (P2 (64 * k))] at h
  exact h.symm
theorem rowN_eq (a b m i : Nat) : ∀ k, rowN a b m i k + limb a i * P2 (64 * i) * (b % P2 (64 * min k (m - i))) = limb a i * P2 (64 * i) * (b % P2 (64 * k)) := by
  intro k
  induction k with
  | zero => simp [rowN]
  | succ k ih =>
    unfold rowN
    by_cases h : m ≤ i + k
    · rw [if_pos h, low_next]
      have e : min (k + 1) (m - i) = min k (m - i) := by omega
      rw [e, Nat.mul_add (limb a i * P2 (64 * i)), P2_mono_mul i k]
      have : limb a i * limb b k * (P2 (64 * i) * P2 (64 * k)) = limb a i * P2 (64 * i) * (limb b k * P2 (64 * k)) := by
        rw [Nat.mul_assoc, Nat.mul_assoc, Nat.mul_left_comm (limb b k)]
      omega
    · rw [if_neg h]
      have e1 : min (k + 1) (m - i) = k + 1 := by omega
      have e2 : min k (m - i) = k := by omega
      rw [e2] at ih
      rw [e1]
      omega
theorem rowN_le (a b m i k : Nat) : rowN a b m i k ≤ limb a i * P2 (64 * i) * (b % P2 (64 * k)) := by
  have := rowN_eq a b m i k; omega
theorem rowN_mono (a b m i k : Nat) : rowN a b m i k ≤ rowN a b m i (k + 1) := by rw [rowN]; omega
theorem colN_le (a b m i : Nat) : colN a b m i ≤ a % P2 (64 * i) * b := by
  induction i with
  | zero => simp [colN]
  | succ i ih =>
    unfold colN
    have h := rowN_le a b m i 8
    have h2 : limb a i * P2 (64 * i) * (b % P2 (64 * 8)) ≤ limb a i * P2 (64 * i) * b := Nat.mul_le_mul_left _ (Nat.mod_le _ _)
    rw [low_next, Nat.add_mul]
    omega
theorem colN_all (a b : Nat) (hb : b < M) (i : Nat) : colN a b 0 i = a % P2 (64 * i) * b := by
  induction i with
  | zero => show 0 = a % P2 (64 * 0) * b; rw [P2_00, Nat.mod_one, Nat.zero_mul]
  | succ i ih =>
    unfold colN
    have h := rowN_eq a b 0 i 8
    rw [M_eq] at hb
    rw [show min 8 (0 - i) = 0 by omega, P2_00, Nat.mod_one, Nat.mul_zero, Nat.add_zero, Nat.mod_eq_of_lt (show b < P2 (64 * 8) from hb)] at h
    rw [ih, h, low_next, Nat.add_mul]
/-- All that lies in the middle of the reckoning stays below the product. -/
theorem col_row_le (a b m i k : Nat) : colN a b m i + rowN a b m i k ≤ a % P2 (64 * (i + 1)) * b := by
  have h1 := colN_le a b m i
  have h2 := rowN_le a b m i k
  have h3 : limb a i * P2 (64 * i) * (b % P2 (64 * k)) ≤ limb a i * P2 (64 * i) * b := Nat.mul_le_mul_left _ (Nat.mod_le _ _)
  rw [low_next, Nat.add_mul]
  omega
theorem prod_lt {a b : Nat} (ha : a < M) (hb : b < M) : a * b < P2 (64 * 16) := by
  rw [show 64 * 16 = 512 + 512 from rfl, P2_add, ← M_eq]
  exact Nat.mul_lt_mul'' ha hb
theorem part_lt {a b m i k : Nat} (ha : a < M) (hb : b < M) : colN a b m i + rowN a b m i k < P2 (64 * 16) :=
  Nat.lt_of_le_of_lt (Nat.le_trans (col_row_le a b m i k) (Nat.mul_le_mul_right _ (Nat.mod_le _ _))) (prod_lt ha hb)
theorem col_lt {a b m i : Nat} (ha : a < M) (hb : b < M) : colN a b m i < P2 (64 * 16) := by
  have := part_lt (m := m) (i := i) (k := 0) ha hb
  rwa [rowN, Nat.add_zero] at this
theorem limb_all {a : Nat} (ha : a < M) : a % P2 (64 * 8) = a := Nat.mod_eq_of_lt (by rw [M_eq] at ha; exact ha)
theorem col_all {a b : Nat} (ha : a < M) (hb : b < M) : colN a b 0 8 = a * b := by rw [colN_all a b hb, limb_all ha]
/-- The two halves of a product of limbs. -/
theorem mul_halves (x y j : Nat) : x * y % P2 64 * P2 (64 * j) + x * y / P2 64 * P2 (64 * (j + 1)) = x * y * P2 (64 * j) := by
  have h := Nat.mod_add_div (x * y) (P2 64)
  rw [P2_next]
  generalize P2 (64 * j) = P at *
  generalize hz : x * y = z at *
  generalize z % P2 64 = u at *
  generalize z / P2 64 = v at *
  rw [← h, Nat.add_mul, Nat.mul_comm (P2 64) v, Nat.mul_assoc, Nat.mul_comm (P2 64) P]
theorem mul_high_lt {x y : Nat} (hx : x < P2 64) (hy : y < P2 64) : x * y / P2 64 < P2 64 := by
  rw [Nat.div_lt_iff_lt_mul (P2_pos _)]
  exact Nat.mul_lt_mul'' hx hy
/-- From a place on: the sum of the shifted products is the shifted sum. -/
def rowS (a b m i : Nat) : Nat → Nat
  | 0 => 0
  | k + 1 => rowS a b m i k + if m ≤ i + k then limb a i * limb b k * P2 (64 * (i + k - m)) else 0
def colS (a b m : Nat) : Nat → Nat
  | 0 => 0
  | i + 1 => colS a b m i + rowS a b m i 8
theorem rowS_eq (a b m i : Nat) : ∀ k, rowS a b m i k * P2 (64 * m) = rowN a b m i k := by
  intro k
  induction k with
  | zero => simp [rowS, rowN]
  | succ k ih =>
    unfold rowS rowN
    rw [Nat.add_mul, ih]
    congr 1
    split
    · rename_i h
      rw [Nat.mul_assoc, ← P2_mono_mul, show i + k - m + m = i + k by omega]
    · simp
theorem colS_eq (a b m : Nat) : ∀ i, colS a b m i * P2 (64 * m) = colN a b m i := by
  intro i
  induction i with
  | zero => simp [colS, colN]
  | succ i ih => unfold colS colN; rw [Nat.add_mul, ih, rowS_eq]
theorem colS_div (a b m i : Nat) : colN a b m i / P2 (64 * m) = colS a b m i := by
  rw [← colS_eq, Nat.mul_div_cancel _ (P2_pos _)]
/-- How much a part lacks. -/
theorem row_lacks (a b m i : Nat) (hb : b < M) : limb a i * P2 (64 * i) * b ≤ rowN a b m i 8 + (if i < m then P2 (64 * m + 64) - 1 else 0) := by
  have h := rowN_eq a b m i 8
  rw [limb_all hb] at h
  split
  · rename_i him
    have h1 : limb a i ≤ P2 64 - 1 := by have := limb_lt a i; omega
    have h2 : b % P2 (64 * min 8 (m - i)) ≤ P2 (64 * (m - i)) - 1 := by
      have h3 := Nat.mod_lt b (P2_pos (64 * min 8 (m - i)))
      have h4 := P2_le (show 64 * min 8 (m - i) ≤ 64 * (m - i) by omega)
      omega
    have h5 : limb a i * P2 (64 * i) * (b % P2 (64 * min 8 (m - i))) ≤ P2 (64 * m + 64) - 1 := by
      have e : P2 (64 * m + 64) = P2 64 * P2 (64 * i) * P2 (64 * (m - i)) := by rw [← P2_add, ← P2_add]; congr 1; omega
      have p1 := P2_pos (64 * i)
      have p2 := P2_pos (64 * (m - i))
      have : limb a i * P2 (64 * i) * (b % P2 (64 * min 8 (m - i))) < P2 (64 * m + 64) := by
        rw [e]
        exact Nat.mul_lt_mul'' (Nat.mul_lt_mul_of_pos_right (limb_lt a i) p1) (by omega)
      omega
    omega
  · rename_i him
    rw [show min 8 (m - i) = 0 by omega, P2_00, Nat.mod_one, Nat.mul_zero] at h
    omega
theorem col_lacks (a b m : Nat) (hb : b < M) : ∀ i, a % P2 (64 * i) * b + min i m ≤ colN a b m i + min i m * P2 (64 * m + 64) := by
  intro i
  induction i with
  | zero => show a % P2 (64 * 0) * b + min 0 m ≤ 0 + _; rw [P2_00, Nat.mod_one, Nat.zero_mul]; omega
  | succ i ih =>
    unfold colN
    have h := row_lacks a b m i hb
    have hp := P2_pos (64 * m + 64)
    rw [low_next, Nat.add_mul]
    by_cases him : i < m
    · rw [if_pos him] at h
      rw [show min (i + 1) m = min i m + 1 by omega, Nat.add_mul, Nat.one_mul]
      omega
    · rw [if_neg him] at h
      rw [show min (i + 1) m = min i m by omega]
      omega
theorem part_lacks {a b m : Nat} (ha : a < M) (hb : b < M) (hm : 0 < m) : a * b < colN a b m 8 + m * P2 (64 * m + 64) := by
  have h := col_lacks a b m hb 8
  rw [limb_all ha] at h
  have h2 : min 8 m * P2 (64 * m + 64) ≤ m * P2 (64 * m + 64) := Nat.mul_le_mul_right _ (by omega)
  omega
theorem part_le {a b m : Nat} (ha : a < M) : colN a b m 8 ≤ a * b := by
  have := colN_le a b m 8
  rwa [limb_all ha] at this
end Go.Proofs.Ytbjofgoimkmbfaa
