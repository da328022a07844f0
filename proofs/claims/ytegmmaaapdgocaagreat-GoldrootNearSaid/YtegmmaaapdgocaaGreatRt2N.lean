/- PLAIN ARITHMETIC: the greatest number whose power isn't above a number; a square root, one binary digit at a time. No program stands in this text. -/
import Derived.Test.YtegmmaaapdgocaaGreatK14
namespace Go.Proofs.YtegmmaaapdgocaaGreat
open Go Go.RowKit

/-- The greatest number whose k-th power isn't above n. -/
def rtN (k : Nat) : Nat → Nat
  | 0 => 0
  | n + 1 => if (rtN k n + 1) ^ k ≤ n + 1 then rtN k n + 1 else rtN k n
theorem rt_spec (k n : Nat) (hk : k ≠ 0) : rtN k n ^ k ≤ n ∧ n < (rtN k n + 1) ^ k := by
  induction n with
  | zero => exact ⟨by rw [rtN, Nat.zero_pow (Nat.pos_of_ne_zero hk)]; exact Nat.le_refl _, by rw [rtN, Nat.zero_add, Nat.one_pow]; decide⟩
  | succ n ih =>
    rw [rtN]
    split
    · rename_i h
      refine ⟨h, ?_⟩
      have := Nat.pow_lt_pow_left (show rtN k n + 1 < rtN k n + 1 + 1 by omega) hk
      omega
    · rename_i h
      exact ⟨by omega, by omega⟩
theorem rt_le (k n x : Nat) (hk : k ≠ 0) : x ≤ rtN k n ↔ x ^ k ≤ n := by
  obtain ⟨h1, h2⟩ := rt_spec k n hk
  constructor
  · intro h
    exact Nat.le_trans (Nat.pow_le_pow_left h k) h1
  · intro h
    apply Nat.le_of_not_lt
    intro hlt
    have := Nat.pow_le_pow_left (show rtN k n + 1 ≤ x by omega) k
    omega
attribute [irreducible] rtN
theorem sqr (x : Nat) : x ^ 2 = x * x := by rw [Nat.pow_succ, Nat.pow_one]
theorem sq_le (n x : Nat) : x ≤ rtN 2 n ↔ x * x ≤ n := by rw [rt_le 2 n x (by decide), sqr]
theorem rt_unique {n s : Nat} (h1 : s * s ≤ n) (h2 : n ≤ s * s + 2 * s) : rtN 2 n = s := by
  have h3 := (sq_le n s).2 h1
  apply Nat.le_antisymm _ h3
  apply Nat.le_of_not_lt
  intro h4
  have h5 := (sq_le n (s + 1)).1 (by omega)
  rw [Nat.add_mul, Nat.mul_add, Nat.mul_one, Nat.one_mul] at h5
  omega
/-- The root so far: its K lowest digits are noughts. -/
def rtT (S K : Nat) : Nat := S / P2 K * P2 K
theorem rtT_le (S K : Nat) : rtT S K ≤ S := Nat.div_mul_le_self _ _
theorem rtT_zero (S : Nat) : rtT S 0 = S := by unfold rtT; rw [P2_0, Nat.div_one, Nat.mul_one]
theorem rtT_top {S K : Nat} (h : S < P2 K) : rtT S K = 0 := by unfold rtT; rw [Nat.div_eq_of_lt h, Nat.zero_mul]
theorem rt_step (n i : Nat) :
    (2 * rtT (rtN 2 n) (i + 1) * P2 i + P2 (2 * i) ≤ n - rtT (rtN 2 n) (i + 1) * rtT (rtN 2 n) (i + 1) ↔ rtT (rtN 2 n) (i + 1) + P2 i ≤ rtN 2 n) ∧
    (rtT (rtN 2 n) (i + 1) + P2 i ≤ rtN 2 n → rtT (rtN 2 n) i = rtT (rtN 2 n) (i + 1) + P2 i ∧ rtN 2 n / P2 i % 2 = 1 ∧ n - rtT (rtN 2 n) i * rtT (rtN 2 n) i = n - rtT (rtN 2 n) (i + 1) * rtT (rtN 2 n) (i + 1) - (2 * rtT (rtN 2 n) (i + 1) * P2 i + P2 (2 * i))) ∧
    (¬ rtT (rtN 2 n) (i + 1) + P2 i ≤ rtN 2 n → rtT (rtN 2 n) i = rtT (rtN 2 n) (i + 1) ∧ rtN 2 n / P2 i % 2 = 0) := by
  have hS := sq_le n
  generalize rtN 2 n = S at *
  have ht := rtT_le S (i + 1)
  have htt := (hS _).1 ht
  have hg := greedy S i
  have hpp : P2 (2 * i) = P2 i * P2 i := by rw [← P2_add]; congr 1; omega
  have hp := P2_pos i
  have hb : S / P2 i % 2 = 1 ↔ rtT S (i + 1) + P2 i ≤ S := by
    have h := Nat.div_add_mod S (P2 i)
    have hr := Nat.mod_lt S hp
    have e : S / P2 (i + 1) = S / P2 i / 2 := by rw [P2_twice, Nat.div_div_eq_div_mul]
    unfold rtT
    rw [e, P2_twice]
    have hb := Nat.div_add_mod (S / P2 i) 2
    have hb2 := Nat.mod_lt (S / P2 i) (show 0 < 2 by decide)
    generalize S / P2 i = Y at *
    generalize S % P2 i = r at *
    generalize P2 i = X at *
    generalize Y / 2 = Z at *
    have h3 : Z * (X * 2) = 2 * (X * Z) := by rw [Nat.mul_comm Z, Nat.mul_assoc, Nat.mul_comm X, Nat.mul_assoc, Nat.mul_comm Z]
    rcases (show Y % 2 = 0 ∨ Y % 2 = 1 by omega) with h4 | h4
    · have h6 : X * Y = 2 * (X * Z) := by rw [show Y = 2 * Z by omega, Nat.mul_left_comm]
      rw [h4]
      constructor
      · intro h; cases h
      · intro h; omega
    · have h6 : X * Y = 2 * (X * Z) + X := by rw [show Y = 2 * Z + 1 by omega, Nat.mul_add, Nat.mul_one, Nat.mul_left_comm]
      rw [h4]
      exact ⟨fun _ => by omega, fun _ => rfl⟩
  have hsq : (rtT S (i + 1) + P2 i) * (rtT S (i + 1) + P2 i) = rtT S (i + 1) * rtT S (i + 1) + (2 * rtT S (i + 1) * P2 i + P2 (2 * i)) := by
    rw [hpp, Nat.add_mul, Nat.mul_add, Nat.mul_add, Nat.mul_assoc 2, Nat.mul_comm (P2 i) (rtT S (i + 1))]
    omega
  have hc := hS (rtT S (i + 1) + P2 i)
  rw [hsq] at hc
  change rtT S i = (if rtT S (i + 1) + P2 i ≤ S then rtT S (i + 1) + P2 i else rtT S (i + 1)) at hg
  generalize 2 * rtT S (i + 1) * P2 i + P2 (2 * i) = D at *
  refine ⟨?_, ?_, ?_⟩
  · rw [hc]; omega
  · intro h
    rw [if_pos h] at hg
    refine ⟨hg, hb.2 h, ?_⟩
    rw [hg, hsq]
    omega
  · intro h
    rw [if_neg h] at hg
    refine ⟨hg, ?_⟩
    have := Nat.mod_lt (S / P2 i) (show 0 < 2 by decide)
    have h1 : ¬ S / P2 i % 2 = 1 := fun e => h (hb.1 e)
    omega
/-- The root as far as its digits are found: one digit further. -/
theorem rt_quo (S i : Nat) (hi : i < 128) : S / P2 (128 - (i + 1)) = S / P2 (128 - i) + S / P2 (128 - i) + S / P2 (127 - i) % 2 := by
  rw [show 128 - (i + 1) = 127 - i by omega, show 128 - i = (127 - i) + 1 by omega, P2_twice, ← Nat.div_div_eq_div_mul]
  omega
theorem rt_lt {n : Nat} (h : n < P2 256) : rtN 2 n < P2 128 := by
  apply Nat.lt_of_not_le
  intro hle
  have h1 := (sq_le n (P2 128)).1 hle
  rw [← P2_add, show 128 + 128 = 256 from rfl] at h1
  omega
theorem cube_lt {n : Nat} (h : n < P2 256) : rtN 3 n < P2 86 := by
  apply Nat.lt_of_not_le
  intro hle
  have h1 := (rt_le 3 n (P2 86) (by decide)).1 hle
  rw [show (3 : Nat) = 2 + 1 from rfl, Nat.pow_succ, sqr, ← P2_add, ← P2_add] at h1
  have h2 : P2 256 ≤ P2 (86 + 86 + 86) := P2_le (by omega)
  omega
end Go.Proofs.YtegmmaaapdgocaaGreat
