/- PLAIN ARITHMETIC: what is cut off of a number, and whether it is rounded up by it. No program stands in this text. -/
import Derived.Test.YtffengboblekpaaDoorRefW4
namespace Go.Proofs.YtffengboblekpaaDoor
open Go Go.RowKit

def clamp7 (n : Int) : Nat := if n < 0 then 0 else if 700 < n then 700 else n.toNat
theorem clamp7_le (n : Int) : clamp7 n ≤ 700 := by unfold clamp7; split <;> (try split) <;> omega
theorem clamp7_eq (n : Int) : min (max n 0) 700 = (clamp7 n : Int) := by unfold clamp7; split <;> (try split) <;> omega
/-- Eight times what is cut off, and two more if something stands behind. -/
def cutN (a : Nat) (n : Int) (more : Bool) : Nat := 8 * (a % P2 (clamp7 n)) + (if more then 2 else 0)
def restN (a : Nat) (n : Int) (more : Bool) : Int := if cutN a n more = 0 then 0 else 2 + cmpN (cutN a n more) (P2 (clamp7 n + 2))
theorem restN_neg (a : Nat) {n : Int} (h : n ≤ 0) (more : Bool) : restN a n more = if more then 1 else 0 := by
  have hk : clamp7 n = 0 := by unfold clamp7; split <;> (try split) <;> omega
  have h2 : P2 (0 + 2) = 4 := by rw [P2_eq]
  unfold restN cutN
  rw [hk, P2_0, Nat.mod_one, h2]
  cases more
  · rfl
  · rfl
theorem restN_hi {a : Nat} (ha : a < M) {n : Int} (h : 512 < n) (more : Bool) : restN a n more = if more || !decide (a = 0) then 1 else 0 := by
  have hk : 513 ≤ clamp7 n := by unfold clamp7; split <;> (try split) <;> omega
  have h1 : M ≤ P2 (clamp7 n) := by rw [M_eq]; exact P2_le (by omega)
  have h3 : P2 515 ≤ P2 (clamp7 n + 2) := P2_le (by omega)
  have h4 : P2 515 = M * 8 := by rw [M_eq, show 515 = 512 + 3 from rfl, P2_add, show P2 3 = 8 by rw [P2_eq]]
  unfold restN cutN
  rw [Nat.mod_eq_of_lt (Nat.lt_of_lt_of_le ha h1)]
  by_cases h0 : a = 0
  · subst h0
    cases more
    · simp
    · rw [if_neg (by simp), cmpN_lt (by simp; omega)]; simp
  · have h5 : ∀ x : Nat, x ≤ 2 → 8 * a + x < P2 (clamp7 n + 2) := fun x hx => by omega
    cases more
    · rw [if_neg (by simp; omega), cmpN_lt (h5 _ (by simp))]; simp [h0]
    · rw [if_neg (by simp), cmpN_lt (h5 _ (by simp))]; simp
theorem restN_mid (a k : Nat) (hk : 0 < k) (hk2 : k ≤ 512) (more : Bool) : restN a (k : Int) more =
    (if P2 (k - 1) < a % P2 k then 3 else if a % P2 k = P2 (k - 1) then (if more then 3 else 2) else if more || !decide (a % P2 k = 0) then 1 else 0) := by
  have hc : clamp7 (k : Int) = k := by unfold clamp7; rw [if_neg (by omega), if_neg (by omega)]; rfl
  have h8 : P2 (k + 2) = 8 * P2 (k - 1) := by rw [show k + 2 = (k - 1) + 3 by omega, P2_add, show P2 3 = 8 by rw [P2_eq], Nat.mul_comm]
  unfold restN cutN
  rw [hc, h8]
  have hp := P2_pos (k - 1)
  generalize a % P2 k = l at *
  generalize P2 (k - 1) = h at *
  rcases Nat.lt_trichotomy h l with hh | hh | hh
  · rw [if_pos hh, if_neg (by omega), cmpN_gt (by omega)]; rfl
  · subst hh
    rw [if_neg (Nat.lt_irrefl h), if_pos rfl, if_neg (by omega)]
    cases more
    · rw [cmpN_eq (by simp)]; rfl
    · rw [cmpN_gt (by simp)]; rfl
  · have hne : ¬ l = h := by omega
    rw [if_neg (show ¬ h < l by omega), if_neg hne]
    cases more
    · by_cases h0 : l = 0
      · rw [if_pos (by simp [h0])]; simp [h0]
      · rw [if_neg (by simp; omega), cmpN_lt (by simp; omega)]; simp [h0]
    · rw [if_neg (by simp), cmpN_lt (by simp; omega)]; simp
theorem restN_range (a : Nat) (n : Int) (more : Bool) : 0 ≤ restN a n more ∧ restN a n more ≤ 3 := by
  unfold restN cmpN
  split
  · omega
  · split <;> (try split) <;> omega
/-- Is it a mode? Is it rounded up by it? -/
def isMode (m : Int) : Bool := decide (1 ≤ m ∧ m ≤ 5)
def growsN (m : Int) (neg odd : Bool) (rest : Int) : Bool :=
  if rest < 1 ∨ 3 < rest then false else if m = 1 then (rest == 3 || (rest == 2 && odd)) else if m = 2 then decide (2 ≤ rest) else if m = 4 then !neg else if m = 5 then neg else false
end Go.Proofs.YtffengboblekpaaDoor
