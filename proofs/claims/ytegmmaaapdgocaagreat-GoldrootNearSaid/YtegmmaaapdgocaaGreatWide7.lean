/- THE WALKS of package wide, going on: shifted down with the sign. -/
import Derived.Test.YtegmmaaapdgocaaGreatK4
import Derived.Test.YtegmmaaapdgocaaGreatK2
namespace Go.Proofs.YtegmmaaapdgocaaGreat
open Go Go.RowKit

/-- Shifted down with a sign. -/
def sarN (a c : Nat) : Nat := a / P2 c + (if P2 511 ≤ a then M - P2 (512 - c) else 0)
theorem M_split {c : Nat} (h : c ≤ 512) : M = P2 c * P2 (512 - c) := by rw [M_eq, ← P2_add]; congr 1; omega
theorem M_half : P2 511 + P2 511 = M := M_half2
theorem sarN_pos {a c : Nat} (h : ¬ P2 511 ≤ a) : sarN a c = a / P2 c := by unfold sarN; rw [if_neg h]; rfl
theorem ones_bit (K j : Nat) : (P2 K - 1).testBit j = decide (j < K) := by rw [P2_eq, Nat.testBit_two_pow_sub_one]
theorem high_bit' (a K e j : Nat) (ha : a < P2 e) : (a + P2 e * K).testBit j = if j < e then a.testBit j else K.testBit (j - e) := by
  rw [P2_eq] at *
  rw [Nat.add_comm, Nat.testBit_two_pow_mul_add _ ha]
theorem high_bit (a K j : Nat) (ha : a < M) : (a + M * K).testBit j = if j < 512 then a.testBit j else K.testBit (j - 512) := by
  rw [M_eq] at *
  exact high_bit' a K 512 j ha
theorem sar_limb (a c i : Nat) (ha : a < M) (hn : P2 511 ≤ a) (hc : c ≤ 512) (hi : i < 8) : shrN a ((c : Int) / 64) ((c : Int) % 64) i (P2 64 - 1) = limb (sarN a c) i := by
  have h := shrN_limb a (a + M * (P2 640 - 1)) (c / 64) (c % 64) i (P2 64 - 1) (by omega) hi (fun x hx => by rw [high_bit _ _ _ ha, if_pos hx])
    (fun x h1 h2 => by
      rw [high_bit _ _ _ ha, if_neg (by omega), ones_bit, ones_bit]
      have e1 : x - 512 < 640 := by omega
      have e2 : x % 64 < 64 := Nat.mod_lt _ (by decide)
      simp [e1, e2]) (by omega) (by have := P2_pos 64; omega)
  rw [show 64 * (c / 64) + c % 64 = c by omega, show ((c / 64 : Nat) : Int) = (c : Int) / 64 by omega, show ((c % 64 : Nat) : Int) = (c : Int) % 64 by omega] at h
  rw [h, ← limb_mod _ _ hi, ← limb_mod (sarN a c) _ hi]
  congr 1
  unfold sarN
  rw [if_pos hn]
  have hm := M_split hc
  have hpc := P2_pos c
  have h1 : (a + M * (P2 640 - 1)) / P2 c = a / P2 c + P2 (512 - c) * (P2 640 - 1) := by
    have : M * (P2 640 - 1) = P2 c * (P2 (512 - c) * (P2 640 - 1)) := by rw [← Nat.mul_assoc, ← hm]
    rw [this, Nat.add_mul_div_left _ _ hpc]
  have h2 : P2 (512 - c) * P2 640 = M * P2 (640 - c) := by rw [M_eq, ← P2_add, ← P2_add]; congr 1; omega
  have h3 : P2 (512 - c) ≤ M := by rw [M_eq]; exact P2_le (by omega)
  have h4 : P2 (512 - c) * (P2 640 - 1) = (M - P2 (512 - c)) + M * (P2 (640 - c) - 1) := by
    have hp := P2_pos (640 - c)
    have hp2 := P2_pos 640
    rw [Nat.mul_sub, Nat.mul_one, h2, Nat.mul_sub, Nat.mul_one]
    have h5 : M ≤ M * P2 (640 - c) := Nat.le_mul_of_pos_right _ hp
    omega
  rw [h1, h4, ← Nat.add_assoc, Nat.add_mul_mod_self_left]

end Go.Proofs.YtegmmaaapdgocaaGreat
