/- PLAIN ARITHMETIC of wides as whole numbers with a sign, modulo 2^512. No program is walked in this text. -/
import Derived.Test.YtffengboblekpaaFlyN
import Derived.Test.YtffengboblekpaaWide7
import Derived.Test.YtffengboblekpaaK6
namespace Go.Proofs.Ytffengboblekpaa
open Go Go.RowKit

theorem emod_add_l (a b m : Int) : (a % m + b) % m = (a + b) % m := Int.emod_add_emod a m b
theorem sub_toW (x y : Int) : subN (toW x) (toW y) = toW (x - y) := by
  rw [toW_sub _ _ (toW_lt x) (toW_lt y)]
  refine toW_congr ?_
  rw [toW_cast, toW_cast, Int.sub_emod, Int.emod_emod_of_dvd _ (Int.dvd_refl _), Int.emod_emod_of_dvd _ (Int.dvd_refl _), ← Int.sub_emod]
theorem add_toW (x y : Int) : (toW x + toW y) % M = toW (x + y) := by
  refine (toW_unique (Nat.mod_lt _ M_pos) ?_).symm
  push_cast
  rw [toW_cast, toW_cast, Int.emod_emod_of_dvd _ (Int.dvd_refl _), ← Int.add_emod]
theorem mul_toW (x : Int) (n : Nat) : toW x * n % M = toW (x * n) := by
  refine (toW_unique (Nat.mod_lt _ M_pos) ?_).symm
  push_cast
  rw [toW_cast, Int.emod_emod_of_dvd _ (Int.dvd_refl _), Int.mul_emod (x % (M : Int)), Int.emod_emod_of_dvd _ (Int.dvd_refl _), ← Int.mul_emod]
theorem neg_toW (x : Int) : negN (toW x) = toW (-x) := by
  unfold negN
  have := sub_toW 0 x
  rw [show toW 0 = 0 from toW_nat M_pos] at this
  rw [this, Int.zero_sub]
theorem toW_neg_val {x : Int} (h1 : -(M : Int) ≤ x) (h2 : x < 0) : ((toW x : Nat) : Int) = x + (M : Int) := by
  rw [toW_cast, ← Int.add_emod_right]
  exact Int.emod_eq_of_lt (by omega) (by omega)
theorem toW_pos_val {x : Int} (h1 : 0 ≤ x) (h2 : x < (M : Int)) : ((toW x : Nat) : Int) = x := by
  rw [toW_cast]
  exact Int.emod_eq_of_lt h1 h2
theorem minus_toW {x : Int} (h1 : -(P2 511 : Int) ≤ x) (h2 : x < (P2 511 : Int)) : decide (P2 511 ≤ toW x) = decide (x < 0) := by
  have hM := M_half
  rcases Int.lt_or_le x 0 with h | h
  · have := toW_neg_val (x := x) (by omega) h
    rw [decide_eq_true (show P2 511 ≤ toW x by omega), decide_eq_true h]
  · have := toW_pos_val (x := x) h (by omega)
    rw [decide_eq_false (show ¬ P2 511 ≤ toW x by omega), decide_eq_false (by omega)]
theorem sar_toW {x : Int} (h1 : -(P2 511 : Int) ≤ x) (h2 : x < (P2 511 : Int)) {c : Nat} (hc : c ≤ 512) : sarN (toW x) c = toW (x / (P2 c : Int)) := by
  have hM := M_half
  have hp := P2_pos c
  unfold sarN
  rcases Int.lt_or_le x 0 with h | h
  · have e := toW_neg_val (x := x) (by omega) h
    rw [if_pos (by omega)]
    have e2 : M = P2 (512 - c) * P2 c := by rw [M_eq, ← P2_add, Nat.sub_add_cancel hc]
    have e3 : ((toW x / P2 c : Nat) : Int) = x / (P2 c : Int) + (P2 (512 - c) : Int) := by
      rw [Int.natCast_ediv, e, e2, Int.natCast_mul, Int.add_mul_ediv_right _ _ (by omega)]
    have e4 : P2 (512 - c) ≤ M := by rw [M_eq]; exact P2_le (by omega)
    have b1 : x / (P2 c : Int) < 0 := Int.ediv_neg_of_neg_of_pos h (by omega)
    have b2 : x ≤ x / (P2 c : Int) := by
      rw [Int.le_ediv_iff_mul_le (by omega)]
      have := Int.mul_le_mul_of_nonneg_left (show (1 : Int) ≤ (P2 c : Int) by omega) (show 0 ≤ -x by omega)
      rw [Int.neg_mul, Int.neg_mul] at this
      omega
    have e5 := toW_neg_val (x := x / (P2 c : Int)) (by omega) b1
    omega
  · have e := toW_pos_val (x := x) h (by omega)
    rw [if_neg (by omega), Nat.add_zero]
    have b1 : 0 ≤ x / (P2 c : Int) := Int.ediv_nonneg h (by omega)
    have b2 : x / (P2 c : Int) ≤ x := Int.ediv_le_self _ h
    have e5 := toW_pos_val (x := x / (P2 c : Int)) b1 (by omega)
    have e3 : ((toW x / P2 c : Nat) : Int) = x / (P2 c : Int) := by rw [Int.natCast_ediv, e]
    omega
/-- A small number with a sign, of its lowest limb. -/
theorem small_toW {z : Int} (h1 : -9223372036854775808 ≤ z) (h2 : z ≤ 9223372036854775807) : IntKind.i64.wrap ((limb (toW z) 0 : Nat) : Int) = z := by
  have hd : ((P2 64 : Nat) : Int) ∣ (M : Int) := ⟨((P2 448 : Nat) : Int), by rw [M_eq, show 512 = 64 + 448 from rfl, P2_add, Int.natCast_mul]⟩
  have e : ((limb (toW z) 0 : Nat) : Int) = z % ((P2 64 : Nat) : Int) := by
    unfold limb
    rw [Nat.mul_zero, P2_0, Nat.div_one, Int.natCast_emod, toW_cast, Int.emod_emod_of_dvd _ hd]
  rw [e, P2_64, IntKind.wrap_i64]
  omega
end Go.Proofs.Ytffengboblekpaa
