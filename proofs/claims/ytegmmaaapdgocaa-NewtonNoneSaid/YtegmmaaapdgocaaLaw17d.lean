/- PLAIN ARITHMETIC of the law on a rom's guesses: how near they are; numbers made of limbs. -/
import Derived.Test.YtegmmaaapdgocaaLaw17b
namespace Go.Proofs.Ytegmmaaapdgocaa
open Go Go.RowKit

theorem P2_rel' (a b : Nat) (c : Nat) (h : a = b + c) : P2 a = P2 c * P2 b := by rw [h, P2_add, Nat.mul_comm]
theorem rcp_near : ∀ i, i < 64 → 64512 ≤ rcpN i * (64 + i) ∧ rcpN i * (65 + i) ≤ 66560 := by decide +kernel
/-- The roots' table. -/
def rtTab : List Nat := [1016, 1000, 986, 972, 958, 945, 933, 921, 910, 899, 888, 878, 868, 858, 849, 840, 831, 823, 815, 807, 799, 791, 784, 777, 770, 763, 757, 750, 744, 738, 732, 726, 721, 715, 710, 705, 699, 694, 689, 685, 680, 675, 671, 666, 662, 657, 653, 649, 645, 641, 637, 633, 630, 626, 622, 619, 615, 612, 608, 605, 602, 599, 595, 592, 589, 586, 583, 580, 577, 574, 572, 569, 566, 563, 561, 558, 556, 553, 551, 548, 546, 543, 541, 538, 536, 534, 532, 529, 527, 525, 523, 521, 519, 517, 515, 513]
theorem rtTab_ok : ∀ i, i < 96 → rtTab.getD i 0 * rtTab.getD i 0 ≤ 67108864 / (2 * (i + 32) + 1) ∧ 67108864 / (2 * (i + 32) + 1) ≤ rtTab.getD i 0 * rtTab.getD i 0 + 2 * rtTab.getD i 0 ∧ 32505856 ≤ rtTab.getD i 0 * rtTab.getD i 0 * (i + 32) ∧ rtTab.getD i 0 * rtTab.getD i 0 * (i + 33) ≤ 34603008 ∧ rtTab.getD i 0 ≤ 1100 := by decide +kernel
theorem rtg_near (i : Nat) (hi : i < 96) : 32505856 ≤ rtgN i * rtgN i * (i + 32) ∧ rtgN i * rtgN i * (i + 33) ≤ 34603008 ∧ rtgN i ≤ 1100 := by
  obtain ⟨h1, h2, h3, h4, h5⟩ := rtTab_ok i hi
  have e : rtgN i = rtTab.getD i 0 := by
    unfold rtgN
    exact rt_unique h1 h2
  rw [e]
  exact ⟨h3, h4, h5⟩
/-- A guess times its divisor is near 1. -/
theorem guess_near {d : Nat} (h : blen d = 128) : 63 * P2 137 ≤ 64 * guessV d * d ∧ 64 * guessV d * d ≤ 65 * P2 137 ∧ guessV d ≤ 131072 := by
  obtain ⟨r1, r2⟩ := high_range h (show 121 < 128 by omega)
  rw [show P2 (128 - 1 - 121) = 64 by rw [P2_eq]] at r1
  rw [show P2 (128 - 121) = 128 by rw [P2_eq]] at r2
  unfold guessV
  rw [if_pos h]
  obtain ⟨i, hi⟩ : ∃ i, d / P2 121 = 64 + i := ⟨d / P2 121 - 64, by omega⟩
  rw [hi, Nat.add_sub_cancel_left]
  obtain ⟨n1, n2⟩ := rcp_near i (by omega)
  have hle : rcpN i ≤ 131072 := by unfold rcpN; exact Nat.div_le_self _ _
  have hp := P2_pos 121
  have d1 : (64 + i) * P2 121 ≤ d := by rw [← hi]; exact Nat.div_mul_le_self _ _
  have d2 : d < (65 + i) * P2 121 := by
    have := Nat.lt_div_mul_add hp (a := d)
    rw [hi] at this
    rw [show 65 + i = 64 + i + 1 by omega, Nat.add_mul _ 1, Nat.one_mul]
    exact this
  have e137 : P2 137 = 65536 * P2 121 := by rw [P2_rel' 137 121 16 rfl, P2_eq 16]
  rw [e137]
  generalize rcpN i = a at *
  generalize P2 121 = T at *
  have m1 : a * ((64 + i) * T) ≤ a * d := Nat.mul_le_mul_left _ d1
  have m2 : a * d ≤ a * ((65 + i) * T) := Nat.mul_le_mul_left _ (Nat.le_of_lt d2)
  rw [← Nat.mul_assoc] at m1 m2
  have m3 : 64512 * T ≤ a * (64 + i) * T := Nat.mul_le_mul_right _ n1
  have m4 : a * (65 + i) * T ≤ 66560 * T := Nat.mul_le_mul_right _ n2
  rw [Nat.mul_assoc 64]
  refine ⟨by omega, by omega, hle⟩
/-- The square of a root's guess times its radicand is near 1. -/
theorem guessR_near {n : Nat} (h : blen n = 255 ∨ blen n = 256) : 31 * P2 274 ≤ 32 * guessRV n * guessRV n * n ∧ 32 * guessRV n * guessRV n * n ≤ 33 * P2 274 ∧ guessRV n ≤ 1100 := by
  have hr : 32 ≤ n / P2 249 ∧ n / P2 249 < 128 := by
    rcases h with hl | hl
    · obtain ⟨r1, r2⟩ := high_range hl (show 249 < 255 by omega)
      rw [show P2 (255 - 1 - 249) = 32 by rw [P2_eq]] at r1
      rw [show P2 (255 - 249) = 64 by rw [P2_eq]] at r2
      omega
    · obtain ⟨r1, r2⟩ := high_range hl (show 249 < 256 by omega)
      rw [show P2 (256 - 1 - 249) = 64 by rw [P2_eq]] at r1
      rw [show P2 (256 - 249) = 128 by rw [P2_eq]] at r2
      omega
  obtain ⟨r1, r2⟩ := hr
  unfold guessRV
  rw [if_pos h]
  obtain ⟨i, hi⟩ : ∃ i, n / P2 249 = i + 32 := ⟨n / P2 249 - 32, by omega⟩
  rw [hi, Nat.add_sub_cancel]
  obtain ⟨n1, n2, n3⟩ := rtg_near i (by omega)
  have hp := P2_pos 249
  have d1 : (i + 32) * P2 249 ≤ n := by rw [← hi]; exact Nat.div_mul_le_self _ _
  have d2 : n < (i + 33) * P2 249 := by
    have := Nat.lt_div_mul_add hp (a := n)
    rw [hi] at this
    rw [show i + 33 = i + 32 + 1 by omega, Nat.add_mul _ 1, Nat.one_mul]
    exact this
  have e274 : P2 274 = 33554432 * P2 249 := by rw [P2_rel' 274 249 25 rfl, P2_eq 25]
  rw [e274]
  generalize rtgN i = b at *
  generalize P2 249 = T at *
  have m1 : b * b * ((i + 32) * T) ≤ b * b * n := Nat.mul_le_mul_left _ d1
  have m2 : b * b * n ≤ b * b * ((i + 33) * T) := Nat.mul_le_mul_left _ (Nat.le_of_lt d2)
  rw [← Nat.mul_assoc] at m1 m2
  have m3 : 32505856 * T ≤ b * b * (i + 32) * T := Nat.mul_le_mul_right _ n1
  have m4 : b * b * (i + 33) * T ≤ 34603008 * T := Nat.mul_le_mul_right _ n2
  rw [Nat.mul_assoc 32 b b, Nat.mul_assoc 32]
  refine ⟨by omega, by omega, n3⟩
end Go.Proofs.Ytegmmaaapdgocaa
