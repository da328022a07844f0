/- PLAIN ARITHMETIC of division by digits of either sign, as the program's walk asks for it. No program is walked in this text. -/
import Derived.Test.YtffengboblekpaaDoorSrtN
import Derived.Test.YtffengboblekpaaDoorK19
import Derived.Test.YtffengboblekpaaDoorTabRow
namespace Go.Proofs.YtffengboblekpaaDoor
open Go Go.RowKit

theorem fit_of {D : Nat} (h1 : P2 127 ≤ D) (h2 : D < P2 128) : Fit D (rowT D : Nat) ∧ rowT D = D / P2 124 := by
  have hb : blen D = 128 := blen_eq h2 fun _ => h1
  have e128 : P2 128 = 16 * P2 124 := by rw [show 128 = 4 + 124 from rfl, P2_add, P2_eq 4]
  have e127 : P2 127 = 8 * P2 124 := by rw [show 127 = 3 + 124 from rfl, P2_add, P2_eq 3]
  have hT := P2_pos 124
  have hr : rowT D = D / P2 124 := by
    unfold rowT
    rw [hb, e128, Nat.mul_comm D 16, Nat.mul_div_mul_left _ _ (by decide)]
  have d1 := Nat.div_mul_le_self D (P2 124)
  have d2 := Nat.lt_div_mul_add hT (a := D)
  rw [← hr] at d1 d2
  have g1 : 8 ≤ rowT D := by rw [hr]; exact (Nat.le_div_iff_mul_le hT).2 (by omega)
  have g2 : rowT D < 16 := by rw [hr]; exact (Nat.div_lt_iff_lt_mul hT).2 (by omega)
  have c1 : ((rowT D * P2 124 : Nat) : Int) = (rowT D : Int) * ((P2 124 : Nat) : Int) := Int.natCast_mul _ _
  refine ⟨⟨by omega, by omega, by omega, ?_⟩, hr⟩
  rw [Int.add_mul, Int.one_mul]
  omega
/-- One step as the program goes it. -/
structure TStep (N D : Nat) (r : Int) (i : Nat) (y : Int) : Prop where
  hy : sLeft N D r i / ((P2 (124 + 2 * (64 - i)) : Nat) : Int) = y
  y1 : -100 ≤ y
  y2 : y ≤ 100
  l1 : -((P2 511 : Nat) : Int) ≤ sLeft N D r i
  l2 : sLeft N D r i < ((P2 511 : Nat) : Int)
theorem tstep_of {N D : Nat} {r : Int} (hf : Fit D r) (hN : N < D * P2 128) (hD : D < P2 128) {i : Nat} (hi : i ≤ 64) : ∃ y, TStep N D r i y := by
  obtain ⟨h1, h2⟩ := sLeft_keep hf hN i (by omega)
  obtain ⟨h3, h4⟩ := sLeft_small hf hN hD i (by omega)
  have h260 : P2 260 ≤ P2 511 := P2_le (by omega)
  rw [P2_4of i hi, Nat.mul_left_comm] at h1 h2
  have hp := P2_pos (124 + 2 * (64 - i))
  have hE : D * P2 (2 * (64 - i)) ≤ 16 * P2 (124 + 2 * (64 - i)) := by
    rw [P2_add 124, ← Nat.mul_assoc]
    refine Nat.mul_le_mul_right _ ?_
    have : P2 128 = 16 * P2 124 := by rw [show 128 = 4 + 124 from rfl, P2_add, P2_eq 4]
    omega
  obtain ⟨E, hEe⟩ : ∃ E, E = D * P2 (2 * (64 - i)) := ⟨_, rfl⟩
  rw [← hEe] at h1 h2 hE
  obtain ⟨U, hU⟩ : ∃ U, U = P2 (124 + 2 * (64 - i)) := ⟨_, rfl⟩
  rw [← hU] at hp hE
  have L1 : sLeft N D r i ≤ 50 * (U : Int) := by omega
  have L2 : -(50 * (U : Int)) ≤ sLeft N D r i := by omega
  refine ⟨_, ⟨rfl, ?_, ?_, by omega, by omega⟩⟩
  · rw [← hU]
    refine (Int.le_ediv_iff_mul_le (by omega)).2 ?_
    omega
  · rw [← hU]
    have : sLeft N D r i / (U : Int) < 101 := Int.ediv_lt_of_lt_mul (by omega) (by omega)
    omega
/-- A divisor, a dividend, shifted up. -/
theorem shift_range {n d : Nat} (h : mayN n d = 0) : P2 127 ≤ d * P2 (128 - blen d) ∧ d * P2 (128 - blen d) < P2 128 ∧ n * P2 (128 - blen d) < d * P2 (128 - blen d) * P2 128 ∧ n * P2 (128 - blen d) / (d * P2 (128 - blen d)) = n / d ∧ n * P2 (128 - blen d) % (d * P2 (128 - blen d)) / P2 (128 - blen d) = n % d := by
  obtain ⟨h1, h2, h3⟩ := may_ok h
  have hl : blen d ≤ 120 := blen_le_of h2
  have g1 := Nat.mul_lt_mul_of_pos_right (blen_lt d) (P2_pos (128 - blen d))
  have g2 := Nat.mul_le_mul_right (P2 (128 - blen d)) (blen_le (show d ≠ 0 by omega))
  have hp := blen_pos (show d ≠ 0 by omega)
  have hP := P2_pos (128 - blen d)
  rw [← P2_add, show blen d + (128 - blen d) = 128 by omega] at g1
  rw [← P2_add, show blen d - 1 + (128 - blen d) = 127 by omega] at g2
  refine ⟨g2, g1, ?_, Nat.mul_div_mul_right _ _ hP, ?_⟩
  · rw [Nat.mul_right_comm]
    exact Nat.mul_lt_mul_of_pos_right h3 hP
  · rw [Nat.mul_mod_mul_right, Nat.mul_div_cancel _ hP]
end Go.Proofs.YtffengboblekpaaDoor
