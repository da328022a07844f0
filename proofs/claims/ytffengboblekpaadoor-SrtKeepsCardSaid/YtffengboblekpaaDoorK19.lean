/- SEVERAL TEXTS of the seat, one behind the other: each says at its head what it proves. -/
import Derived.Test.YtffengboblekpaaDoorFlyN
import Derived.Test.YtffengboblekpaaDoorWide7
import Derived.Test.YtffengboblekpaaDoorK6
import Derived.Test.YtffengboblekpaaDoorSrtrN
/- PLAIN ARITHMETIC of wides as whole numbers with a sign, modulo 2^512. No program is walked in this text. -/
namespace Go.Proofs.YtffengboblekpaaDoor
open Go Go.RowKit

theorem emod_add_l (a b m : Int) : (a % m + b) % m = (a + b) % m := Int.emod_add_emod a m b
theorem sub_toW (x y : Int) : subN (toW x) (toW y) = toW (x - y) := by
  rw [toW_sub _ _ (toW_lt x) (toW_lt y)]
  refine toW_congr ?_
  rw [toW_cast, toW_cast, Int.sub_emod, Int.emod_emod_of_dvd _ (Int.dvd_refl _), Int.emod_emod_of_dvd _ (Int.dvd_refl _), ← Int.sub_emod]
theorem add_toW (x y : Int) : (toW x + toW y) % M = toW (x + y) := by
  refine (toW_unique (Nat.mod_lt _ M_pos) ?_).symm
  push_cast
  rw [toW_cast, toW_cast, Int.emod_emod_of_dvd _ (Int.dvd_refl _), ← Int.add_emod]
theorem mul_toW (x : Int) (n : Nat) : toW x * n % M = toW (x * n) := by
  refine (toW_unique (Nat.mod_lt _ M_pos) ?_).symm
  push_cast
  rw [toW_cast, Int.emod_emod_of_dvd _ (Int.dvd_refl _), Int.mul_emod (x % (M : Int)), Int.emod_emod_of_dvd _ (Int.dvd_refl _), ← Int.mul_emod]
theorem neg_toW (x : Int) : negN (toW x) = toW (-x) := by
  unfold negN
  have := sub_toW 0 x
  rw [show toW 0 = 0 from toW_nat M_pos] at this
  rw [this, Int.zero_sub]
theorem toW_neg_val {x : Int} (h1 : -(M : Int) ≤ x) (h2 : x < 0) : ((toW x : Nat) : Int) = x + (M : Int) := by
  rw [toW_cast, ← Int.add_emod_right]
  exact Int.emod_eq_of_lt (by omega) (by omega)
theorem toW_pos_val {x : Int} (h1 : 0 ≤ x) (h2 : x < (M : Int)) : ((toW x : Nat) : Int) = x := by
  rw [toW_cast]
  exact Int.emod_eq_of_lt h1 h2
theorem minus_toW {x : Int} (h1 : -(P2 511 : Int) ≤ x) (h2 : x < (P2 511 : Int)) : decide (P2 511 ≤ toW x) = decide (x < 0) := by
  have hM := M_half
  rcases Int.lt_or_le x 0 with h | h
  · have := toW_neg_val (x := x) (by omega) h
    rw [decide_eq_true (show P2 511 ≤ toW x by omega), decide_eq_true h]
  · have := toW_pos_val (x := x) h (by omega)
    rw [decide_eq_false (show ¬ P2 511 ≤ toW x by omega), decide_eq_false (by omega)]
theorem sar_toW {x : Int} (h1 : -(P2 511 : Int) ≤ x) (h2 : x < (P2 511 : Int)) {c : Nat} (hc : c ≤ 512) : sarN (toW x) c = toW (x / (P2 c : Int)) := by
  have hM := M_half
  have hp := P2_pos c
  unfold sarN
  rcases Int.lt_or_le x 0 with h | h
  · have e := toW_neg_val (x := x) (by omega) h
    rw [if_pos (by omega)]
    have e2 : M = P2 (512 - c) * P2 c := by rw [M_eq, ← P2_add, Nat.sub_add_cancel hc]
    have e3 : ((toW x / P2 c : Nat) : Int) = x / (P2 c : Int) + (P2 (512 - c) : Int) := by
      rw [Int.natCast_ediv, e, e2, Int.natCast_mul, Int.add_mul_ediv_right _ _ (by omega)]
    have e4 : P2 (512 - c) ≤ M := by rw [M_eq]; exact P2_le (by omega)
    have b1 : x / (P2 c : Int) < 0 := Int.ediv_neg_of_neg_of_pos h (by omega)
    have b2 : x ≤ x / (P2 c : Int) := by
      rw [Int.le_ediv_iff_mul_le (by omega)]
      have := Int.mul_le_mul_of_nonneg_left (show (1 : Int) ≤ (P2 c : Int) by omega) (show 0 ≤ -x by omega)
      rw [Int.neg_mul, Int.neg_mul] at this
      omega
    have e5 := toW_neg_val (x := x / (P2 c : Int)) (by omega) b1
    omega
  · have e := toW_pos_val (x := x) h (by omega)
    rw [if_neg (by omega), Nat.add_zero]
    have b1 : 0 ≤ x / (P2 c : Int) := Int.ediv_nonneg h (by omega)
    have b2 : x / (P2 c : Int) ≤ x := Int.ediv_le_self _ h
    have e5 := toW_pos_val (x := x / (P2 c : Int)) b1 (by omega)
    have e3 : ((toW x / P2 c : Nat) : Int) = x / (P2 c : Int) := by rw [Int.natCast_ediv, e]
    omega
/-- A small number with a sign, of its lowest limb. -/
theorem small_toW {z : Int} (h1 : -9223372036854775808 ≤ z) (h2 : z ≤ 9223372036854775807) : IntKind.i64.wrap ((limb (toW z) 0 : Nat) : Int) = z := by
  have hd : ((P2 64 : Nat) : Int) ∣ (M : Int) := ⟨((P2 448 : Nat) : Int), by rw [M_eq, show 512 = 64 + 448 from rfl, P2_add, Int.natCast_mul]⟩
  have e : ((limb (toW z) 0 : Nat) : Int) = z % ((P2 64 : Nat) : Int) := by
    unfold limb
    rw [Nat.mul_zero, P2_0, Nat.div_one, Int.natCast_emod, toW_cast, Int.emod_emod_of_dvd _ hd]
  rw [e, P2_64, IntKind.wrap_i64]
  omega
end Go.Proofs.YtffengboblekpaaDoor

/- PLAIN ARITHMETIC of square roots by digits of either sign, as the program's walk asks for it. No program is walked in this text. -/
namespace Go.Proofs.YtffengboblekpaaDoor
open Go Go.RowKit

/-- What is left behind j steps. -/
def rL (U j : Nat) : Int := (U : Int) - rP U j * rP U j
/-- One step as the program goes it. -/
structure RStep (U j : Nat) (p s : Nat) (y : Int) : Prop where
  hp : rP U j = (p : Int)
  hs : p / P2 122 = s
  s1 : 28 ≤ s
  s2 : s ≤ 64
  pl : p < P2 130
  hy : rL U j / ((P2 (248 - 2 * j) : Nat) : Int) = y
  y1 : -1000 ≤ y
  y2 : y ≤ 1000
  l1 : -((P2 511 : Nat) : Int) ≤ rL U j
  l2 : rL U j < ((P2 511 : Nat) : Int)
theorem rstep_of {U j : Nat} (hj : j ≤ 63) (h1 : P2 254 ≤ U) (h2 : U < P2 256) : ∃ p s y, RStep U j p s y := by
  have h := rP_keep h1 h2 j (by omega)
  have hlow := h.low h1
  have htop := h.top
  have hup := h.up
  have hdn := h.dn
  have hT := P2_pos 122
  obtain ⟨p, hp⟩ := Int.eq_ofNat_of_zero_le (show 0 ≤ rP U j by omega)
  have e0 : P2 128 = 64 * P2 122 := by rw [P2_rel 128 122 6 rfl, P2_eq 6]
  have e130 : P2 130 = 4 * P2 128 := by rw [P2_rel 130 128 2 rfl, P2_eq 2]
  rw [hp] at hlow htop hup hdn
  have hw4 : P2 (2 * (64 - j)) = 4 * P2 (2 * (63 - j)) := by rw [P2_rel (2 * (64 - j)) (2 * (63 - j)) 2 (by omega), P2_eq 2]
  have hq : P2 (248 - 2 * j) = P2 122 * P2 (2 * (63 - j)) := by rw [← P2_add]; congr 1; omega
  have hwl : P2 (2 * (63 - j)) ≤ 16 * P2 122 := by
    rw [show 16 * P2 122 = P2 126 by rw [P2_rel 126 122 4 rfl, P2_eq 4]]
    exact P2_le (by omega)
  rw [hw4] at hup hdn
  have hw0 := P2_pos (2 * (63 - j))
  have hL : rL U j = (U : Int) - (p : Int) * (p : Int) := by unfold rL; rw [hp]
  have hpp : p * p ≤ P2 256 := by
    rw [show P2 256 = P2 128 * P2 128 by rw [← P2_add]]
    exact Nat.mul_le_mul (by omega) (by omega)
  have hppi : ((p * p : Nat) : Int) = (p : Int) * (p : Int) := Int.natCast_mul _ _
  have h511 : P2 256 < P2 511 := P2_lt (by omega)
  obtain ⟨W, hW⟩ : ∃ W, W = P2 (2 * (63 - j)) := ⟨_, rfl⟩
  rw [← hW] at hw4 hq hwl hup hdn hw0
  obtain ⟨T, hTe⟩ : ∃ W, W = P2 122 := ⟨_, rfl⟩
  rw [← hTe] at e0 hq hwl hlow hT
  -- what is left, in parts
  have k1 : p * (4 * W) ≤ 64 * T * (4 * W) := Nat.mul_le_mul_right _ (by omega)
  have k2 : W * W ≤ 16 * T * W := Nat.mul_le_mul_right _ hwl
  have k3 : ((p * (4 * W) : Nat) : Int) = (p : Int) * ((4 * W : Nat) : Int) := Int.natCast_mul _ _
  have k4 : ((16 * (W * W) : Nat) : Int) = ((4 * W : Nat) : Int) * ((4 * W : Nat) : Int) := by push_cast; grind
  have k5 : 64 * T * (4 * W) = 256 * (T * W) := by grind
  have k6 : 16 * T * W = 16 * (T * W) := by grind
  rw [← k3, ← k4] at hup hdn
  have hTW : 0 < T * W := Nat.mul_pos hT hw0
  have L1 : rL U j ≤ 500 * ((T * W : Nat) : Int) := by rw [hL]; omega
  have L2 : -(500 * ((T * W : Nat) : Int)) ≤ rL U j := by rw [hL]; omega
  have s1 : 28 ≤ p / T := (Nat.le_div_iff_mul_le hT).2 (by omega)
  have s2 : p / T ≤ 64 := by
    have h64 : p / T < 65 := (Nat.div_lt_iff_lt_mul hT).2 (by omega)
    omega
  refine ⟨p, p / T, _, ⟨hp, by rw [hTe], s1, s2, by omega, rfl, ?_, ?_, by omega, by omega⟩⟩
  · rw [hq]
    refine (Int.le_ediv_iff_mul_le (by omega)).2 ?_
    omega
  · rw [hq]
    have : rL U j / ((T * W : Nat) : Int) < 1001 := Int.ediv_lt_of_lt_mul (by omega) (by omega)
    omega
theorem rL_succ (U j : Nat) : rL U (j + 1) = rL U j - rDig U j * (rP U j * ((P2 (2 * (63 - j) + 1) : Nat) : Int)) - rDig U j * rDig U j * ((P2 (2 * (2 * (63 - j))) : Nat) : Int) := by
  unfold rL
  rw [rP_succ]
  have e1 : P2 (2 * (63 - j) + 1) = 2 * P2 (2 * (63 - j)) := by rw [P2_add, P2_1, Nat.mul_comm]
  have e2 : P2 (2 * (2 * (63 - j))) = P2 (2 * (63 - j)) * P2 (2 * (63 - j)) := by rw [← P2_add]; congr 1; omega
  rw [e1, e2]
  push_cast
  grind
theorem rDig_of {U j p s : Nat} {y : Int} (h : RStep U j p s y) : rDig U j = dg (3 * (s : Int) + sq (j : Int) 9) ((s : Int) + sq (j : Int) 1) (-(s : Int) + sq (j : Int) 1) (-3 * (s : Int) + sq (j : Int) 9) y := by
  unfold rDig rdg
  have := h.hy
  unfold rL at this
  rw [this, h.hp, ← h.hs, Int.natCast_ediv]
/-- By how much a number is shifted up; the number shifted up. -/
def nrmN (n : Nat) : Nat := (256 - blen n) / 2 * 2
def upN (n : Nat) : Nat := n * P2 (nrmN n)
theorem up_range {n : Nat} (h0 : n ≠ 0) (h : n < P2 256) : P2 254 ≤ upN n ∧ upN n < P2 256 ∧ (blen (upN n) = 255 ∨ blen (upN n) = 256) := by
  have hl : blen n ≤ 256 := blen_le_of h
  have h1 := blen_lt n
  have h2 := blen_le h0
  have hp := blen_pos h0
  unfold upN nrmN
  have g1 := Nat.mul_lt_mul_of_pos_right h1 (P2_pos ((256 - blen n) / 2 * 2))
  have g2 := Nat.mul_le_mul_right (P2 ((256 - blen n) / 2 * 2)) h2
  rw [← P2_add] at g1 g2
  have e1 : P2 (blen n + (256 - blen n) / 2 * 2) ≤ P2 256 := P2_le (by omega)
  have e2 : P2 254 ≤ P2 (blen n - 1 + (256 - blen n) / 2 * 2) := P2_le (by omega)
  refine ⟨by omega, by omega, ?_⟩
  have h3 : blen (n * P2 ((256 - blen n) / 2 * 2)) = blen n + (256 - blen n) / 2 * 2 := by
    refine blen_eq g1 fun _ => ?_
    rw [show blen n + (256 - blen n) / 2 * 2 - 1 = blen n - 1 + (256 - blen n) / 2 * 2 by omega]
    exact g2
  omega
end Go.Proofs.YtffengboblekpaaDoor
