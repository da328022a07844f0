/- SEVERAL TEXTS of the seat, one behind the other: each says at its head what it proves. -/
import Derived.WalkKit
import Derived.Test.YtegmmaaapdgocaaGreatRt2N
/- PLAIN WORDS of the tables: the digit by four bounds, a third rounded up, what a digit's square counts. -/
namespace Go.Proofs.YtegmmaaapdgocaaGreat

/-- The greatest digit whose bound isn't above y. -/
def dg (b0 b1 b2 b3 y : Int) : Int := if b0 ≤ y then 2 else if b1 ≤ y then 1 else if b2 ≤ y then 0 else if b3 ≤ y then -1 else -2
def l3 (n : Int) : Int := (n + 2) / 3
/-- What a digit's square counts at a step. -/
def sq (j n : Int) : Int := if j = 0 then 4 * n else if j = 1 then n else if j = 2 then n / 4 else 0
theorem sq_0 (n : Int) : sq 0 n = 4 * n := rfl
theorem sq_1 (n : Int) : sq 1 n = n := rfl
theorem sq_2 (n : Int) : sq 2 n = n / 4 := rfl
theorem sq_3 (j n : Int) (h : 3 ≤ j) : sq j n = 0 := by unfold sq; rw [if_neg (by omega), if_neg (by omega), if_neg (by omega)]
end Go.Proofs.YtegmmaaapdgocaaGreat

/- PLAIN ARITHMETIC of square roots by digits of either sign: the root so far isn't farther than two thirds of its last digit's worth from the root. No program is walked in this text. -/
namespace Go.Proofs.YtegmmaaapdgocaaGreat
open Go Go.RowKit

/-- The digit of a step. -/
def rdg (j s y : Int) : Int := dg (3 * s + sq j 9) (s + sq j 1) (-s + sq j 1) (-3 * s + sq j 9) y
theorem rdg_range (j s y : Int) : -2 ≤ rdg j s y ∧ rdg j s y ≤ 2 := by
  unfold rdg dg
  (repeat' split) <;> omega
theorem cut_at' {y L U : Int} (hU : 0 < U) (h1 : y * U ≤ L) (h2 : L < (y + 1) * U) (b : Int) : (b ≤ y → b * U ≤ L) ∧ (¬ b ≤ y → L < b * U) := by
  refine ⟨fun h => Int.le_trans (Int.mul_le_mul_of_nonneg_right h (by omega)) h1, fun h => Int.lt_of_lt_of_le h2 (Int.mul_le_mul_of_nonneg_right (by omega) (by omega))⟩
theorem dg_cases (b0 b1 b2 b3 y : Int) : (dg b0 b1 b2 b3 y = 2 ∧ b0 ≤ y) ∨ (dg b0 b1 b2 b3 y = 1 ∧ ¬ b0 ≤ y ∧ b1 ≤ y) ∨ (dg b0 b1 b2 b3 y = 0 ∧ ¬ b1 ≤ y ∧ b2 ≤ y) ∨ (dg b0 b1 b2 b3 y = -1 ∧ ¬ b2 ≤ y ∧ b3 ≤ y) ∨ (dg b0 b1 b2 b3 y = -2 ∧ ¬ b3 ≤ y) := by
  unfold dg
  split
  · rename_i g; exact Or.inl ⟨rfl, g⟩
  · rename_i g0
    split
    · rename_i g; exact Or.inr (Or.inl ⟨rfl, g0, g⟩)
    · rename_i g1
      split
      · rename_i g; exact Or.inr (Or.inr (Or.inl ⟨rfl, g1, g⟩))
      · rename_i g2
        split
        · rename_i g; exact Or.inr (Or.inr (Or.inr (Or.inl ⟨rfl, g2, g⟩)))
        · rename_i g3; exact Or.inr (Or.inr (Or.inr (Or.inr ⟨rfl, g3⟩)))
theorem imul4 (a b c d : Int) : a * b * (c * d) = a * c * (b * d) := by ac_rfl
/-- One step, in products alone. -/
theorem srtr_keep {j s y U pp pw ww q S : Int} (hj : 0 ≤ j) (hq : 0 < q) (hS : S = s * q) (hs : 28 ≤ s) (hs0 : j = 0 → s = 64)
    (k0 : j = 0 → ww = 16 * q) (k1 : j = 1 → ww = 4 * q) (k2 : j = 2 → ww = q) (k3 : 3 ≤ j → 4 * ww ≤ q) (hww : 0 ≤ ww)
    (p1 : S ≤ pw) (p2 : pw < S + q) (hy1 : y * q ≤ U - pp) (hy2 : U - pp < (y + 1) * q) (i1 : 9 * U ≤ 9 * pp + 48 * pw + 64 * ww) (i2 : 9 * pp - 48 * pw + 64 * ww ≤ 9 * U) :
    9 * U ≤ 9 * (pp + 2 * (rdg j s y * pw) + rdg j s y * rdg j s y * ww) + 12 * (pw + rdg j s y * ww) + 4 * ww ∧ 9 * (pp + 2 * (rdg j s y * pw) + rdg j s y * rdg j s y * ww) - 12 * (pw + rdg j s y * ww) + 4 * ww ≤ 9 * U := by
  have hc := cut_at' hq hy1 hy2
  clear hy1 hy2
  have hS28 : 28 * q ≤ S := by rw [hS]; exact Int.mul_le_mul_of_nonneg_right hs (by omega)
  have hS64 : j = 0 → S = 64 * q := fun h => by rw [hS, hs0 h]
  obtain ⟨c0, d0⟩ := hc (3 * s + sq j 9)
  obtain ⟨c1, d1⟩ := hc (s + sq j 1)
  obtain ⟨c2, d2⟩ := hc (-s + sq j 1)
  obtain ⟨c3, d3⟩ := hc (-3 * s + sq j 9)
  clear hc
  rw [Int.add_mul, Int.mul_assoc, ← hS] at c0 d0 c3 d3
  rw [Int.add_mul, ← hS] at c1 d1
  rw [Int.add_mul, Int.neg_mul, ← hS] at c2 d2
  have hdc := dg_cases (3 * s + sq j 9) (s + sq j 1) (-s + sq j 1) (-3 * s + sq j 9) y
  unfold rdg
  obtain ⟨d, hd⟩ : ∃ d, d = dg (3 * s + sq j 9) (s + sq j 1) (-s + sq j 1) (-3 * s + sq j 9) y := ⟨_, rfl⟩
  rw [← hd] at hdc ⊢
  clear hd
  have hj4 : j = 0 ∨ j = 1 ∨ j = 2 ∨ 3 ≤ j := by omega
  rcases hj4 with h | h | h | h
  · subst h
    have e1 := k0 rfl
    have e2 := hS64 rfl
    clear k0 k1 k2 k3 hS64 hs0 hS
    simp only [sq_0] at c0 c1 c2 c3 d0 d1 d2 d3 hdc
    rcases hdc with ⟨rfl, g0⟩ | ⟨rfl, g0, g1⟩ | ⟨rfl, g0, g1⟩ | ⟨rfl, g0, g1⟩ | ⟨rfl, g0⟩
    · have := c0 g0; omega
    · have := d0 g0; have := c1 g1; omega
    · have := d1 g0; have := c2 g1; omega
    · have := d2 g0; have := c3 g1; omega
    · have := d3 g0; omega
  · subst h
    have e1 := k1 rfl
    clear k0 k1 k2 k3 hS64 hs0 hS
    simp only [sq_1] at c0 c1 c2 c3 d0 d1 d2 d3 hdc
    rcases hdc with ⟨rfl, g0⟩ | ⟨rfl, g0, g1⟩ | ⟨rfl, g0, g1⟩ | ⟨rfl, g0, g1⟩ | ⟨rfl, g0⟩
    · have := c0 g0; omega
    · have := d0 g0; have := c1 g1; omega
    · have := d1 g0; have := c2 g1; omega
    · have := d2 g0; have := c3 g1; omega
    · have := d3 g0; omega
  · subst h
    have e1 := k2 rfl
    clear k0 k1 k2 k3 hS64 hs0 hS
    simp only [sq_2, show (9 : Int) / 4 = 2 from rfl, show (1 : Int) / 4 = 0 from rfl] at c0 c1 c2 c3 d0 d1 d2 d3 hdc
    rcases hdc with ⟨rfl, g0⟩ | ⟨rfl, g0, g1⟩ | ⟨rfl, g0, g1⟩ | ⟨rfl, g0, g1⟩ | ⟨rfl, g0⟩
    · have := c0 g0; omega
    · have := d0 g0; have := c1 g1; omega
    · have := d1 g0; have := c2 g1; omega
    · have := d2 g0; have := c3 g1; omega
    · have := d3 g0; omega
  · have e1 := k3 h
    clear k0 k1 k2 k3 hS64 hs0 hS
    rw [sq_3 j 9 h] at c0 d0 c3 d3 hdc
    rw [sq_3 j 1 h] at c1 d1 c2 d2 hdc
    rcases hdc with ⟨rfl, g0⟩ | ⟨rfl, g0, g1⟩ | ⟨rfl, g0, g1⟩ | ⟨rfl, g0, g1⟩ | ⟨rfl, g0⟩
    · have := c0 g0; omega
    · have := d0 g0; have := c1 g1; omega
    · have := d1 g0; have := c2 g1; omega
    · have := d2 g0; have := c3 g1; omega
    · have := d3 g0; omega

/-- The root so far, behind j steps, of a number that is shifted up. -/
def rP (U : Nat) : Nat → Int
  | 0 => ((P2 128 : Nat) : Int)
  | j + 1 => rP U j + rdg (j : Int) (rP U j / ((P2 122 : Nat) : Int)) (((U : Int) - rP U j * rP U j) / ((P2 (248 - 2 * j) : Nat) : Int)) * ((P2 (2 * (63 - j)) : Nat) : Int)
/-- The digit of step j. -/
def rDig (U : Nat) (j : Nat) : Int := rdg (j : Int) (rP U j / ((P2 122 : Nat) : Int)) (((U : Int) - rP U j * rP U j) / ((P2 (248 - 2 * j) : Nat) : Int))
theorem rP_succ (U j : Nat) : rP U (j + 1) = rP U j + rDig U j * ((P2 (2 * (63 - j)) : Nat) : Int) := rfl
theorem rDig_range (U j : Nat) : -2 ≤ rDig U j ∧ rDig U j ≤ 2 := rdg_range _ _ _
def rDigs (U k : Nat) : List Int := (List.range k).map (rDig U)
theorem rDigs_len (U k : Nat) : (rDigs U k).length = k := by unfold rDigs; rw [List.length_map, List.length_range]
theorem rDigs_succ (U k : Nat) : rDigs U (k + 1) = rDigs U k ++ [rDig U k] := by
  unfold rDigs
  rw [List.range_succ, List.map_append]
  rfl
theorem rDigs_mem {U k : Nat} {d : Int} (h : d ∈ rDigs U k) : -2 ≤ d ∧ d ≤ 2 := by
  unfold rDigs at h
  obtain ⟨i, _, rfl⟩ := List.mem_map.1 h
  exact rDig_range U i
/-- What holds behind j steps. -/
structure RKeep (U j : Nat) (p : Int) : Prop where
  top : p ≤ ((P2 128 : Nat) : Int)
  dvd : ∃ c, p = c * ((P2 (2 * (64 - j)) : Nat) : Int)
  up : 9 * (U : Int) ≤ 9 * (p * p) + 12 * (p * ((P2 (2 * (64 - j)) : Nat) : Int)) + 4 * (((P2 (2 * (64 - j)) : Nat) : Int) * ((P2 (2 * (64 - j)) : Nat) : Int))
  dn : 9 * (p * p) - 12 * (p * ((P2 (2 * (64 - j)) : Nat) : Int)) + 4 * (((P2 (2 * (64 - j)) : Nat) : Int) * ((P2 (2 * (64 - j)) : Nat) : Int)) ≤ 9 * (U : Int)
  pos : 2 * ((P2 (2 * (64 - j)) : Nat) : Int) ≤ 3 * p
  at0 : j = 0 → p = ((P2 128 : Nat) : Int)
  at1 : j = 1 → ((P2 127 : Nat) : Int) ≤ p
theorem P2_rel (a b : Nat) (c : Nat) (h : a = b + c) : P2 a = P2 c * P2 b := by rw [h, P2_add, Nat.mul_comm]
/-- The range of the root's highest places. -/
theorem RKeep.low {U j : Nat} {p : Int} (h : RKeep U j p) (hU : P2 254 ≤ U) : ((28 * P2 122 : Nat) : Int) ≤ p := by
  have e0 : P2 128 = 64 * P2 122 := by rw [P2_rel 128 122 6 rfl, P2_eq 6]
  have e1 : P2 127 = 32 * P2 122 := by rw [P2_rel 127 122 5 rfl, P2_eq 5]
  have e2 : P2 124 = 4 * P2 122 := by rw [P2_rel 124 122 2 rfl, P2_eq 2]
  have hT := P2_pos 122
  rcases (show j = 0 ∨ j = 1 ∨ 2 ≤ j by omega) with h0 | h0 | h0
  · have := h.at0 h0; omega
  · have := h.at1 h0; omega
  · have hw : P2 (2 * (64 - j)) ≤ P2 124 := P2_le (by omega)
    have hup := h.up
    have hpos := h.pos
    obtain ⟨W, hW⟩ : ∃ W, W = ((P2 (2 * (64 - j)) : Nat) : Int) := ⟨_, rfl⟩
    rw [← hW] at hup hpos
    have hW4 : W ≤ 4 * ((P2 122 : Nat) : Int) := by omega
    have hW0 : 0 < W := by have := P2_pos (2 * (64 - j)); omega
    have h254 : P2 254 = P2 127 * P2 127 := by rw [← P2_add]
    obtain ⟨R, hR⟩ : ∃ R, R = ((P2 127 : Nat) : Int) := ⟨_, rfl⟩
    have hRU : R * R ≤ (U : Int) := by rw [hR, ← Int.natCast_mul, ← h254]; omega
    -- 3 p + 2 W isn't below 3 R
    have hge : 3 * R ≤ 3 * p + 2 * W := by
      apply Int.not_lt.1
      intro hlt
      have hm : (3 * p + 2 * W) * (3 * p + 2 * W) < 3 * R * (3 * R) := Int.mul_lt_mul hlt (Int.le_of_lt hlt) (by omega) (by omega)
      have x1 : (3 * p + 2 * W) * (3 * p + 2 * W) = 9 * (p * p) + 12 * (p * W) + 4 * (W * W) := by
        rw [Int.add_mul, Int.mul_add, Int.mul_add, imul4, imul4 3 p 2 W, imul4 2 W 3 p, imul4 2 W 2 W, Int.mul_comm W p]
        omega
      have x2 : 3 * R * (3 * R) = 9 * (R * R) := by rw [imul4]; rfl
      omega
    omega
theorem RKeep.first {U : Nat} (h1 : P2 254 ≤ U) (h2 : U < P2 256) : RKeep U 0 (rP U 0) := by
  have e1 : P2 256 = P2 128 * P2 128 := by rw [← P2_add]
  have e2 : P2 256 = 4 * P2 254 := by rw [P2_rel 256 254 2 rfl, P2_eq 2]
  have hp := P2_pos 128
  have hc : ((P2 128 : Nat) : Int) * ((P2 128 : Nat) : Int) = ((P2 256 : Nat) : Int) := by rw [← Int.natCast_mul, ← e1]
  refine ⟨Int.le_refl _, ⟨1, by rw [Int.one_mul]; rfl⟩, ?_, ?_, ?_, fun _ => rfl, fun h => by cases h⟩
  all_goals
    show _ ≤ _
    simp only [rP, show 2 * (64 - 0) = 128 from rfl, hc]
    omega
theorem RKeep.next {U j : Nat} (hj : j < 64) (h1 : P2 254 ≤ U) (h2 : U < P2 256) (h : RKeep U j (rP U j)) : RKeep U (j + 1) (rP U (j + 1)) := by
  have hlow := h.low h1
  have hdr := rDig_range U j
  rw [rP_succ]
  have hw4 : P2 (2 * (64 - j)) = 4 * P2 (2 * (63 - j)) := by rw [P2_rel (2 * (64 - j)) (2 * (63 - j)) 2 (by omega), P2_eq 2]
  have e63 : P2 (2 * (64 - (j + 1))) = P2 (2 * (63 - j)) := by congr 1; omega
  have hq : P2 (248 - 2 * j) = P2 122 * P2 (2 * (63 - j)) := by rw [← P2_add]; congr 1; omega
  have e0 : P2 128 = 64 * P2 122 := by rw [P2_rel 128 122 6 rfl, P2_eq 6]
  have e1 : P2 127 = 32 * P2 122 := by rw [P2_rel 127 122 5 rfl, P2_eq 5]
  have hT0 := P2_pos 122
  have hw0 := P2_pos (2 * (63 - j))
  have w0 : j = 0 → P2 (2 * (63 - j)) = 16 * P2 122 := fun h => by rw [h, P2_rel (2 * (63 - 0)) 122 4 rfl, P2_eq 4]
  have w1 : j = 1 → P2 (2 * (63 - j)) = 4 * P2 122 := fun h => by rw [h, P2_rel (2 * (63 - 1)) 122 2 rfl, P2_eq 2]
  have w2 : j = 2 → P2 (2 * (63 - j)) = P2 122 := fun h => by rw [h]
  have w3 : 3 ≤ j → 4 * P2 (2 * (63 - j)) ≤ P2 122 := fun h => by rw [P2_rel 122 120 2 rfl, P2_eq 2]; exact Nat.mul_le_mul_left _ (P2_le (by omega))
  obtain ⟨htop, ⟨c, hcd⟩, hup, hdn, hpos, hat0, hat1⟩ := h
  have h128 : ∃ e : Nat, P2 128 = e * (4 * P2 (2 * (63 - j))) := ⟨P2 (128 - 2 * (64 - j)), by rw [← hw4, ← P2_add]; congr 1; omega⟩
  have h256 : P2 256 = P2 128 * P2 128 := by rw [← P2_add]
  rw [hw4] at hcd hup hdn hpos
  unfold rDig at hdr ⊢
  rw [hq] at hdr ⊢
  obtain ⟨p, hp⟩ : ∃ p, p = rP U j := ⟨_, rfl⟩
  rw [← hp] at hcd hup hdn hpos hat0 hat1 htop hlow hdr ⊢
  obtain ⟨T, hT⟩ : ∃ T, T = P2 122 := ⟨_, rfl⟩
  rw [← hT] at hlow e0 e1 hT0 w0 w1 w2 w3 hdr ⊢
  obtain ⟨W, hW⟩ : ∃ W, W = P2 (2 * (63 - j)) := ⟨_, rfl⟩
  rw [← hW] at hw0 w0 w1 w2 w3 h128 hcd hup hdn hpos hdr e63 ⊢
  obtain ⟨X, hX⟩ : ∃ X, X = P2 128 := ⟨_, rfl⟩
  rw [← hX] at e0 h128 h256 htop hat0
  obtain ⟨Y, hY⟩ : ∃ X, X = P2 127 := ⟨_, rfl⟩
  rw [← hY] at e1 hat1
  clear hp hT hW hw4 hq
  have hTi : (0 : Int) < (T : Int) := by omega
  have hWi : (0 : Int) < (W : Int) := by omega
  have hQi : (0 : Int) < ((T * W : Nat) : Int) := by have := Nat.mul_pos hT0 hw0; omega
  have d1 : p / (T : Int) * (T : Int) ≤ p := Int.ediv_mul_le _ (by omega)
  have d2 : p < (p / (T : Int) + 1) * (T : Int) := Int.lt_ediv_add_one_mul_self p hTi
  have y1 : ((U : Int) - p * p) / ((T * W : Nat) : Int) * ((T * W : Nat) : Int) ≤ (U : Int) - p * p := Int.ediv_mul_le _ (by omega)
  have y2 : (U : Int) - p * p < (((U : Int) - p * p) / ((T * W : Nat) : Int) + 1) * ((T * W : Nat) : Int) := Int.lt_ediv_add_one_mul_self _ hQi
  obtain ⟨s, hs⟩ : ∃ s, s = p / (T : Int) := ⟨_, rfl⟩
  obtain ⟨y, hy⟩ : ∃ y, y = ((U : Int) - p * p) / ((T * W : Nat) : Int) := ⟨_, rfl⟩
  rw [← hs] at d1 d2 hdr ⊢
  rw [← hy] at y1 y2 hdr ⊢
  have s28 : 28 ≤ s := by
    rw [hs]
    exact (Int.le_ediv_iff_mul_le hTi).2 (by push_cast at hlow; exact hlow)
  have s64 : j = 0 → s = 64 := fun h => by
    rw [hs, hat0 h, e0]
    push_cast
    exact Int.mul_ediv_cancel _ (by omega)
  have pw1 : s * ((T * W : Nat) : Int) ≤ p * (W : Int) := by
    rw [Int.natCast_mul, ← Int.mul_assoc]
    exact Int.mul_le_mul_of_nonneg_right d1 (by omega)
  have pw2 : p * (W : Int) < s * ((T * W : Nat) : Int) + ((T * W : Nat) : Int) := by
    have := Int.mul_lt_mul_of_pos_right d2 hWi
    rw [Int.mul_assoc, ← Int.natCast_mul, Int.add_mul, Int.one_mul] at this
    exact this
  -- the digit isn't above 0 at the very top
  have dtop : p = (X : Int) → rdg (j : Int) s y ≤ 0 := by
    intro hpx
    have hneg : (U : Int) - p * p < 0 := by rw [hpx, ← Int.natCast_mul, ← h256]; omega
    have hyn : y < 0 := by
      apply Int.not_le.1
      intro h0
      have := Int.mul_nonneg h0 (Int.le_of_lt hQi)
      omega
    have hsq : 0 ≤ sq (j : Int) 1 := by unfold sq; (repeat' split) <;> omega
    have hsq9 : 0 ≤ sq (j : Int) 9 := by unfold sq; (repeat' split) <;> omega
    unfold rdg dg
    rw [if_neg (by omega), if_neg (by omega)]
    (repeat' split) <;> omega
  have key := srtr_keep (j := (j : Int)) (s := s) (y := y) (U := (U : Int)) (pp := p * p) (pw := p * (W : Int)) (ww := (W : Int) * (W : Int)) (q := ((T * W : Nat) : Int)) (S := s * ((T * W : Nat) : Int))
    (by omega) hQi rfl s28 (fun h => s64 (by omega))
    (fun h => by have := w0 (by omega); rw [this]; push_cast; exact Int.mul_assoc _ _ _)
    (fun h => by have := w1 (by omega); rw [this]; push_cast; exact Int.mul_assoc _ _ _)
    (fun h => by have := w2 (by omega); rw [this]; push_cast; rfl)
    (fun h => by
      have h4 : (4 * (W : Int)) ≤ (T : Int) := by have := w3 (by omega); omega
      have := Int.mul_le_mul_of_nonneg_right h4 (Int.le_of_lt hWi)
      rw [Int.mul_assoc] at this
      push_cast
      exact this)
    (Int.mul_nonneg (by omega) (by omega)) pw1 pw2 y1 y2
    (by
      push_cast at hup
      rw [show p * (4 * (W : Int)) = 4 * (p * (W : Int)) by rw [Int.mul_left_comm], show 4 * (W : Int) * (4 * (W : Int)) = 16 * ((W : Int) * (W : Int)) by rw [imul4]; rfl] at hup
      omega)
    (by
      push_cast at hdn
      rw [show p * (4 * (W : Int)) = 4 * (p * (W : Int)) by rw [Int.mul_left_comm], show 4 * (W : Int) * (4 * (W : Int)) = 16 * ((W : Int) * (W : Int)) by rw [imul4]; rfl] at hdn
      omega)
  obtain ⟨d, hd⟩ : ∃ d, d = rdg (j : Int) s y := ⟨_, rfl⟩
  rw [← hd] at key dtop hdr ⊢
  have x1 : (p + d * (W : Int)) * (p + d * (W : Int)) = p * p + 2 * (d * (p * (W : Int))) + d * d * ((W : Int) * (W : Int)) := by
    rw [Int.add_mul, Int.mul_add, Int.mul_add, imul4 d (W : Int) d (W : Int), Int.mul_left_comm p d, show d * (W : Int) * p = d * (p * (W : Int)) by rw [Int.mul_assoc, Int.mul_comm (W : Int)]]
    omega
  have x2 : (p + d * (W : Int)) * (W : Int) = p * (W : Int) + d * ((W : Int) * (W : Int)) := by rw [Int.add_mul, Int.mul_assoc]
  have hdW : d = -2 ∨ d = -1 ∨ d = 0 ∨ d = 1 ∨ d = 2 := by omega
  refine ⟨?_, ⟨4 * c + d, ?_⟩, ?_, ?_, ?_, fun h => by omega, fun h => ?_⟩
  · rw [← hX]
    by_cases hx : p = (X : Int)
    · have := dtop hx
      rcases hdW with rfl | rfl | rfl | rfl | rfl <;> omega
    · -- a multiple of four worths below
      obtain ⟨e, he⟩ := h128
      have hce : c < (e : Int) := by
        apply Int.not_le.1
        intro hle
        have := Int.mul_le_mul_of_nonneg_right hle (show (0 : Int) ≤ ((4 * W : Nat) : Int) by omega)
        rw [← hcd, ← Int.natCast_mul, ← he] at this
        omega
      have := Int.mul_le_mul_of_nonneg_right (show c + 1 ≤ (e : Int) by omega) (show (0 : Int) ≤ ((4 * W : Nat) : Int) by omega)
      rw [Int.add_mul, ← hcd, ← Int.natCast_mul e, ← he] at this
      rcases hdW with rfl | rfl | rfl | rfl | rfl <;> omega
  · rw [e63, Int.add_mul, hcd]; push_cast; rw [Int.mul_comm 4 c, Int.mul_assoc c 4]
  · rw [e63, x1, x2]; exact key.1
  · rw [e63, x1, x2]; exact key.2
  · rw [e63]
    have hpp : ((28 * T : Nat) : Int) ≤ p := hlow
    rcases (show j = 0 ∨ 1 ≤ j by omega) with h0 | h0
    · have := w0 h0; have := hat0 h0
      rcases hdW with rfl | rfl | rfl | rfl | rfl <;> omega
    · have hw : W ≤ 4 * T := by
        rcases (show j = 1 ∨ j = 2 ∨ 3 ≤ j by omega) with h | h | h
        · have := w1 h; omega
        · have := w2 h; omega
        · have := w3 h; omega
      rcases hdW with rfl | rfl | rfl | rfl | rfl <;> omega
  · rw [← hY]
    have h0 : j = 0 := by omega
    have := w0 h0; have := hat0 h0
    rcases hdW with rfl | rfl | rfl | rfl | rfl <;> omega
theorem rP_keep {U : Nat} (h1 : P2 254 ≤ U) (h2 : U < P2 256) : ∀ j, j ≤ 64 → RKeep U j (rP U j) := by
  intro j
  induction j with
  | zero => intro _; exact RKeep.first h1 h2
  | succ j ih => intro hj; exact (ih (by omega)).next (by omega) h1 h2
/-- In the end the root so far is the root, or one more. -/
theorem rP_end {U : Nat} (h1 : P2 254 ≤ U) (h2 : U < P2 256) : (0 ≤ (U : Int) - rP U 64 * rP U 64 → rP U 64 = (rtN 2 U : Int)) ∧ ((U : Int) - rP U 64 * rP U 64 < 0 → rP U 64 = (rtN 2 U : Int) + 1) := by
  have h := rP_keep h1 h2 64 (Nat.le_refl _)
  have hlow := h.low h1
  have hup := h.up
  have hdn := h.dn
  rw [show 2 * (64 - 64) = 0 from rfl, P2_0] at hup hdn
  have hT := P2_pos 122
  obtain ⟨p, hp⟩ := Int.eq_ofNat_of_zero_le (show 0 ≤ rP U 64 by omega)
  rw [hp] at hup hdn hlow ⊢
  simp only [Int.natCast_one, Int.mul_one] at hup hdn hlow ⊢
  have hpp : ((p * p : Nat) : Int) = (p : Int) * (p : Int) := Int.natCast_mul _ _
  rw [← hpp] at hup hdn ⊢
  constructor
  · intro h0
    rw [rt_unique (n := U) (s := p) (by omega) (by omega)]
  · intro h0
    have hp1 : 1 ≤ p := by omega
    have e1 : p * p = (p - 1) * (p - 1) + 2 * (p - 1) + 1 := by
      obtain ⟨q, rfl⟩ : ∃ q, p = q + 1 := ⟨p - 1, by omega⟩
      rw [Nat.add_sub_cancel, Nat.add_mul, Nat.mul_add, Nat.mul_one, Nat.one_mul]
      omega
    rw [rt_unique (n := U) (s := p - 1) (by omega) (by omega)]
    omega
/-- A number shifted up by an even number of digits has its root shifted up by half of that, but for what is lost. -/
theorem rt_shift (n k : Nat) : rtN 2 (n * P2 (2 * k)) / P2 k = rtN 2 n := by
  have hp := P2_pos k
  have hpp : P2 (2 * k) = P2 k * P2 k := by rw [← P2_add]; congr 1; omega
  have h1 : rtN 2 (n * P2 (2 * k)) / P2 k ≤ rtN 2 n := by
    rw [sq_le]
    have h := (sq_le (n * P2 (2 * k)) _).1 (Nat.le_refl _)
    have hd := Nat.div_mul_le_self (rtN 2 (n * P2 (2 * k))) (P2 k)
    have := Nat.mul_le_mul hd hd
    rw [hpp] at h this ⊢
    have h2 : rtN 2 (n * (P2 k * P2 k)) / P2 k * (rtN 2 (n * (P2 k * P2 k)) / P2 k) * (P2 k * P2 k) ≤ n * (P2 k * P2 k) := by
      rw [Nat.mul_mul_mul_comm]
      omega
    exact Nat.le_of_mul_le_mul_right h2 (Nat.mul_pos hp hp)
  have h2 : rtN 2 n ≤ rtN 2 (n * P2 (2 * k)) / P2 k := by
    rw [Nat.le_div_iff_mul_le hp, sq_le, hpp, Nat.mul_mul_mul_comm]
    exact Nat.mul_le_mul_right _ ((sq_le n _).1 (Nat.le_refl _))
  omega
end Go.Proofs.YtegmmaaapdgocaaGreat
