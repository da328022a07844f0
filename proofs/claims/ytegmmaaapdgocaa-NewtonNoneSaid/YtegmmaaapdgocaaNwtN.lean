/- PLAIN ARITHMETIC of a divisor's reciprocal, made better and better. No program is walked in this text. -/
import Derived.Test.YtegmmaaapdgocaaEngN
namespace Go.Proofs.Ytegmmaaapdgocaa
open Go Go.RowKit

/-- The reciprocal of a divisor that is shifted up, behind k rounds. -/
def nwY (D : Nat) : Nat → Nat
  | 0 => guessV D * P2 151
  | k + 1 => nwY D k * (P2 161 - D * nwY D k / P2 128) / P2 160
theorem nwY_succ (D k : Nat) : nwY D (k + 1) = nwY D k * (P2 161 - D * nwY D k / P2 128) / P2 160 := rfl
/-- How many places are right behind k rounds. -/
def nwp : Nat → Nat
  | 0 => 6
  | k + 1 => if k < 5 then 2 * nwp k else nwp k
theorem nwp_big : ∀ k, 5 ≤ k → nwp k = 192
  | 0, h => absurd h (by decide)
  | k + 1, h => by
    rcases Nat.lt_or_ge k 5 with hk | hk
    · obtain rfl : k = 4 := by omega
      rfl
    · show (if k < 5 then 2 * nwp k else nwp k) = 192
      rw [if_neg (by omega), nwp_big k hk]
theorem nwp_le (k : Nat) : nwp k ≤ 192 ∧ 6 ≤ nwp k := by
  rcases Nat.lt_or_ge k 5 with h | h
  · rcases (show k = 0 ∨ k = 1 ∨ k = 2 ∨ k = 3 ∨ k = 4 by omega) with rfl | rfl | rfl | rfl | rfl <;> decide
  · rw [nwp_big k h]; decide
theorem newt_step {S R D y q r f y' s : Int} (hq : D * y = q * S + r) (hf : f = 2 * R - q) (hy : y * f = y' * R + s) : S * R * (S * R - D * y') = (S * R - D * y) * (S * R - D * y) - D * y * r + D * s * S := by
  subst hf
  have e1 : S * R * (D * y') = S * D * (y * (2 * R - q) - s) := by grind
  have e2 : q * S = D * y - r := by omega
  have e3 : S * D * (y * (2 * R - q) - s) = D * y * (2 * (S * R) - q * S) - S * D * s := by grind
  rw [Int.mul_sub, e1, e3, e2]
  grind
/-- What holds behind k rounds. -/
structure NwK (D k : Nat) : Prop where
  up : (P2 288 : Int) - (D : Int) * (nwY D k : Int) ≤ (P2 (288 - nwp k) : Int) + (P2 138 : Int)
  dn : -((P2 (288 - nwp k) : Int) + (P2 138 : Int)) ≤ (P2 288 : Int) - (D : Int) * (nwY D k : Int)
theorem nw_sizes (k : Nat) : 2 * (2 * P2 (288 - nwp k) + P2 138) ≤ P2 288 := by
  obtain ⟨_, h⟩ := nwp_le k
  have h1 : P2 (288 - nwp k) ≤ P2 282 := P2_le (by omega)
  have h2 : P2 138 ≤ P2 282 := P2_le (by omega)
  have h3 : P2 288 = 64 * P2 282 := by rw [P2_rel' 288 282 6 rfl, P2_eq 6]
  omega
theorem NwK.le {D k : Nat} (h : NwK D k) : 2 * (D * nwY D k) ≤ 3 * P2 288 := by
  have h1 := nw_sizes k
  have h2 := h.dn
  have h3 : ((D * nwY D k : Nat) : Int) = (D : Int) * (nwY D k : Int) := Int.natCast_mul _ _
  omega
theorem NwK.small {D k : Nat} (h : NwK D k) (hD : P2 127 ≤ D) : nwY D k < P2 162 := by
  have h1 := h.le
  apply Nat.lt_of_not_le
  intro h2
  have h3 := Nat.mul_le_mul hD h2
  rw [← P2_add, P2_twice 288] at h3
  have := P2_pos 288
  omega
theorem NwK.less {D k : Nat} (h : NwK D k) : D * nwY D k / P2 128 ≤ P2 161 := by
  have h1 := h.le
  have h2 : P2 289 = P2 161 * P2 128 := by rw [← P2_add]
  have h3 : P2 289 = P2 288 * 2 := P2_tw rfl
  apply Nat.le_of_lt_succ
  rw [Nat.div_lt_iff_lt_mul (P2_pos _), Nat.succ_mul, ← h2]
  have := P2_pos 128
  omega
theorem nw_first {D : Nat} (h : blen D = 128) : NwK D 0 := by
  obtain ⟨h1, h2, _⟩ := guess_near h
  have e1 : P2 288 = 64 * P2 282 := by rw [P2_rel' 288 282 6 rfl, P2_eq 6]
  have e2 : P2 282 = P2 145 * P2 137 := by rw [← P2_add]
  have e3 : D * nwY D 0 = guessV D * D * (64 * P2 145) := by
    show D * (guessV D * P2 151) = _
    rw [P2_rel' 151 145 6 rfl, P2_eq 6]
    grind
  have g1 : 63 * P2 137 * P2 145 ≤ 64 * guessV D * D * P2 145 := Nat.mul_le_mul_right _ h1
  have g2 : 64 * guessV D * D * P2 145 ≤ 65 * P2 137 * P2 145 := Nat.mul_le_mul_right _ h2
  have e4 : ((D * nwY D 0 : Nat) : Int) = (D : Int) * (nwY D 0 : Int) := Int.natCast_mul _ _
  have e5 : 64 * guessV D * D * P2 145 = D * nwY D 0 := by rw [e3]; grind
  have e6 : P2 137 * P2 145 = P2 282 := by rw [← P2_add]
  rw [e5, Nat.mul_assoc, e6] at g1 g2
  have p := P2_pos 138
  constructor
  · rw [← e4]; show _ ≤ ((P2 282 : Nat) : Int) + _; omega
  · rw [← e4]; show -(((P2 282 : Nat) : Int) + _) ≤ _; omega
theorem NwK.next {D k : Nat} (h : NwK D k) (hD : D < P2 128) : NwK D (k + 1) := by
  have hle := h.le
  have hless := h.less
  obtain ⟨p1, p2⟩ := nwp_le k
  have hsz := nw_sizes k
  have eT : P2 288 = P2 128 * P2 160 := by rw [← P2_add]
  have e161 : P2 161 = 2 * P2 160 := by rw [P2_twice, Nat.mul_comm]
  have e129 : P2 138 = 1024 * P2 128 := by rw [P2_rel' 138 128 10 rfl, P2_eq 10]
  have hup := h.up
  have hdn := h.dn
  have hS := P2_pos 128
  have hR := P2_pos 160
  have hpa : P2 (288 - nwp k) * P2 (288 - nwp k) ≤ P2 288 * P2 (288 - nwp (k + 1)) := by
    rw [← P2_add, ← P2_add]
    rcases Nat.lt_or_ge k 5 with hk | hk
    · have : nwp (k + 1) = 2 * nwp k := by show (if k < 5 then 2 * nwp k else nwp k) = _; rw [if_pos hk]
      have : nwp k ≤ 96 := by rcases (show k = 0 ∨ k = 1 ∨ k = 2 ∨ k = 3 ∨ k = 4 by omega) with rfl | rfl | rfl | rfl | rfl <;> decide
      exact P2_le (by omega)
    · rw [nwp_big k hk, nwp_big (k + 1) (by omega)]; exact P2_le (by omega)
  have m1 := Nat.div_add_mod (D * nwY D k) (P2 128)
  have l1 := Nat.mod_lt (D * nwY D k) hS
  have m2 := Nat.div_add_mod (nwY D k * (P2 161 - D * nwY D k / P2 128)) (P2 160)
  have l2 := Nat.mod_lt (nwY D k * (P2 161 - D * nwY D k / P2 128)) hR
  rw [← nwY_succ] at m2
  obtain ⟨q, hq⟩ : ∃ q, q = D * nwY D k / P2 128 := ⟨_, rfl⟩
  obtain ⟨r, hr⟩ : ∃ q, q = D * nwY D k % P2 128 := ⟨_, rfl⟩
  rw [← hq] at m1 m2 l2 hless
  rw [← hr] at m1 l1
  obtain ⟨f, hf⟩ : ∃ f, f = P2 161 - q := ⟨_, rfl⟩
  rw [← hf] at m2 l2
  obtain ⟨s, hs⟩ : ∃ q, q = nwY D k * f % P2 160 := ⟨_, rfl⟩
  rw [← hs] at m2 l2
  have step := newt_step (S := (P2 128 : Int)) (R := (P2 160 : Int)) (D := (D : Int)) (y := (nwY D k : Int)) (q := (q : Int)) (r := (r : Int)) (f := (f : Int)) (y' := (nwY D (k + 1) : Int)) (s := (s : Int))
    (by rw [← Int.natCast_mul, ← m1, Int.mul_comm (q : Int)]; push_cast; rfl) (by omega) (by rw [← Int.natCast_mul, ← m2, Int.mul_comm (nwY D (k + 1) : Int)]; push_cast; rfl)
  have eTi : (P2 288 : Int) = (P2 128 : Int) * (P2 160 : Int) := by rw [eT, Int.natCast_mul]
  rw [← eTi] at step
  -- how much is lost
  have x1 : D * nwY D k * r ≤ 2 * P2 288 * P2 128 := Nat.mul_le_mul (by omega) (by omega)
  have x2 : D * s * P2 128 ≤ P2 128 * P2 160 * P2 128 := Nat.mul_le_mul_right _ (Nat.mul_le_mul (by omega) (by omega))
  rw [← eT] at x2
  have y1 : ((D * nwY D k * r : Nat) : Int) = (D : Int) * (nwY D k : Int) * (r : Int) := by push_cast; rfl
  have y2 : ((D * s * P2 128 : Nat) : Int) = (D : Int) * (s : Int) * (P2 128 : Int) := by push_cast; rfl
  have y3 : ((P2 288 * P2 128 : Nat) : Int) = (P2 128 : Int) * (P2 288 : Int) := by push_cast; exact Int.mul_comm _ _
  rw [Nat.mul_assoc 2] at x1
  rw [← y1, ← y2] at step
  have hsq : 0 ≤ ((P2 288 : Int) - (D : Int) * (nwY D k : Int)) * ((P2 288 : Int) - (D : Int) * (nwY D k : Int)) := by
    rcases Int.le_total 0 ((P2 288 : Int) - (D : Int) * (nwY D k : Int)) with h | h
    · exact Int.mul_nonneg h h
    · exact Int.mul_nonneg_of_nonpos_of_nonpos h h
  have hquad := quad (T := (P2 288 : Int)) (E := (P2 288 : Int) - (D : Int) * (nwY D k : Int)) (E' := (P2 288 : Int) - (D : Int) * (nwY D (k + 1) : Int)) (a := (P2 (288 - nwp k) : Int)) (b := (P2 138 : Int)) (a' := (P2 (288 - nwp (k + 1)) : Int)) (c := 2 * (P2 128 : Int))
    (by have := P2_pos 288; omega)
    (by rw [step, Int.mul_assoc 2, ← y3]; omega)
    (by rw [step, Int.mul_assoc 2, ← y3]; omega)
    hup hdn (by omega) (by rw [← Int.natCast_mul, ← Int.natCast_mul]; exact Int.ofNat_le.2 hpa) (by omega) (by omega)
  exact ⟨hquad.1, hquad.2⟩
theorem nw_all {D : Nat} (h : blen D = 128) (hD : D < P2 128) : ∀ k, NwK D k
  | 0 => nw_first h
  | k + 1 => (nw_all h hD k).next hD
/-- The guess for a quotient isn't away from it by more than one. -/
theorem nw_guess {N D : Nat} (h : blen D = 128) (h1 : P2 127 ≤ D) (hD : D < P2 128) (hN : N < D * P2 128) : N * nwY D 5 / P2 288 ≤ N / D + 1 ∧ N / D ≤ N * nwY D 5 / P2 288 + 1 := by
  have hk := nw_all h hD 5
  have hup := hk.up
  have hdn := hk.dn
  rw [show 288 - nwp 5 = 96 from rfl] at hup hdn
  have hD0 : 0 < D := Nat.lt_of_lt_of_le (P2_pos _) h1
  have hT := P2_pos 288
  obtain ⟨y, hy⟩ : ∃ y, y = nwY D 5 := ⟨_, rfl⟩
  rw [← hy] at hup hdn ⊢
  have a1 : P2 96 + P2 138 ≤ P2 160 := by
    have : P2 96 ≤ P2 138 := P2_le (by omega)
    have : P2 139 = P2 138 * 2 := P2_twice 138
    have : P2 139 ≤ P2 160 := P2_le (by omega)
    omega
  have a2 : N * P2 160 ≤ D * P2 288 := by
    rw [show P2 288 = P2 128 * P2 160 by rw [← P2_add], ← Nat.mul_assoc]
    exact Nat.mul_le_mul_right _ (Nat.le_of_lt hN)
  have e1 : ((D * y : Nat) : Int) = (D : Int) * (y : Int) := Int.natCast_mul _ _
  rw [← e1] at hup hdn
  have b1 : P2 288 ≤ D * y + P2 160 := by omega
  have b2 : D * y ≤ P2 288 + P2 160 := by omega
  have c1 := Nat.mul_le_mul_left N b1
  have c2 := Nat.mul_le_mul_left N b2
  refine near_quo (Z := N * y) (T := P2 288) (N := N) hD0 (Nat.div_mul_le_self _ _) ?_ (Nat.div_mul_le_self _ _) ?_ ?_ ?_
  · have := Nat.lt_div_mul_add hT (a := N * y)
    rw [Nat.add_mul, Nat.one_mul]; exact this
  · have := Nat.lt_div_mul_add hD0 (a := N)
    rw [Nat.add_mul, Nat.one_mul]; exact this
  · rw [show N * y * D = N * (D * y) by grind]
    rw [Nat.mul_add] at c2
    omega
  · rw [show N * y * D = N * (D * y) by grind]
    rw [Nat.mul_add] at c1
    omega
end Go.Proofs.Ytegmmaaapdgocaa
