/- SEVERAL TEXTS of the seat, one behind the other: each says at its head what it proves. -/
import Derived.Test.YtegmmaaapdgocaaGreatK26
/- PLAIN ARITHMETIC of the law on a rom's guesses: how near they are; numbers made of limbs. -/
namespace Go.Proofs.YtegmmaaapdgocaaGreat
open Go Go.RowKit

theorem P2_rel' (a b : Nat) (c : Nat) (h : a = b + c) : P2 a = P2 c * P2 b := by rw [h, P2_add, Nat.mul_comm]
theorem rcp_near : ∀ i, i < 64 → 64512 ≤ rcpN i * (64 + i) ∧ rcpN i * (65 + i) ≤ 66560 := by decide +kernel
/-- The roots' table. -/
def rtTab : List Nat := [1016, 1000, 986, 972, 958, 945, 933, 921, 910, 899, 888, 878, 868, 858, 849, 840, 831, 823, 815, 807, 799, 791, 784, 777, 770, 763, 757, 750, 744, 738, 732, 726, 721, 715, 710, 705, 699, 694, 689, 685, 680, 675, 671, 666, 662, 657, 653, 649, 645, 641, 637, 633, 630, 626, 622, 619, 615, 612, 608, 605, 602, 599, 595, 592, 589, 586, 583, 580, 577, 574, 572, 569, 566, 563, 561, 558, 556, 553, 551, 548, 546, 543, 541, 538, 536, 534, 532, 529, 527, 525, 523, 521, 519, 517, 515, 513]
theorem rtTab_ok : ∀ i, i < 96 → rtTab.getD i 0 * rtTab.getD i 0 ≤ 67108864 / (2 * (i + 32) + 1) ∧ 67108864 / (2 * (i + 32) + 1) ≤ rtTab.getD i 0 * rtTab.getD i 0 + 2 * rtTab.getD i 0 ∧ 32505856 ≤ rtTab.getD i 0 * rtTab.getD i 0 * (i + 32) ∧ rtTab.getD i 0 * rtTab.getD i 0 * (i + 33) ≤ 34603008 ∧ rtTab.getD i 0 ≤ 1100 := by decide +kernel
theorem rtg_near (i : Nat) (hi : i < 96) : 32505856 ≤ rtgN i * rtgN i * (i + 32) ∧ rtgN i * rtgN i * (i + 33) ≤ 34603008 ∧ rtgN i ≤ 1100 := by
  obtain ⟨h1, h2, h3, h4, h5⟩ := rtTab_ok i hi
  have e : rtgN i = rtTab.getD i 0 := by
    unfold rtgN
    exact rt_unique h1 h2
  rw [e]
  exact ⟨h3, h4, h5⟩
/-- A guess times its divisor is near 1. -/
theorem guess_near {d : Nat} (h : blen d = 128) : 63 * P2 137 ≤ 64 * guessV d * d ∧ 64 * guessV d * d ≤ 65 * P2 137 ∧ guessV d ≤ 131072 := by
  obtain ⟨r1, r2⟩ := high_range h (show 121 < 128 by omega)
  rw [show P2 (128 - 1 - 121) = 64 by rw [P2_eq]] at r1
  rw [show P2 (128 - 121) = 128 by rw [P2_eq]] at r2
  unfold guessV
  rw [if_pos h]
  obtain ⟨i, hi⟩ : ∃ i, d / P2 121 = 64 + i := ⟨d / P2 121 - 64, by omega⟩
  rw [hi, Nat.add_sub_cancel_left]
  obtain ⟨n1, n2⟩ := rcp_near i (by omega)
  have hle : rcpN i ≤ 131072 := by unfold rcpN; exact Nat.div_le_self _ _
  have hp := P2_pos 121
  have d1 : (64 + i) * P2 121 ≤ d := by rw [← hi]; exact Nat.div_mul_le_self _ _
  have d2 : d < (65 + i) * P2 121 := by
    have := Nat.lt_div_mul_add hp (a := d)
    rw [hi] at this
    rw [show 65 + i = 64 + i + 1 by omega, Nat.add_mul _ 1, Nat.one_mul]
    exact this
  have e137 : P2 137 = 65536 * P2 121 := by rw [P2_rel' 137 121 16 rfl, P2_eq 16]
  rw [e137]
  generalize rcpN i = a at *
  generalize P2 121 = T at *
  have m1 : a * ((64 + i) * T) ≤ a * d := Nat.mul_le_mul_left _ d1
  have m2 : a * d ≤ a * ((65 + i) * T) := Nat.mul_le_mul_left _ (Nat.le_of_lt d2)
  rw [← Nat.mul_assoc] at m1 m2
  have m3 : 64512 * T ≤ a * (64 + i) * T := Nat.mul_le_mul_right _ n1
  have m4 : a * (65 + i) * T ≤ 66560 * T := Nat.mul_le_mul_right _ n2
  rw [Nat.mul_assoc 64]
  refine ⟨by omega, by omega, hle⟩
/-- The square of a root's guess times its radicand is near 1. -/
theorem guessR_near {n : Nat} (h : blen n = 255 ∨ blen n = 256) : 31 * P2 274 ≤ 32 * guessRV n * guessRV n * n ∧ 32 * guessRV n * guessRV n * n ≤ 33 * P2 274 ∧ guessRV n ≤ 1100 := by
  have hr : 32 ≤ n / P2 249 ∧ n / P2 249 < 128 := by
    rcases h with hl | hl
    · obtain ⟨r1, r2⟩ := high_range hl (show 249 < 255 by omega)
      rw [show P2 (255 - 1 - 249) = 32 by rw [P2_eq]] at r1
      rw [show P2 (255 - 249) = 64 by rw [P2_eq]] at r2
      omega
    · obtain ⟨r1, r2⟩ := high_range hl (show 249 < 256 by omega)
      rw [show P2 (256 - 1 - 249) = 64 by rw [P2_eq]] at r1
      rw [show P2 (256 - 249) = 128 by rw [P2_eq]] at r2
      omega
  obtain ⟨r1, r2⟩ := hr
  unfold guessRV
  rw [if_pos h]
  obtain ⟨i, hi⟩ : ∃ i, n / P2 249 = i + 32 := ⟨n / P2 249 - 32, by omega⟩
  rw [hi, Nat.add_sub_cancel]
  obtain ⟨n1, n2, n3⟩ := rtg_near i (by omega)
  have hp := P2_pos 249
  have d1 : (i + 32) * P2 249 ≤ n := by rw [← hi]; exact Nat.div_mul_le_self _ _
  have d2 : n < (i + 33) * P2 249 := by
    have := Nat.lt_div_mul_add hp (a := n)
    rw [hi] at this
    rw [show i + 33 = i + 32 + 1 by omega, Nat.add_mul _ 1, Nat.one_mul]
    exact this
  have e274 : P2 274 = 33554432 * P2 249 := by rw [P2_rel' 274 249 25 rfl, P2_eq 25]
  rw [e274]
  generalize rtgN i = b at *
  generalize P2 249 = T at *
  have m1 : b * b * ((i + 32) * T) ≤ b * b * n := Nat.mul_le_mul_left _ d1
  have m2 : b * b * n ≤ b * b * ((i + 33) * T) := Nat.mul_le_mul_left _ (Nat.le_of_lt d2)
  rw [← Nat.mul_assoc] at m1 m2
  have m3 : 32505856 * T ≤ b * b * (i + 32) * T := Nat.mul_le_mul_right _ n1
  have m4 : b * b * (i + 33) * T ≤ 34603008 * T := Nat.mul_le_mul_right _ n2
  rw [Nat.mul_assoc 32 b b, Nat.mul_assoc 32]
  refine ⟨by omega, by omega, n3⟩
end Go.Proofs.YtegmmaaapdgocaaGreat

/- PLAIN ARITHMETIC of engines that go round by round: errors square; a number near a quotient, near a root. No program is walked in this text. -/
namespace Go.Proofs.YtegmmaaapdgocaaGreat
open Go Go.RowKit

theorem P2_tw {a b : Nat} (h : a = b + 1) : P2 a = P2 b * 2 := by subst h; exact P2_twice b
theorem nat_cancel {a b : Nat} (c : Nat) (hc : 0 < c) (h : a * c ≤ b * c) : a ≤ b := Nat.le_of_mul_le_mul_right h hc
/-- An error that squares, but for a little, keeps within a bound that squares, and a rest. -/
theorem quad {T E E' a b a' c : Int} (hT : 0 < T) (h1 : T * E' ≤ E * E + c * T) (h2 : -(E * E + c * T) ≤ T * E') (e1 : E ≤ a + b) (e2 : -(a + b) ≤ E) (hb0 : 0 ≤ b)
    (ha : a * a ≤ T * a') (hb : 2 * (2 * a + b) ≤ T) (hc : 2 * c ≤ b) : E' ≤ a' + b ∧ -(a' + b) ≤ E' := by
  have k1 : E * E ≤ (a + b) * (a + b) := by
    have h := Int.mul_nonneg (show 0 ≤ a + b - E by omega) (show 0 ≤ a + b + E by omega)
    grind
  have k2 : 2 * (2 * a + b) * b ≤ T * b := Int.mul_le_mul_of_nonneg_right hb hb0
  have k3 : 2 * c * T ≤ b * T := Int.mul_le_mul_of_nonneg_right hc (by omega)
  have k4 : E * E + c * T ≤ T * (a' + b) := by grind
  constructor
  · exact Int.le_of_mul_le_mul_left (Int.le_trans h1 k4) hT
  · refine Int.le_of_mul_le_mul_left (a := T) ?_ hT
    rw [Int.mul_neg]
    omega
/-- What is near a quotient, rounded down, isn't away by more than one. -/
theorem near_quo {g q Z T N D : Nat} (hD : 0 < D) (g1 : g * T ≤ Z) (g2 : Z < (g + 1) * T) (q1 : q * D ≤ N) (q2 : N < (q + 1) * D)
    (h1 : Z * D ≤ N * T + D * T) (h2 : N * T ≤ Z * D + D * T) : g ≤ q + 1 ∧ q ≤ g + 1 := by
  have hT : 0 < T := by
    rcases Nat.eq_zero_or_pos T with h | h
    · subst h; omega
    · exact h
  constructor
  · apply Nat.le_of_not_lt
    intro h
    have a1 : (q + 2) * T * D ≤ Z * D := Nat.mul_le_mul_right D (Nat.le_trans (Nat.mul_le_mul_right T h) g1)
    have a2 : (N + 1) * T ≤ (q + 1) * D * T := Nat.mul_le_mul_right T q2
    grind
  · apply Nat.le_of_not_lt
    intro h
    have a1 : (Z + 1) * D ≤ (g + 1) * T * D := Nat.mul_le_mul_right D g2
    have a2 : q * D * T ≤ N * T := Nat.mul_le_mul_right T q1
    have a3 : (g + 2) * (D * T) ≤ q * (D * T) := Nat.mul_le_mul_right _ h
    grind
/-- What is near a root, rounded down, isn't away by more than one. -/
theorem near_root {g s Z U N : Nat} (hs : 1 ≤ s) (g1 : g * U ≤ Z) (g2 : Z < (g + 1) * U) (s1 : s * s ≤ N) (s2 : N ≤ s * s + 2 * s)
    (h1 : Z * Z ≤ N * (U * U) + s * (U * U)) (h2 : N * (U * U) ≤ Z * Z + s * (U * U)) : g ≤ s + 1 ∧ s ≤ g + 1 := by
  have hU : 0 < U := by
    rcases Nat.eq_zero_or_pos U with h | h
    · subst h; omega
    · exact h
  have hUU : 0 < U * U := Nat.mul_pos hU hU
  constructor
  · apply Nat.le_of_not_lt
    intro h
    have a1 : (s + 2) * U ≤ Z := Nat.le_trans (Nat.mul_le_mul_right U h) g1
    have a2 := Nat.mul_le_mul a1 a1
    have a3 : N * (U * U) ≤ (s * s + 2 * s) * (U * U) := Nat.mul_le_mul_right _ s2
    have a4 : 1 * (U * U) ≤ s * (U * U) := Nat.mul_le_mul_right _ hs
    obtain ⟨V, hV⟩ : ∃ V, V = U * U := ⟨_, rfl⟩
    rw [show (s + 2) * U * ((s + 2) * U) = (s * s + 4 * s + 4) * (U * U) by grind] at a2
    rw [← hV] at *
    grind
  · apply Nat.le_of_not_lt
    intro h
    obtain ⟨t, rfl⟩ : ∃ t, s = t + 1 := ⟨s - 1, by omega⟩
    have a1 : Z + 1 ≤ t * U := Nat.le_trans g2 (Nat.mul_le_mul_right U (by omega))
    have a2 := Nat.mul_le_mul a1 a1
    have a3 : (t + 1) * (t + 1) * (U * U) ≤ N * (U * U) := Nat.mul_le_mul_right _ s1
    rw [show t * U * (t * U) = t * t * (U * U) by grind] at a2
    obtain ⟨V, hV⟩ : ∃ V, V = U * U := ⟨_, rfl⟩
    rw [← hV] at *
    grind
end Go.Proofs.YtegmmaaapdgocaaGreat

/- PLAIN ARITHMETIC of a divisor's reciprocal, made better and better. No program is walked in this text. -/
namespace Go.Proofs.YtegmmaaapdgocaaGreat
open Go Go.RowKit

/-- The reciprocal of a divisor that is shifted up, behind k rounds. -/
def nwY (D : Nat) : Nat → Nat
  | 0 => guessV D * P2 151
  | k + 1 => nwY D k * (P2 161 - D * nwY D k / P2 128) / P2 160
theorem nwY_succ (D k : Nat) : nwY D (k + 1) = nwY D k * (P2 161 - D * nwY D k / P2 128) / P2 160 := rfl
/-- How many places are right behind k rounds. -/
def nwp : Nat → Nat
  | 0 => 6
  | k + 1 => if k < 5 then 2 * nwp k else nwp k
theorem nwp_big : ∀ k, 5 ≤ k → nwp k = 192
  | 0, h => absurd h (by decide)
  | k + 1, h => by
    rcases Nat.lt_or_ge k 5 with hk | hk
    · obtain rfl : k = 4 := by omega
      rfl
    · show (if k < 5 then 2 * nwp k else nwp k) = 192
      rw [if_neg (by omega), nwp_big k hk]
theorem nwp_le (k : Nat) : nwp k ≤ 192 ∧ 6 ≤ nwp k := by
  rcases Nat.lt_or_ge k 5 with h | h
  · rcases (show k = 0 ∨ k = 1 ∨ k = 2 ∨ k = 3 ∨ k = 4 by omega) with rfl | rfl | rfl | rfl | rfl <;> decide
  · rw [nwp_big k h]; decide
theorem newt_step {S R D y q r f y' s : Int} (hq : D * y = q * S + r) (hf : f = 2 * R - q) (hy : y * f = y' * R + s) : S * R * (S * R - D * y') = (S * R - D * y) * (S * R - D * y) - D * y * r + D * s * S := by
  subst hf
  have e1 : S * R * (D * y') = S * D * (y * (2 * R - q) - s) := by grind
  have e2 : q * S = D * y - r := by omega
  have e3 : S * D * (y * (2 * R - q) - s) = D * y * (2 * (S * R) - q * S) - S * D * s := by grind
  rw [Int.mul_sub, e1, e3, e2]
  grind
/-- What holds behind k rounds. -/
structure NwK (D k : Nat) : Prop where
  up : (P2 288 : Int) - (D : Int) * (nwY D k : Int) ≤ (P2 (288 - nwp k) : Int) + (P2 138 : Int)
  dn : -((P2 (288 - nwp k) : Int) + (P2 138 : Int)) ≤ (P2 288 : Int) - (D : Int) * (nwY D k : Int)
theorem nw_sizes (k : Nat) : 2 * (2 * P2 (288 - nwp k) + P2 138) ≤ P2 288 := by
  obtain ⟨_, h⟩ := nwp_le k
  have h1 : P2 (288 - nwp k) ≤ P2 282 := P2_le (by omega)
  have h2 : P2 138 ≤ P2 282 := P2_le (by omega)
  have h3 : P2 288 = 64 * P2 282 := by rw [P2_rel' 288 282 6 rfl, P2_eq 6]
  omega
theorem NwK.le {D k : Nat} (h : NwK D k) : 2 * (D * nwY D k) ≤ 3 * P2 288 := by
  have h1 := nw_sizes k
  have h2 := h.dn
  have h3 : ((D * nwY D k : Nat) : Int) = (D : Int) * (nwY D k : Int) := Int.natCast_mul _ _
  omega
theorem NwK.small {D k : Nat} (h : NwK D k) (hD : P2 127 ≤ D) : nwY D k < P2 162 := by
  have h1 := h.le
  apply Nat.lt_of_not_le
  intro h2
  have h3 := Nat.mul_le_mul hD h2
  rw [← P2_add, P2_twice 288] at h3
  have := P2_pos 288
  omega
theorem NwK.less {D k : Nat} (h : NwK D k) : D * nwY D k / P2 128 ≤ P2 161 := by
  have h1 := h.le
  have h2 : P2 289 = P2 161 * P2 128 := by rw [← P2_add]
  have h3 : P2 289 = P2 288 * 2 := P2_tw rfl
  apply Nat.le_of_lt_succ
  rw [Nat.div_lt_iff_lt_mul (P2_pos _), Nat.succ_mul, ← h2]
  have := P2_pos 128
  omega
theorem nw_first {D : Nat} (h : blen D = 128) : NwK D 0 := by
  obtain ⟨h1, h2, _⟩ := guess_near h
  have e1 : P2 288 = 64 * P2 282 := by rw [P2_rel' 288 282 6 rfl, P2_eq 6]
  have e2 : P2 282 = P2 145 * P2 137 := by rw [← P2_add]
  have e3 : D * nwY D 0 = guessV D * D * (64 * P2 145) := by
    show D * (guessV D * P2 151) = _
    rw [P2_rel' 151 145 6 rfl, P2_eq 6]
    grind
  have g1 : 63 * P2 137 * P2 145 ≤ 64 * guessV D * D * P2 145 := Nat.mul_le_mul_right _ h1
  have g2 : 64 * guessV D * D * P2 145 ≤ 65 * P2 137 * P2 145 := Nat.mul_le_mul_right _ h2
  have e4 : ((D * nwY D 0 : Nat) : Int) = (D : Int) * (nwY D 0 : Int) := Int.natCast_mul _ _
  have e5 : 64 * guessV D * D * P2 145 = D * nwY D 0 := by rw [e3]; grind
  have e6 : P2 137 * P2 145 = P2 282 := by rw [← P2_add]
  rw [e5, Nat.mul_assoc, e6] at g1 g2
  have p := P2_pos 138
  constructor
  · rw [← e4]; show _ ≤ ((P2 282 : Nat) : Int) + _; omega
  · rw [← e4]; show -(((P2 282 : Nat) : Int) + _) ≤ _; omega
theorem NwK.next {D k : Nat} (h : NwK D k) (hD : D < P2 128) : NwK D (k + 1) := by
  have hle := h.le
  have hless := h.less
  obtain ⟨p1, p2⟩ := nwp_le k
  have hsz := nw_sizes k
  have eT : P2 288 = P2 128 * P2 160 := by rw [← P2_add]
  have e161 : P2 161 = 2 * P2 160 := by rw [P2_twice, Nat.mul_comm]
  have e129 : P2 138 = 1024 * P2 128 := by rw [P2_rel' 138 128 10 rfl, P2_eq 10]
  have hup := h.up
  have hdn := h.dn
  have hS := P2_pos 128
  have hR := P2_pos 160
  have hpa : P2 (288 - nwp k) * P2 (288 - nwp k) ≤ P2 288 * P2 (288 - nwp (k + 1)) := by
    rw [← P2_add, ← P2_add]
    rcases Nat.lt_or_ge k 5 with hk | hk
    · have : nwp (k + 1) = 2 * nwp k := by show (if k < 5 then 2 * nwp k else nwp k) = _; rw [if_pos hk]
      have : nwp k ≤ 96 := by rcases (show k = 0 ∨ k = 1 ∨ k = 2 ∨ k = 3 ∨ k = 4 by omega) with rfl | rfl | rfl | rfl | rfl <;> decide
      exact P2_le (by omega)
    · rw [nwp_big k hk, nwp_big (k + 1) (by omega)]; exact P2_le (by omega)
  have m1 := Nat.div_add_mod (D * nwY D k) (P2 128)
  have l1 := Nat.mod_lt (D * nwY D k) hS
  have m2 := Nat.div_add_mod (nwY D k * (P2 161 - D * nwY D k / P2 128)) (P2 160)
  have l2 := Nat.mod_lt (nwY D k * (P2 161 - D * nwY D k / P2 128)) hR
  rw [← nwY_succ] at m2
  obtain ⟨q, hq⟩ : ∃ q, q = D * nwY D k / P2 128 := ⟨_, rfl⟩
  obtain ⟨r, hr⟩ : ∃ q, q = D * nwY D k % P2 128 := ⟨_, rfl⟩
  rw [← hq] at m1 m2 l2 hless
  rw [← hr] at m1 l1
  obtain ⟨f, hf⟩ : ∃ f, f = P2 161 - q := ⟨_, rfl⟩
  rw [← hf] at m2 l2
  obtain ⟨s, hs⟩ : ∃ q, q = nwY D k * f % P2 160 := ⟨_, rfl⟩
  rw [← hs] at m2 l2
  have step := newt_step (S := (P2 128 : Int)) (R := (P2 160 : Int)) (D := (D : Int)) (y := (nwY D k : Int)) (q := (q : Int)) (r := (r : Int)) (f := (f : Int)) (y' := (nwY D (k + 1) : Int)) (s := (s : Int))
    (by rw [← Int.natCast_mul, ← m1, Int.mul_comm (q : Int)]; push_cast; rfl) (by omega) (by rw [← Int.natCast_mul, ← m2, Int.mul_comm (nwY D (k + 1) : Int)]; push_cast; rfl)
  have eTi : (P2 288 : Int) = (P2 128 : Int) * (P2 160 : Int) := by rw [eT, Int.natCast_mul]
  rw [← eTi] at step
  -- how much is lost
  have x1 : D * nwY D k * r ≤ 2 * P2 288 * P2 128 := Nat.mul_le_mul (by omega) (by omega)
  have x2 : D * s * P2 128 ≤ P2 128 * P2 160 * P2 128 := Nat.mul_le_mul_right _ (Nat.mul_le_mul (by omega) (by omega))
  rw [← eT] at x2
  have y1 : ((D * nwY D k * r : Nat) : Int) = (D : Int) * (nwY D k : Int) * (r : Int) := by push_cast; rfl
  have y2 : ((D * s * P2 128 : Nat) : Int) = (D : Int) * (s : Int) * (P2 128 : Int) := by push_cast; rfl
  have y3 : ((P2 288 * P2 128 : Nat) : Int) = (P2 128 : Int) * (P2 288 : Int) := by push_cast; exact Int.mul_comm _ _
  rw [Nat.mul_assoc 2] at x1
  rw [← y1, ← y2] at step
  have hsq : 0 ≤ ((P2 288 : Int) - (D : Int) * (nwY D k : Int)) * ((P2 288 : Int) - (D : Int) * (nwY D k : Int)) := by
    rcases Int.le_total 0 ((P2 288 : Int) - (D : Int) * (nwY D k : Int)) with h | h
    · exact Int.mul_nonneg h h
    · exact Int.mul_nonneg_of_nonpos_of_nonpos h h
  have hquad := quad (T := (P2 288 : Int)) (E := (P2 288 : Int) - (D : Int) * (nwY D k : Int)) (E' := (P2 288 : Int) - (D : Int) * (nwY D (k + 1) : Int)) (a := (P2 (288 - nwp k) : Int)) (b := (P2 138 : Int)) (a' := (P2 (288 - nwp (k + 1)) : Int)) (c := 2 * (P2 128 : Int))
    (by have := P2_pos 288; omega)
    (by rw [step, Int.mul_assoc 2, ← y3]; omega)
    (by rw [step, Int.mul_assoc 2, ← y3]; omega)
    hup hdn (by omega) (by rw [← Int.natCast_mul, ← Int.natCast_mul]; exact Int.ofNat_le.2 hpa) (by omega) (by omega)
  exact ⟨hquad.1, hquad.2⟩
theorem nw_all {D : Nat} (h : blen D = 128) (hD : D < P2 128) : ∀ k, NwK D k
  | 0 => nw_first h
  | k + 1 => (nw_all h hD k).next hD
/-- The guess for a quotient isn't away from it by more than one. -/
theorem nw_guess {N D : Nat} (h : blen D = 128) (h1 : P2 127 ≤ D) (hD : D < P2 128) (hN : N < D * P2 128) : N * nwY D 5 / P2 288 ≤ N / D + 1 ∧ N / D ≤ N * nwY D 5 / P2 288 + 1 := by
  have hk := nw_all h hD 5
  have hup := hk.up
  have hdn := hk.dn
  rw [show 288 - nwp 5 = 96 from rfl] at hup hdn
  have hD0 : 0 < D := Nat.lt_of_lt_of_le (P2_pos _) h1
  have hT := P2_pos 288
  obtain ⟨y, hy⟩ : ∃ y, y = nwY D 5 := ⟨_, rfl⟩
  rw [← hy] at hup hdn ⊢
  have a1 : P2 96 + P2 138 ≤ P2 160 := by
    have : P2 96 ≤ P2 138 := P2_le (by omega)
    have : P2 139 = P2 138 * 2 := P2_twice 138
    have : P2 139 ≤ P2 160 := P2_le (by omega)
    omega
  have a2 : N * P2 160 ≤ D * P2 288 := by
    rw [show P2 288 = P2 128 * P2 160 by rw [← P2_add], ← Nat.mul_assoc]
    exact Nat.mul_le_mul_right _ (Nat.le_of_lt hN)
  have e1 : ((D * y : Nat) : Int) = (D : Int) * (y : Int) := Int.natCast_mul _ _
  rw [← e1] at hup hdn
  have b1 : P2 288 ≤ D * y + P2 160 := by omega
  have b2 : D * y ≤ P2 288 + P2 160 := by omega
  have c1 := Nat.mul_le_mul_left N b1
  have c2 := Nat.mul_le_mul_left N b2
  refine near_quo (Z := N * y) (T := P2 288) (N := N) hD0 (Nat.div_mul_le_self _ _) ?_ (Nat.div_mul_le_self _ _) ?_ ?_ ?_
  · have := Nat.lt_div_mul_add hT (a := N * y)
    rw [Nat.add_mul, Nat.one_mul]; exact this
  · have := Nat.lt_div_mul_add hD0 (a := N)
    rw [Nat.add_mul, Nat.one_mul]; exact this
  · rw [show N * y * D = N * (D * y) by grind]
    rw [Nat.mul_add] at c2
    omega
  · rw [show N * y * D = N * (D * y) by grind]
    rw [Nat.mul_add] at c1
    omega
end Go.Proofs.YtegmmaaapdgocaaGreat

/- PLAIN ARITHMETIC of the reciprocal of a root, made better and better. No program is walked in this text. -/
namespace Go.Proofs.YtegmmaaapdgocaaGreat
open Go Go.RowKit

/-- The reciprocal of the root of a number that is shifted up, behind k rounds. -/
def nrY (U : Nat) : Nat → Nat
  | 0 => guessRV U * P2 151
  | k + 1 => nrY U k * (P2 161 + P2 160 - U * (nrY U k * nrY U k / P2 160) / P2 256) / P2 161
theorem nrY_succ (U k : Nat) : nrY U (k + 1) = nrY U k * (P2 161 + P2 160 - U * (nrY U k * nrY U k / P2 160) / P2 256) / P2 161 := rfl
/-- How far behind the point the error begins. -/
def nrp : Nat → Nat
  | 0 => 5
  | k + 1 => if k < 5 then 2 * nrp k else nrp k
theorem nrp_big : ∀ k, 5 ≤ k → nrp k = 160
  | 0, h => absurd h (by decide)
  | k + 1, h => by
    rcases Nat.lt_or_ge k 5 with hk | hk
    · obtain rfl : k = 4 := by omega
      rfl
    · show (if k < 5 then 2 * nrp k else nrp k) = 160
      rw [if_neg (by omega), nrp_big k hk]
theorem nrp_le (k : Nat) : nrp k ≤ 160 ∧ 5 ≤ nrp k := by
  rcases Nat.lt_or_ge k 5 with h | h
  · rcases (show k = 0 ∨ k = 1 ∨ k = 2 ∨ k = 3 ∨ k = 4 by omega) with rfl | rfl | rfl | rfl | rfl <;> decide
  · rw [nrp_big k h]; decide
/-- One round, in numbers: what is lost is d. -/
theorem nwtr_id {U y y' T E d : Int} (hE : E = T - U * (y * y)) (hy : y' * (2 * T) = y * (2 * T + E) + d) :
    4 * (T * T) * (T - U * (y' * y')) = 3 * T * (E * E) + E * E * E - (2 * (U * y) * (2 * T + E) * d + U * (d * d)) := by
  have h1 : 4 * (T * T) * (U * (y' * y')) = U * ((y' * (2 * T)) * (y' * (2 * T))) := by grind
  have h2 : U * (y * y) = T - E := by omega
  have h3 : U * ((y * (2 * T + E) + d) * (y * (2 * T + E) + d)) = U * (y * y) * ((2 * T + E) * (2 * T + E)) + (2 * (U * y) * (2 * T + E) * d + U * (d * d)) := by grind
  rw [Int.mul_sub, h1, hy, h3, h2]
  grind
/-- A round of a root: the error squares, but for a little. -/
theorem root_round {T E E' D C : Int} (hT : 0 < T) (hE1 : E ≤ T) (hE2 : -T ≤ E) (h : 4 * (T * T) * E' = 3 * T * (E * E) + E * E * E - D) (hD1 : D ≤ 4 * C * (T * T)) (hD2 : -(4 * C * (T * T)) ≤ D) :
    T * E' ≤ E * E + C * T ∧ -(E * E + C * T) ≤ T * E' := by
  have p : 0 ≤ E * E := by
    rcases Int.le_total 0 E with h | h
    · exact Int.mul_nonneg h h
    · exact Int.mul_nonneg_of_nonpos_of_nonpos h h
  have k1 := Int.mul_nonneg p (show 0 ≤ T - E by omega)
  have k2 := Int.mul_nonneg p (show 0 ≤ T + E by omega)
  have k3 := Int.mul_nonneg p (show 0 ≤ T by omega)
  have e1 : 4 * T * (T * E') = 4 * (T * T) * E' := by grind
  have g1 : 4 * T * (T * E') ≤ 4 * T * (E * E + C * T) := by rw [e1, h]; grind
  have g2 : 4 * T * -(E * E + C * T) ≤ 4 * T * (T * E') := by rw [e1, h]; grind
  exact ⟨Int.le_of_mul_le_mul_left g1 (by omega), Int.le_of_mul_le_mul_left g2 (by omega)⟩
/-- What holds behind k rounds. -/
structure NrK (U k : Nat) : Prop where
  up : (P2 576 : Int) - (U : Int) * ((nrY U k : Int) * (nrY U k : Int)) ≤ (P2 (576 - nrp k) : Int) + (P2 430 : Int)
  dn : -((P2 (576 - nrp k) : Int) + (P2 430 : Int)) ≤ (P2 576 : Int) - (U : Int) * ((nrY U k : Int) * (nrY U k : Int))
theorem nr_sizes (k : Nat) : 4 * (2 * P2 (576 - nrp k) + P2 430) ≤ P2 576 := by
  obtain ⟨_, h⟩ := nrp_le k
  have h1 : P2 (576 - nrp k) ≤ P2 571 := P2_le (by omega)
  have h2 : P2 430 ≤ P2 571 := P2_le (by omega)
  have h3 : P2 576 = 32 * P2 571 := by rw [P2_rel' 576 571 5 rfl, P2_eq 5]
  omega
theorem NrK.le {U k : Nat} (h : NrK U k) : 2 * (U * (nrY U k * nrY U k)) ≤ 3 * P2 576 := by
  have h1 := nr_sizes k
  have h2 := h.dn
  have h3 : ((U * (nrY U k * nrY U k) : Nat) : Int) = (U : Int) * ((nrY U k : Int) * (nrY U k : Int)) := by push_cast; rfl
  omega
theorem NrK.small {U k : Nat} (h : NrK U k) (hU : P2 254 ≤ U) : nrY U k < P2 162 := by
  have h1 := h.le
  apply Nat.lt_of_not_le
  intro h2
  have h3 := Nat.mul_le_mul hU (Nat.mul_le_mul h2 h2)
  rw [← P2_add, ← P2_add, show 254 + (162 + 162) = 576 + 2 from rfl, P2_add, show P2 2 = 4 by rw [P2_eq]] at h3
  have := P2_pos 576
  omega
/-- What is taken from 3 isn't above it. -/
theorem NrK.less {U k : Nat} (h : NrK U k) : U * (nrY U k * nrY U k / P2 160) / P2 256 ≤ P2 161 := by
  have h1 := h.le
  have h2 : P2 577 = P2 161 * P2 256 * P2 160 := by rw [← P2_add, ← P2_add]
  have h3 := P2_twice 576
  have h4 : U * (nrY U k * nrY U k / P2 160) / P2 256 * P2 256 ≤ U * (nrY U k * nrY U k / P2 160) := Nat.div_mul_le_self _ _
  have h5 : U * (nrY U k * nrY U k / P2 160) * P2 160 ≤ U * (nrY U k * nrY U k) := by rw [Nat.mul_assoc]; exact Nat.mul_le_mul_left _ (Nat.div_mul_le_self _ _)
  have h6 := Nat.mul_le_mul_right (P2 160) h4
  have h7 : U * (nrY U k * nrY U k / P2 160) / P2 256 * P2 256 * P2 160 ≤ P2 161 * P2 256 * P2 160 := by
    have : P2 577 = P2 576 * 2 := P2_twice 576
    omega
  exact Nat.le_of_mul_le_mul_right (Nat.le_of_mul_le_mul_right h7 (P2_pos _)) (P2_pos 256)
theorem nr_first {U : Nat} (h : blen U = 255 ∨ blen U = 256) : NrK U 0 := by
  obtain ⟨h1, h2, _⟩ := guessR_near h
  have e1 : P2 576 = 32 * P2 571 := by rw [P2_rel' 576 571 5 rfl, P2_eq 5]
  have e3 : U * (nrY U 0 * nrY U 0) = 32 * guessRV U * guessRV U * U * P2 297 := by
    show U * (guessRV U * P2 151 * (guessRV U * P2 151)) = _
    rw [show guessRV U * P2 151 * (guessRV U * P2 151) = guessRV U * guessRV U * (P2 151 * P2 151) by grind, ← P2_add, P2_rel' (151 + 151) 297 5 rfl, P2_eq 5]
    grind
  have e6 : P2 274 * P2 297 = P2 571 := by rw [← P2_add]
  have g1 := Nat.mul_le_mul_right (P2 297) h1
  have g2 := Nat.mul_le_mul_right (P2 297) h2
  rw [← e3, Nat.mul_assoc, e6] at g1 g2
  have e4 : ((U * (nrY U 0 * nrY U 0) : Nat) : Int) = (U : Int) * ((nrY U 0 : Int) * (nrY U 0 : Int)) := by push_cast; rfl
  have p := P2_pos 430
  constructor
  · rw [← e4]; show _ ≤ ((P2 571 : Nat) : Int) + _; omega
  · rw [← e4]; show -(((P2 571 : Nat) : Int) + _) ≤ _; omega
theorem NrK.next {U k : Nat} (h : NrK U k) (hU0 : P2 254 ≤ U) (hU : U < P2 256) : NrK U (k + 1) := by
  have hle := h.le
  have hless := h.less
  have hsm := h.small hU0
  obtain ⟨p1, p2⟩ := nrp_le k
  have hsz := nr_sizes k
  have hup := h.up
  have hdn := h.dn
  have eT : P2 576 = P2 160 * P2 256 * P2 160 := by rw [← P2_add, ← P2_add]
  have e161 : P2 161 = 2 * P2 160 := by rw [P2_twice, Nat.mul_comm]
  have e162 : P2 162 = 4 * P2 160 := by rw [P2_twice, P2_twice]; omega
  have e430 : P2 430 = 256 * (64 * (P2 160 * P2 256)) := by rw [show 430 = 8 + (6 + (160 + 256)) from rfl, P2_add, P2_add, P2_add, P2_eq 8, P2_eq 6]
  have hW := P2_pos 256
  have hR := P2_pos 160
  have hpa : P2 (576 - nrp k) * P2 (576 - nrp k) ≤ P2 576 * P2 (576 - nrp (k + 1)) := by
    rw [← P2_add, ← P2_add]
    rcases Nat.lt_or_ge k 5 with hk | hk
    · have : nrp (k + 1) = 2 * nrp k := by show (if k < 5 then 2 * nrp k else nrp k) = _; rw [if_pos hk]
      have : nrp k ≤ 80 := by rcases (show k = 0 ∨ k = 1 ∨ k = 2 ∨ k = 3 ∨ k = 4 by omega) with rfl | rfl | rfl | rfl | rfl <;> decide
      exact P2_le (by omega)
    · rw [nrp_big k hk, nrp_big (k + 1) (by omega)]; exact P2_le (by omega)
  have m1 := Nat.div_add_mod (nrY U k * nrY U k) (P2 160)
  have l1 := Nat.mod_lt (nrY U k * nrY U k) hR
  have m2 := Nat.div_add_mod (U * (nrY U k * nrY U k / P2 160)) (P2 256)
  have l2 := Nat.mod_lt (U * (nrY U k * nrY U k / P2 160)) hW
  have m3 := Nat.div_add_mod (nrY U k * (P2 161 + P2 160 - U * (nrY U k * nrY U k / P2 160) / P2 256)) (P2 161)
  have l3 := Nat.mod_lt (nrY U k * (P2 161 + P2 160 - U * (nrY U k * nrY U k / P2 160) / P2 256)) (P2_pos 161)
  rw [← nrY_succ] at m3
  obtain ⟨sq, hsq⟩ : ∃ q, q = nrY U k * nrY U k / P2 160 := ⟨_, rfl⟩
  obtain ⟨r1, hr1⟩ : ∃ q, q = nrY U k * nrY U k % P2 160 := ⟨_, rfl⟩
  rw [← hsq] at m1 m2 m3 l2 l3 hless
  rw [← hr1] at m1 l1
  obtain ⟨t, ht⟩ : ∃ q, q = U * sq / P2 256 := ⟨_, rfl⟩
  obtain ⟨r2, hr2⟩ : ∃ q, q = U * sq % P2 256 := ⟨_, rfl⟩
  rw [← ht] at m2 m3 l3 hless
  rw [← hr2] at m2 l2
  obtain ⟨f, hf⟩ : ∃ f, f = P2 161 + P2 160 - t := ⟨_, rfl⟩
  rw [← hf] at m3 l3
  obtain ⟨s, hs⟩ : ∃ q, q = nrY U k * f % P2 161 := ⟨_, rfl⟩
  rw [← hs] at m3 l3
  obtain ⟨y, hy⟩ : ∃ y, y = nrY U k := ⟨_, rfl⟩
  obtain ⟨y', hy'⟩ : ∃ y, y = nrY U (k + 1) := ⟨_, rfl⟩
  rw [← hy] at hle hup hdn m1 m3 hsm
  rw [← hy'] at m3
  obtain ⟨R, hRe⟩ : ∃ R, R = P2 160 := ⟨_, rfl⟩
  obtain ⟨W, hWe⟩ : ∃ R, R = P2 256 := ⟨_, rfl⟩
  obtain ⟨T, hTe⟩ : ∃ R, R = P2 576 := ⟨_, rfl⟩
  obtain ⟨B, hBe⟩ : ∃ R, R = P2 430 := ⟨_, rfl⟩
  obtain ⟨A, hAe⟩ : ∃ R, R = P2 (576 - nrp k) := ⟨_, rfl⟩
  obtain ⟨A', hAe'⟩ : ∃ R, R = P2 (576 - nrp (k + 1)) := ⟨_, rfl⟩
  suffices hG : (T : Int) - (U : Int) * ((y' : Int) * (y' : Int)) ≤ (A' : Int) + (B : Int) ∧ -((A' : Int) + (B : Int)) ≤ (T : Int) - (U : Int) * ((y' : Int) * (y' : Int)) by
    rw [hTe, hBe, hAe', hy'] at hG
    exact ⟨hG.1, hG.2⟩
  rw [← hRe] at eT e161 e162 e430 hR m1 l1
  rw [← hWe] at eT e430 hW m2 l2 hU
  rw [← hTe] at eT hle hup hdn hsz hpa
  rw [← hBe] at e430 hup hdn hsz
  rw [← hAe] at hup hdn hsz hpa
  rw [← hAe'] at hpa
  rw [e161] at m3 l3 hless hf
  rw [e162] at hsm
  rw [← hRe] at hf
  clear hsq hr1 ht hr2 hs hy hy' hRe hWe hTe hBe hAe hAe' h p1 p2 hU0 e161 e162
  -- what is lost
  have d1 : U * r1 ≤ W * R := Nat.mul_le_mul (by omega) (by omega)
  have d2 : r2 * R ≤ W * R := Nat.mul_le_mul_right _ (by omega)
  have d3 : y * (r2 * R + U * r1) ≤ 4 * R * (2 * (W * R)) := Nat.mul_le_mul (by omega) (by omega)
  have d4 : s * (R * W) ≤ 2 * R * (R * W) := Nat.mul_le_mul_right _ (by omega)
  have d5 : U * y ≤ W * (4 * R) := Nat.mul_le_mul (by omega) (by omega)
  have hTi : (T : Int) = (R : Int) * (W : Int) * (R : Int) := by rw [eT]; push_cast; rfl
  have hEd : ∃ d : Int, (y' : Int) * (2 * (T : Int)) = (y : Int) * (2 * (T : Int) + ((T : Int) - (U : Int) * ((y : Int) * (y : Int)))) + d ∧ d ≤ 8 * (T : Int) ∧ -(8 * (T : Int)) ≤ d := by
    refine ⟨((y * (r2 * R + U * r1) : Nat) : Int) - ((s * (R * W) : Nat) : Int), ?_, ?_, ?_⟩
    · have n1 : (y : Int) * (y : Int) = (R : Int) * (sq : Int) + (r1 : Int) := by rw [← Int.natCast_mul, ← m1]; push_cast; rfl
      have n2 : (U : Int) * (sq : Int) = (W : Int) * (t : Int) + (r2 : Int) := by rw [← Int.natCast_mul, ← m2]; push_cast; rfl
      have n3 : (y : Int) * (f : Int) = 2 * (R : Int) * (y' : Int) + (s : Int) := by rw [← Int.natCast_mul, ← m3]; push_cast; rfl
      have n4 : (f : Int) = 3 * (R : Int) - (t : Int) := by omega
      push_cast
      rw [hTi]
      have n5 : (U : Int) * ((y : Int) * (y : Int)) = (R : Int) * ((W : Int) * (t : Int) + (r2 : Int)) + (U : Int) * (r1 : Int) := by rw [n1, Int.mul_add, ← n2]; grind
      have n6 : (y' : Int) * (2 * ((R : Int) * (W : Int) * (R : Int))) = ((y : Int) * (f : Int) - (s : Int)) * ((R : Int) * (W : Int)) := by rw [n3]; grind
      rw [n6, n5, n4]
      grind
    · have : y * (r2 * R + U * r1) ≤ 8 * T := by rw [eT]; grind
      omega
    · have : s * (R * W) ≤ 8 * T := by rw [eT]; grind
      omega
  obtain ⟨d, hd, hd1, hd2⟩ := hEd
  have hid := nwtr_id (U := (U : Int)) (y := (y : Int)) (y' := (y' : Int)) (T := (T : Int)) rfl hd
  have hT0 : 0 < T := by rw [eT]; exact Nat.mul_pos (Nat.mul_pos hR hW) hR
  obtain ⟨E, hE⟩ : ∃ E, E = (T : Int) - (U : Int) * ((y : Int) * (y : Int)) := ⟨_, rfl⟩
  rw [← hE] at hid hup hdn
  have hEu : E ≤ (T : Int) := by omega
  have hEd : -(T : Int) ≤ E := by omega
  -- the rest of the round is small
  have b0 : ((U * y : Nat) : Int) = (U : Int) * (y : Int) := Int.natCast_mul _ _
  have b1 : ∀ x : Int, x ≤ 8 * (T : Int) → -(8 * (T : Int)) ≤ x → x * x ≤ 64 * ((T : Int) * (T : Int)) := fun x g1 g2 => by
    have := Int.mul_nonneg (show 0 ≤ 8 * (T : Int) - x by omega) (show 0 ≤ 8 * (T : Int) + x by omega)
    grind
  have b2 := b1 d hd1 hd2
  have b3 : (U : Int) * (d * d) ≤ (W : Int) * (64 * ((T : Int) * (T : Int))) := Int.mul_le_mul (by omega) b2 (by
    rcases Int.le_total 0 d with h | h
    · exact Int.mul_nonneg h h
    · exact Int.mul_nonneg_of_nonpos_of_nonpos h h) (by omega)
  have b4 : (0 : Int) ≤ (U : Int) * (d * d) := Int.mul_nonneg (by omega) (by
    rcases Int.le_total 0 d with h | h
    · exact Int.mul_nonneg h h
    · exact Int.mul_nonneg_of_nonpos_of_nonpos h h)
  have b5 : (0 : Int) ≤ 2 * (T : Int) + E ∧ 2 * (T : Int) + E ≤ 3 * (T : Int) := by omega
  have b6 : (2 * (T : Int) + E) * d ≤ 3 * (T : Int) * (8 * (T : Int)) := by
    have i1 := Int.mul_le_mul_of_nonneg_left hd1 b5.1
    have i2 := Int.mul_le_mul_of_nonneg_right b5.2 (show (0 : Int) ≤ 8 * (T : Int) by omega)
    omega
  have b7 : -(3 * (T : Int) * (8 * (T : Int))) ≤ (2 * (T : Int) + E) * d := by
    have i1 := Int.mul_le_mul_of_nonneg_left hd2 b5.1
    have i2 := Int.mul_le_mul_of_nonneg_right b5.2 (show (0 : Int) ≤ 8 * (T : Int) by omega)
    rw [Int.mul_neg] at i1
    omega
  have hTT : (0 : Int) ≤ (T : Int) * (T : Int) := Int.mul_nonneg (by omega) (by omega)
  have b8 : 2 * ((U : Int) * (y : Int)) * ((2 * (T : Int) + E) * d) ≤ 2 * ((W : Int) * (4 * (R : Int))) * (24 * ((T : Int) * (T : Int))) := by
    have i1 := Int.mul_le_mul_of_nonneg_left b6 (show (0 : Int) ≤ 2 * ((U : Int) * (y : Int)) by omega)
    have i2 := Int.mul_le_mul_of_nonneg_right (show 2 * ((U : Int) * (y : Int)) ≤ 2 * ((W : Int) * (4 * (R : Int))) by have : ((W * (4 * R) : Nat) : Int) = (W : Int) * (4 * (R : Int)) := by push_cast; rfl
                                                                                                                       omega) (show (0 : Int) ≤ 24 * ((T : Int) * (T : Int)) by omega)
    have i3 : 3 * (T : Int) * (8 * (T : Int)) = 24 * ((T : Int) * (T : Int)) := by grind
    rw [i3] at i1
    omega
  have b9 : -(2 * ((W : Int) * (4 * (R : Int))) * (24 * ((T : Int) * (T : Int)))) ≤ 2 * ((U : Int) * (y : Int)) * ((2 * (T : Int) + E) * d) := by
    have i1 := Int.mul_le_mul_of_nonneg_left b7 (show (0 : Int) ≤ 2 * ((U : Int) * (y : Int)) by omega)
    have i2 := Int.mul_le_mul_of_nonneg_right (show 2 * ((U : Int) * (y : Int)) ≤ 2 * ((W : Int) * (4 * (R : Int))) by have : ((W * (4 * R) : Nat) : Int) = (W : Int) * (4 * (R : Int)) := by push_cast; rfl
                                                                                                                       omega) (show (0 : Int) ≤ 24 * ((T : Int) * (T : Int)) by omega)
    have i3 : 3 * (T : Int) * (8 * (T : Int)) = 24 * ((T : Int) * (T : Int)) := by grind
    rw [i3, Int.mul_neg] at i1
    omega
  have hRW : (W : Int) ≤ (W : Int) * (R : Int) := by
    have := Int.mul_le_mul_of_nonneg_left (show (1 : Int) ≤ (R : Int) by omega) (show (0 : Int) ≤ (W : Int) by omega)
    omega
  have b10 := Int.mul_le_mul_of_nonneg_right hRW hTT
  have hround := root_round (T := (T : Int)) (E := E) (E' := (T : Int) - (U : Int) * ((y' : Int) * (y' : Int))) (C := 64 * ((R : Int) * (W : Int))) (by omega) hEu hEd hid (by grind) (by grind)
  exact quad (T := (T : Int)) (E := E) (a := (A : Int)) (b := (B : Int)) (a' := (A' : Int)) (c := 64 * ((R : Int) * (W : Int))) (by omega) hround.1 hround.2 hup hdn (by omega)
    (by rw [← Int.natCast_mul, ← Int.natCast_mul]; exact Int.ofNat_le.2 hpa) (by omega) (by rw [← Int.natCast_mul]; omega)
theorem nr_all {U : Nat} (h : blen U = 255 ∨ blen U = 256) (hU0 : P2 254 ≤ U) (hU : U < P2 256) : ∀ k, NrK U k
  | 0 => nr_first h
  | k + 1 => (nr_all h hU0 hU k).next hU0 hU
/-- The guess for a root isn't away from it by more than one. -/
theorem nr_guess {U : Nat} (h : blen U = 255 ∨ blen U = 256) (hU0 : P2 254 ≤ U) (hU : U < P2 256) : U * nrY U 5 / P2 288 ≤ rtN 2 U + 1 ∧ rtN 2 U ≤ U * nrY U 5 / P2 288 + 1 := by
  have hk := nr_all h hU0 hU 5
  have hup := hk.up
  have hdn := hk.dn
  rw [show 576 - nrp 5 = 416 from rfl] at hup hdn
  obtain ⟨y, hy⟩ : ∃ y, y = nrY U 5 := ⟨_, rfl⟩
  rw [← hy] at hup hdn ⊢
  obtain ⟨s1, s2⟩ := rt_spec 2 U (by decide)
  have s3 : P2 127 ≤ rtN 2 U := (sq_le U _).2 (by rw [← P2_add]; exact hU0)
  rw [sqr] at s1
  rw [sqr] at s2
  obtain ⟨s, hs⟩ : ∃ s, s = rtN 2 U := ⟨_, rfl⟩
  rw [← hs] at s1 s2 s3 ⊢
  have e1 : ((U * (y * y) : Nat) : Int) = (U : Int) * ((y : Int) * (y : Int)) := by push_cast; rfl
  rw [← e1] at hup hdn
  have a1 : P2 416 + P2 430 ≤ P2 440 := by
    have : P2 416 ≤ P2 430 := P2_le (by omega)
    have : P2 431 = P2 430 * 2 := P2_twice 430
    have : P2 431 ≤ P2 440 := P2_le (by omega)
    omega
  have b1 : P2 576 ≤ U * (y * y) + P2 440 := by omega
  have b2 : U * (y * y) ≤ P2 576 + P2 440 := by omega
  have a2 : U * P2 440 ≤ s * P2 576 := by
    have h1 : U * P2 440 ≤ P2 256 * P2 440 := Nat.mul_le_mul_right _ (Nat.le_of_lt hU)
    have h2 : P2 127 * P2 576 ≤ s * P2 576 := Nat.mul_le_mul_right _ s3
    rw [← P2_add] at h1 h2
    have h3 : P2 (256 + 440) ≤ P2 (127 + 576) := P2_le (by omega)
    omega
  have c1 := Nat.mul_le_mul_left U b1
  have c2 := Nat.mul_le_mul_left U b2
  have eU : P2 288 * P2 288 = P2 576 := by rw [← P2_add]
  refine near_root (Z := U * y) (U := P2 288) (N := U) (by have := P2_pos 127; omega) (Nat.div_mul_le_self _ _) ?_ s1 ?_ ?_ ?_
  · have := Nat.lt_div_mul_add (P2_pos 288) (a := U * y)
    rw [Nat.add_mul, Nat.one_mul]; exact this
  · grind
  · rw [show U * y * (U * y) = U * (U * (y * y)) by grind, eU]
    rw [Nat.mul_add] at c2
    omega
  · rw [show U * y * (U * y) = U * (U * (y * y)) by grind, eU]
    rw [Nat.mul_add] at c1
    omega
end Go.Proofs.YtegmmaaapdgocaaGreat

/- PLAIN ARITHMETIC of a numerator and a denominator, the denominator being made 1. No program is walked in this text. -/
namespace Go.Proofs.YtegmmaaapdgocaaGreat
open Go Go.RowKit

/-- The denominator behind k rounds; the numerator. -/
def gdD (D : Nat) : Nat → Nat
  | 0 => D * guessV D * P2 23
  | k + 1 => gdD D k * (P2 161 - gdD D k) / P2 160
def gdM (N D : Nat) : Nat → Nat
  | 0 => N * guessV D / P2 105
  | k + 1 => gdM N D k * (P2 161 - gdD D k) / P2 160
theorem gdD_succ (D k : Nat) : gdD D (k + 1) = gdD D k * (P2 161 - gdD D k) / P2 160 := rfl
theorem gdM_succ (N D k : Nat) : gdM N D (k + 1) = gdM N D k * (P2 161 - gdD D k) / P2 160 := rfl
def gdp : Nat → Nat
  | 0 => 6
  | 1 => 12
  | 2 => 24
  | 3 => 48
  | 4 => 96
  | _ + 5 => 160
theorem gdp_le (k : Nat) : gdp k ≤ 160 ∧ 6 ≤ gdp k := by
  rcases (show k = 0 ∨ k = 1 ∨ k = 2 ∨ k = 3 ∨ k = 4 ∨ ∃ j, k = j + 5 by
    rcases Nat.lt_or_ge k 5 with h | h
    · omega
    · exact Or.inr (Or.inr (Or.inr (Or.inr (Or.inr ⟨k - 5, by omega⟩))))) with rfl | rfl | rfl | rfl | rfl | ⟨j, rfl⟩
  · decide
  · decide
  · decide
  · decide
  · decide
  · show 160 ≤ 160 ∧ 6 ≤ 160; decide
theorem gdp_next (k : Nat) : 160 - gdp k + (160 - gdp k) ≤ 160 + (160 - gdp (k + 1)) := by
  rcases (show k = 0 ∨ k = 1 ∨ k = 2 ∨ k = 3 ∨ k = 4 ∨ ∃ j, k = j + 5 by
    rcases Nat.lt_or_ge k 5 with h | h
    · omega
    · exact Or.inr (Or.inr (Or.inr (Or.inr (Or.inr ⟨k - 5, by omega⟩))))) with rfl | rfl | rfl | rfl | rfl | ⟨j, rfl⟩
  · decide
  · decide
  · decide
  · decide
  · decide
  · have h1 := (gdp_le (j + 5 + 1)).1
    have h2 : gdp (j + 5) = 160 := rfl
    omega
/-- What holds of the denominator behind k rounds. -/
structure GdK (D k : Nat) : Prop where
  up : (P2 160 : Int) - (gdD D k : Int) ≤ (P2 (160 - gdp k) : Int) + 2
  dn : -((P2 (160 - gdp k) : Int) + 2) ≤ (P2 160 : Int) - (gdD D k : Int)
theorem gd_sizes (k : Nat) : 2 * (2 * P2 (160 - gdp k) + 2) ≤ P2 160 ∧ 32 * (P2 (160 - gdp k) + 2) ≤ P2 160 := by
  obtain ⟨_, h⟩ := gdp_le k
  have h1 : P2 (160 - gdp k) ≤ P2 154 := P2_le (by omega)
  have h2 : P2 2 ≤ P2 154 := P2_le (by omega)
  have h4 : P2 10 ≤ P2 154 := P2_le (by omega)
  have h5 : P2 10 = 1024 := by rw [P2_eq]
  have h3 : P2 160 = 64 * P2 154 := by rw [P2_rel' 160 154 6 rfl, P2_eq 6]
  have : P2 2 = 4 := by rw [P2_eq]
  omega
theorem GdK.le {D k : Nat} (h : GdK D k) : gdD D k ≤ P2 161 := by
  have h1 := gd_sizes k
  have h2 := h.dn
  have h3 : P2 161 = P2 160 * 2 := P2_tw rfl
  omega
theorem gd_first {D : Nat} (h : blen D = 128) : GdK D 0 := by
  obtain ⟨h1, h2, _⟩ := guess_near h
  have e1 : P2 160 = 64 * P2 154 := by rw [P2_rel' 160 154 6 rfl, P2_eq 6]
  have e2 : P2 137 * P2 17 = P2 154 := by rw [← P2_add]
  have e3 : gdD D 0 = 64 * guessV D * D * P2 17 := by
    show D * guessV D * P2 23 = _
    rw [P2_rel' 23 17 6 rfl, P2_eq 6]
    grind
  have g1 := Nat.mul_le_mul_right (P2 17) h1
  have g2 := Nat.mul_le_mul_right (P2 17) h2
  rw [← e3, Nat.mul_assoc, e2] at g1 g2
  constructor
  · show _ ≤ ((P2 154 : Nat) : Int) + _; omega
  · show -(((P2 154 : Nat) : Int) + _) ≤ _; omega
theorem GdK.next {D k : Nat} (h : GdK D k) : GdK D (k + 1) := by
  have hle := h.le
  have hsz := (gd_sizes k).1
  have hup := h.up
  have hdn := h.dn
  have hR := P2_pos 160
  have e161 : P2 161 = 2 * P2 160 := by rw [P2_twice, Nat.mul_comm]
  have hpa : P2 (160 - gdp k) * P2 (160 - gdp k) ≤ P2 160 * P2 (160 - gdp (k + 1)) := by
    rw [← P2_add, ← P2_add]; exact P2_le (gdp_next k)
  have m1 := Nat.div_add_mod (gdD D k * (P2 161 - gdD D k)) (P2 160)
  have l1 := Nat.mod_lt (gdD D k * (P2 161 - gdD D k)) hR
  rw [← gdD_succ] at m1
  obtain ⟨f, hf⟩ : ∃ f, f = P2 161 - gdD D k := ⟨_, rfl⟩
  rw [← hf] at m1 l1
  obtain ⟨s, hs⟩ : ∃ x, x = gdD D k * f % P2 160 := ⟨_, rfl⟩
  rw [← hs] at m1 l1
  have n1 : (gdD D k : Int) * (f : Int) = (P2 160 : Int) * (gdD D (k + 1) : Int) + (s : Int) := by rw [← Int.natCast_mul, ← m1]; push_cast; rfl
  have n2 : (f : Int) = 2 * (P2 160 : Int) - (gdD D k : Int) := by omega
  have step : (P2 160 : Int) * ((P2 160 : Int) - (gdD D (k + 1) : Int)) = ((P2 160 : Int) - (gdD D k : Int)) * ((P2 160 : Int) - (gdD D k : Int)) + (s : Int) := by
    rw [n2] at n1
    grind
  have p : 0 ≤ ((P2 160 : Int) - (gdD D k : Int)) * ((P2 160 : Int) - (gdD D k : Int)) := by
    rcases Int.le_total 0 ((P2 160 : Int) - (gdD D k : Int)) with h | h
    · exact Int.mul_nonneg h h
    · exact Int.mul_nonneg_of_nonpos_of_nonpos h h
  have hq := quad (T := (P2 160 : Int)) (E := (P2 160 : Int) - (gdD D k : Int)) (E' := (P2 160 : Int) - (gdD D (k + 1) : Int)) (a := (P2 (160 - gdp k) : Int)) (b := 2) (a' := (P2 (160 - gdp (k + 1)) : Int)) (c := 1)
    (by omega) (by rw [step]; omega) (by rw [step]; omega) hup hdn (by omega) (by rw [← Int.natCast_mul, ← Int.natCast_mul]; exact Int.ofNat_le.2 hpa) (by omega) (by omega)
  exact ⟨hq.1, hq.2⟩
theorem gd_all {D : Nat} (h : blen D = 128) : ∀ k, GdK D k
  | 0 => gd_first h
  | k + 1 => (gd_all h k).next
/-- Numerator and denominator go together: N times the one is B times the other, but for a little. -/
structure GdG (N D k : Nat) : Prop where
  up : (N : Int) * (gdD D k : Int) - (gdM N D k : Int) * ((D * P2 128 : Nat) : Int) ≤ (2 * (k : Int) + 1) * ((D * P2 128 : Nat) : Int)
  dn : -((2 * (k : Int) + 1) * ((D * P2 128 : Nat) : Int)) ≤ (N : Int) * (gdD D k : Int) - (gdM N D k : Int) * ((D * P2 128 : Nat) : Int)
theorem gdg_first (N D : Nat) : GdG N D 0 := by
  have m1 := Nat.div_add_mod (N * guessV D) (P2 105)
  have l1 := Nat.mod_lt (N * guessV D) (P2_pos 105)
  obtain ⟨q, hq⟩ : ∃ q, q = N * guessV D / P2 105 := ⟨_, rfl⟩
  obtain ⟨r, hr⟩ : ∃ q, q = N * guessV D % P2 105 := ⟨_, rfl⟩
  have e0 : gdM N D 0 = q := hq.symm
  have e1 : gdD D 0 = D * guessV D * P2 23 := rfl
  rw [← hq, ← hr] at m1
  rw [← hr] at l1
  have e2 : P2 128 = P2 105 * P2 23 := by rw [← P2_add]
  have e3 : N * (D * guessV D * P2 23) = q * (D * P2 128) + D * P2 23 * r := by
    rw [show N * (D * guessV D * P2 23) = D * P2 23 * (N * guessV D) by grind, ← m1, e2]
    grind
  have e4 : D * P2 23 * r ≤ D * P2 128 := by
    rw [e2, Nat.mul_comm (P2 105), ← Nat.mul_assoc]
    exact Nat.mul_le_mul_left _ (by omega)
  have e5 : ((N * (D * guessV D * P2 23) : Nat) : Int) = ((q * (D * P2 128) : Nat) : Int) + ((D * P2 23 * r : Nat) : Int) := by rw [e3]; exact Int.natCast_add _ _
  rw [Int.natCast_mul N, Int.natCast_mul q] at e5
  have e6 : (0 : Int) ≤ ((D * P2 23 * r : Nat) : Int) := Int.natCast_nonneg _
  have e7 : ((D * P2 23 * r : Nat) : Int) ≤ ((D * P2 128 : Nat) : Int) := Int.ofNat_le.2 e4
  have e8 : (2 * ((0 : Nat) : Int) + 1) * ((D * P2 128 : Nat) : Int) = ((D * P2 128 : Nat) : Int) := by rw [show (2 * ((0 : Nat) : Int) + 1) = 1 from rfl, Int.one_mul]
  obtain ⟨y, hy⟩ : ∃ y, y = ((D * P2 23 * r : Nat) : Int) := ⟨_, rfl⟩
  rw [← hy] at e5 e6 e7
  constructor
  · rw [e0, e1, e5, e8]; omega
  · rw [e0, e1, e5, e8]; omega
theorem GdG.next {N D k : Nat} (h : GdG N D k) (hk : GdK D k) (hk10 : k < 10) (hN : N ≤ D * P2 128) : GdG N D (k + 1) := by
  have hle := hk.le
  have hsz := (gd_sizes k).2
  have kup := hk.up
  have kdn := hk.dn
  have gup := h.up
  have gdn := h.dn
  have hR := P2_pos 160
  have e161 : P2 161 = 2 * P2 160 := by rw [P2_twice, Nat.mul_comm]
  have m1 := Nat.div_add_mod (gdD D k * (P2 161 - gdD D k)) (P2 160)
  have l1 := Nat.mod_lt (gdD D k * (P2 161 - gdD D k)) hR
  rw [← gdD_succ] at m1
  have m2 := Nat.div_add_mod (gdM N D k * (P2 161 - gdD D k)) (P2 160)
  have l2 := Nat.mod_lt (gdM N D k * (P2 161 - gdD D k)) hR
  rw [← gdM_succ] at m2
  obtain ⟨f, hf⟩ : ∃ f, f = P2 161 - gdD D k := ⟨_, rfl⟩
  rw [← hf] at m1 l1 m2 l2
  obtain ⟨s, hs⟩ : ∃ x, x = gdD D k * f % P2 160 := ⟨_, rfl⟩
  obtain ⟨s2, hs2⟩ : ∃ x, x = gdM N D k * f % P2 160 := ⟨_, rfl⟩
  rw [← hs] at m1 l1
  rw [← hs2] at m2 l2
  obtain ⟨B, hB⟩ : ∃ x, x = D * P2 128 := ⟨_, rfl⟩
  rw [← hB] at gup gdn hN
  obtain ⟨R, hRe⟩ : ∃ R, R = P2 160 := ⟨_, rfl⟩
  rw [← hRe] at m1 l1 m2 l2 hR kup kdn hsz e161
  obtain ⟨d, hd⟩ : ∃ x, x = gdD D k := ⟨_, rfl⟩
  obtain ⟨n, hn⟩ : ∃ x, x = gdM N D k := ⟨_, rfl⟩
  rw [← hd] at m1 kup kdn gup gdn hf hle
  rw [← hn] at m2 gup gdn
  suffices hG : (N : Int) * (gdD D (k + 1) : Int) - (gdM N D (k + 1) : Int) * (B : Int) ≤ (2 * (k : Int) + 3) * (B : Int) ∧ -((2 * (k : Int) + 3) * (B : Int)) ≤ (N : Int) * (gdD D (k + 1) : Int) - (gdM N D (k + 1) : Int) * (B : Int) by
    have hk1 : 2 * ((k + 1 : Nat) : Int) + 1 = 2 * (k : Int) + 3 := by omega
    constructor
    · rw [hk1, ← hB]; exact hG.1
    · rw [hk1, ← hB]; exact hG.2
  obtain ⟨d', hd'⟩ : ∃ x, x = gdD D (k + 1) := ⟨_, rfl⟩
  obtain ⟨n', hn'⟩ : ∃ x, x = gdM N D (k + 1) := ⟨_, rfl⟩
  rw [← hd'] at m1 ⊢
  rw [← hn'] at m2 ⊢
  obtain ⟨A, hA⟩ : ∃ A, A = P2 (160 - gdp k) := ⟨_, rfl⟩
  rw [← hA] at kup kdn hsz
  clear hs hs2 hB hRe hd hn hd' hn' hA h hk
  have n1 : (d : Int) * (f : Int) = (R : Int) * (d' : Int) + (s : Int) := by rw [← Int.natCast_mul, ← m1]; push_cast; rfl
  have n2 : (n : Int) * (f : Int) = (R : Int) * (n' : Int) + (s2 : Int) := by rw [← Int.natCast_mul, ← m2]; push_cast; rfl
  have n3 : (f : Int) = 2 * (R : Int) - (d : Int) := by omega
  obtain ⟨G, hG⟩ : ∃ G, G = (N : Int) * (d : Int) - (n : Int) * (B : Int) := ⟨_, rfl⟩
  rw [← hG] at gup gdn
  have step : (R : Int) * ((N : Int) * (d' : Int) - (n' : Int) * (B : Int)) = (f : Int) * G - (N : Int) * (s : Int) + (s2 : Int) * (B : Int) := by
    have e1 : (R : Int) * (d' : Int) = (d : Int) * (f : Int) - (s : Int) := by omega
    have e2 : (R : Int) * (n' : Int) = (n : Int) * (f : Int) - (s2 : Int) := by omega
    rw [Int.mul_sub, Int.mul_left_comm, e1, ← Int.mul_assoc, e2, hG]
    grind
  -- bounds
  have x1 : N * s ≤ B * R := Nat.mul_le_mul hN (by omega)
  have x2 : s2 * B ≤ R * B := Nat.mul_le_mul_right _ (by omega)
  have y1 : ((N * s : Nat) : Int) = (N : Int) * (s : Int) := Int.natCast_mul _ _
  have y2 : ((s2 * B : Nat) : Int) = (s2 : Int) * (B : Int) := Int.natCast_mul _ _
  have y3 : ((R * B : Nat) : Int) = (R : Int) * (B : Int) := Int.natCast_mul _ _
  rw [Nat.mul_comm B R] at x1
  rw [← y1, ← y2] at step
  obtain ⟨m, hm⟩ : ∃ m, m = 2 * (k : Int) + 1 := ⟨_, rfl⟩
  rw [← hm] at gup gdn
  have hm2 : 2 * (k : Int) + 3 = m + 2 := by omega
  rw [hm2]
  have hmB : 0 ≤ m * (B : Int) := Int.mul_nonneg (by omega) (by omega)
  have f0 : (0 : Int) ≤ (f : Int) := by omega
  have i1 := Int.mul_le_mul_of_nonneg_left gup f0
  have i2 := Int.mul_le_mul_of_nonneg_left gdn f0
  have hfm : (f : Int) * m ≤ (R : Int) * (m + 1) := by
    have h1 : (f : Int) ≤ (R : Int) + ((A : Int) + 2) := by omega
    have h2 := Int.mul_le_mul_of_nonneg_right h1 (show 0 ≤ m by omega)
    have h3 := Int.mul_le_mul_of_nonneg_left (show m ≤ 32 by omega) (show (0 : Int) ≤ (A : Int) + 2 by omega)
    have h4 : ((R : Int) + ((A : Int) + 2)) * m = (R : Int) * m + ((A : Int) + 2) * m := by grind
    rw [Int.mul_add, Int.mul_one]
    omega
  have i3 := Int.mul_le_mul_of_nonneg_right hfm (show (0 : Int) ≤ (B : Int) by omega)
  have i4 : (f : Int) * (m * (B : Int)) = (f : Int) * m * (B : Int) := by grind
  have i5 : (R : Int) * (m + 1) * (B : Int) + (R : Int) * (B : Int) = (R : Int) * ((m + 2) * (B : Int)) := by grind
  rw [Int.mul_neg] at i2
  rw [i4] at i1 i2
  constructor
  · refine Int.le_of_mul_le_mul_left (a := (R : Int)) ?_ (by omega)
    rw [step, ← i5]
    omega
  · refine Int.le_of_mul_le_mul_left (a := (R : Int)) ?_ (by omega)
    rw [step, Int.mul_neg, ← i5]
    omega
theorem gdg_all {N D : Nat} (h : blen D = 128) (hN : N ≤ D * P2 128) : ∀ k, k ≤ 10 → GdG N D k
  | 0, _ => gdg_first N D
  | k + 1, hk => (gdg_all h hN k (by omega)).next (gd_all h k) (by omega) hN
theorem gdM_small {N D k : Nat} (h : blen D = 128) (hN : N ≤ D * P2 128) (hk : k ≤ 10) (hD : 0 < D) : gdM N D k < P2 162 := by
  have h1 := (gdg_all h hN k hk).dn
  have h2 := (gd_all h k).le
  have hB : 0 < D * P2 128 := Nat.mul_pos hD (P2_pos _)
  obtain ⟨B, hBe⟩ : ∃ x, x = D * P2 128 := ⟨_, rfl⟩
  rw [← hBe] at h1 hN hB
  have h3 : N * gdD D k ≤ B * P2 161 := Nat.mul_le_mul hN h2
  have h4 : ((N * gdD D k : Nat) : Int) = (N : Int) * (gdD D k : Int) := Int.natCast_mul _ _
  have h5 : ((gdM N D k * B : Nat) : Int) = (gdM N D k : Int) * (B : Int) := Int.natCast_mul _ _
  have h6 : (2 * (k : Int) + 1) * (B : Int) ≤ 21 * (B : Int) := Int.mul_le_mul_of_nonneg_right (by omega) (by omega)
  rw [← h4, ← h5] at h1
  have h7 : gdM N D k * B ≤ B * P2 161 + 21 * B := by omega
  have h8 : P2 162 = P2 161 * 2 := P2_twice 161
  have h9 : P2 5 ≤ P2 161 := P2_le (by omega)
  have h10 : P2 5 = 32 := by rw [P2_eq]
  apply Nat.lt_of_not_le
  intro h
  have h11 := Nat.mul_le_mul_right B h
  have h12 : 32 * B ≤ P2 161 * B := Nat.mul_le_mul_right B (by omega)
  rw [h8, Nat.mul_comm (P2 161 * 2), ← Nat.mul_assoc, Nat.mul_comm B (P2 161)] at h11
  rw [Nat.mul_comm B (P2 161)] at h7
  omega
/-- The denominator comes near 1. -/
theorem gd_near {D : Nat} (h : blen D = 128) : gdD D 5 ≤ P2 160 + 3 ∧ P2 160 ≤ gdD D 5 + 3 := by
  have h1 := (gd_all h 5).up
  have h2 := (gd_all h 5).dn
  rw [show 160 - gdp 5 = 0 from rfl, P2_0] at h1 h2
  omega
/-- The guess for a quotient isn't away from it by more than one. -/
theorem gd_guess {N D : Nat} (h : blen D = 128) (hD : 0 < D) (hN : N < D * P2 128) : gdM N D 5 / P2 32 ≤ N / D + 1 ∧ N / D ≤ gdM N D 5 / P2 32 + 1 := by
  obtain ⟨d1, d2⟩ := gd_near h
  have g1 := (gdg_all h (Nat.le_of_lt hN) 5 (by omega)).up
  have g2 := (gdg_all h (Nat.le_of_lt hN) 5 (by omega)).dn
  obtain ⟨d, hd⟩ : ∃ d, d = gdD D 5 := ⟨_, rfl⟩
  obtain ⟨n, hn⟩ : ∃ d, d = gdM N D 5 := ⟨_, rfl⟩
  rw [← hd] at d1 d2 g1 g2
  rw [← hn] at g1 g2 ⊢
  have e1 : ((N * d : Nat) : Int) = (N : Int) * (d : Int) := Int.natCast_mul _ _
  have e2 : ((n * (D * P2 128) : Nat) : Int) = (n : Int) * ((D * P2 128 : Nat) : Int) := Int.natCast_mul _ _
  rw [← e1, ← e2] at g1 g2
  have e3 : (2 * ((5 : Nat) : Int) + 1) * ((D * P2 128 : Nat) : Int) = 11 * ((D * P2 128 : Nat) : Int) := rfl
  rw [e3] at g1 g2
  have c1 := Nat.mul_le_mul_left N d1
  have c2 := Nat.mul_le_mul_left N d2
  rw [Nat.mul_add] at c1 c2
  have e4 : n * (D * P2 128) = n * D * P2 128 := by grind
  have e5 : N * P2 160 = N * P2 32 * P2 128 := by rw [show 160 = 32 + 128 from rfl, P2_add]; grind
  have e6 : 14 * (D * P2 128) ≤ D * P2 32 * P2 128 := by
    rw [show D * P2 32 * P2 128 = P2 32 * (D * P2 128) by grind]
    exact Nat.mul_le_mul_right _ (by rw [P2_32]; decide)
  rw [e4] at g1 g2
  rw [e5] at c1 c2
  refine near_quo (Z := n) (T := P2 32) (N := N) hD (Nat.div_mul_le_self _ _) ?_ (Nat.div_mul_le_self _ _) ?_ ?_ ?_
  · have := Nat.lt_div_mul_add (P2_pos 32) (a := n)
    rw [Nat.add_mul, Nat.one_mul]; exact this
  · have := Nat.lt_div_mul_add hD (a := N)
    rw [Nat.add_mul, Nat.one_mul]; exact this
  · refine nat_cancel (P2 128) (P2_pos _) ?_
    rw [Nat.add_mul]
    omega
  · refine nat_cancel (P2 128) (P2_pos _) ?_
    rw [Nat.add_mul]
    omega
end Go.Proofs.YtegmmaaapdgocaaGreat

/- PLAIN ARITHMETIC of a root and half its reciprocal, the product being made one half. No program is walked in this text. -/
namespace Go.Proofs.YtegmmaaapdgocaaGreat
open Go Go.RowKit

/-- The pair behind k rounds. -/
def grG' (U : Nat) : Nat → Nat × Nat
  | 0 => (U * guessRV U / P2 105, guessRV U * P2 150)
  | k + 1 => ((grG' U k).1 * (P2 160 + P2 159 - (grG' U k).1 * (grG' U k).2 / P2 160) / P2 160, (grG' U k).2 * (P2 160 + P2 159 - (grG' U k).1 * (grG' U k).2 / P2 160) / P2 160)
def grG (U k : Nat) : Nat := (grG' U k).1
def grH (U k : Nat) : Nat := (grG' U k).2
theorem grG_succ (U k : Nat) : grG U (k + 1) = grG U k * (P2 160 + P2 159 - grG U k * grH U k / P2 160) / P2 160 := rfl
theorem grH_succ (U k : Nat) : grH U (k + 1) = grH U k * (P2 160 + P2 159 - grG U k * grH U k / P2 160) / P2 160 := rfl
/-- What holds behind k rounds. -/
structure GrK (U k : Nat) : Prop where
  up : (P2 320 : Int) - 2 * ((grG U k : Int) * (grH U k : Int)) ≤ (P2 (320 - nrp k) : Int) + (P2 180 : Int)
  dn : -((P2 (320 - nrp k) : Int) + (P2 180 : Int)) ≤ (P2 320 : Int) - 2 * ((grG U k : Int) * (grH U k : Int))
  gup : (U : Int) * (grH U k : Int) - (grG U k : Int) * (P2 255 : Int) ≤ (3 * (k : Int) + 1) * (P2 255 : Int)
  gdn : -((3 * (k : Int) + 1) * (P2 255 : Int)) ≤ (U : Int) * (grH U k : Int) - (grG U k : Int) * (P2 255 : Int)
theorem gr_sizes (k : Nat) : 2 * (2 * P2 (320 - nrp k) + P2 180) ≤ P2 320 ∧ 24 * (P2 (320 - nrp k) + P2 180) ≤ P2 320 := by
  obtain ⟨_, h⟩ := nrp_le k
  have h1 : P2 (320 - nrp k) ≤ P2 315 := P2_le (by omega)
  have h2 : P2 180 ≤ P2 313 := P2_le (by omega)
  have h4 : P2 315 = 4 * P2 313 := by rw [P2_rel' 315 313 2 rfl, P2_eq 2]
  have h3 : P2 320 = 32 * P2 315 := by rw [P2_rel' 320 315 5 rfl, P2_eq 5]
  omega
theorem GrK.le {U k : Nat} (h : GrK U k) : grG U k * grH U k ≤ P2 320 := by
  have h1 := (gr_sizes k).2
  have h2 := h.dn
  have h3 : ((grG U k * grH U k : Nat) : Int) = (grG U k : Int) * (grH U k : Int) := Int.natCast_mul _ _
  omega
theorem GrK.hsmall {U k : Nat} (h : GrK U k) (hk : k ≤ 10) (hU0 : P2 254 ≤ U) : grH U k < P2 162 := by
  have h1 := h.le
  have h2 := h.gup
  apply Nat.lt_of_not_le
  intro hge
  obtain ⟨x, hx⟩ : ∃ x, x = grH U k := ⟨_, rfl⟩
  obtain ⟨y, hy⟩ : ∃ x, x = grG U k := ⟨_, rfl⟩
  rw [← hx] at h1 h2 hge
  rw [← hy] at h1 h2
  have eT : P2 320 = P2 160 * P2 160 := by rw [← P2_add]
  have e162 : P2 162 = 4 * P2 160 := by rw [P2_twice, P2_twice]; omega
  have e255 : P2 255 = 2 * P2 254 := by rw [P2_twice, Nat.mul_comm]
  have hR : 128 ≤ P2 160 := by
    have : P2 7 ≤ P2 160 := P2_le (by omega)
    rw [P2_eq 7] at this
    exact this
  rw [eT] at h1
  rw [e162] at hge
  rw [e255] at h2
  obtain ⟨R, hRe⟩ : ∃ R, R = P2 160 := ⟨_, rfl⟩
  obtain ⟨V, hV⟩ : ∃ R, R = P2 254 := ⟨_, rfl⟩
  have hV0 : 0 < V := by rw [hV]; exact P2_pos _
  rw [← hRe] at h1 hge hR
  rw [← hV] at h2 hU0
  -- U x x ≤ 2 V (y x) + 62 V x
  have a0 : ((U * x : Nat) : Int) = (U : Int) * (x : Int) := Int.natCast_mul _ _
  have a1 : ((y * (2 * V) : Nat) : Int) = (y : Int) * ((2 * V : Nat) : Int) := Int.natCast_mul _ _
  have a2 : (3 * (k : Int) + 1) * ((2 * V : Nat) : Int) ≤ 31 * ((2 * V : Nat) : Int) := Int.mul_le_mul_of_nonneg_right (by omega) (by omega)
  rw [← a0, ← a1] at h2
  have a3 : U * x ≤ y * (2 * V) + 62 * V := by omega
  have a4 : V * x ≤ U * x := Nat.mul_le_mul_right x hU0
  have a5 : V * x * x ≤ (y * (2 * V) + 62 * V) * x := Nat.mul_le_mul_right x (by omega)
  have a6 : (y * (2 * V) + 62 * V) * x = 2 * V * (y * x) + 62 * V * x := by grind
  have a7 : 2 * V * (y * x) ≤ 2 * V * (R * R) := Nat.mul_le_mul_left _ h1
  have a8 : V * (4 * R) * x ≤ V * x * x := by
    rw [show V * x * x = V * x * x from rfl, show V * (4 * R) * x = V * x * (4 * R) by grind]
    exact Nat.mul_le_mul_left _ hge
  have a9 : V * R * (4 * R) ≤ V * R * x := Nat.mul_le_mul_left _ hge
  have b1 : 128 * (V * x) ≤ R * (V * x) := Nat.mul_le_mul_right _ hR
  have b2 : 0 < V * x := Nat.mul_pos hV0 (by omega)
  have c1 : V * (4 * R) * x = 4 * (R * (V * x)) := by grind
  have c2 : 2 * V * (R * R) = 2 * (V * (R * R)) := by grind
  have c3 : V * R * (4 * R) = 4 * (V * (R * R)) := by grind
  have c4 : V * R * x = R * (V * x) := by grind
  have c5 : 62 * V * x = 62 * (V * x) := by grind
  omega
theorem GrK.gsmall {U k : Nat} (h : GrK U k) (hk : k ≤ 10) (hU0 : P2 254 ≤ U) (hU : U < P2 256) : grG U k < P2 164 := by
  have h1 := h.hsmall hk hU0
  have h2 := h.gdn
  apply Nat.lt_of_not_le
  intro hge
  obtain ⟨x, hx⟩ : ∃ x, x = grH U k := ⟨_, rfl⟩
  obtain ⟨y, hy⟩ : ∃ x, x = grG U k := ⟨_, rfl⟩
  rw [← hx] at h1 h2
  rw [← hy] at h2 hge
  have e162 : P2 164 = 4 * P2 162 := by rw [P2_twice, P2_twice]; omega
  have e256 : P2 256 = 2 * P2 255 := by rw [P2_twice, Nat.mul_comm]
  have hR : 128 ≤ P2 162 := by
    have : P2 7 ≤ P2 162 := P2_le (by omega)
    rw [P2_eq 7] at this
    exact this
  rw [e162] at hge
  rw [e256] at hU
  obtain ⟨R, hRe⟩ : ∃ R, R = P2 162 := ⟨_, rfl⟩
  obtain ⟨V, hV⟩ : ∃ R, R = P2 255 := ⟨_, rfl⟩
  have hV0 : 0 < V := by rw [hV]; exact P2_pos _
  rw [← hRe] at h1 hge hR
  rw [← hV] at h2 hU
  have a0 : ((U * x : Nat) : Int) = (U : Int) * (x : Int) := Int.natCast_mul _ _
  have a1 : ((y * V : Nat) : Int) = (y : Int) * (V : Int) := Int.natCast_mul _ _
  have a2 : (3 * (k : Int) + 1) * (V : Int) ≤ 31 * (V : Int) := Int.mul_le_mul_of_nonneg_right (by omega) (by omega)
  rw [← a0, ← a1] at h2
  have a3 : y * V ≤ U * x + 31 * V := by omega
  have a4 : U * x ≤ 2 * V * R := Nat.mul_le_mul (by omega) (by omega)
  have a5 : 4 * R * V ≤ y * V := Nat.mul_le_mul_right V hge
  have a6 : 128 * V ≤ R * V := Nat.mul_le_mul_right V hR
  have c1 : 4 * R * V = 4 * (R * V) := by grind
  have c2 : 2 * V * R = 2 * (R * V) := by grind
  omega
theorem gr_first {U : Nat} (h : blen U = 255 ∨ blen U = 256) : GrK U 0 := by
  obtain ⟨h1, h2, h3⟩ := guessR_near h
  have m1 := Nat.div_add_mod (U * guessRV U) (P2 105)
  have l1 := Nat.mod_lt (U * guessRV U) (P2_pos 105)
  obtain ⟨q, hq⟩ : ∃ q, q = U * guessRV U / P2 105 := ⟨_, rfl⟩
  obtain ⟨r, hr⟩ : ∃ q, q = U * guessRV U % P2 105 := ⟨_, rfl⟩
  have e0 : grG U 0 = q := hq.symm
  have e1 : grH U 0 = guessRV U * P2 150 := rfl
  rw [← hq, ← hr] at m1
  rw [← hr] at l1
  obtain ⟨v, hv⟩ : ∃ v, v = guessRV U := ⟨_, rfl⟩
  rw [← hv] at h1 h2 h3 m1 e1
  have e320 : P2 320 = 32 * P2 315 := by rw [P2_rel' 320 315 5 rfl, P2_eq 5]
  have e315 : P2 274 * P2 41 = P2 315 := by rw [← P2_add]
  -- twice the product
  have t1 : 2 * (q * (v * P2 150)) + r * (v * P2 46) = 32 * v * v * U * P2 41 := by
    have : 2 * P2 150 = P2 105 * P2 46 := by rw [Nat.mul_comm 2, ← P2_twice, ← P2_add]
    have x46 : P2 46 = 32 * P2 41 := by rw [P2_rel' 46 41 5 rfl, P2_eq 5]
    rw [show 2 * (q * (v * P2 150)) = q * v * (2 * P2 150) by grind, this]
    rw [show q * v * (P2 105 * P2 46) + r * (v * P2 46) = (P2 105 * q + r) * (v * P2 46) by grind, m1, x46]
    grind
  have t2 : r * (v * P2 46) ≤ P2 180 := by
    have a1 : r * (v * P2 46) ≤ P2 105 * (P2 11 * P2 46) := Nat.mul_le_mul (by omega) (Nat.mul_le_mul_right _ (by rw [P2_eq 11]; omega))
    rw [← P2_add, ← P2_add] at a1
    exact Nat.le_trans a1 (P2_le (by omega))
  have g1 := Nat.mul_le_mul_right (P2 41) h1
  have g2 := Nat.mul_le_mul_right (P2 41) h2
  rw [← t1, Nat.mul_assoc, e315] at g1 g2
  have t3 : ((2 * (q * (v * P2 150)) : Nat) : Int) = 2 * ((q : Int) * ((v * P2 150 : Nat) : Int)) := by push_cast; rfl
  -- the two go together
  have e255 : P2 255 = P2 105 * P2 150 := by rw [← P2_add]
  have u1 : U * (v * P2 150) = q * P2 255 + r * P2 150 := by
    rw [← Nat.mul_assoc, ← m1, e255]
    grind
  have u2 : r * P2 150 ≤ P2 255 := by rw [e255]; exact Nat.mul_le_mul_right _ (by omega)
  have u3 : ((U * (v * P2 150) : Nat) : Int) = (q : Int) * (P2 255 : Int) + ((r * P2 150 : Nat) : Int) := by rw [u1, Int.natCast_add, Int.natCast_mul]
  rw [Int.natCast_mul] at u3
  constructor
  · rw [e0, e1, ← t3]; show _ ≤ ((P2 315 : Nat) : Int) + _; omega
  · rw [e0, e1, ← t3]; show -(((P2 315 : Nat) : Int) + _) ≤ _; omega
  · rw [e0, e1, u3]; simp; omega
  · rw [e0, e1, u3]; simp; omega
/-- One round, in numbers. -/
theorem gldr_id {R H X T E q r f g h g' h' s s' : Int} (hR : R = 2 * H) (hT : T = R * R) (hX : X = g * h) (hE : E = T - 2 * X) (hq : X = q * R + r) (hf : f = 3 * H - q) (hg : g * f = g' * R + s) (hh : h * f = h' * R + s') :
    4 * (T * T) * (T - 2 * (g' * h')) = 3 * T * (E * E) + E * E * E - ((T - E) * (4 * r * (2 * T + E) + 4 * (r * r)) - 8 * T * (f * (g * s' + h * s) - s * s')) := by
  have f1 : 2 * (f * R) = 2 * T + E + 2 * r := by
    rw [hE, hf]
    have : 2 * ((3 * H - q) * R) = 3 * (R * R) - 2 * (q * R) := by rw [hR]; grind
    rw [this, ← hT]
    omega
  have f2 : 8 * T * (X * (f * f)) = (T - E) * ((2 * T + E + 2 * r) * (2 * T + E + 2 * r)) := by
    rw [← f1]
    have : T - E = 2 * X := by omega
    rw [this, hT]
    grind
  have f3 : 4 * (T * T) * (2 * (g' * h')) = 8 * T * ((g * f - s) * (h * f - s')) := by
    have a1 : g * f - s = g' * R := by omega
    have a2 : h * f - s' = h' * R := by omega
    rw [a1, a2, hT]
    grind
  have f4 : 8 * T * ((g * f - s) * (h * f - s')) = 8 * T * (X * (f * f)) - 8 * T * (f * (g * s' + h * s) - s * s') := by
    rw [hX]
    grind
  rw [Int.mul_sub, f3, f4, f2]
  grind
theorem GrK.next {U k : Nat} (h : GrK U k) (hk : k < 10) (hU0 : P2 254 ≤ U) (hU : U < P2 256) : GrK U (k + 1) := by
  have hle := h.le
  have hhs := h.hsmall (by omega) hU0
  have hgs := h.gsmall (by omega) hU0 hU
  obtain ⟨hsz, hsz2⟩ := gr_sizes k
  have hup := h.up
  have hdn := h.dn
  have gup := h.gup
  have gdn := h.gdn
  have eT : P2 320 = P2 160 * P2 160 := by rw [← P2_add]
  have eR : P2 160 = 2 * P2 159 := by rw [P2_twice, Nat.mul_comm]
  have e162 : P2 162 = 4 * P2 160 := by rw [P2_twice, P2_twice]; omega
  have e164 : P2 164 = 16 * P2 160 := by rw [P2_rel' 164 160 4 rfl, P2_eq 4]
  have e256 : P2 256 = 2 * P2 255 := by rw [P2_twice, Nat.mul_comm]
  have hR := P2_pos 160
  have eb : 2 * (256 * P2 160) ≤ P2 180 := by
    have : P2 180 = P2 20 * P2 160 := by rw [← P2_add]
    rw [this, P2_eq 20]; omega
  have eb2 : 128 * P2 160 ≤ P2 320 := by
    have : P2 320 = P2 160 * P2 160 := eT
    have h6 : P2 7 ≤ P2 160 := P2_le (by omega)
    rw [P2_eq 7] at h6
    rw [this]; exact Nat.mul_le_mul_right _ h6
  have hpa : P2 (320 - nrp k) * P2 (320 - nrp k) ≤ P2 320 * P2 (320 - nrp (k + 1)) := by
    rw [← P2_add, ← P2_add]
    rcases Nat.lt_or_ge k 5 with hk | hk
    · have : nrp (k + 1) = 2 * nrp k := by show (if k < 5 then 2 * nrp k else nrp k) = _; rw [if_pos hk]
      have : nrp k ≤ 80 := by rcases (show k = 0 ∨ k = 1 ∨ k = 2 ∨ k = 3 ∨ k = 4 by omega) with rfl | rfl | rfl | rfl | rfl <;> decide
      exact P2_le (by omega)
    · rw [nrp_big k hk, nrp_big (k + 1) (by omega)]; exact P2_le (by omega)
  have m1 := Nat.div_add_mod (grG U k * grH U k) (P2 160)
  have l1 := Nat.mod_lt (grG U k * grH U k) hR
  have m2 := Nat.div_add_mod (grG U k * (P2 160 + P2 159 - grG U k * grH U k / P2 160)) (P2 160)
  have l2 := Nat.mod_lt (grG U k * (P2 160 + P2 159 - grG U k * grH U k / P2 160)) hR
  have m3 := Nat.div_add_mod (grH U k * (P2 160 + P2 159 - grG U k * grH U k / P2 160)) (P2 160)
  have l3 := Nat.mod_lt (grH U k * (P2 160 + P2 159 - grG U k * grH U k / P2 160)) hR
  rw [← grG_succ] at m2
  rw [← grH_succ] at m3
  have hqle : grG U k * grH U k / P2 160 ≤ P2 160 := by
    apply Nat.le_of_lt_succ
    rw [Nat.div_lt_iff_lt_mul hR, Nat.succ_mul, ← eT]
    omega
  obtain ⟨q, hq⟩ : ∃ q, q = grG U k * grH U k / P2 160 := ⟨_, rfl⟩
  obtain ⟨r, hr⟩ : ∃ q, q = grG U k * grH U k % P2 160 := ⟨_, rfl⟩
  rw [← hq] at m1 m2 m3 l2 l3 hqle
  rw [← hr] at m1 l1
  obtain ⟨f, hf⟩ : ∃ f, f = P2 160 + P2 159 - q := ⟨_, rfl⟩
  rw [← hf] at m2 m3 l2 l3
  obtain ⟨s, hs⟩ : ∃ q, q = grG U k * f % P2 160 := ⟨_, rfl⟩
  rw [← hs] at m2 l2
  obtain ⟨s', hs'⟩ : ∃ q, q = grH U k * f % P2 160 := ⟨_, rfl⟩
  rw [← hs'] at m3 l3
  obtain ⟨x, hx⟩ : ∃ x, x = grG U k := ⟨_, rfl⟩
  obtain ⟨y, hy⟩ : ∃ x, x = grH U k := ⟨_, rfl⟩
  obtain ⟨x', hx'⟩ : ∃ x, x = grG U (k + 1) := ⟨_, rfl⟩
  obtain ⟨y', hy'⟩ : ∃ x, x = grH U (k + 1) := ⟨_, rfl⟩
  rw [← hx] at hle hgs hup hdn gup gdn m1 m2
  rw [← hy] at hle hhs hup hdn gup gdn m1 m3
  rw [← hx'] at m2
  rw [← hy'] at m3
  obtain ⟨R, hRe⟩ : ∃ R, R = P2 160 := ⟨_, rfl⟩
  obtain ⟨H, hHe⟩ : ∃ R, R = P2 159 := ⟨_, rfl⟩
  obtain ⟨W, hWe⟩ : ∃ R, R = P2 255 := ⟨_, rfl⟩
  obtain ⟨T, hTe⟩ : ∃ R, R = P2 320 := ⟨_, rfl⟩
  obtain ⟨B, hBe⟩ : ∃ R, R = P2 180 := ⟨_, rfl⟩
  obtain ⟨A, hAe⟩ : ∃ R, R = P2 (320 - nrp k) := ⟨_, rfl⟩
  obtain ⟨A', hAe'⟩ : ∃ R, R = P2 (320 - nrp (k + 1)) := ⟨_, rfl⟩
  suffices hG : ((T : Int) - 2 * ((x' : Int) * (y' : Int)) ≤ (A' : Int) + (B : Int) ∧ -((A' : Int) + (B : Int)) ≤ (T : Int) - 2 * ((x' : Int) * (y' : Int))) ∧ ((U : Int) * (y' : Int) - (x' : Int) * (W : Int) ≤ (3 * (k : Int) + 4) * (W : Int) ∧ -((3 * (k : Int) + 4) * (W : Int)) ≤ (U : Int) * (y' : Int) - (x' : Int) * (W : Int)) by
    have hk1 : 3 * ((k + 1 : Nat) : Int) + 1 = 3 * (k : Int) + 4 := by omega
    rw [hTe, hBe, hAe', hx', hy', hWe] at hG
    exact ⟨hG.1.1, hG.1.2, by rw [hk1]; exact hG.2.1, by rw [hk1]; exact hG.2.2⟩
  rw [← hRe] at eT eR e162 e164 hR eb eb2 m1 l1 m2 l2 m3 l3 hf hqle
  rw [← hHe] at eR hf
  rw [← hWe] at e256 gup gdn
  rw [← hTe] at eT eb2 hle hup hdn hsz hsz2 hpa
  rw [← hBe] at eb hup hdn hsz hsz2
  rw [← hAe] at hup hdn hsz hsz2 hpa
  rw [← hAe'] at hpa
  rw [e162] at hhs
  rw [e164] at hgs
  rw [e256] at hU
  clear hq hr hs hs' hx hy hx' hy' hRe hHe hWe hTe hBe hAe hAe' h e162 e164 e256 hU0
  have hTi : (T : Int) = (R : Int) * (R : Int) := by rw [eT, Int.natCast_mul]
  have n1 : (x : Int) * (y : Int) = (q : Int) * (R : Int) + (r : Int) := by rw [← Int.natCast_mul, ← m1, Int.mul_comm (q : Int)]; push_cast; rfl
  have n2 : (x : Int) * (f : Int) = (x' : Int) * (R : Int) + (s : Int) := by rw [← Int.natCast_mul, ← m2, Int.mul_comm (x' : Int)]; push_cast; rfl
  have n3 : (y : Int) * (f : Int) = (y' : Int) * (R : Int) + (s' : Int) := by rw [← Int.natCast_mul, ← m3, Int.mul_comm (y' : Int)]; push_cast; rfl
  have n4 : (f : Int) = 3 * (H : Int) - (q : Int) := by omega
  have hid := gldr_id (R := (R : Int)) (H := (H : Int)) (X := (x : Int) * (y : Int)) (T := (T : Int)) (by omega) hTi rfl rfl n1 n4 n2 n3
  obtain ⟨E, hE⟩ : ∃ E, E = (T : Int) - 2 * ((x : Int) * (y : Int)) := ⟨_, rfl⟩
  rw [← hE] at hid hup hdn
  have hT0 : 0 < T := by rw [eT]; exact Nat.mul_pos hR hR
  have hEu : 24 * E ≤ (T : Int) := by omega
  have hEd : -(T : Int) ≤ 24 * E := by omega
  have hf2 : f ≤ 2 * R := by omega
  refine ⟨?_, ?_⟩
  · -- the rest of the round is small
    have b1 : (T - E) = ((T : Int) - E) := rfl
    have c1 : 0 ≤ (T : Int) - E ∧ (T : Int) - E ≤ 2 * (T : Int) := by omega
    have c2 : 0 ≤ 2 * (T : Int) + E ∧ 2 * (T : Int) + E ≤ 3 * (T : Int) := by omega
    have c3 : (r : Int) * (2 * (T : Int) + E) ≤ (R : Int) * (3 * (T : Int)) := Int.mul_le_mul (by omega) c2.2 c2.1 (by omega)
    have c4 : 0 ≤ (r : Int) * (2 * (T : Int) + E) := Int.mul_nonneg (by omega) c2.1
    have c5 : r * r ≤ T := by rw [eT]; exact Nat.mul_le_mul (by omega) (by omega)
    have c6 : T ≤ R * T := by have := Nat.mul_le_mul_right T (show 1 ≤ R by omega); omega
    have c7 : ((r * r : Nat) : Int) = (r : Int) * (r : Int) := Int.natCast_mul _ _
    have c8 : ((R * T : Nat) : Int) = (R : Int) * (T : Int) := Int.natCast_mul _ _
    have c9 : (R : Int) * (3 * (T : Int)) = 3 * ((R : Int) * (T : Int)) := by grind
    have d1 : 0 ≤ 4 * (r : Int) * (2 * (T : Int) + E) + 4 * ((r : Int) * (r : Int)) ∧ 4 * (r : Int) * (2 * (T : Int) + E) + 4 * ((r : Int) * (r : Int)) ≤ 16 * ((R : Int) * (T : Int)) := by
      rw [Int.mul_assoc 4, ← c7]
      omega
    have d2 := Int.mul_nonneg c1.1 d1.1
    have d3 : ((T : Int) - E) * (4 * (r : Int) * (2 * (T : Int) + E) + 4 * ((r : Int) * (r : Int))) ≤ 2 * (T : Int) * (16 * ((R : Int) * (T : Int))) := Int.mul_le_mul c1.2 d1.2 d1.1 (by omega)
    have g1 : x * s' ≤ 16 * R * R := Nat.mul_le_mul (by omega) (by omega)
    have g2 : y * s ≤ 4 * R * R := Nat.mul_le_mul (by omega) (by omega)
    have g3 : x * s' + y * s ≤ 20 * T := by
      rw [eT]
      have : 16 * R * R = 16 * (R * R) := by grind
      have : 4 * R * R = 4 * (R * R) := by grind
      omega
    have g4 : f * (x * s' + y * s) ≤ 2 * R * (20 * T) := Nat.mul_le_mul hf2 g3
    have g5 : s * s' ≤ T := by rw [eT]; exact Nat.mul_le_mul (by omega) (by omega)
    have g6 : ((f * (x * s' + y * s) : Nat) : Int) = (f : Int) * ((x : Int) * (s' : Int) + (y : Int) * (s : Int)) := by push_cast; rfl
    have g7 : ((s * s' : Nat) : Int) = (s : Int) * (s' : Int) := Int.natCast_mul _ _
    have g8 : 2 * R * (20 * T) = 40 * (R * T) := by grind
    have k1 : (f : Int) * ((x : Int) * (s' : Int) + (y : Int) * (s : Int)) - (s : Int) * (s' : Int) ≤ 41 * ((R : Int) * (T : Int)) := by rw [← g6, ← g7]; omega
    have k2 : -(41 * ((R : Int) * (T : Int))) ≤ (f : Int) * ((x : Int) * (s' : Int) + (y : Int) * (s : Int)) - (s : Int) * (s' : Int) := by rw [← g6, ← g7]; omega
    have k3 := Int.mul_le_mul_of_nonneg_left k1 (show (0 : Int) ≤ 8 * (T : Int) by omega)
    have k4 := Int.mul_le_mul_of_nonneg_left k2 (show (0 : Int) ≤ 8 * (T : Int) by omega)
    have hTT : (0 : Int) ≤ (R : Int) * ((T : Int) * (T : Int)) := Int.mul_nonneg (by omega) (Int.mul_nonneg (by omega) (by omega))
    have j1 : 2 * (T : Int) * (16 * ((R : Int) * (T : Int))) = 32 * ((R : Int) * ((T : Int) * (T : Int))) := by grind
    have j2 : 8 * (T : Int) * (41 * ((R : Int) * (T : Int))) = 328 * ((R : Int) * ((T : Int) * (T : Int))) := by grind
    have j3 : 4 * (256 * (R : Int)) * ((T : Int) * (T : Int)) = 1024 * ((R : Int) * ((T : Int) * (T : Int))) := by grind
    rw [j1] at d3
    rw [j2] at k3
    rw [Int.mul_neg, j2] at k4
    have hround := root_round (T := (T : Int)) (E := E) (E' := (T : Int) - 2 * ((x' : Int) * (y' : Int))) (C := 256 * (R : Int)) (by omega) (by omega) (by omega) hid (by rw [j3]; omega) (by rw [j3]; omega)
    exact quad (T := (T : Int)) (E := E) (a := (A : Int)) (b := (B : Int)) (a' := (A' : Int)) (c := 256 * (R : Int)) (by omega) hround.1 hround.2 hup hdn (by omega)
      (by rw [← Int.natCast_mul, ← Int.natCast_mul]; exact Int.ofNat_le.2 hpa) (by omega) (by omega)
  · obtain ⟨G, hG⟩ : ∃ G, G = (U : Int) * (y : Int) - (x : Int) * (W : Int) := ⟨_, rfl⟩
    rw [← hG] at gup gdn
    have step : (R : Int) * ((U : Int) * (y' : Int) - (x' : Int) * (W : Int)) = (f : Int) * G - (U : Int) * (s' : Int) + (s : Int) * (W : Int) := by
      have e1 : (R : Int) * (y' : Int) = (y : Int) * (f : Int) - (s' : Int) := by rw [n3, Int.mul_comm (R : Int)]; omega
      have e2 : (R : Int) * (x' : Int) = (x : Int) * (f : Int) - (s : Int) := by rw [n2, Int.mul_comm (R : Int)]; omega
      rw [Int.mul_sub, Int.mul_left_comm, e1, ← Int.mul_assoc, e2, hG]
      grind
    have x1 : U * s' ≤ 2 * W * R := Nat.mul_le_mul (by omega) (by omega)
    have x2 : s * W ≤ R * W := Nat.mul_le_mul_right _ (by omega)
    have y1 : ((U * s' : Nat) : Int) = (U : Int) * (s' : Int) := Int.natCast_mul _ _
    have y2 : ((s * W : Nat) : Int) = (s : Int) * (W : Int) := Int.natCast_mul _ _
    have y3 : ((R * W : Nat) : Int) = (R : Int) * (W : Int) := Int.natCast_mul _ _
    have y4 : 2 * W * R = 2 * (R * W) := by grind
    rw [← y1, ← y2] at step
    -- f is near R
    have f1 : 2 * ((f : Int) * (R : Int)) = 2 * (T : Int) + E + 2 * (r : Int) := by
      have e1 : 2 * ((f : Int) * (R : Int)) = 3 * (2 * (H : Int) * (R : Int)) - 2 * ((q : Int) * (R : Int)) := by rw [n4]; grind
      have e2 : 2 * (H : Int) = (R : Int) := by omega
      rw [e1, e2, ← hTi]
      omega
    obtain ⟨m, hm⟩ : ∃ m, m = 3 * (k : Int) + 1 := ⟨_, rfl⟩
    have hm2 : 3 * (k : Int) + 4 = m + 3 := by omega
    rw [← hm] at gup gdn
    rw [hm2]
    have hfm : (f : Int) * m ≤ (R : Int) * (m + 1) := by
      -- 32 f ≤ 33 R
      have h1 : 32 * ((f : Int) * (R : Int)) ≤ 33 * ((R : Int) * (R : Int)) := by rw [← hTi]; clear hid step; omega
      have h2 : 32 * (f : Int) ≤ 33 * (R : Int) := by
        refine Int.le_of_mul_le_mul_right (a := (R : Int)) ?_ (by omega)
        grind
      have h3 := Int.mul_le_mul_of_nonneg_right h2 (show 0 ≤ m by omega)
      have h4 := Int.mul_le_mul_of_nonneg_left (show m ≤ 32 by omega) (show (0 : Int) ≤ (R : Int) by omega)
      rw [Int.mul_assoc, Int.mul_assoc] at h3
      rw [Int.mul_add, Int.mul_one]
      omega
    have hmW : 0 ≤ m * (W : Int) := Int.mul_nonneg (by omega) (by omega)
    have f0 : (0 : Int) ≤ (f : Int) := by omega
    have i1 := Int.mul_le_mul_of_nonneg_left gup f0
    have i2 := Int.mul_le_mul_of_nonneg_left gdn f0
    have i3 := Int.mul_le_mul_of_nonneg_right hfm (show (0 : Int) ≤ (W : Int) by omega)
    have i4 : (f : Int) * (m * (W : Int)) = (f : Int) * m * (W : Int) := by grind
    have i5 : (R : Int) * (m + 1) * (W : Int) + 2 * ((R : Int) * (W : Int)) = (R : Int) * ((m + 3) * (W : Int)) := by grind
    rw [Int.mul_neg] at i2
    rw [i4] at i1 i2
    constructor
    · refine Int.le_of_mul_le_mul_left (a := (R : Int)) ?_ (by omega)
      rw [step, ← i5]
      omega
    · refine Int.le_of_mul_le_mul_left (a := (R : Int)) ?_ (by omega)
      rw [step, Int.mul_neg, ← i5]
      omega
theorem gr_all {U : Nat} (h : blen U = 255 ∨ blen U = 256) (hU0 : P2 254 ≤ U) (hU : U < P2 256) : ∀ k, k ≤ 10 → GrK U k
  | 0, _ => gr_first h
  | k + 1, hk => (gr_all h hU0 hU k (by omega)).next (by omega) hU0 hU
/-- Twice the product comes near 1. -/
theorem gr_near {U : Nat} (h : blen U = 255 ∨ blen U = 256) (hU0 : P2 254 ≤ U) (hU : U < P2 256) : 2 * (grG U 5 * grH U 5) ≤ P2 320 + P2 181 ∧ P2 320 ≤ 2 * (grG U 5 * grH U 5) + P2 181 := by
  have hk := gr_all h hU0 hU 5 (by omega)
  have hup := hk.up
  have hdn := hk.dn
  rw [show 320 - nrp 5 = 160 from rfl] at hup hdn
  have e1 : ((grG U 5 * grH U 5 : Nat) : Int) = (grG U 5 : Int) * (grH U 5 : Int) := Int.natCast_mul _ _
  rw [← e1] at hup hdn
  have h1 : P2 160 ≤ P2 180 := P2_le (by omega)
  have h2 : P2 181 = P2 180 * 2 := P2_tw rfl
  omega
/-- The guess for a root isn't away from it by more than one. -/
theorem gr_guess {U : Nat} (h : blen U = 255 ∨ blen U = 256) (hU0 : P2 254 ≤ U) (hU : U < P2 256) : grG U 5 / P2 32 ≤ rtN 2 U + 1 ∧ rtN 2 U ≤ grG U 5 / P2 32 + 1 := by
  have hk := gr_all h hU0 hU 5 (by omega)
  have gup := hk.gup
  have gdn := hk.gdn
  obtain ⟨n1, n2⟩ := gr_near h hU0 hU
  have hgs := hk.gsmall (by omega) hU0 hU
  obtain ⟨s1, s2⟩ := rt_spec 2 U (by decide)
  have s3 : P2 127 ≤ rtN 2 U := (sq_le U _).2 (by rw [← P2_add]; exact hU0)
  rw [sqr] at s1
  rw [sqr] at s2
  obtain ⟨S, hS⟩ : ∃ s, s = rtN 2 U := ⟨_, rfl⟩
  rw [← hS] at s1 s2 s3 ⊢
  obtain ⟨x, hx⟩ : ∃ s, s = grG U 5 := ⟨_, rfl⟩
  obtain ⟨y, hy⟩ : ∃ s, s = grH U 5 := ⟨_, rfl⟩
  rw [← hx] at gup gdn n1 n2 hgs ⊢
  rw [← hy] at gup gdn n1 n2
  have e1 : ((U * y : Nat) : Int) = (U : Int) * (y : Int) := Int.natCast_mul _ _
  have e2 : ((x * P2 255 : Nat) : Int) = (x : Int) * (P2 255 : Int) := Int.natCast_mul _ _
  rw [← e1, ← e2] at gup gdn
  have e3 : (3 * ((5 : Nat) : Int) + 1) * (P2 255 : Int) = 16 * (P2 255 : Int) := rfl
  rw [e3] at gup gdn
  -- x x 2^256 is near U 2^320
  have a1 := Nat.mul_le_mul_left x (show U * y ≤ x * P2 255 + 16 * P2 255 by omega)
  have a2 := Nat.mul_le_mul_left x (show x * P2 255 ≤ U * y + 16 * P2 255 by omega)
  have b1 := Nat.mul_le_mul_left U n1
  have b2 := Nat.mul_le_mul_left U n2
  rw [Nat.mul_add] at a1 a2 b1 b2
  have c1 : x * (16 * P2 255) ≤ P2 423 := by
    have : x * (16 * P2 255) ≤ P2 164 * (P2 4 * P2 255) := Nat.mul_le_mul (by omega) (Nat.mul_le_mul_right _ (by rw [P2_eq 4]; decide))
    rw [← P2_add, ← P2_add] at this
    exact this
  have c2 : U * P2 181 ≤ P2 437 := by
    have : U * P2 181 ≤ P2 256 * P2 181 := Nat.mul_le_mul_right _ (by omega)
    rwa [← P2_add] at this
  have c3 : P2 447 ≤ S * (P2 32 * P2 32) * P2 256 := by
    have : P2 127 * (P2 32 * P2 32) * P2 256 ≤ S * (P2 32 * P2 32) * P2 256 := Nat.mul_le_mul_right _ (Nat.mul_le_mul_right _ s3)
    have e : P2 127 * (P2 32 * P2 32) * P2 256 = P2 447 := by rw [← P2_add, ← P2_add, ← P2_add]
    rw [e] at this
    exact this
  have c4 : P2 423 ≤ P2 437 := P2_le (by omega)
  have c5 : P2 447 = 1024 * P2 437 := by rw [P2_rel' 447 437 10 rfl, P2_eq 10]
  have d1 : x * x * P2 256 = 2 * (x * (x * P2 255)) := by rw [P2_twice 255]; grind
  have d2 : U * (2 * (x * y)) = 2 * (x * (U * y)) := by grind
  have d3 : U * (P2 32 * P2 32) * P2 256 = U * P2 320 := by rw [show 320 = 32 + 32 + 256 from rfl, P2_add, P2_add]; grind
  rw [d2] at b1 b2
  refine near_root (Z := x) (U := P2 32) (N := U) (by have := P2_pos 127; omega) (Nat.div_mul_le_self _ _) ?_ s1 ?_ ?_ ?_
  · have := Nat.lt_div_mul_add (P2_pos 32) (a := x)
    rw [Nat.add_mul, Nat.one_mul]; exact this
  · grind
  · refine nat_cancel (P2 256) (P2_pos _) ?_
    rw [Nat.add_mul, d1, d3]
    omega
  · refine nat_cancel (P2 256) (P2_pos _) ?_
    rw [Nat.add_mul, d1, d3]
    omega
end Go.Proofs.YtegmmaaapdgocaaGreat
