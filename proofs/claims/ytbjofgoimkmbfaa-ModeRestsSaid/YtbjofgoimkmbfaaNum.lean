/- PLAIN ARITHMETIC: limbs of a number of 512 bits, shifted up and down, added and taken away. No program stands in this text. -/
import Derived.Test.YtbjofgoimkmbfaaBase
namespace Go.Proofs.Ytbjofgoimkmbfaa
open Go Go.RowKit

theorem u64wrap (n : Int) : IntKind.u64.wrap n = n % 18446744073709551616 := by simp [IntKind.wrap, IntKind.bits, IntKind.signed]
theorem u64wrap_nat (n : Nat) : IntKind.u64.wrap (n : Int) = ((n % P2 64 : Nat) : Int) := by rw [u64wrap, P2_64]; omega
theorem bit_mod (x e j : Nat) : (x % P2 e).testBit j = (decide (j < e) && x.testBit j) := by rw [P2_eq, Nat.testBit_mod_two_pow]
theorem bit_div (x e j : Nat) : (x / P2 e).testBit j = x.testBit (e + j) := by rw [P2_eq, Nat.testBit_div_two_pow, Nat.add_comm]
theorem bit_mul (x e j : Nat) : (x * P2 e).testBit j = (decide (e ≤ j) && x.testBit (j - e)) := by rw [P2_eq, Nat.testBit_mul_two_pow]
theorem bit_modM (x j : Nat) : (x % M).testBit j = (decide (j < 512) && x.testBit j) := by rw [M_eq]; exact bit_mod x 512 j
theorem bit_lt {x e j : Nat} (h : x < P2 e) (hj : e ≤ j) : x.testBit j = false := by
  rw [← Nat.mod_eq_of_lt h, bit_mod]; simp; omega

theorem bitM_lt {x j : Nat} (h : x < M) (hj : 512 ≤ j) : x.testBit j = false := by rw [M_eq] at h; exact bit_lt h hj

/-- A limb, told of its place as an integer: 0 below, b beyond. -/
def atN (a : Nat) (i : Int) (b : Nat) : Nat := if i < 0 then 0 else if 8 ≤ i then b else limb a i.toNat
theorem atN_neg (a : Nat) (i : Int) (b : Nat) (h : i < 0) : atN a i b = 0 := if_pos h
theorem atN_hi (a : Nat) (i : Int) (b : Nat) (h : 8 ≤ i) : atN a i b = b := by unfold atN; rw [if_neg (by omega), if_pos h]
theorem atN_mid (a k b : Nat) (h : k < 8) : atN a k b = limb a k := by unfold atN; rw [if_neg (by omega), if_neg (by omega)]; rfl
theorem atN_lt (a : Nat) (i : Int) (b : Nat) (h : b < P2 64) : atN a i b < P2 64 := by
  unfold atN
  split
  · exact P2_pos _
  · split
    · exact h
    · exact limb_lt _ _
theorem limb_bit (a i j : Nat) : (limb a i).testBit j = (decide (j < 64) && a.testBit (64 * i + j)) := by
  rw [limb, bit_mod, bit_div]
theorem limb_mod (a i : Nat) (h : i < 8) : limb (a % M) i = limb a i := by
  apply Nat.eq_of_testBit_eq
  intro j
  rw [limb_bit, limb_bit, bit_modM]
  by_cases hj : j < 64
  · have : 64 * i + j < 512 := by omega
    simp [hj, this]
  · simp [hj]
theorem limb_big (a i : Nat) (ha : a < M) (h : 8 ≤ i) : limb a i = 0 := by
  unfold limb
  have h1 : M ≤ P2 (64 * i) := by rw [M_eq]; exact P2_le (by omega)
  rw [Nat.div_eq_of_lt (Nat.lt_of_lt_of_le ha h1)]
  exact Nat.zero_mod _
theorem wcells_congr {a b : Nat} (h : ∀ i, i < 8 → limb a i = limb b i) : wcells a = wcells b := by
  unfold wcells
  rw [h 0 (by decide), h 1 (by decide), h 2 (by decide), h 3 (by decide), h 4 (by decide), h 5 (by decide), h 6 (by decide), h 7 (by decide)]
theorem wcells_mod (a : Nat) : wcells (a % M) = wcells a := wcells_congr fun i h => limb_mod a i h
theorem limb_ext {a b : Nat} (ha : a < M) (hb : b < M) (h : ∀ i, i < 8 → limb a i = limb b i) : a = b := by
  apply Nat.eq_of_testBit_eq
  intro j
  by_cases hj : j < 512
  · have := congrArg (fun x => x.testBit (j % 64)) (h (j / 64) (by omega))
    simp only [limb_bit] at this
    have e : 64 * (j / 64) + j % 64 = j := by omega
    have e2 : j % 64 < 64 := by omega
    rw [e] at this
    simpa [e2] using this
  · rw [bitM_lt ha (by omega), bitM_lt hb (by omega)]
/-- Eight limbs are a number. -/
theorem limb_ex (x0 x1 x2 x3 x4 x5 x6 x7 : Nat) (h0 : x0 < P2 64) (h1 : x1 < P2 64) (h2 : x2 < P2 64) (h3 : x3 < P2 64) (h4 : x4 < P2 64) (h5 : x5 < P2 64) (h6 : x6 < P2 64) (h7 : x7 < P2 64) :
    ∃ n, n < M ∧ limb n 0 = x0 ∧ limb n 1 = x1 ∧ limb n 2 = x2 ∧ limb n 3 = x3 ∧ limb n 4 = x4 ∧ limb n 5 = x5 ∧ limb n 6 = x6 ∧ limb n 7 = x7 := by
  have step : ∀ (x y e : Nat), x < P2 e → y < P2 64 → x + y * P2 e < P2 (e + 64) ∧ (x + y * P2 e) % P2 e = x ∧ (x + y * P2 e) / P2 e = y := by
    intro x y e hx hy
    have hp := P2_pos e
    refine ⟨?_, ?_, ?_⟩
    · rw [P2_add]
      have : (y + 1) * P2 e ≤ P2 64 * P2 e := Nat.mul_le_mul_right _ hy
      have e1 : (y + 1) * P2 e = y * P2 e + P2 e := by rw [Nat.add_mul, Nat.one_mul]
      rw [Nat.mul_comm (P2 e)]
      omega
    · rw [Nat.add_mul_mod_self_right, Nat.mod_eq_of_lt hx]
    · rw [Nat.add_mul_div_right _ _ hp, Nat.div_eq_of_lt hx, Nat.zero_add]
  have low : ∀ (x y e i : Nat), 64 * (i + 1) ≤ e → x < P2 e → limb (x + y * P2 e) i = limb x i := by
    intro x y e i hi hx
    apply Nat.eq_of_testBit_eq
    intro j
    rw [limb_bit, limb_bit]
    by_cases hj : j < 64
    · have g : (x + y * P2 e).testBit (64 * i + j) = ((x + y * P2 e) % P2 e).testBit (64 * i + j) := by
        rw [bit_mod]; have : 64 * i + j < e := by omega
        simp [this]
      rw [g, Nat.add_mul_mod_self_right, Nat.mod_eq_of_lt hx]
    · simp [hj]
  have high : ∀ (x y i : Nat), x < P2 (64 * i) → y < P2 64 → limb (x + y * P2 (64 * i)) i = y := by
    intro x y i hx hy
    unfold limb
    rw [(step x y (64 * i) hx hy).2.2, Nat.mod_eq_of_lt hy]
  have b0 : x0 < P2 64 := h0
  have s1 := step x0 x1 64 b0 h1
  have s2 := step _ x2 128 s1.1 h2
  have s3 := step _ x3 192 s2.1 h3
  have s4 := step _ x4 256 s3.1 h4
  have s5 := step _ x5 320 s4.1 h5
  have s6 := step _ x6 384 s5.1 h6
  have s7 := step _ x7 448 s6.1 h7
  refine ⟨_, by rw [M_eq]; exact s7.1, ?_, ?_, ?_, ?_, ?_, ?_, ?_, ?_⟩
  · rw [low _ _ _ _ (by decide) s6.1, low _ _ _ _ (by decide) s5.1, low _ _ _ _ (by decide) s4.1, low _ _ _ _ (by decide) s3.1, low _ _ _ _ (by decide) s2.1, low _ _ _ _ (by decide) s1.1, low _ _ _ _ (by decide) b0]
    unfold limb
    rw [show P2 (64 * 0) = 1 from by rw [P2_eq], Nat.div_one, Nat.mod_eq_of_lt h0]
  · rw [low _ _ _ _ (by decide) s6.1, low _ _ _ _ (by decide) s5.1, low _ _ _ _ (by decide) s4.1, low _ _ _ _ (by decide) s3.1, low _ _ _ _ (by decide) s2.1, low _ _ _ _ (by decide) s1.1]
    exact high x0 x1 1 b0 h1
  · rw [low _ _ _ _ (by decide) s6.1, low _ _ _ _ (by decide) s5.1, low _ _ _ _ (by decide) s4.1, low _ _ _ _ (by decide) s3.1, low _ _ _ _ (by decide) s2.1]
    exact high _ x2 2 s1.1 h2
  · rw [low _ _ _ _ (by decide) s6.1, low _ _ _ _ (by decide) s5.1, low _ _ _ _ (by decide) s4.1, low _ _ _ _ (by decide) s3.1]
    exact high _ x3 3 s2.1 h3
  · rw [low _ _ _ _ (by decide) s6.1, low _ _ _ _ (by decide) s5.1, low _ _ _ _ (by decide) s4.1]
    exact high _ x4 4 s3.1 h4
  · rw [low _ _ _ _ (by decide) s6.1, low _ _ _ _ (by decide) s5.1]
    exact high _ x5 5 s4.1 h5
  · rw [low _ _ _ _ (by decide) s6.1]
    exact high _ x6 6 s5.1 h6
  · exact high _ x7 7 s6.1 h7

theorem atN_bit (a : Nat) (i : Int) (k : Nat) (h : i = k) (hk : k < 8) (b x : Nat) : (atN a i b).testBit x = (decide (x < 64) && a.testBit (64 * k + x)) := by
  subst h
  unfold atN
  rw [if_neg (by omega), if_neg (by omega), show ((k : Int)).toNat = k from by omega, limb_bit]

/-- Two limbs, shifted together: what stands at place i of a number shifted up by 64 k + r. -/
def shlN (a : Nat) (k r : Int) (i : Int) : Nat := (atN a (i - k) 0 * P2 r.toNat % P2 64) ||| (atN a (i - k - 1) 0 / P2 (64 - r).toNat)
theorem shlN_limb (a : Nat) (k r i : Nat) (hr : r < 64) (hi : i < 8) : shlN a k r i = limb (a * P2 (64 * k + r)) i := by
  apply Nat.eq_of_testBit_eq
  intro j
  rw [limb_bit]
  unfold shlN
  have e1 : ((r : Int)).toNat = r := by omega
  have e2 : (64 - (r : Int)).toNat = 64 - r := by omega
  rw [e1, e2, Nat.testBit_or, bit_mod, bit_mul, bit_div, bit_mul]
  have f1 : ∀ (x : Nat), (atN a ((i : Int) - k) 0).testBit x = (decide (k ≤ i) && (decide (x < 64) && a.testBit (64 * (i - k) + x))) := by
    intro x
    by_cases hk : k ≤ i
    · rw [atN_bit a _ (i - k) (by omega) (by omega)]
      simp [hk]
    · unfold atN
      rw [if_pos (by omega)]
      simp [hk]
  have f2 : ∀ (x : Nat), (atN a ((i : Int) - k - 1) 0).testBit x = (decide (k + 1 ≤ i) && (decide (x < 64) && a.testBit (64 * (i - k - 1) + x))) := by
    intro x
    by_cases hk : k + 1 ≤ i
    · rw [atN_bit a _ (i - k - 1) (by omega) (by omega)]
      simp [hk]
    · unfold atN
      rw [if_pos (by omega)]
      simp [hk]
  rw [f1, f2]
  by_cases hj : j < 64
  · by_cases hrj : r ≤ j
    · by_cases hk : k ≤ i
      · have g2 : 64 * k + r ≤ 64 * i + j := by omega
        have g3 : 64 * (i - k) + (j - r) = 64 * i + j - (64 * k + r) := by omega
        have g4 : j - r < 64 := by omega
        have g5 : ¬ (64 - r + j < 64) := by omega
        simp [hj, hrj, hk, g2, g3, g4, g5]
      · have g2 : ¬ (64 * k + r ≤ 64 * i + j) := by omega
        have g6 : ¬ (k + 1 ≤ i) := by omega
        simp [hj, hk, g2, g6]
    · by_cases hk : k + 1 ≤ i
      · have g2 : 64 * k + r ≤ 64 * i + j := by omega
        have g3 : 64 * (i - k - 1) + (64 - r + j) = 64 * i + j - (64 * k + r) := by omega
        have g4 : 64 - r + j < 64 := by omega
        simp [hj, hrj, hk, g2, g3, g4]
      · have g2 : ¬ (64 * k + r ≤ 64 * i + j) := by omega
        simp [hj, hrj, hk, g2]
  · have g : ¬ (64 - r + j < 64) := by omega
    simp [hj, g]

/-- What stands at place i of a number shifted down by 64 k + r, b being what stands beyond. -/
def shrN (a : Nat) (k r : Int) (i : Int) (b : Nat) : Nat := (atN a (i + k) b / P2 r.toNat) ||| (atN a (i + k + 1) b * P2 (64 - r).toNat % P2 64)
theorem shrN_limb (a c : Nat) (k r i b : Nat) (hr : r < 64) (hi : i < 8)
    (hc : ∀ x, x < 512 → c.testBit x = a.testBit x) (hb : ∀ x, 512 ≤ x → x < 1152 → c.testBit x = b.testBit (x % 64)) (hk : k ≤ 8) (hb2 : b < P2 64) : shrN a k r i b = limb (c / P2 (64 * k + r)) i := by
  apply Nat.eq_of_testBit_eq
  intro j
  rw [limb_bit, bit_div]
  unfold shrN
  have e1 : ((r : Int)).toNat = r := by omega
  have e2 : (64 - (r : Int)).toNat = 64 - r := by omega
  rw [e1, e2, Nat.testBit_or, bit_mod, bit_mul, bit_div]
  have f1 : ∀ (k x : Nat), i + k < 18 → x < 64 → (atN a ((i : Int) + k) b).testBit x = c.testBit (64 * (i + k) + x) := by
    intro k x h17 hx
    by_cases hk : i + k < 8
    · rw [atN_bit a _ (i + k) (by omega) (by omega), hc _ (by omega)]
      simp [hx]
    · unfold atN
      rw [if_neg (by omega), if_pos (by omega), hb _ (by omega) (by omega)]
      congr 1
      omega
  have f3 : ∀ (k x : Nat), 64 ≤ x → (atN a ((i : Int) + k) b).testBit x = false := fun k x hx => bit_lt (atN_lt a _ b hb2) hx
  have e3 : ((i : Int) + k + 1) = ((i : Int) + ((k + 1 : Nat) : Int)) := by omega
  rw [e3]
  by_cases hj : j < 64
  · by_cases hrj : r + j < 64
    · rw [f1 k _ (by omega) hrj]
      have g1 : ¬ (64 - r ≤ j) := by omega
      have g2 : 64 * (i + k) + (r + j) = 64 * k + r + (64 * i + j) := by omega
      simp [hj, g1, g2]
    · rw [f3 k _ (by omega), f1 (k + 1) _ (by omega) (by omega)]
      have g1 : 64 - r ≤ j := by omega
      have g2 : 64 * (i + (k + 1)) + (j - (64 - r)) = 64 * k + r + (64 * i + j) := by omega
      simp [hj, g1, g2]
  · rw [f3 k _ (by omega)]
    simp [hj]

theorem or_u64 (a b : Nat) (ha : a < P2 64) (hb : b < P2 64) : bits .or .u64 (a : Int) (b : Int) = ((a ||| b : Nat) : Int) :=
  u64_or_nat a b (by rw [P2_64] at ha; exact ha) (by rw [P2_64] at hb; exact hb)
theorem mul_u64 (x r : Nat) : IntKind.u64.wrap ((x : Int) * 2 ^ r) = ((x * P2 r % P2 64 : Nat) : Int) := by
  rw [← u64wrap_nat, P2_eq]; push_cast; rfl
theorem div_u64 (y s : Nat) : ((y : Int) / 2 ^ s) = ((y / P2 s : Nat) : Int) := by rw [P2_eq]; push_cast; rfl
theorem div_lt {y s : Nat} (h : y < P2 64) : y / P2 s < P2 64 := Nat.lt_of_le_of_lt (Nat.div_le_self _ _) h
theorem shl_val (a : Nat) (k r i : Int) : bits .or .u64 (IntKind.u64.wrap ((atN a (i - k) 0 : Int) * 2 ^ r.toNat)) ((atN a (i - k - 1) 0 : Int) / 2 ^ (64 - r).toNat) = ((shlN a k r i : Nat) : Int) := by
  rw [mul_u64, div_u64, or_u64 _ _ (Nat.mod_lt _ (P2_pos _)) (div_lt (atN_lt _ _ _ (P2_pos _)))]
  rfl
theorem shr_val (a : Nat) (k r i : Int) (b : Nat) (hb : b < P2 64) : bits .or .u64 ((atN a (i + k) b : Int) / 2 ^ r.toNat) (IntKind.u64.wrap ((atN a (i + k + 1) b : Int) * 2 ^ (64 - r).toNat)) = ((shrN a k r i b : Nat) : Int) := by
  rw [mul_u64, div_u64, or_u64 _ _ (div_lt (atN_lt _ _ _ hb)) (Nat.mod_lt _ (P2_pos _))]
  rfl
theorem shrN_zero (a c i : Nat) (ha : a < M) (hc : c ≤ 512) (hi : i < 8) : shrN a ((c : Int) / 64) ((c : Int) % 64) i 0 = limb (a / P2 c) i := by
  have := shrN_limb a a (c / 64) (c % 64) i 0 (by omega) hi (fun _ _ => rfl) (fun x hx _ => by rw [bitM_lt ha hx]; simp) (by omega) (P2_pos _)
  rw [show 64 * (c / 64) + c % 64 = c from by omega] at this
  exact this
theorem div_ltM {a c : Nat} (h : a < M) : a / P2 c < M := Nat.lt_of_le_of_lt (Nat.div_le_self _ _) h
/-- What is shifted down, and up again, is what it was, if nothing was lost. -/
theorem back_iff (a c : Nat) (ha : a < M) : (a / P2 c * P2 c % M = a) ↔ a % P2 c = 0 := by
  have h1 : a / P2 c * P2 c ≤ a := Nat.div_mul_le_self a (P2 c)
  rw [Nat.mod_eq_of_lt (Nat.lt_of_le_of_lt h1 ha)]
  have h2 := Nat.div_add_mod a (P2 c)
  rw [Nat.mul_comm] at h2
  constructor <;> intro h <;> omega
theorem lost_iff (a c : Nat) (ha : a < M) : (!decide (a / P2 c * P2 c % M = a)) = decide (a % P2 c ≠ 0) := by
  have := back_iff a c ha
  by_cases h : a % P2 c = 0
  · rw [decide_eq_true (this.2 h), decide_eq_false (fun e => e h)]; rfl
  · rw [decide_eq_false (fun e => h (this.1 e)), decide_eq_true h]; rfl
end Go.Proofs.Ytbjofgoimkmbfaa
