/- SEVERAL TEXTS of the seat, one behind the other: each says at its head what it proves. -/
import Derived.Test.YtegmmaaapdgocaaGreatK1
import Derived.Test.YtegmmaaapdgocaaGreatRows
/- NUMBERS AS LISTS OF DIGITS OF 32 BITS (the reference's 'Big'): what such a slice reads as, and plain arithmetic on digits. No program's text stands here. -/
namespace Go.Proofs.YtegmmaaapdgocaaGreat
open Go Go.RowKit

/-- Digit i of base 2^32. -/
def dig (n i : Nat) : Nat := n / P2 (32 * i) % P2 32
theorem P2_0 : P2 0 = 1 := by rw [P2_eq]
theorem P2_32 : P2 32 = 4294967296 := by rw [P2_eq]
theorem dig_lt (n i : Nat) : dig n i < P2 32 := Nat.mod_lt _ (P2_pos _)
theorem dig_le (n i : Nat) : dig n i ≤ 4294967295 := by have := dig_lt n i; rw [P2_32] at this; omega
theorem dig_bit (a i j : Nat) : (dig a i).testBit j = (decide (j < 32) && a.testBit (32 * i + j)) := by
  rw [dig, bit_mod, bit_div]
theorem dig_big (n i L : Nat) (h : n < P2 (32 * L)) (hi : L ≤ i) : dig n i = 0 := by
  unfold dig
  rw [Nat.div_eq_of_lt (Nat.lt_of_lt_of_le h (P2_le (by omega)))]
  exact Nat.zero_mod _
theorem dig_zero (i : Nat) : dig 0 i = 0 := by unfold dig; rw [Nat.zero_div, Nat.zero_mod]
/-- A number is its lower digits, and what stands above. -/
theorem dig_split (n i : Nat) : n / P2 (32 * i) = dig n i + P2 32 * (n / P2 (32 * (i + 1))) := by
  unfold dig
  rw [show 32 * (i + 1) = 32 * i + 32 from by omega, P2_add, ← Nat.div_div_eq_div_mul]
  exact (Nat.mod_add_div _ _).symm

/-- A slice of L digits of a number, in a world. -/
structure IsRaw (w : World) (v : Value) (n L : Nat) : Prop where
  ex : ∃ a cap, v = .slice a L cap ∧ L ≤ cap ∧ (0 < L → ∃ b o, a = some ⟨b, o, none⟩ ∧ (∃ cur fr, w.heap[b]? = some (.cells cur 80 fr)) ∧ ∀ i, i < L → w.cell? ⟨b, o + i, none⟩ = some (.int .u32 (dig n i : Nat)))
  lt : n < P2 (32 * L)
theorem IsRaw.below {w w' : World} {v : Value} {n L : Nat} (h : IsRaw w v n L) {B : Nat} (hb : Below B w w') (hB : w.heap.size ≤ B) : IsRaw w' v n L := by
  obtain ⟨⟨a, cap, rfl, hc, hx⟩, hl⟩ := h
  refine ⟨⟨a, cap, rfl, hc, fun h0 => ?_⟩, hl⟩
  obtain ⟨b, o, rfl, ⟨cur, fr, ht⟩, hcell⟩ := hx h0
  have hb' := lt_of_heap ht
  exact ⟨b, o, rfl, ⟨cur, fr, (hb.block b (Nat.lt_of_lt_of_le hb' hB)).trans ht⟩, fun i hi => (hb.cell (p := ⟨b, o + i, none⟩) (Nat.lt_of_lt_of_le hb' hB)).trans (hcell i hi)⟩
/-- No nought at the end. -/
def IsBig (w : World) (v : Value) (n : Nat) : Prop := ∃ L, IsRaw w v n L ∧ (L ≠ 0 → P2 (32 * (L - 1)) ≤ n)
theorem IsBig.below {w w' : World} {v : Value} {n : Nat} (h : IsBig w v n) (hb : Below w.heap.size w w') : IsBig w' v n :=
  let ⟨L, h1, h2⟩ := h
  ⟨L, h1.below hb (Nat.le_refl _), h2⟩
/-- How many digits a number has. -/
theorem len_le {n L K : Nat} (h : L ≠ 0 → P2 (32 * (L - 1)) ≤ n) (hn : n < P2 (32 * K)) : L ≤ K := by
  by_cases h0 : L = 0
  · omega
  · have := Nat.lt_of_le_of_lt (h h0) hn
    rcases Nat.lt_or_ge K L with hk | hk
    · have := P2_le (show 32 * K ≤ 32 * (L - 1) by omega)
      omega
    · exact hk
/-- Numbers here stay below this. -/
def BIG : Nat := P2 (32 * 30000)
attribute [irreducible] BIG
theorem BIG_eq : BIG = P2 (32 * 30000) := by unfold BIG; rfl
theorem small_of {n e : Nat} (h : n < P2 e) (he : e ≤ 960000) : n < BIG := by rw [BIG_eq]; exact Nat.lt_of_lt_of_le h (P2_le (by omega))
theorem small_M {n : Nat} (h : n < M) : n < BIG := by rw [M_eq] at h; exact small_of h (by decide)
def digI (n : Nat) (i : Int) : Nat := if i < 0 then 0 else dig n i.toNat
theorem digI_neg {n : Nat} {i : Int} (h : i < 0) : digI n i = 0 := if_pos h
theorem digI_nat (n i : Nat) : digI n i = dig n i := by unfold digI; rw [if_neg (by omega)]; rfl
theorem digI_lt (n : Nat) (i : Int) : digI n i < P2 32 := by
  unfold digI
  split
  · exact P2_pos _
  · exact dig_lt _ _
theorem digI_le (n : Nat) (i : Int) : digI n i ≤ 4294967295 := by have := digI_lt n i; rw [P2_32] at this; omega
/-- A nought at the end: it may be left out. -/
theorem lt_of_dig_zero {n k : Nat} (h : n < P2 (32 * (k + 1))) (hd : dig n k = 0) : n < P2 (32 * k) := by
  have h1 := dig_split n k
  rw [Nat.div_eq_of_lt h, hd] at h1
  have h2 : n / P2 (32 * k) = 0 := by omega
  exact (Nat.div_eq_zero_iff_lt (P2_pos _)).1 h2
theorem le_of_dig {n k : Nat} (hd : dig n k ≠ 0) : P2 (32 * k) ≤ n := by
  rcases Nat.lt_or_ge n (P2 (32 * k)) with h | h
  · exact absurd (dig_big n k k h (Nat.le_refl _)) hd
  · exact h
def cmpN (a b : Nat) : Int := if a < b then -1 else if b < a then 1 else 0
theorem cmpN_eq {a b : Nat} (h : a = b) : cmpN a b = 0 := by unfold cmpN; rw [if_neg (by omega), if_neg (by omega)]
theorem cmpN_lt {a b : Nat} (h : a < b) : cmpN a b = -1 := if_pos h
theorem cmpN_gt {a b : Nat} (h : b < a) : cmpN a b = 1 := by unfold cmpN; rw [if_neg (by omega), if_pos h]
/-- From above: as long as the digits are the same, so is what stands above. -/
theorem above_step {a b k : Nat} (h : a / P2 (32 * (k + 1)) = b / P2 (32 * (k + 1))) (hd : dig a k = dig b k) : a / P2 (32 * k) = b / P2 (32 * k) := by
  rw [dig_split a k, dig_split b k, h, hd]
theorem above_lt {a b k : Nat} (h : a / P2 (32 * (k + 1)) = b / P2 (32 * (k + 1))) (hd : dig a k < dig b k) : a < b := by
  have h1 := dig_split a k
  have h2 := dig_split b k
  rw [← h] at h2
  rcases Nat.lt_or_ge a b with hlt | hge
  · exact hlt
  · have := Nat.div_le_div_right (c := P2 (32 * k)) hge
    omega
theorem above_top {a k : Nat} (h : a < P2 (32 * k)) : a / P2 (32 * k) = 0 := Nat.div_eq_of_lt h
theorem lt_top {a L K : Nat} (h : a < P2 (32 * L)) (hk : L ≤ K) : a < P2 (32 * K) := Nat.lt_of_lt_of_le h (P2_le (by omega))
theorem small_len {w : World} {v : Value} {n L : Nat} (_h : IsRaw w v n L) (hm : L ≠ 0 → P2 (32 * (L - 1)) ≤ n) (hs : n < BIG) : L ≤ 30000 := by
  rw [BIG_eq] at hs
  exact len_le hm hs
/-- The first k digits, as cells. -/
def digsV (n k : Nat) : List Value := (List.range k).map fun i => .int .u32 (dig n i : Nat)
theorem digsV_zero (n : Nat) : digsV n 0 = [] := rfl
theorem digsV_succ (n k : Nat) : digsV n (k + 1) = digsV n k ++ [.int .u32 (dig n k : Nat)] := by
  unfold digsV; rw [List.range_succ, List.map_append]; rfl
theorem digsV_get (n k i : Nat) (h : i < k) : (digsV n k)[i]? = some (.int .u32 (dig n i : Nat)) := by
  unfold digsV; simp [h]
theorem digsV_congr {m n k : Nat} (h : ∀ i, i < k → dig m i = dig n i) : digsV m k = digsV n k := by
  unfold digsV
  refine List.map_congr_left fun i hi => ?_
  rw [h i (List.mem_range.1 hi)]
theorem isRaw_of_owns {w : World} {base : Nat} {v : Value} {n K : Nat} (h : w.ownsRow base 80 1 v K (digsV n K)) (hn : n < P2 (32 * K)) : IsRaw w v n K := by
  refine ⟨?_, hn⟩
  obtain ⟨_, ⟨rfl, rfl⟩ | ⟨g, cap, cur, rfl, hb, hg, hnc, _, hcs, htake⟩⟩ := h
  · exact ⟨none, 0, rfl, Nat.le_refl _, fun h0 => absurd h0 (by omega)⟩
  · refine ⟨some ⟨g, 0, none⟩, cap, rfl, hnc, fun _ => ⟨g, 0, rfl, ⟨cur, _, hg⟩, fun i hi => ?_⟩⟩
    rw [Nat.zero_add, cell_row hg]
    have h1 := digsV_get n K i hi
    rw [← htake] at h1
    rw [List.getElem?_take] at h1
    simp only [Nat.mul_one, hi, if_true] at h1
    rw [← Array.getElem?_toList]
    exact h1
/-- What a function gives that makes a number. -/
def GivesBig (n : Nat) (W : World) (e : Ending) (w' : World) : Prop := ∃ r, e = .returned r ∧ IsBig w' r n ∧ Below W.heap.size W w'
/-- What is carried into digit k of a sum. -/
def carry (a b k : Nat) : Nat := (a % P2 (32 * k) + b % P2 (32 * k)) / P2 (32 * k)
theorem carry_zero (a b : Nat) : carry a b 0 = 0 := by unfold carry; rw [show 32 * 0 = 0 from rfl, P2_0, Nat.mod_one, Nat.mod_one]
theorem carry_le (a b k : Nat) : carry a b k ≤ 1 := by
  unfold carry
  have h1 := Nat.mod_lt a (P2_pos (32 * k))
  have h2 := Nat.mod_lt b (P2_pos (32 * k))
  exact Nat.le_of_lt_succ (by rw [Nat.div_lt_iff_lt_mul (P2_pos _)]; omega)
theorem sum_div (a b X : Nat) (hX : 0 < X) : (a + b) / X = a / X + b / X + (a % X + b % X) / X := by
  have h1 := Nat.div_add_mod a X
  have h2 := Nat.div_add_mod b X
  have : a + b = (a % X + b % X) + X * (a / X + b / X) := by rw [Nat.mul_add]; omega
  rw [this, Nat.add_mul_div_left _ _ hX]; omega
theorem carry_spec (a b k : Nat) : carry a b k + dig a k + dig b k = dig (a + b) k + P2 32 * carry a b (k + 1) := by
  have h1 := sum_div a b (P2 (32 * k)) (P2_pos _)
  have h2 := sum_div a b (P2 (32 * (k + 1))) (P2_pos _)
  have d1 := dig_split a k
  have d2 := dig_split b k
  have d3 := dig_split (a + b) k
  unfold carry
  rw [h1, h2, d1, d2] at d3
  generalize P2 (32 * (k + 1)) = Y at *
  rw [Nat.mul_add, Nat.mul_add] at d3
  omega
theorem carry_dig (a b k : Nat) : (carry a b k + dig a k + dig b k) % 4294967296 = dig (a + b) k ∧ (carry a b k + dig a k + dig b k) / 4294967296 = carry a b (k + 1) := by
  have h := carry_spec a b k
  have hd := dig_le (a + b) k
  rw [P2_32] at h
  omega
theorem borrow_dig (b t k : Nat) : (dig (b + t) k + 4294967296 - dig b k - carry b t k) % 4294967296 = dig t k ∧ 1 - (dig (b + t) k + 4294967296 - dig b k - carry b t k) / 4294967296 = carry b t (k + 1) := by
  have h := carry_spec b t k
  have hd := dig_le t k
  have hc := carry_le b t (k + 1)
  rw [P2_32] at h
  omega

/-! ### Shifted up -/
/-- What is carried into digit i of a number that is shifted up by r. -/
def carryS (a r i : Nat) : Nat := a % P2 (32 * i) * P2 r / P2 (32 * i)
theorem carryS_zero (a r : Nat) : carryS a r 0 = 0 := by unfold carryS; rw [show 32 * 0 = 0 from rfl, P2_0, Nat.mod_one, Nat.zero_mul]
theorem carryS_lt (a r i : Nat) : carryS a r i < P2 r := by
  unfold carryS
  rw [Nat.div_lt_iff_lt_mul (P2_pos _), Nat.mul_comm (P2 r)]
  exact Nat.mul_lt_mul_of_pos_right (Nat.mod_lt _ (P2_pos _)) (P2_pos _)
theorem shl_div (a r X : Nat) (hX : 0 < X) : a * P2 r / X = a / X * P2 r + a % X * P2 r / X := by
  have h := Nat.div_add_mod a X
  have : a * P2 r = a % X * P2 r + X * (a / X * P2 r) := by
    rw [← Nat.mul_assoc, ← Nat.add_mul]; congr 1; omega
  rw [this, Nat.add_mul_div_left _ _ hX]; omega
theorem carryS_spec (a r i : Nat) : dig a i * P2 r + carryS a r i = dig (a * P2 r) i + P2 32 * carryS a r (i + 1) := by
  have h1 := shl_div a r (P2 (32 * i)) (P2_pos _)
  have h2 := shl_div a r (P2 (32 * (i + 1))) (P2_pos _)
  have d1 := dig_split a i
  have d3 := dig_split (a * P2 r) i
  unfold carryS
  rw [h1, h2, d1] at d3
  generalize P2 (32 * (i + 1)) = Y at *
  rw [Nat.add_mul, Nat.mul_add] at d3
  rw [Nat.mul_assoc] at d3
  omega
theorem carryS_dig (a r i : Nat) : (dig a i * P2 r + carryS a r i) % 4294967296 = dig (a * P2 r) i ∧ (dig a i * P2 r + carryS a r i) / 4294967296 = carryS a r (i + 1) := by
  have h := carryS_spec a r i
  have hd := dig_le (a * P2 r) i
  rw [P2_32] at h
  omega
theorem dig_mul_P2 (a q i : Nat) : dig (a * P2 (32 * q)) (q + i) = dig a i := by
  unfold dig
  rw [Nat.mul_add, P2_add, ← Nat.div_div_eq_div_mul, Nat.mul_div_cancel _ (P2_pos _)]
theorem dig_mul_low (a q i : Nat) (h : i < q) : dig (a * P2 (32 * q)) i = 0 := by
  apply Nat.eq_of_testBit_eq
  intro j
  rw [dig_bit, bit_mul, Nat.zero_testBit]
  by_cases hj : j < 32
  · have : ¬ (32 * q ≤ 32 * i + j) := by omega
    simp [this]
  · simp [hj]
theorem or_add (x c r : Nat) (h : c < P2 r) : c ||| x * P2 r = x * P2 r + c := by
  rw [P2_eq] at h ⊢
  rw [Nat.mul_comm, Nat.or_comm, Nat.two_pow_add_eq_or_of_lt h]
/-! ### Shifted down -/
theorem dig_shr (a n i : Nat) : (dig a (n / 32 + i) ||| dig a (n / 32 + i + 1) * 4294967296) / P2 (n % 32) % 4294967296 = dig (a / P2 n) i := by
  apply Nat.eq_of_testBit_eq
  intro j
  have e : (4294967296 : Nat) = P2 32 := P2_32.symm
  rw [e, bit_mod, bit_div, Nat.testBit_or, bit_mul, dig_bit, dig_bit, dig_bit, bit_div]
  by_cases hj : j < 32
  · by_cases h2 : n % 32 + j < 32
    · have g1 : ¬ (32 ≤ n % 32 + j) := by omega
      have g2 : 32 * (n / 32 + i) + (n % 32 + j) = n + (32 * i + j) := by omega
      simp [hj, h2, g1, g2]
    · have g1 : 32 ≤ n % 32 + j := by omega
      have g2 : 32 * (n / 32 + i + 1) + (n % 32 + j - 32) = n + (32 * i + j) := by omega
      have g3 : n % 32 + j - 32 < 32 := by omega
      simp [hj, h2, g1, g2, g3]
  · simp [hj]
theorem shl_parts (a n : Nat) : a * P2 n = a * P2 (n % 32) * P2 (32 * (n / 32)) := by
  rw [Nat.mul_assoc, ← P2_add]; congr 2; omega
theorem dig_shl_low (a n i : Nat) (h : i < n / 32) : dig (a * P2 n) i = 0 := by rw [shl_parts]; exact dig_mul_low _ _ _ h
theorem dig_shl_high (a n i : Nat) : dig (a * P2 n) (n / 32 + i) = dig (a * P2 (n % 32)) i := by rw [shl_parts, dig_mul_P2]
/-- What is carried, made of a limb of 64 bits. -/
theorem shl_or (a r i : Nat) (hr : r < 32) : bits .or .u64 (carryS a r i : Nat) (IntKind.u64.wrap ((dig a i : Nat) * 2 ^ r)) = ((dig a i * P2 r + carryS a r i : Nat) : Int) := by
  have h1 := carryS_lt a r i
  have h2 := dig_lt a i
  have h3 : P2 r ≤ P2 31 := P2_le (by omega)
  have h4 : P2 31 = 2147483648 := by rw [P2_eq]
  have h5 : dig a i * P2 r < P2 64 := by
    have : dig a i * P2 r < P2 32 * P2 31 := Nat.lt_of_le_of_lt (Nat.mul_le_mul_left _ h3) (Nat.mul_lt_mul_of_pos_right h2 (P2_pos _))
    rw [← P2_add] at this
    exact Nat.lt_trans this (P2_lt (by decide))
  have h6 : carryS a r i < P2 64 := Nat.lt_of_lt_of_le h1 (P2_le (by omega))
  rw [mul_u64, Nat.mod_eq_of_lt h5, or_u64 _ _ h6 h5, or_add _ _ _ h1]
theorem shl_sum_le (a r i : Nat) (hr : r < 32) : dig a i * P2 r + carryS a r i ≤ 9223372036854775807 := by
  have h1 := carryS_lt a r i
  have h2 := dig_le a i
  have h3 : P2 r ≤ P2 31 := P2_le (by omega)
  have h4 : P2 31 = 2147483648 := by rw [P2_eq]
  have : dig a i * P2 r ≤ 4294967295 * 2147483648 := Nat.mul_le_mul h2 (by omega)
  omega
theorem shr_or (x y : Nat) (hx : x ≤ 4294967295) (hy : y ≤ 4294967295) : bits .or .u64 (x : Int) ((y : Int) * 4294967296) = ((x ||| y * 4294967296 : Nat) : Int) := by
  have := or_u64 x (y * 4294967296) (by rw [P2_64]; omega) (by rw [P2_64]; omega)
  have e : ((y * 4294967296 : Nat) : Int) = (y : Int) * 4294967296 := by omega
  rw [e] at this
  exact this

/-! ### How many binary digits -/
def blen (n : Nat) : Nat := if n = 0 then 0 else n.log2 + 1
theorem blen_zero : blen 0 = 0 := rfl
theorem blen_lt (n : Nat) : n < P2 (blen n) := by
  unfold blen
  split
  · rename_i h; rw [h]; exact P2_pos _
  · rw [P2_eq]; exact Nat.lt_log2_self
theorem blen_le {n : Nat} (h : n ≠ 0) : P2 (blen n - 1) ≤ n := by
  unfold blen
  rw [if_neg h, Nat.add_sub_cancel, P2_eq]
  exact Nat.log2_self_le h
theorem blen_pos {n : Nat} (h : n ≠ 0) : 0 < blen n := by unfold blen; rw [if_neg h]; omega
theorem blen_eq {n l : Nat} (h1 : n < P2 l) (h2 : 0 < l → P2 (l - 1) ≤ n) : blen n = l := by
  by_cases h0 : n = 0
  · subst h0
    rcases l with _ | l
    · rfl
    · have := h2 (by omega); have := P2_pos (l + 1 - 1); omega
  · have e1 := blen_lt n
    have e2 := blen_le h0
    have e3 := blen_pos h0
    rcases Nat.lt_or_ge (blen n) l with h | h
    · have := h2 (by omega)
      have := P2_le (show blen n ≤ l - 1 by omega)
      omega
    · rcases Nat.lt_or_ge l (blen n) with h' | h'
      · have := P2_le (show l ≤ blen n - 1 by omega)
        omega
      · omega
theorem blen_le_of {n e : Nat} (h : n < P2 e) : blen n ≤ e := by
  by_cases h0 : n = 0
  · subst h0; rw [blen_zero]; omega
  · have := blen_le h0
    rcases Nat.lt_or_ge e (blen n) with h' | h'
    · have := P2_le (show e ≤ blen n - 1 by omega)
      omega
    · exact h'
theorem lt_of_blen {n e : Nat} (h : blen n ≤ e) : n < P2 e := Nat.lt_of_lt_of_le (blen_lt n) (P2_le h)
/-- Out of the highest digit of base 2^32. -/
theorem blen_top {n k j : Nat} (h : n < P2 (32 * (k + 1))) (h1 : dig n k < P2 j) (h2 : 0 < j → P2 (j - 1) ≤ dig n k) (hj : 0 < j) : blen n = 32 * k + j := by
  have e1 := dig_split n k
  rw [Nat.div_eq_of_lt h, Nat.mul_zero, Nat.add_zero] at e1
  refine blen_eq ?_ fun _ => ?_
  · rw [P2_add, Nat.mul_comm, ← Nat.div_lt_iff_lt_mul (P2_pos _), e1]
    exact h1
  · rw [show 32 * k + j - 1 = 32 * k + (j - 1) by omega, P2_add, Nat.mul_comm, ← Nat.le_div_iff_mul_le (P2_pos _), e1]
    exact h2 hj
theorem ext_big {w : World} {v : Value} {n : Nat} (h : IsBig w v n) (x : Ext w.heap.size w) : IsBig x.val v n := h.below x.property
theorem ext_bigB {w0 w : World} {v : Value} {n : Nat} (h : IsBig w0 v n) (hb : Below w0.heap.size w0 w) (x : Ext w.heap.size w) : IsBig x.val v n := h.below (below_then hb x.property)
end Go.Proofs.YtegmmaaapdgocaaGreat

/- THE WALKS of the reference's numbers of any length: a digit, the noughts at the end, which is above. -/
namespace Go.Proofs.YtegmmaaapdgocaaGreat
open Go Go.RowKit

set_option maxHeartbeats 400000 in
theorem digit_any (v : Value) (n L : Nat) (i : Int) (w : World) (hL : L ≤ 60000) (h1 : -9223372036854775808 ≤ i) (h2 : i ≤ 9223372036854775807) (hv : IsRaw w v n L) :
    Calls Tryz.prog 70 #[v, .int .i64 i] w fun e w' => e = .returned (.int .u64 (digI n i : Nat)) ∧ Below w.heap.size w w' := by
  obtain ⟨⟨a, cap, rfl, hc, hx⟩, hl⟩ := hv
  by_cases hi : i < 0
  · have HX := Lib.hid hx; have HL := Lib.hid hl; clear hx hl
    go_enter Tryz.func70, Tryz.ntmps70
    go_wp2
    go_ret
    exact ⟨ret_int (by rw [digI_neg hi]; rfl), Below.refl _ _⟩
  obtain ⟨k, rfl⟩ := Int.eq_ofNat_of_zero_le (by omega : 0 ≤ i)
  by_cases hk : L ≤ k
  · have hd := dig_big n k L hl hk
    have HD := Lib.hid hd
    clear hx hl hd
    go_enter Tryz.func70, Tryz.ntmps70
    go_wp2
    all_goals (go_ret; exact ⟨ret_int (by rw [digI_nat, HD.out]; rfl), Below.refl _ _⟩)
  · obtain ⟨b, o, rfl, hb, hcell⟩ := hx (by omega)
    have hk' : k < L := by omega
    have hg := hcell k hk'
    have hle := dig_le n k
    clear hx hl hcell
    go_enter Tryz.func70, Tryz.ntmps70
    go_wp2
    go_ret
    exact ⟨ret_int (by rw [digI_nat]), Below.refl _ _⟩

set_option maxHeartbeats 400000 in
theorem trim_any (v : Value) (n L : Nat) (w : World) (hL : L ≤ 60000) (hv : IsRaw w v n L) :
    Calls Tryz.prog 71 #[v] w fun e w' => ∃ r, e = .returned r ∧ IsBig w r n ∧ w' = w := by
  obtain ⟨⟨a, cap, rfl, hc, hx⟩, hl⟩ := hv
  go_enter Tryz.func71, Tryz.ntmps71
  go_wp2
  go_loop [3] (fun s => ∃ k : Nat, k ≤ L ∧ s = .int .i64 k ∧ n < P2 (32 * k)) (fun s => (intOf s).toNat)
  case atStart => exact ⟨L, Nat.le_refl _, rfl, hl⟩
  case round =>
    obtain ⟨k, hk, rfl, hn⟩ := hrel
    rcases k with _ | k
    · have HN := Lib.hid hn
      clear hx hl hn
      go_wp2
      go_ret
      exact ⟨_, rfl, ⟨0, ⟨⟨a, cap, by simp, by omega, fun h => by omega⟩, HN.out⟩, fun h => absurd rfl h⟩, rfl⟩
    · obtain ⟨b, o, rfl, hb, hcell⟩ := hx (by omega)
      have hg := hcell k (by omega)
      have HC := Lib.hid hcell
      have HN := Lib.hid hn
      clear hx hl hn hcell
      by_cases hd : dig n k = 0
      · have HD := Lib.hid (lt_of_dig_zero HN.out hd)
        rw [hd] at hg
        clear hd
        go_wp2
        go_round
        case rel => exact ⟨k, by omega, by go_num, HD.out⟩
        case measure => simp [intOf]
      · have hd' : (((dig n k : Nat) : Int) == 0) = false := by simp; exact hd
        have HD := Lib.hid (le_of_dig hd)
        clear hd
        go_wp2
        go_ret
        exact ⟨_, rfl, ⟨k + 1, ⟨⟨_, cap, rfl, by omega, fun _ => ⟨b, o, rfl, hb, fun i hi => HC.out i (by omega)⟩⟩, HN.out⟩, fun _ => HD.out⟩, rfl⟩

set_option maxHeartbeats 1000000 in
theorem cmp_any (va vb : Value) (a b : Nat) (w : World) (hsa : a < BIG) (hsb : b < BIG) (ha : IsBig w va a) (hb : IsBig w vb b) :
    Calls Tryz.prog 41 #[va, vb] w fun e w' => e = .returned (.int .i64 (cmpN a b)) ∧ Below w.heap.size w w' := by
  obtain ⟨La, hra, hma⟩ := ha
  obtain ⟨Lb, hrb, hmb⟩ := hb
  have hla := small_len hra hma hsa
  have hlb := small_len hrb hmb hsb
  have HRA := Lib.hid hra
  have HRB := Lib.hid hrb
  obtain ⟨⟨aa, ca, rfl, hca, hxa⟩, hna⟩ := hra
  obtain ⟨⟨ab, cb, rfl, hcb, hxb⟩, hnb⟩ := hrb
  have HNA := Lib.hid hna; have HNB := Lib.hid hnb
  clear hna hnb hma hmb hsa hsb hxa hxb
  by_cases hmax : La < Lb
  all_goals
    go_enter Tryz.func41, Tryz.ntmps41
    go_wp2
    go_loopw [5] (fun s wr => ∃ k : Nat, k ≤ La + Lb ∧ s = .int .i64 ((k : Int) - 1) ∧ a / P2 (32 * k) = b / P2 (32 * k) ∧ Below w.heap.size w wr) (fun s _ => (intOf s + 1).toNat)
    case atStart =>
      first
        | exact ⟨Lb, by omega, rfl, by rw [above_top (lt_top HNA.out (by omega)), above_top HNB.out], Below.refl _ _⟩
        | exact ⟨La, by omega, rfl, by rw [above_top HNA.out, above_top (lt_top HNB.out (by omega))], Below.refl _ _⟩
    case round =>
      obtain ⟨k, hk, rfl, he, hbel⟩ := hrel
      have HE := Lib.hid he
      clear he
      rcases k with _ | k
      · have HB := Lib.hid hbel; clear hbel
        go_wp2
        go_ret
        refine ⟨ret_int ?_, HB.out⟩
        have := HE.out
        rw [show 32 * 0 = 0 from rfl, P2_0, Nat.div_one, Nat.div_one] at this
        rw [cmpN_eq this]
      · have d1 := digit_any _ a La ((k + 1 : Nat) - 1 : Int) wr (by omega) (by omega) (by omega) (HRA.out.below hbel (Nat.le_refl _))
        rw [show ((k + 1 : Nat) - 1 : Int) = (k : Int) from by omega, digI_nat] at d1
        have D1 := Lib.hid d1
        clear d1
        have R2 : Hid (∀ w', Below w.heap.size w w' → Calls Tryz.prog 70 #[.slice ab Lb cb, .int .i64 k] w' fun e w'' => e = .returned (.int .u64 (dig b k : Nat)) ∧ Below w'.heap.size w' w'') := fun w' hw' => by
          have := digit_any _ b Lb k w' (by omega) (by omega) (by omega) (HRB.out.below hw' (Nat.le_refl _))
          rwa [digI_nat] at this
        have R1 : Hid (∀ w', Below w.heap.size w w' → Calls Tryz.prog 70 #[.slice aa La ca, .int .i64 k] w' fun e w'' => e = .returned (.int .u64 (dig a k : Nat)) ∧ Below w'.heap.size w' w'') := fun w' hw' => by
          have := digit_any _ a La k w' (by omega) (by omega) (by omega) (HRA.out.below hw' (Nat.le_refl _))
          rwa [digI_nat] at this
        clear D1
        have hda := dig_le a k
        have hdb := dig_le b k
        have hz := hbel.size
        have HB := Lib.hid hbel; clear hbel
        have hd : dig a k < dig b k ∨ dig b k < dig a k ∨ dig a k = dig b k := by omega
        rcases hd with hd | hd | hd
        · go_wp2_with fail
          refine (R1.out _ HB.out).mono ?_
          rintro e w1 ⟨rfl, hb1⟩
          have HB1 := Lib.hid (HB.out.trans (hb1.mono hz)); clear hb1
          go_wp2_with fail
          refine (R2.out _ HB1.out).mono ?_
          rintro e w2 ⟨rfl, hb2⟩
          have HB2 := Lib.hid (HB1.out.trans (hb2.mono HB1.out.size)); clear hb2
          go_wp2_with fail
          go_ret
          exact ⟨ret_int (by rw [cmpN_lt (above_lt HE.out hd)]), HB2.out⟩
        · go_wp2_with fail
          refine (R1.out _ HB.out).mono ?_
          rintro e w1 ⟨rfl, hb1⟩
          have HB1 := Lib.hid (HB.out.trans (hb1.mono hz)); clear hb1
          go_wp2_with fail
          refine (R2.out _ HB1.out).mono ?_
          rintro e w2 ⟨rfl, hb2⟩
          have HB2 := Lib.hid (HB1.out.trans (hb2.mono HB1.out.size)); clear hb2
          go_wp2_with fail
          refine (R1.out _ HB2.out).mono ?_
          rintro e w3 ⟨rfl, hb3⟩
          have HB3 := Lib.hid (HB2.out.trans (hb3.mono HB2.out.size)); clear hb3
          go_wp2_with fail
          refine (R2.out _ HB3.out).mono ?_
          rintro e w4 ⟨rfl, hb4⟩
          have HB4 := Lib.hid (HB3.out.trans (hb4.mono HB3.out.size)); clear hb4
          go_wp2_with fail
          go_ret
          exact ⟨ret_int (by rw [cmpN_gt (above_lt HE.out.symm hd)]), HB4.out⟩
        · have HD := Lib.hid hd
          have h1 : ¬ dig a k < dig b k := by omega
          have h2 : ¬ dig b k < dig a k := by omega
          clear hd
          go_wp2_with fail
          refine (R1.out _ HB.out).mono ?_
          rintro e w1 ⟨rfl, hb1⟩
          have HB1 := Lib.hid (HB.out.trans (hb1.mono hz)); clear hb1
          go_wp2_with fail
          refine (R2.out _ HB1.out).mono ?_
          rintro e w2 ⟨rfl, hb2⟩
          have HB2 := Lib.hid (HB1.out.trans (hb2.mono HB1.out.size)); clear hb2
          go_wp2_with fail
          refine (R1.out _ HB2.out).mono ?_
          rintro e w3 ⟨rfl, hb3⟩
          have HB3 := Lib.hid (HB2.out.trans (hb3.mono HB2.out.size)); clear hb3
          go_wp2_with fail
          refine (R2.out _ HB3.out).mono ?_
          rintro e w4 ⟨rfl, hb4⟩
          have HB4 := Lib.hid (HB3.out.trans (hb4.mono HB3.out.size)); clear hb4
          go_wp2
          go_roundw
          case rel => exact ⟨k, by omega, by go_num, above_step HE.out HD.out, HB4.out⟩
          case measure => simp [intOf]
end Go.Proofs.YtegmmaaapdgocaaGreat

/- THE WALKS of the reference's sum. -/
namespace Go.Proofs.YtegmmaaapdgocaaGreat
open Go Go.RowKit

theorem infoU32 : (Tryz.prog.info? 80).map (fun i => (i.zero, i.size, i.bytes)) = some (some (.int .u32 0), 1, 4) := by kernel_rfl

set_option maxHeartbeats 1000000 in
theorem add_any (va vb : Value) (a b : Nat) (w : World) (hsa : a < BIG) (hsb : b < BIG) (ha : IsBig w va a) (hb : IsBig w vb b) :
    Calls Tryz.prog 59 #[va, vb] w (GivesBig (a + b) w) := by
  obtain ⟨La, hra, hma⟩ := ha
  obtain ⟨Lb, hrb, hmb⟩ := hb
  have hla := small_len hra hma hsa
  have hlb := small_len hrb hmb hsb
  have HRA := Lib.hid hra
  have HRB := Lib.hid hrb
  obtain ⟨⟨aa, ca, rfl, hca, hxa⟩, hna⟩ := hra
  obtain ⟨⟨ab, cb, rfl, hcb, hxb⟩, hnb⟩ := hrb
  obtain ⟨K, hK1, hK2, hmax⟩ : ∃ K, La ≤ K ∧ Lb ≤ K ∧ ((La < Lb ∧ K ≤ Lb) ∨ (Lb ≤ La ∧ K ≤ La)) := by
    by_cases h : La < Lb
    · exact ⟨Lb, by omega, by omega, by omega⟩
    · exact ⟨La, by omega, by omega, by omega⟩
  have hK : K ≤ 30000 := by omega
  have hN : a + b < P2 (32 * (K + 1)) := by
    have h1 := lt_top hna hK1
    have h2 := lt_top hnb hK2
    rw [show 32 * (K + 1) = 32 * K + 32 from by omega, P2_add, P2_32]
    omega
  have HN := Lib.hid hN
  clear hna hnb hma hmb hsa hsb hxa hxb hN
  rcases hmax with ⟨hm1, hm2⟩ | ⟨hm1, hm2⟩
  all_goals
    go_enter Tryz.func59, Tryz.ntmps59
    go_wp2
    go_loopw [5, 6, 7] (fun v c s wr => ∃ k : Nat, k ≤ K + 1 ∧ s = .int .i64 k ∧ c = .int .u64 (carry a b k : Nat) ∧ wr.ownsRow w.heap.size 80 1 v k (digsV (a + b) k) ∧ Below w.heap.size w wr) (fun _ _ s _ => (K + 1 - (intOf s).toNat))
    case atStart => exact ⟨0, by omega, rfl, by rw [carry_zero]; rfl, World.ownsRow_nil _ _ _ _, Below.refl _ _⟩
    case round =>
      obtain ⟨k, hk, rfl, rfl, hown, hbel⟩ := hrel
      by_cases hlt : k < K + 1
      · have R1 : Hid (∀ w', Below w.heap.size w w' → Calls Tryz.prog 70 #[.slice aa La ca, .int .i64 k] w' fun e w'' => e = .returned (.int .u64 (dig a k : Nat)) ∧ Below w'.heap.size w' w'') := fun w' hw' => by
          have := digit_any _ a La k w' (by omega) (by omega) (by omega) (HRA.out.below hw' (Nat.le_refl _))
          rwa [digI_nat] at this
        have R2 : Hid (∀ w', Below w.heap.size w w' → Calls Tryz.prog 70 #[.slice ab Lb cb, .int .i64 k] w' fun e w'' => e = .returned (.int .u64 (dig b k : Nat)) ∧ Below w'.heap.size w' w'') := fun w' hw' => by
          have := digit_any _ b Lb k w' (by omega) (by omega) (by omega) (HRB.out.below hw' (Nat.le_refl _))
          rwa [digI_nat] at this
        have hda := dig_le a k
        have hdb := dig_le b k
        have hcl := carry_le a b k
        have HB := Lib.hid hbel
        have HO := Lib.hid hown
        have hz := hbel.size
        clear hbel hown
        go_wp2_with fail
        refine (R1.out _ HB.out).mono ?_
        rintro e w1 ⟨rfl, hb1⟩
        have HB1 := Lib.hid (HB.out.trans (hb1.mono hz))
        have hz1 := hb1.size
        have HO1 := Lib.hid (ownsRow_below HO.out hb1)
        clear hb1
        go_wp2_with fail
        refine (R2.out _ HB1.out).mono ?_
        rintro e w2 ⟨rfl, hb2⟩
        have HB2 := Lib.hid (HB1.out.trans (hb2.mono HB1.out.size))
        have hz2 := hb2.size
        have HO2 := Lib.hid (ownsRow_below HO1.out hb2)
        clear hb2
        obtain ⟨i0, hi, hz0, hz1, hz2⟩ := info_parts infoU32
        go_wp2_with (at_builtin; refine wpList_append_own _ rfl _ _ 45 rfl w.heap.size 80 i0 (.int .u32 0) 1 4 Tryz.underlying45 hi hz0 hz1 hz2 rfl (by decide) _ _ _ rfl (HO2.out.alloc _) ⟨w2.heap.size, 0, none⟩ 1 1 [.int .u32 (((carry a b k : Nat) + (dig a k : Nat) + (dig b k : Nat) : Int) % 4294967296)] rfl rfl ?c1 ?c2 ?c3 ?c4 ?c5 ?_)
        case c1 =>
          intro j u hj
          match j, hj with
          | 0, hj => simp at hj; subst hj; simp [Addr.add]
        case c2 => intro u hu; simp at hu; subst hu; rfl
        case c3 => unfold maxLen; omega
        case c4 => omega
        case c5 => have := HB2.out.size; simp; omega
        intro v' w3 hown3 hgrow _
        have HB3 := Lib.hid (below_append HO2.out HB2.out HB2.out.size hgrow)
        have hsp := carry_dig a b k
        have hcv : (((carry a b k : Nat) + (dig a k : Nat) + (dig b k : Nat) : Int) % 4294967296) = (dig (a + b) k : Nat) := by omega
        rw [hcv, ← digsV_succ] at hown3
        have HO3 := Lib.hid hown3
        have hcn : (((carry a b k : Nat) + (dig a k : Nat) + (dig b k : Nat) : Int) / 4294967296) = (carry a b (k + 1) : Nat) := by omega
        have HCN := Lib.hid hcn
        clear hown3 hgrow hcv hsp hcn hi hz0 hz1 hz2
        go_wp2
        go_roundw
        case rel => exact ⟨k + 1, by omega, by go_num, by rw [HCN.out], HO3.out, HB3.out⟩
        case measure => simp [intOf]; omega
      · have HR := isRaw_of_owns hown (show a + b < P2 (32 * k) by rw [show k = K + 1 by omega]; exact HN.out)
        have HB := Lib.hid hbel
        have hT := trim_any _ (a + b) k wr (by omega) HR
        have HT := Lib.hid hT
        clear hown hbel HR hT
        go_wp2_with fail
        refine HT.out.mono ?_
        rintro e w1 ⟨r, rfl, hr, rfl⟩
        have HR := Lib.hid hr; clear hr
        go_wp2_with fail
        go_ret
        exact ⟨r, rfl, HR.out, HB.out⟩

set_option maxHeartbeats 1000000 in
theorem sub_any (va vb : Value) (b t : Nat) (w : World) (hsa : b + t < BIG) (ha : IsBig w va (b + t)) (hb : IsBig w vb b) :
    Calls Tryz.prog 74 #[va, vb] w (GivesBig t w) := by
  have hsb : b < BIG := by omega
  obtain ⟨La, hra, hma⟩ := ha
  obtain ⟨Lb, hrb, hmb⟩ := hb
  have hla := small_len hra hma hsa
  have hlb := small_len hrb hmb hsb
  have HRA := Lib.hid hra
  have HRB := Lib.hid hrb
  obtain ⟨⟨aa, ca, rfl, hca, hxa⟩, hna⟩ := hra
  obtain ⟨⟨ab, cb, rfl, hcb, hxb⟩, hnb⟩ := hrb
  have hN : t < P2 (32 * La) := by omega
  have HN := Lib.hid hN
  clear hna hnb hma hmb hsa hsb hxa hxb hN
  go_enter Tryz.func74, Tryz.ntmps74
  go_wp2
  go_loopw [5, 6, 7] (fun v c s wr => ∃ k : Nat, k ≤ La ∧ s = .int .i64 k ∧ c = .int .u64 (carry b t k : Nat) ∧ wr.ownsRow w.heap.size 80 1 v k (digsV t k) ∧ Below w.heap.size w wr) (fun _ _ s _ => (La - (intOf s).toNat))
  case atStart => exact ⟨0, by omega, rfl, by rw [carry_zero]; rfl, World.ownsRow_nil _ _ _ _, Below.refl _ _⟩
  case round =>
    obtain ⟨k, hk, rfl, rfl, hown, hbel⟩ := hrel
    by_cases hlt : k < La
    · have R1 : Hid (∀ w', Below w.heap.size w w' → Calls Tryz.prog 70 #[.slice aa La ca, .int .i64 k] w' fun e w'' => e = .returned (.int .u64 (dig (b + t) k : Nat)) ∧ Below w'.heap.size w' w'') := fun w' hw' => by
        have := digit_any _ (b + t) La k w' (by omega) (by omega) (by omega) (HRA.out.below hw' (Nat.le_refl _))
        rwa [digI_nat] at this
      have R2 : Hid (∀ w', Below w.heap.size w w' → Calls Tryz.prog 70 #[.slice ab Lb cb, .int .i64 k] w' fun e w'' => e = .returned (.int .u64 (dig b k : Nat)) ∧ Below w'.heap.size w' w'') := fun w' hw' => by
        have := digit_any _ b Lb k w' (by omega) (by omega) (by omega) (HRB.out.below hw' (Nat.le_refl _))
        rwa [digI_nat] at this
      have hda := dig_le (b + t) k
      have hdb := dig_le b k
      have hcl := carry_le b t k
      have HB := Lib.hid hbel
      have HO := Lib.hid hown
      have hz := hbel.size
      clear hbel hown
      go_wp2_with fail
      refine (R1.out _ HB.out).mono ?_
      rintro e w1 ⟨rfl, hb1⟩
      have HB1 := Lib.hid (HB.out.trans (hb1.mono hz))
      have HO1 := Lib.hid (ownsRow_below HO.out hb1)
      clear hb1
      go_wp2_with fail
      refine (R2.out _ HB1.out).mono ?_
      rintro e w2 ⟨rfl, hb2⟩
      have HB2 := Lib.hid (HB1.out.trans (hb2.mono HB1.out.size))
      have HO2 := Lib.hid (ownsRow_below HO1.out hb2)
      clear hb2
      obtain ⟨i0, hi, hz0, hz1, hz2⟩ := info_parts infoU32
      go_wp2_with (at_builtin; refine wpList_append_own _ rfl _ _ 45 rfl w.heap.size 80 i0 (.int .u32 0) 1 4 Tryz.underlying45 hi hz0 hz1 hz2 rfl (by decide) _ _ _ rfl (HO2.out.alloc _) ⟨w2.heap.size, 0, none⟩ 1 1 [.int .u32 (((dig (b + t) k : Nat) + 4294967296 - (dig b k : Nat) - (carry b t k : Nat) : Int) % 4294967296)] rfl rfl ?c1 ?c2 ?c3 ?c4 ?c5 ?_)
      case c1 =>
        intro j u hj
        match j, hj with
        | 0, hj => simp at hj; subst hj; simp [Addr.add]
      case c2 => intro u hu; simp at hu; subst hu; rfl
      case c3 => unfold maxLen; omega
      case c4 => omega
      case c5 => have := HB2.out.size; simp; omega
      intro v' w3 hown3 hgrow _
      have HB3 := Lib.hid (below_append HO2.out HB2.out HB2.out.size hgrow)
      have hsp := borrow_dig b t k
      have hcv : (((dig (b + t) k : Nat) + 4294967296 - (dig b k : Nat) - (carry b t k : Nat) : Int) % 4294967296) = (dig t k : Nat) := by omega
      rw [hcv, ← digsV_succ] at hown3
      have HO3 := Lib.hid hown3
      have hcn : (1 - ((dig (b + t) k : Nat) + 4294967296 - (dig b k : Nat) - (carry b t k : Nat) : Int) / 4294967296) = (carry b t (k + 1) : Nat) := by omega
      have HCN := Lib.hid hcn
      have hcq : ((dig (b + t) k : Nat) + 4294967296 - (dig b k : Nat) - (carry b t k : Nat) : Int) / 4294967296 ≤ 1 := by omega
      clear hown3 hgrow hcv hsp hcn hi hz0 hz1 hz2
      go_wp2
      go_roundw
      case rel => exact ⟨k + 1, by omega, by go_num, by rw [HCN.out], HO3.out, HB3.out⟩
      case measure => simp [intOf]; omega
    · have HR := isRaw_of_owns hown (show t < P2 (32 * k) by rw [show k = La by omega]; exact HN.out)
      have HB := Lib.hid hbel
      have hT := trim_any _ t k wr (by omega) HR
      have HT := Lib.hid hT
      clear hown hbel HR hT
      go_wp2_with fail
      refine HT.out.mono ?_
      rintro e w1 ⟨r, rfl, hr, rfl⟩
      have HR := Lib.hid hr; clear hr
      go_wp2_with fail
      go_ret
      exact ⟨r, rfl, HR.out, HB.out⟩
end Go.Proofs.YtegmmaaapdgocaaGreat

/- THE WALKS of the reference's shifts. -/
namespace Go.Proofs.YtegmmaaapdgocaaGreat
open Go Go.RowKit

set_option maxHeartbeats 1000000 in
theorem rshl_any (va : Value) (a n : Nat) (w : World) (hsa : a < BIG) (hn : n ≤ 900000) (ha : IsBig w va a) :
    Calls Tryz.prog 42 #[va, .int .i64 n] w (GivesBig (a * P2 n) w) := by
  obtain ⟨La, hra, hma⟩ := ha
  have hla := small_len hra hma hsa
  have HRA := Lib.hid hra
  obtain ⟨⟨aa, ca, rfl, hca, hxa⟩, hna⟩ := hra
  have hN : a * P2 n < P2 (32 * (n / 32 + (La + 1))) := by
    have h1 : a * P2 n < P2 (32 * La) * P2 n := Nat.mul_lt_mul_of_pos_right hna (P2_pos _)
    rw [← P2_add] at h1
    exact Nat.lt_of_lt_of_le h1 (P2_le (by omega))
  have HN := Lib.hid hN
  clear hna hma hsa hxa hN
  go_enter Tryz.func42, Tryz.ntmps42
  go_wp2
  go_loopw [5, 6] (fun v s wr => ∃ k : Nat, k ≤ n / 32 ∧ s = .int .i64 k ∧ wr.ownsRow w.heap.size 80 1 v k (digsV (a * P2 n) k) ∧ Below w.heap.size w wr) (fun _ s _ => (n / 32 - (intOf s).toNat))
  case atStart => exact ⟨0, by omega, rfl, World.ownsRow_nil _ _ _ _, Below.refl _ _⟩
  case round =>
    obtain ⟨k, hk, rfl, hown, hbel⟩ := hrel
    by_cases hlt : k < n / 32
    · have HB2 := Lib.hid hbel
      have HO2 := Lib.hid hown
      have hz := hbel.size
      clear hbel hown
      go_wp2_with (at_builtin; obtain ⟨i0, hi, hz0, hz1, hz2⟩ := info_parts infoU32; refine wpList_append_own _ rfl _ _ 45 rfl w.heap.size 80 i0 (.int .u32 0) 1 4 Tryz.underlying45 hi hz0 hz1 hz2 rfl (by decide) _ _ _ rfl (HO2.out.alloc _) ⟨wr.heap.size, 0, none⟩ 1 1 [.int .u32 0] rfl rfl ?c1x ?c2x ?c3x ?c4x ?c5x ?_)
      case c1x =>
        intro j u hj
        match j, hj with
        | 0, hj => simp at hj; subst hj; simp [Addr.add]
      case c2x => intro u hu; simp at hu; subst hu; rfl
      case c3x => unfold maxLen; omega
      case c4x => omega
      case c5x => have := HB2.out.size; simp; omega
      intro v' w3 hown3 hgrow _
      have HB3 := Lib.hid (below_append HO2.out HB2.out HB2.out.size hgrow)
      have hcv := dig_shl_low a n k hlt
      have hown4 : w3.ownsRow w.heap.size 80 1 v' (k + 1) (digsV (a * P2 n) (k + 1)) := by rw [digsV_succ, hcv]; exact hown3
      have HO3 := Lib.hid hown4
      clear hown3 hown4 hgrow hcv
      go_wp2
      go_roundw
      case rel => exact ⟨k + 1, by omega, by go_num, HO3.out, HB3.out⟩
      case measure => simp [intOf]; omega
    · rw [show k = n / 32 by omega] at hown
      have hge : n / 32 ≤ k := by omega
      have HB0 := Lib.hid hbel
      have HO0 := Lib.hid hown
      clear hbel hown hlt
      obtain ⟨wo, rfl⟩ : ∃ wo : World, wo = wr := ⟨_, rfl⟩
      go_wp2
      go_loopw [5, 7, 8] (fun v c s w' => ∃ k : Nat, k ≤ La + 1 ∧ s = .int .i64 k ∧ c = .int .u64 (carryS a (n % 32) k : Nat) ∧ w'.ownsRow w.heap.size 80 1 v (n / 32 + k) (digsV (a * P2 n) (n / 32 + k)) ∧ Below w.heap.size w w') (fun _ _ s _ => (La + 1 - (intOf s).toNat))
      case atStart => exact ⟨0, by omega, rfl, by rw [carryS_zero]; rfl, HO0.out, HB0.out⟩
      case round =>
        obtain ⟨k, hk, rfl, rfl, hown, hbel⟩ := hrel
        clear HO0 HB0
        by_cases hlt : k < La + 1
        · have R1 : Hid (∀ w', Below w.heap.size w w' → Calls Tryz.prog 70 #[.slice aa La ca, .int .i64 k] w' fun e w'' => e = .returned (.int .u64 (dig a k : Nat)) ∧ Below w'.heap.size w' w'') := fun w' hw' => by
            have := digit_any _ a La k w' (by omega) (by omega) (by omega) (HRA.out.below hw' (Nat.le_refl _))
            rwa [digI_nat] at this
          have hda := dig_le a k
          have hcl := shl_sum_le a (n % 32) k (Nat.mod_lt _ (by decide))
          have HV := Lib.hid (shl_or a (n % 32) k (Nat.mod_lt _ (by decide)))
          have HB := Lib.hid hbel
          have HO := Lib.hid hown
          have hz := hbel.size
          clear hbel hown
          go_wp2_with fail
          refine (R1.out _ HB.out).mono ?_
          rintro e w2 ⟨rfl, hb2⟩
          have HB2 := Lib.hid (HB.out.trans (hb2.mono hz))
          have HO2 := Lib.hid (ownsRow_below HO.out hb2)
          clear hb2
          have hv := HV.out
          go_wp2_with (at_builtin; obtain ⟨i0, hi, hz0, hz1, hz2⟩ := info_parts infoU32; refine wpList_append_own _ rfl _ _ 45 rfl w.heap.size 80 i0 (.int .u32 0) 1 4 Tryz.underlying45 hi hz0 hz1 hz2 rfl (by decide) _ _ _ rfl (HO2.out.alloc _) ⟨w2.heap.size, 0, none⟩ 1 1 [.int .u32 (((dig a k * P2 (n % 32) + carryS a (n % 32) k : Nat) : Int) % 4294967296)] rfl rfl ?c1y ?c2y ?c3y ?c4y ?c5y ?_)
          case c1y =>
            intro j u hj
            match j, hj with
            | 0, hj => simp at hj; subst hj; simp [Addr.add]
          case c2y => intro u hu; simp at hu; subst hu; rfl
          case c3y => unfold maxLen; omega
          case c4y => omega
          case c5y => have := HB2.out.size; simp; omega
          intro v' w3 hown3 hgrow _
          have HB3 := Lib.hid (below_append HO2.out HB2.out HB2.out.size hgrow)
          have hsp := carryS_dig a (n % 32) k
          have hhi := dig_shl_high a n k
          have hX : ((dig a k : Nat) * (P2 (n % 32) : Nat) + (carryS a (n % 32) k : Nat) : Int) = ((dig a k * P2 (n % 32) + carryS a (n % 32) k : Nat) : Int) := by push_cast; rfl
          have hcv : ((dig a k : Nat) * (P2 (n % 32) : Nat) + (carryS a (n % 32) k : Nat) : Int) % 4294967296 = (dig (a * P2 n) (n / 32 + k) : Nat) := by rw [hX]; omega
          rw [hcv, ← digsV_succ] at hown3
          have HO3 := Lib.hid hown3
          have hcn : ((dig a k : Nat) * (P2 (n % 32) : Nat) + (carryS a (n % 32) k : Nat) : Int) / 4294967296 = (carryS a (n % 32) (k + 1) : Nat) := by rw [hX]; omega
          have HCN := Lib.hid hcn
          have h0 : (0 : Int) ≤ (dig a k : Nat) * (P2 (n % 32) : Nat) + (carryS a (n % 32) k : Nat) := by rw [hX]; omega
          clear hown3 hgrow hcv hsp hhi hcn hX hv
          go_wp2
          go_roundw
          case rel => exact ⟨k + 1, by omega, by go_num, by rw [HCN.out], HO3.out, HB3.out⟩
          case measure => simp [intOf]; omega
        · have HR := isRaw_of_owns hown (show a * P2 n < P2 (32 * (n / 32 + k)) by rw [show k = La + 1 by omega]; exact HN.out)
          have HB := Lib.hid hbel
          have hT := trim_any _ (a * P2 n) (n / 32 + k) _ (by omega) HR
          have HT := Lib.hid hT
          clear hown hbel HR hT
          go_wp2_with fail
          refine HT.out.mono ?_
          rintro e w1 ⟨r, rfl, hr, rfl⟩
          have HR := Lib.hid hr; clear hr
          go_wp2_with fail
          go_ret
          exact ⟨r, rfl, HR.out, HB.out⟩
end Go.Proofs.YtegmmaaapdgocaaGreat
