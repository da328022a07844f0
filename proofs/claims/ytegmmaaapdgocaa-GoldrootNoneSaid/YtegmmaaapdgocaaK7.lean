/- SEVERAL TEXTS of the seat, one behind the other: each says at its head what it proves. -/
import Derived.Test.YtegmmaaapdgocaaK1
import Derived.Test.YtegmmaaapdgocaaRows
/- NUMBERS AS LISTS OF DIGITS OF 32 BITS (the reference's 'Big'): what such a slice reads as, and plain arithmetic on digits. No program's text stands here. -/
namespace Go.Proofs.Ytegmmaaapdgocaa
open Go Go.RowKit

/-- Digit i of base 2^32. -/
def dig (n i : Nat) : Nat := n / P2 (32 * i) % P2 32
theorem P2_0 : P2 0 = 1 := by rw [P2_eq]
theorem P2_32 : P2 32 = 4294967296 := by rw [P2_eq]
theorem dig_lt (n i : Nat) : dig n i < P2 32 := Nat.mod_lt _ (P2_pos _)
theorem dig_le (n i : Nat) : dig n i ≤ 4294967295 := by have := dig_lt n i; rw [P2_32] at this; omega
theorem dig_bit (a i j : Nat) : (dig a i).testBit j = (decide (j < 32) && a.testBit (32 * i + j)) := by
  rw [dig, bit_mod, bit_div]
theorem dig_big (n i L : Nat) (h : n < P2 (32 * L)) (hi : L ≤ i) : dig n i = 0 := by
  unfold dig
  rw [Nat.div_eq_of_lt (Nat.lt_of_lt_of_le h (P2_le (by omega)))]
  exact Nat.zero_mod _
theorem dig_zero (i : Nat) : dig 0 i = 0 := by unfold dig; rw [Nat.zero_div, Nat.zero_mod]
/-- A number is its lower digits, and what stands above. -/
theorem dig_split (n i : Nat) : n / P2 (32 * i) = dig n i + P2 32 * (n / P2 (32 * (i + 1))) := by
  unfold dig
  rw [show 32 * (i + 1) = 32 * i + 32 from by omega, P2_add, ← Nat.div_div_eq_div_mul]
  exact (Nat.mod_add_div _ _).symm

/-- A slice of L digits of a number, in a world. -/
structure IsRaw (w : World) (v : Value) (n L : Nat) : Prop where
  ex : ∃ a cap, v = .slice a L cap ∧ L ≤ cap ∧ (0 < L → ∃ b o, a = some ⟨b, o, none⟩ ∧ (∃ cur fr, w.heap[b]? = some (.cells cur 123 fr)) ∧ ∀ i, i < L → w.cell? ⟨b, o + i, none⟩ = some (.int .u32 (dig n i : Nat)))
  lt : n < P2 (32 * L)
theorem IsRaw.below {w w' : World} {v : Value} {n L : Nat} (h : IsRaw w v n L) {B : Nat} (hb : Below B w w') (hB : w.heap.size ≤ B) : IsRaw w' v n L := by
  obtain ⟨⟨a, cap, rfl, hc, hx⟩, hl⟩ := h
  refine ⟨⟨a, cap, rfl, hc, fun h0 => ?_⟩, hl⟩
  obtain ⟨b, o, rfl, ⟨cur, fr, ht⟩, hcell⟩ := hx h0
  have hb' := lt_of_heap ht
  exact ⟨b, o, rfl, ⟨cur, fr, (hb.block b (Nat.lt_of_lt_of_le hb' hB)).trans ht⟩, fun i hi => (hb.cell (p := ⟨b, o + i, none⟩) (Nat.lt_of_lt_of_le hb' hB)).trans (hcell i hi)⟩
/-- No nought at the end. -/
def IsBig (w : World) (v : Value) (n : Nat) : Prop := ∃ L, IsRaw w v n L ∧ (L ≠ 0 → P2 (32 * (L - 1)) ≤ n)
theorem IsBig.below {w w' : World} {v : Value} {n : Nat} (h : IsBig w v n) (hb : Below w.heap.size w w') : IsBig w' v n :=
  let ⟨L, h1, h2⟩ := h
  ⟨L, h1.below hb (Nat.le_refl _), h2⟩
/-- How many digits a number has. -/
theorem len_le {n L K : Nat} (h : L ≠ 0 → P2 (32 * (L - 1)) ≤ n) (hn : n < P2 (32 * K)) : L ≤ K := by
  by_cases h0 : L = 0
  · omega
  · have := Nat.lt_of_le_of_lt (h h0) hn
    rcases Nat.lt_or_ge K L with hk | hk
    · have := P2_le (show 32 * K ≤ 32 * (L - 1) by omega)
      omega
    · exact hk
/-- Numbers here stay below this. -/
def BIG : Nat := P2 (32 * 30000)
attribute [irreducible] BIG
theorem BIG_eq : BIG = P2 (32 * 30000) := by unfold BIG; rfl
theorem small_of {n e : Nat} (h : n < P2 e) (he : e ≤ 960000) : n < BIG := by rw [BIG_eq]; exact Nat.lt_of_lt_of_le h (P2_le (by omega))
theorem small_M {n : Nat} (h : n < M) : n < BIG := by rw [M_eq] at h; exact small_of h (by decide)
def digI (n : Nat) (i : Int) : Nat := if i < 0 then 0 else dig n i.toNat
theorem digI_neg {n : Nat} {i : Int} (h : i < 0) : digI n i = 0 := if_pos h
theorem digI_nat (n i : Nat) : digI n i = dig n i := by unfold digI; rw [if_neg (by omega)]; rfl
theorem digI_lt (n : Nat) (i : Int) : digI n i < P2 32 := by
  unfold digI
  split
  · exact P2_pos _
  · exact dig_lt _ _
theorem digI_le (n : Nat) (i : Int) : digI n i ≤ 4294967295 := by have := digI_lt n i; rw [P2_32] at this; omega
/-- A nought at the end: it may be left out. -/
theorem lt_of_dig_zero {n k : Nat} (h : n < P2 (32 * (k + 1))) (hd : dig n k = 0) : n < P2 (32 * k) := by
  have h1 := dig_split n k
  rw [Nat.div_eq_of_lt h, hd] at h1
  have h2 : n / P2 (32 * k) = 0 := by omega
  exact (Nat.div_eq_zero_iff_lt (P2_pos _)).1 h2
theorem le_of_dig {n k : Nat} (hd : dig n k ≠ 0) : P2 (32 * k) ≤ n := by
  rcases Nat.lt_or_ge n (P2 (32 * k)) with h | h
  · exact absurd (dig_big n k k h (Nat.le_refl _)) hd
  · exact h
def cmpN (a b : Nat) : Int := if a < b then -1 else if b < a then 1 else 0
theorem cmpN_eq {a b : Nat} (h : a = b) : cmpN a b = 0 := by unfold cmpN; rw [if_neg (by omega), if_neg (by omega)]
theorem cmpN_lt {a b : Nat} (h : a < b) : cmpN a b = -1 := if_pos h
theorem cmpN_gt {a b : Nat} (h : b < a) : cmpN a b = 1 := by unfold cmpN; rw [if_neg (by omega), if_pos h]
/-- From above: as long as the digits are the same, so is what stands above. -/
theorem above_step {a b k : Nat} (h : a / P2 (32 * (k + 1)) = b / P2 (32 * (k + 1))) (hd : dig a k = dig b k) : a / P2 (32 * k) = b / P2 (32 * k) := by
  rw [dig_split a k, dig_split b k, h, hd]
theorem above_lt {a b k : Nat} (h : a / P2 (32 * (k + 1)) = b / P2 (32 * (k + 1))) (hd : dig a k < dig b k) : a < b := by
  have h1 := dig_split a k
  have h2 := dig_split b k
  rw [← h] at h2
  rcases Nat.lt_or_ge a b with hlt | hge
  · exact hlt
  · have := Nat.div_le_div_right (c := P2 (32 * k)) hge
    omega
theorem above_top {a k : Nat} (h : a < P2 (32 * k)) : a / P2 (32 * k) = 0 := Nat.div_eq_of_lt h
theorem lt_top {a L K : Nat} (h : a < P2 (32 * L)) (hk : L ≤ K) : a < P2 (32 * K) := Nat.lt_of_lt_of_le h (P2_le (by omega))
theorem small_len {w : World} {v : Value} {n L : Nat} (_h : IsRaw w v n L) (hm : L ≠ 0 → P2 (32 * (L - 1)) ≤ n) (hs : n < BIG) : L ≤ 30000 := by
  rw [BIG_eq] at hs
  exact len_le hm hs
/-- The first k digits, as cells. -/
def digsV (n k : Nat) : List Value := (List.range k).map fun i => .int .u32 (dig n i : Nat)
theorem digsV_zero (n : Nat) : digsV n 0 = [] := rfl
theorem digsV_succ (n k : Nat) : digsV n (k + 1) = digsV n k ++ [.int .u32 (dig n k : Nat)] := by
  unfold digsV; rw [List.range_succ, List.map_append]; rfl
theorem digsV_get (n k i : Nat) (h : i < k) : (digsV n k)[i]? = some (.int .u32 (dig n i : Nat)) := by
  unfold digsV; simp [h]
theorem digsV_congr {m n k : Nat} (h : ∀ i, i < k → dig m i = dig n i) : digsV m k = digsV n k := by
  unfold digsV
  refine List.map_congr_left fun i hi => ?_
  rw [h i (List.mem_range.1 hi)]
theorem isRaw_of_owns {w : World} {base : Nat} {v : Value} {n K : Nat} (h : w.ownsRow base 123 1 v K (digsV n K)) (hn : n < P2 (32 * K)) : IsRaw w v n K := by
  refine ⟨?_, hn⟩
  obtain ⟨_, ⟨rfl, rfl⟩ | ⟨g, cap, cur, rfl, hb, hg, hnc, _, hcs, htake⟩⟩ := h
  · exact ⟨none, 0, rfl, Nat.le_refl _, fun h0 => absurd h0 (by omega)⟩
  · refine ⟨some ⟨g, 0, none⟩, cap, rfl, hnc, fun _ => ⟨g, 0, rfl, ⟨cur, _, hg⟩, fun i hi => ?_⟩⟩
    rw [Nat.zero_add, cell_row hg]
    have h1 := digsV_get n K i hi
    rw [← htake] at h1
    rw [List.getElem?_take] at h1
    simp only [Nat.mul_one, hi, if_true] at h1
    rw [← Array.getElem?_toList]
    exact h1
/-- What a function gives that makes a number. -/
def GivesBig (n : Nat) (W : World) (e : Ending) (w' : World) : Prop := ∃ r, e = .returned r ∧ IsBig w' r n ∧ Below W.heap.size W w'
/-- What is carried into digit k of a sum. -/
def carry (a b k : Nat) : Nat := (a % P2 (32 * k) + b % P2 (32 * k)) / P2 (32 * k)
theorem carry_zero (a b : Nat) : carry a b 0 = 0 := by unfold carry; rw [show 32 * 0 = 0 from rfl, P2_0, Nat.mod_one, Nat.mod_one]
theorem carry_le (a b k : Nat) : carry a b k ≤ 1 := by
  unfold carry
  have h1 := Nat.mod_lt a (P2_pos (32 * k))
  have h2 := Nat.mod_lt b (P2_pos (32 * k))
  exact Nat.le_of_lt_succ (by rw [Nat.div_lt_iff_lt_mul (P2_pos _)]; omega)
theorem sum_div (a b X : Nat) (hX : 0 < X) : (a + b) / X = a / X + b / X + (a % X + b % X) / X := by
  have h1 := Nat.div_add_mod a X
  have h2 := Nat.div_add_mod b X
  have : a + b = (a % X + b % X) + X * (a / X + b / X) := by rw [Nat.mul_add]; omega
  rw [this, Nat.add_mul_div_left _ _ hX]; omega
theorem carry_spec (a b k : Nat) : carry a b k + dig a k + dig b k = dig (a + b) k + P2 32 * carry a b (k + 1) := by
  have h1 := sum_div a b (P2 (32 * k)) (P2_pos _)
  have h2 := sum_div a b (P2 (32 * (k + 1))) (P2_pos _)
  have d1 := dig_split a k
  have d2 := dig_split b k
  have d3 := dig_split (a + b) k
  unfold carry
  rw [h1, h2, d1, d2] at d3
  generalize P2 (32 * (k + 1)) = Y at *
  rw [Nat.mul_add, Nat.mul_add] at d3
  omega
theorem carry_dig (a b k : Nat) : (carry a b k + dig a k + dig b k) % 4294967296 = dig (a + b) k ∧ (carry a b k + dig a k + dig b k) / 4294967296 = carry a b (k + 1) := by
  have h := carry_spec a b k
  have hd := dig_le (a + b) k
  rw [P2_32] at h
  omega
theorem borrow_dig (b t k : Nat) : (dig (b + t) k + 4294967296 - dig b k - carry b t k) % 4294967296 = dig t k ∧ 1 - (dig (b + t) k + 4294967296 - dig b k - carry b t k) / 4294967296 = carry b t (k + 1) := by
  have h := carry_spec b t k
  have hd := dig_le t k
  have hc := carry_le b t (k + 1)
  rw [P2_32] at h
  omega

/-! ### Shifted up -/
/-- What is carried into digit i of a number that is shifted up by r. -/
def carryS (a r i : Nat) : Nat := a % P2 (32 * i) * P2 r / P2 (32 * i)
theorem carryS_zero (a r : Nat) : carryS a r 0 = 0 := by unfold carryS; rw [show 32 * 0 = 0 from rfl, P2_0, Nat.mod_one, Nat.zero_mul]
theorem carryS_lt (a r i : Nat) : carryS a r i < P2 r := by
  unfold carryS
  rw [Nat.div_lt_iff_lt_mul (P2_pos _), Nat.mul_comm (P2 r)]
  exact Nat.mul_lt_mul_of_pos_right (Nat.mod_lt _ (P2_pos _)) (P2_pos _)
theorem shl_div (a r X : Nat) (hX : 0 < X) : a * P2 r / X = a / X * P2 r + a % X * P2 r / X := by
  have h := Nat.div_add_mod a X
  have : a * P2 r = a % X * P2 r + X * (a / X * P2 r) := by
    rw [← Nat.mul_assoc, ← Nat.add_mul]; congr 1; omega
  rw [this, Nat.add_mul_div_left _ _ hX]; omega
theorem carryS_spec (a r i : Nat) : dig a i * P2 r + carryS a r i = dig (a * P2 r) i + P2 32 * carryS a r (i + 1) := by
  have h1 := shl_div a r (P2 (32 * i)) (P2_pos _)
  have h2 := shl_div a r (P2 (32 * (i + 1))) (P2_pos _)
  have d1 := dig_split a i
  have d3 := dig_split (a * P2 r) i
  unfold carryS
  rw [h1, h2, d1] at d3
  generalize P2 (32 * (i + 1)) = Y at *
  rw [Nat.add_mul, Nat.mul_add] at d3
  rw [Nat.mul_assoc] at d3
  omega
theorem carryS_dig (a r i : Nat) : (dig a i * P2 r + carryS a r i) % 4294967296 = dig (a * P2 r) i ∧ (dig a i * P2 r + carryS a r i) / 4294967296 = carryS a r (i + 1) := by
  have h := carryS_spec a r i
  have hd := dig_le (a * P2 r) i
  rw [P2_32] at h
  omega
theorem dig_mul_P2 (a q i : Nat) : dig (a * P2 (32 * q)) (q + i) = dig a i := by
  unfold dig
  rw [Nat.mul_add, P2_add, ← Nat.div_div_eq_div_mul, Nat.mul_div_cancel _ (P2_pos _)]
theorem dig_mul_low (a q i : Nat) (h : i < q) : dig (a * P2 (32 * q)) i = 0 := by
  apply Nat.eq_of_testBit_eq
  intro j
  rw [dig_bit, bit_mul, Nat.zero_testBit]
  by_cases hj : j < 32
  · have : ¬ (32 * q ≤ 32 * i + j) := by omega
    simp [this]
  · simp [hj]
theorem or_add (x c r : Nat) (h : c < P2 r) : c ||| x * P2 r = x * P2 r + c := by
  rw [P2_eq] at h ⊢
  rw [Nat.mul_comm, Nat.or_comm, Nat.two_pow_add_eq_or_of_lt h]
/-! ### Shifted down -/
theorem dig_shr (a n i : Nat) : (dig a (n / 32 + i) ||| dig a (n / 32 + i + 1) * 4294967296) / P2 (n % 32) % 4294967296 = dig (a / P2 n) i := by
  apply Nat.eq_of_testBit_eq
  intro j
  have e : (4294967296 : Nat) = P2 32 := P2_32.symm
  rw [e, bit_mod, bit_div, Nat.testBit_or, bit_mul, dig_bit, dig_bit, dig_bit, bit_div]
  by_cases hj : j < 32
  · by_cases h2 : n % 32 + j < 32
    · have g1 : ¬ (32 ≤ n % 32 + j) := by omega
      have g2 : 32 * (n / 32 + i) + (n % 32 + j) = n + (32 * i + j) := by omega
      simp [hj, h2, g1, g2]
    · have g1 : 32 ≤ n % 32 + j := by omega
      have g2 : 32 * (n / 32 + i + 1) + (n % 32 + j - 32) = n + (32 * i + j) := by omega
      have g3 : n % 32 + j - 32 < 32 := by omega
      simp [hj, h2, g1, g2, g3]
  · simp [hj]
theorem shl_parts (a n : Nat) : a * P2 n = a * P2 (n % 32) * P2 (32 * (n / 32)) := by
  rw [Nat.mul_assoc, ← P2_add]; congr 2; omega
theorem dig_shl_low (a n i : Nat) (h : i < n / 32) : dig (a * P2 n) i = 0 := by rw [shl_parts]; exact dig_mul_low _ _ _ h
theorem dig_shl_high (a n i : Nat) : dig (a * P2 n) (n / 32 + i) = dig (a * P2 (n % 32)) i := by rw [shl_parts, dig_mul_P2]
/-- What is carried, made of a limb of 64 bits. -/
theorem shl_or (a r i : Nat) (hr : r < 32) : bits .or .u64 (carryS a r i : Nat) (IntKind.u64.wrap ((dig a i : Nat) * 2 ^ r)) = ((dig a i * P2 r + carryS a r i : Nat) : Int) := by
  have h1 := carryS_lt a r i
  have h2 := dig_lt a i
  have h3 : P2 r ≤ P2 31 := P2_le (by omega)
  have h4 : P2 31 = 2147483648 := by rw [P2_eq]
  have h5 : dig a i * P2 r < P2 64 := by
    have : dig a i * P2 r < P2 32 * P2 31 := Nat.lt_of_le_of_lt (Nat.mul_le_mul_left _ h3) (Nat.mul_lt_mul_of_pos_right h2 (P2_pos _))
    rw [← P2_add] at this
    exact Nat.lt_trans this (P2_lt (by decide))
  have h6 : carryS a r i < P2 64 := Nat.lt_of_lt_of_le h1 (P2_le (by omega))
  rw [mul_u64, Nat.mod_eq_of_lt h5, or_u64 _ _ h6 h5, or_add _ _ _ h1]
theorem shl_sum_le (a r i : Nat) (hr : r < 32) : dig a i * P2 r + carryS a r i ≤ 9223372036854775807 := by
  have h1 := carryS_lt a r i
  have h2 := dig_le a i
  have h3 : P2 r ≤ P2 31 := P2_le (by omega)
  have h4 : P2 31 = 2147483648 := by rw [P2_eq]
  have : dig a i * P2 r ≤ 4294967295 * 2147483648 := Nat.mul_le_mul h2 (by omega)
  omega
theorem shr_or (x y : Nat) (hx : x ≤ 4294967295) (hy : y ≤ 4294967295) : bits .or .u64 (x : Int) ((y : Int) * 4294967296) = ((x ||| y * 4294967296 : Nat) : Int) := by
  have := or_u64 x (y * 4294967296) (by rw [P2_64]; omega) (by rw [P2_64]; omega)
  have e : ((y * 4294967296 : Nat) : Int) = (y : Int) * 4294967296 := by omega
  rw [e] at this
  exact this

/-! ### How many binary digits -/
def blen (n : Nat) : Nat := if n = 0 then 0 else n.log2 + 1
theorem blen_zero : blen 0 = 0 := rfl
theorem blen_lt (n : Nat) : n < P2 (blen n) := by
  unfold blen
  split
  · rename_i h; rw [h]; exact P2_pos _
  · rw [P2_eq]; exact Nat.lt_log2_self
theorem blen_le {n : Nat} (h : n ≠ 0) : P2 (blen n - 1) ≤ n := by
  unfold blen
  rw [if_neg h, Nat.add_sub_cancel, P2_eq]
  exact Nat.log2_self_le h
theorem blen_pos {n : Nat} (h : n ≠ 0) : 0 < blen n := by unfold blen; rw [if_neg h]; omega
theorem blen_eq {n l : Nat} (h1 : n < P2 l) (h2 : 0 < l → P2 (l - 1) ≤ n) : blen n = l := by
  by_cases h0 : n = 0
  · subst h0
    rcases l with _ | l
    · rfl
    · have := h2 (by omega); have := P2_pos (l + 1 - 1); omega
  · have e1 := blen_lt n
    have e2 := blen_le h0
    have e3 := blen_pos h0
    rcases Nat.lt_or_ge (blen n) l with h | h
    · have := h2 (by omega)
      have := P2_le (show blen n ≤ l - 1 by omega)
      omega
    · rcases Nat.lt_or_ge l (blen n) with h' | h'
      · have := P2_le (show l ≤ blen n - 1 by omega)
        omega
      · omega
theorem blen_le_of {n e : Nat} (h : n < P2 e) : blen n ≤ e := by
  by_cases h0 : n = 0
  · subst h0; rw [blen_zero]; omega
  · have := blen_le h0
    rcases Nat.lt_or_ge e (blen n) with h' | h'
    · have := P2_le (show e ≤ blen n - 1 by omega)
      omega
    · exact h'
theorem lt_of_blen {n e : Nat} (h : blen n ≤ e) : n < P2 e := Nat.lt_of_lt_of_le (blen_lt n) (P2_le h)
/-- Out of the highest digit of base 2^32. -/
theorem blen_top {n k j : Nat} (h : n < P2 (32 * (k + 1))) (h1 : dig n k < P2 j) (h2 : 0 < j → P2 (j - 1) ≤ dig n k) (hj : 0 < j) : blen n = 32 * k + j := by
  have e1 := dig_split n k
  rw [Nat.div_eq_of_lt h, Nat.mul_zero, Nat.add_zero] at e1
  refine blen_eq ?_ fun _ => ?_
  · rw [P2_add, Nat.mul_comm, ← Nat.div_lt_iff_lt_mul (P2_pos _), e1]
    exact h1
  · rw [show 32 * k + j - 1 = 32 * k + (j - 1) by omega, P2_add, Nat.mul_comm, ← Nat.le_div_iff_mul_le (P2_pos _), e1]
    exact h2 hj
theorem ext_big {w : World} {v : Value} {n : Nat} (h : IsBig w v n) (x : Ext w.heap.size w) : IsBig x.val v n := h.below x.property
theorem ext_bigB {w0 w : World} {v : Value} {n : Nat} (h : IsBig w0 v n) (hb : Below w0.heap.size w0 w) (x : Ext w.heap.size w) : IsBig x.val v n := h.below (below_then hb x.property)
end Go.Proofs.Ytegmmaaapdgocaa

/- THE WALKS of the reference's numbers of any length: a digit, the noughts at the end, which is above. -/
namespace Go.Proofs.Ytegmmaaapdgocaa
open Go Go.RowKit

end Go.Proofs.Ytegmmaaapdgocaa

/- THE WALKS of the reference's sum. -/
namespace Go.Proofs.Ytegmmaaapdgocaa
open Go Go.RowKit

theorem infoU32 : (Try.prog.info? 123).map (fun i => (i.zero, i.size, i.bytes)) = some (some (.int .u32 0), 1, 4) := by kernel_rfl

end Go.Proofs.Ytegmmaaapdgocaa

/- THE WALKS of the reference's shifts. -/
namespace Go.Proofs.Ytegmmaaapdgocaa
open Go Go.RowKit

end Go.Proofs.Ytegmmaaapdgocaa
