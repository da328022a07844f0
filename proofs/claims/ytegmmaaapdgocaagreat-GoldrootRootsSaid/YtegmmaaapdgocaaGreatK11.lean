/- SEVERAL TEXTS of the seat, one behind the other: each says at its head what it proves. -/
import Derived.Test.YtegmmaaapdgocaaGreatK6
import Derived.Shelf.Bits.Mul64
import Derived.Test.YtegmmaaapdgocaaGreatRows
/- PLAIN ARITHMETIC: a limb put into a number; a product, limb by limb, whole and from a place on. No program stands in this text. -/
namespace Go.Proofs.YtegmmaaapdgocaaGreat
open Go Go.RowKit

theorem P2_mono_mul (i j : Nat) : P2 (64 * (i + j)) = P2 (64 * i) * P2 (64 * j) := by rw [← P2_add]; congr 1; omega
theorem P2_next (j : Nat) : P2 (64 * (j + 1)) = P2 (64 * j) * P2 64 := by rw [← P2_add]; congr 1
/-- A number with limb j replaced. -/
def setL (n j v : Nat) : Nat := n % P2 (64 * j) + P2 (64 * j) * (v + P2 64 * (n / P2 (64 * (j + 1))))
theorem limb_parts (n j : Nat) : n % P2 (64 * j) + P2 (64 * j) * (limb n j + P2 64 * (n / P2 (64 * (j + 1)))) = n := by
  rw [← limb_split]; exact Nat.mod_add_div n (P2 (64 * j))
theorem limb_modK (n K i : Nat) (h : i < K) : limb (n % P2 (64 * K)) i = limb n i := by
  apply Nat.eq_of_testBit_eq
  intro j
  rw [limb_bit, limb_bit, bit_mod]
  by_cases hj : j < 64
  · have : 64 * i + j < 64 * K := by omega
    simp [hj, this]
  · simp [hj]
theorem limb_setL (n j v i : Nat) (hv : v < P2 64) : limb (setL n j v) i = if i = j then v else limb n i := by
  rcases Nat.lt_trichotomy i j with h | h | h
  · rw [if_neg (by omega), ← limb_modK _ j i h, ← limb_modK n j i h]
    unfold setL
    rw [Nat.add_mul_mod_self_left, Nat.mod_mod]
  · subst h
    rw [if_pos rfl]
    unfold limb setL
    rw [Nat.add_mul_div_left _ _ (P2_pos _), Nat.div_eq_of_lt (Nat.mod_lt _ (P2_pos _)), Nat.zero_add, Nat.add_mul_mod_self_left, Nat.mod_eq_of_lt hv]
  · rw [if_neg (by omega)]
    unfold limb setL
    obtain ⟨d, rfl⟩ : ∃ d, i = j + 1 + d := ⟨i - j - 1, by omega⟩
    have e : P2 (64 * (j + 1 + d)) = P2 (64 * j) * (P2 64 * P2 (64 * d)) := by rw [P2_mono_mul, P2_next, Nat.mul_assoc]
    rw [e, ← Nat.div_div_eq_div_mul, Nat.add_mul_div_left _ _ (P2_pos _), Nat.div_eq_of_lt (Nat.mod_lt _ (P2_pos _)), Nat.zero_add, ← Nat.div_div_eq_div_mul, Nat.add_mul_div_left _ _ (P2_pos _), Nat.div_eq_of_lt hv, Nat.zero_add, Nat.div_div_eq_div_mul, ← P2_mono_mul, P2_mono_mul (j + 1) d, P2_next, Nat.mul_assoc]
theorem setL_lt (n j v K : Nat) (hn : n < P2 (64 * K)) (hj : j < K) (hv : v < P2 64) : setL n j v < P2 (64 * K) := by
  obtain ⟨d, rfl⟩ : ∃ d, K = j + 1 + d := ⟨K - j - 1, by omega⟩
  have h1 : n / P2 (64 * (j + 1)) < P2 (64 * d) := by
    rw [Nat.div_lt_iff_lt_mul (P2_pos _), Nat.mul_comm, ← P2_mono_mul]; exact hn
  have h2 := Nat.mod_lt n (P2_pos (64 * j))
  unfold setL
  have h3 : v + P2 64 * (n / P2 (64 * (j + 1))) < P2 64 * P2 (64 * d) := by
    have : P2 64 * (n / P2 (64 * (j + 1)) + 1) ≤ P2 64 * P2 (64 * d) := Nat.mul_le_mul_left _ h1
    rw [Nat.mul_add] at this
    omega
  have h4 : P2 (64 * j) * (v + P2 64 * (n / P2 (64 * (j + 1))) + 1) ≤ P2 (64 * j) * (P2 64 * P2 (64 * d)) := Nat.mul_le_mul_left _ h3
  rw [Nat.mul_add] at h4
  have e : P2 (64 * (j + 1 + d)) = P2 (64 * j) * (P2 64 * P2 (64 * d)) := by rw [P2_mono_mul (j + 1) d, P2_next, Nat.mul_assoc]
  rw [e]
  omega
/-- A limb is added: what is carried goes on to the next one. -/
theorem add_setL (n j c : Nat) : setL n j ((limb n j + c) % P2 64) + (limb n j + c) / P2 64 * P2 (64 * (j + 1)) = n + c * P2 (64 * j) := by
  have h0 := limb_parts n j
  unfold setL
  have h1 := Nat.mod_add_div (limb n j + c) (P2 64)
  generalize n / P2 (64 * (j + 1)) = H at *
  rw [P2_next]
  generalize P2 (64 * j) = P at *
  generalize n % P = L at *
  generalize P2 64 = Q at *
  generalize limb n j = l at *
  generalize (l + c) % Q = x at *
  generalize (l + c) / Q = y at *
  have e : P * (x + Q * H) + y * (P * Q) = P * (l + c + Q * H) := by
    rw [← h1, Nat.mul_add, Nat.mul_add, Nat.mul_add, Nat.mul_comm y, Nat.mul_assoc, Nat.mul_comm Q y]
    omega
  have e2 : P * (l + c + Q * H) = P * (l + Q * H) + c * P := by
    rw [Nat.mul_comm c P, ← Nat.mul_add]; congr 1; omega
  omega

/-! ### The product, row by row -/
/-- The first k products of row i, as far as their places are not below m. -/
def rowN (a b m i : Nat) : Nat → Nat
  | 0 => 0
  | k + 1 => rowN a b m i k + if m ≤ i + k then limb a i * limb b k * P2 (64 * (i + k)) else 0
/-- The first i rows. -/
def colN (a b m : Nat) : Nat → Nat
  | 0 => 0
  | i + 1 => colN a b m i + rowN a b m i 8
theorem low_next (b k : Nat) : b % P2 (64 * (k + 1)) = b % P2 (64 * k) + limb b k * P2 (64 * k) := by
  have h := limb_parts (b % P2 (64 * (k + 1))) k
  have e : b % P2 (64 * (k + 1)) % P2 (64 * k) = b % P2 (64 * k) := by rw [P2_next, Nat.mod_mul_right_mod]
  rw [limb_modK _ _ _ (Nat.lt_succ_self k), Nat.div_eq_of_lt (Nat.mod_lt _ (P2_pos _)), Nat.mul_zero, Nat.add_zero, e, Nat.mul_comm (P2 (64 * k))] at h
  exact h.symm
theorem rowN_eq (a b m i : Nat) : ∀ k, rowN a b m i k + limb a i * P2 (64 * i) * (b % P2 (64 * min k (m - i))) = limb a i * P2 (64 * i) * (b % P2 (64 * k)) := by
  intro k
  induction k with
  | zero => simp [rowN]
  | succ k ih =>
    unfold rowN
    by_cases h : m ≤ i + k
    · rw [if_pos h, low_next]
      have e : min (k + 1) (m - i) = min k (m - i) := by omega
      rw [e, Nat.mul_add (limb a i * P2 (64 * i)), P2_mono_mul i k]
      have : limb a i * limb b k * (P2 (64 * i) * P2 (64 * k)) = limb a i * P2 (64 * i) * (limb b k * P2 (64 * k)) := by
        rw [Nat.mul_assoc, Nat.mul_assoc, Nat.mul_left_comm (limb b k)]
      omega
    · rw [if_neg h]
      have e1 : min (k + 1) (m - i) = k + 1 := by omega
      have e2 : min k (m - i) = k := by omega
      rw [e2] at ih
      rw [e1]
      omega
theorem rowN_le (a b m i k : Nat) : rowN a b m i k ≤ limb a i * P2 (64 * i) * (b % P2 (64 * k)) := by
  have := rowN_eq a b m i k; omega
theorem rowN_mono (a b m i k : Nat) : rowN a b m i k ≤ rowN a b m i (k + 1) := by rw [rowN]; omega
theorem colN_le (a b m i : Nat) : colN a b m i ≤ a % P2 (64 * i) * b := by
  induction i with
  | zero => simp [colN]
  | succ i ih =>
    unfold colN
    have h := rowN_le a b m i 8
    have h2 : limb a i * P2 (64 * i) * (b % P2 (64 * 8)) ≤ limb a i * P2 (64 * i) * b := Nat.mul_le_mul_left _ (Nat.mod_le _ _)
    rw [low_next, Nat.add_mul]
    omega
theorem colN_all (a b : Nat) (hb : b < M) (i : Nat) : colN a b 0 i = a % P2 (64 * i) * b := by
  induction i with
  | zero => show 0 = a % P2 (64 * 0) * b; rw [P2_00, Nat.mod_one, Nat.zero_mul]
  | succ i ih =>
    unfold colN
    have h := rowN_eq a b 0 i 8
    rw [M_eq] at hb
    rw [show min 8 (0 - i) = 0 by omega, P2_00, Nat.mod_one, Nat.mul_zero, Nat.add_zero, Nat.mod_eq_of_lt (show b < P2 (64 * 8) from hb)] at h
    rw [ih, h, low_next, Nat.add_mul]
/-- All that lies in the middle of the reckoning stays below the product. -/
theorem col_row_le (a b m i k : Nat) : colN a b m i + rowN a b m i k ≤ a % P2 (64 * (i + 1)) * b := by
  have h1 := colN_le a b m i
  have h2 := rowN_le a b m i k
  have h3 : limb a i * P2 (64 * i) * (b % P2 (64 * k)) ≤ limb a i * P2 (64 * i) * b := Nat.mul_le_mul_left _ (Nat.mod_le _ _)
  rw [low_next, Nat.add_mul]
  omega
theorem prod_lt {a b : Nat} (ha : a < M) (hb : b < M) : a * b < P2 (64 * 16) := by
  rw [show 64 * 16 = 512 + 512 from rfl, P2_add, ← M_eq]
  exact Nat.mul_lt_mul'' ha hb
theorem part_lt {a b m i k : Nat} (ha : a < M) (hb : b < M) : colN a b m i + rowN a b m i k < P2 (64 * 16) :=
  Nat.lt_of_le_of_lt (Nat.le_trans (col_row_le a b m i k) (Nat.mul_le_mul_right _ (Nat.mod_le _ _))) (prod_lt ha hb)
theorem col_lt {a b m i : Nat} (ha : a < M) (hb : b < M) : colN a b m i < P2 (64 * 16) := by
  have := part_lt (m := m) (i := i) (k := 0) ha hb
  rwa [rowN, Nat.add_zero] at this
theorem limb_all {a : Nat} (ha : a < M) : a % P2 (64 * 8) = a := Nat.mod_eq_of_lt (by rw [M_eq] at ha; exact ha)
theorem col_all {a b : Nat} (ha : a < M) (hb : b < M) : colN a b 0 8 = a * b := by rw [colN_all a b hb, limb_all ha]
/-- The two halves of a product of limbs. -/
theorem mul_halves (x y j : Nat) : x * y % P2 64 * P2 (64 * j) + x * y / P2 64 * P2 (64 * (j + 1)) = x * y * P2 (64 * j) := by
  have h := Nat.mod_add_div (x * y) (P2 64)
  rw [P2_next]
  generalize P2 (64 * j) = P at *
  generalize hz : x * y = z at *
  generalize z % P2 64 = u at *
  generalize z / P2 64 = v at *
  rw [← h, Nat.add_mul, Nat.mul_comm (P2 64) v, Nat.mul_assoc, Nat.mul_comm (P2 64) P]
theorem mul_high_lt {x y : Nat} (hx : x < P2 64) (hy : y < P2 64) : x * y / P2 64 < P2 64 := by
  rw [Nat.div_lt_iff_lt_mul (P2_pos _)]
  exact Nat.mul_lt_mul'' hx hy
/-- From a place on: the sum of the shifted products is the shifted sum. -/
def rowS (a b m i : Nat) : Nat → Nat
  | 0 => 0
  | k + 1 => rowS a b m i k + if m ≤ i + k then limb a i * limb b k * P2 (64 * (i + k - m)) else 0
def colS (a b m : Nat) : Nat → Nat
  | 0 => 0
  | i + 1 => colS a b m i + rowS a b m i 8
theorem rowS_eq (a b m i : Nat) : ∀ k, rowS a b m i k * P2 (64 * m) = rowN a b m i k := by
  intro k
  induction k with
  | zero => simp [rowS, rowN]
  | succ k ih =>
    unfold rowS rowN
    rw [Nat.add_mul, ih]
    congr 1
    split
    · rename_i h
      rw [Nat.mul_assoc, ← P2_mono_mul, show i + k - m + m = i + k by omega]
    · simp
theorem colS_eq (a b m : Nat) : ∀ i, colS a b m i * P2 (64 * m) = colN a b m i := by
  intro i
  induction i with
  | zero => simp [colS, colN]
  | succ i ih => unfold colS colN; rw [Nat.add_mul, ih, rowS_eq]
theorem colS_div (a b m i : Nat) : colN a b m i / P2 (64 * m) = colS a b m i := by
  rw [← colS_eq, Nat.mul_div_cancel _ (P2_pos _)]
/-- How much a part lacks. -/
theorem row_lacks (a b m i : Nat) (hb : b < M) : limb a i * P2 (64 * i) * b ≤ rowN a b m i 8 + (if i < m then P2 (64 * m + 64) - 1 else 0) := by
  have h := rowN_eq a b m i 8
  rw [limb_all hb] at h
  split
  · rename_i him
    have h1 : limb a i ≤ P2 64 - 1 := by have := limb_lt a i; omega
    have h2 : b % P2 (64 * min 8 (m - i)) ≤ P2 (64 * (m - i)) - 1 := by
      have h3 := Nat.mod_lt b (P2_pos (64 * min 8 (m - i)))
      have h4 := P2_le (show 64 * min 8 (m - i) ≤ 64 * (m - i) by omega)
      omega
    have h5 : limb a i * P2 (64 * i) * (b % P2 (64 * min 8 (m - i))) ≤ P2 (64 * m + 64) - 1 := by
      have e : P2 (64 * m + 64) = P2 64 * P2 (64 * i) * P2 (64 * (m - i)) := by rw [← P2_add, ← P2_add]; congr 1; omega
      have p1 := P2_pos (64 * i)
      have p2 := P2_pos (64 * (m - i))
      have : limb a i * P2 (64 * i) * (b % P2 (64 * min 8 (m - i))) < P2 (64 * m + 64) := by
        rw [e]
        exact Nat.mul_lt_mul'' (Nat.mul_lt_mul_of_pos_right (limb_lt a i) p1) (by omega)
      omega
    omega
  · rename_i him
    rw [show min 8 (m - i) = 0 by omega, P2_00, Nat.mod_one, Nat.mul_zero] at h
    omega
theorem col_lacks (a b m : Nat) (hb : b < M) : ∀ i, a % P2 (64 * i) * b + min i m ≤ colN a b m i + min i m * P2 (64 * m + 64) := by
  intro i
  induction i with
  | zero => show a % P2 (64 * 0) * b + min 0 m ≤ 0 + _; rw [P2_00, Nat.mod_one, Nat.zero_mul]; omega
  | succ i ih =>
    unfold colN
    have h := row_lacks a b m i hb
    have hp := P2_pos (64 * m + 64)
    rw [low_next, Nat.add_mul]
    by_cases him : i < m
    · rw [if_pos him] at h
      rw [show min (i + 1) m = min i m + 1 by omega, Nat.add_mul, Nat.one_mul]
      omega
    · rw [if_neg him] at h
      rw [show min (i + 1) m = min i m by omega]
      omega
theorem part_lacks {a b m : Nat} (ha : a < M) (hb : b < M) (hm : 0 < m) : a * b < colN a b m 8 + m * P2 (64 * m + 64) := by
  have h := col_lacks a b m hb 8
  rw [limb_all ha] at h
  have h2 : min 8 m * P2 (64 * m + 64) ≤ m * P2 (64 * m + 64) := Nat.mul_le_mul_right _ (by omega)
  omega
theorem part_le {a b m : Nat} (ha : a < M) : colN a b m 8 ≤ a * b := by
  have := colN_le a b m 8
  rwa [limb_all ha] at this
end Go.Proofs.YtegmmaaapdgocaaGreat

/- WORLDS THAT DIFFER IN A FEW BLOCKS ALONE (a callee that writes through a pointer, a closure that writes what it captured); rows of limbs of any length. -/
namespace Go.Proofs.YtegmmaaapdgocaaGreat
open Go Go.RowKit

/-- All blocks that were there are as they were, but for those of S. -/
structure But (S : Nat → Prop) (w w' : World) : Prop where
  os : w'.os = w.os
  tape : w'.tape = w.tape
  output : w'.output = w.output
  size : w.heap.size ≤ w'.heap.size
  block : ∀ k, k < w.heap.size → ¬ S k → w'.heap[k]? = w.heap[k]?
theorem But.refl (S : Nat → Prop) (w : World) : But S w w := ⟨rfl, rfl, rfl, Nat.le_refl _, fun _ _ _ => rfl⟩
theorem But.trans {S : Nat → Prop} {w w1 w2 : World} (h : But S w w1) (k : But S w1 w2) : But S w w2 :=
  ⟨k.os.trans h.os, k.tape.trans h.tape, k.output.trans h.output, Nat.le_trans h.size k.size, fun i hi hs => (k.block i (Nat.lt_of_lt_of_le hi h.size) hs).trans (h.block i hi hs)⟩
theorem But.mono {S T : Nat → Prop} {w w' : World} (h : But S w w') (hst : ∀ k, k < w.heap.size → S k → T k) : But T w w' :=
  ⟨h.os, h.tape, h.output, h.size, fun i hi ht => h.block i hi fun hs => ht (hst i hi hs)⟩
theorem But.of_below {S : Nat → Prop} {w w' : World} (h : Below w.heap.size w w') : But S w w' :=
  ⟨h.os, h.tape, h.output, h.size, fun i hi _ => h.block i hi⟩
theorem But.below {S : Nat → Prop} {B : Nat} {W w w' : World} (h : Below B W w) (k : But S w w') (hB : B ≤ w.heap.size) (hs : ∀ i, i < B → ¬ S i) : Below B W w' :=
  ⟨k.os.trans h.os, k.tape.trans h.tape, k.output.trans h.output, Nat.le_trans h.size k.size, fun i hi => (k.block i (Nat.lt_of_lt_of_le hi hB) (hs i hi)).trans (h.block i hi)⟩
theorem But.set {S : Nat → Prop} {w w' : World} (h : But S w w') {g : Nat} (hg : S g) (j : Nat) (v : Value) : But S w (w'.setCell ⟨g, j, none⟩ v) :=
  h.trans ⟨rfl, rfl, rfl, by simp [World.setCell], fun i _ hs => set_other _ i v (fun e => hs (by rw [e]; exact hg))⟩
theorem But.al {S : Nat → Prop} {w w' : World} (h : But S w w') (o : Obj) : But S w (w'.alloc o) :=
  h.trans ⟨rfl, rfl, rfl, by simp, fun i hi _ => alloc_old _ o i hi⟩
theorem But.drew {S : Nat → Prop} {w w' : World} (h : But S w w') : But S w w'.drew :=
  h.trans ⟨rfl, rfl, rfl, Nat.le_refl _, fun _ _ _ => rfl⟩
theorem But.heap {S : Nat → Prop} {w w' : World} (h : But S w w') {g : Nat} {o : Obj} (hg : w.heap[g]? = some o) (hs : ¬ S g) : w'.heap[g]? = some o :=
  (h.block g (lt_of_heap hg) hs).trans hg

/-- K limbs of a number, as cells. -/
def kcells (K n : Nat) : Array Value := ((List.range K).map fun j => Value.int .u64 (limb n j : Nat)).toArray
theorem kcells_size (K n : Nat) : (kcells K n).size = K := by simp [kcells]
theorem kcells_get (K n j : Nat) (h : j < K) : (kcells K n)[j]? = some (.int .u64 (limb n j : Nat)) := by
  simp [kcells, h]
theorem kcells_set (K n j v : Nat) (_hj : j < K) (hv : v < P2 64) : (kcells K n).setIfInBounds j (.int .u64 (v : Nat)) = kcells K (setL n j v) := by
  apply Array.ext_getElem?
  intro i
  rw [Array.getElem?_setIfInBounds]
  by_cases hi : i < K
  · rw [kcells_get _ _ _ hi, kcells_get _ _ _ hi, limb_setL _ _ _ _ hv, kcells_size]
    by_cases e : j = i
    · subst e; simp [hi]
    · rw [if_neg e, if_neg (fun h => e h.symm)]
  · have e : j ≠ i := by omega
    rw [if_neg e, Array.getElem?_eq_none (by rw [kcells_size]; omega), Array.getElem?_eq_none (by rw [kcells_size]; omega)]
theorem kcells_8 (n : Nat) : kcells 8 n = wcells n := by
  apply Array.ext_getElem?
  intro i
  by_cases hi : i < 8
  · rw [kcells_get _ _ _ hi, wcells_get _ _ hi]
  · rw [Array.getElem?_eq_none (by rw [kcells_size]; omega), Array.getElem?_eq_none (by rw [wcells_size]; omega)]
@[go_sem] theorem kcells_17 : (#[.int .u64 0, .int .u64 0, .int .u64 0, .int .u64 0, .int .u64 0, .int .u64 0, .int .u64 0, .int .u64 0, .int .u64 0, .int .u64 0, .int .u64 0, .int .u64 0, .int .u64 0, .int .u64 0, .int .u64 0, .int .u64 0, .int .u64 0] : Array Value) = kcells 17 0 := by
  unfold kcells
  simp only [limb_zero]
  rfl
@[go_sem] theorem kget_0 (n : Nat) : (kcells 17 n)[0]? = some (.int .u64 (limb n 0 : Nat)) := kcells_get 17 n 0 (by decide)
@[go_sem] theorem kget_1 (n : Nat) : (kcells 17 n)[1]? = some (.int .u64 (limb n 1 : Nat)) := kcells_get 17 n 1 (by decide)
@[go_sem] theorem kget_2 (n : Nat) : (kcells 17 n)[2]? = some (.int .u64 (limb n 2 : Nat)) := kcells_get 17 n 2 (by decide)
@[go_sem] theorem kget_3 (n : Nat) : (kcells 17 n)[3]? = some (.int .u64 (limb n 3 : Nat)) := kcells_get 17 n 3 (by decide)
@[go_sem] theorem kget_4 (n : Nat) : (kcells 17 n)[4]? = some (.int .u64 (limb n 4 : Nat)) := kcells_get 17 n 4 (by decide)
@[go_sem] theorem kget_5 (n : Nat) : (kcells 17 n)[5]? = some (.int .u64 (limb n 5 : Nat)) := kcells_get 17 n 5 (by decide)
@[go_sem] theorem kget_6 (n : Nat) : (kcells 17 n)[6]? = some (.int .u64 (limb n 6 : Nat)) := kcells_get 17 n 6 (by decide)
@[go_sem] theorem kget_7 (n : Nat) : (kcells 17 n)[7]? = some (.int .u64 (limb n 7 : Nat)) := kcells_get 17 n 7 (by decide)
@[go_sem] theorem kget_8 (n : Nat) : (kcells 17 n)[8]? = some (.int .u64 (limb n 8 : Nat)) := kcells_get 17 n 8 (by decide)
@[go_sem] theorem kget_9 (n : Nat) : (kcells 17 n)[9]? = some (.int .u64 (limb n 9 : Nat)) := kcells_get 17 n 9 (by decide)
@[go_sem] theorem kget_10 (n : Nat) : (kcells 17 n)[10]? = some (.int .u64 (limb n 10 : Nat)) := kcells_get 17 n 10 (by decide)
@[go_sem] theorem kget_11 (n : Nat) : (kcells 17 n)[11]? = some (.int .u64 (limb n 11 : Nat)) := kcells_get 17 n 11 (by decide)
@[go_sem] theorem kget_12 (n : Nat) : (kcells 17 n)[12]? = some (.int .u64 (limb n 12 : Nat)) := kcells_get 17 n 12 (by decide)
@[go_sem] theorem kget_13 (n : Nat) : (kcells 17 n)[13]? = some (.int .u64 (limb n 13 : Nat)) := kcells_get 17 n 13 (by decide)
@[go_sem] theorem kget_14 (n : Nat) : (kcells 17 n)[14]? = some (.int .u64 (limb n 14 : Nat)) := kcells_get 17 n 14 (by decide)
@[go_sem] theorem kget_15 (n : Nat) : (kcells 17 n)[15]? = some (.int .u64 (limb n 15 : Nat)) := kcells_get 17 n 15 (by decide)
@[go_sem] theorem kget_16 (n : Nat) : (kcells 17 n)[16]? = some (.int .u64 (limb n 16 : Nat)) := kcells_get 17 n 16 (by decide)
@[go_sem] theorem kfold (n : Nat) : (#[.int .u64 (limb n 0 : Nat), .int .u64 (limb n 1 : Nat), .int .u64 (limb n 2 : Nat), .int .u64 (limb n 3 : Nat), .int .u64 (limb n 4 : Nat), .int .u64 (limb n 5 : Nat), .int .u64 (limb n 6 : Nat), .int .u64 (limb n 7 : Nat), .int .u64 (limb n 8 : Nat), .int .u64 (limb n 9 : Nat), .int .u64 (limb n 10 : Nat), .int .u64 (limb n 11 : Nat), .int .u64 (limb n 12 : Nat), .int .u64 (limb n 13 : Nat), .int .u64 (limb n 14 : Nat), .int .u64 (limb n 15 : Nat), .int .u64 (limb n 16 : Nat)] : Array Value) = kcells 17 n := rfl
/-- A whole row of limbs read, and laid into a block. -/
theorem ld_k {P : Program} {w : World} {g : Nat} {t : TypeId} {K n : Nat} (h : w.heap[g]? = some (.cells (kcells K n) t (0, 0))) :
    Sem.run P (loadCellsFrom ⟨g, 0, none⟩ 0 K #[]) w = .ok (kcells K n) w := by
  have := run_loadCells_list (P := P) w ⟨g, 0, none⟩ (kcells K n).toList (fun j v hv => by
    have hadd : (⟨g, 0, none⟩ : Addr).add j = ⟨g, j, none⟩ := by unfold Addr.add; split <;> simp_all
    rw [hadd, cell_row h j]
    simpa using hv)
  simpa [loadCells, kcells_size] using this
theorem st_k {P : Program} {w : World} {g : Nat} {t : TypeId} {K : Nat} {old : Array Value} (h : w.heap[g]? = some (.cells old t (0, 0))) (hs : old.size = K) (n : Nat) :
    Sem.run P (storeCells ⟨g, 0, none⟩ (kcells K n).toList) w = .ok () (w.setRow g (kcells K n)) := by
  have := run_storeCells_from (P := P) g t (kcells K n).toList 0 old w h (by simp [kcells_size, hs]) (by
    intro v hv
    simp only [kcells, List.mem_map] at hv
    obtain ⟨j, _, rfl⟩ := hv
    rfl)
  simpa using this
@[go_sem] theorem st_new_k {P : Program} (w : World) (z r : Nat) (t : TypeId) : Sem.run P (storeCells ⟨w.heap.size, 0, none⟩ (kcells 17 r).toList) (w.alloc (.cells (kcells 17 z) t)) = .ok () (w.alloc (.cells (kcells 17 r) t)) := by
  rw [st_k (alloc_new w _) (kcells_size _ _) r, setRow_new]
end Go.Proofs.YtegmmaaapdgocaaGreat

/- THE LIBRARY's functions on bits, by the kit's shelf: bits.Mul64 is a product, in two halves. -/
namespace Go.Proofs.YtegmmaaapdgocaaGreat
open Go Go.Shelf
def mulRen : Go.Shelf.Ren := ⟨fun | 264 => 147 | n => n, fun | 53 => 22 | 46 => 117 | n => n, fun n => n⟩
theorem mulLaid : Lays.n264 Tryz.prog mulRen where
  mixed := by kernel_rfl
  f264 := Tryz.func147.trans (congrArg some (by kernel_rfl))
  t46 := Tryz.underlying117
  a46 := Tryz.isAgg117
  z46 := Tryz.sizeOf117
  v46 := Tryz.zeroValue117
  t53 := Tryz.underlying22
  a53 := Tryz.isAgg22
  z53 := Tryz.sizeOf22
  v53 := Tryz.zeroValue22
theorem bits_Mul64 (x y : Nat) (hx : x < P2 64) (hy : y < P2 64) (w : World) :
    Calls Tryz.prog 147 #[.int .u64 x, .int .u64 y] w fun e w' => e = .returned (.tuple #[.int .u64 (x * y / P2 64 : Nat), .int .u64 (x * y % P2 64 : Nat)]) ∧ w' = w := by
  have h64 := P2_64
  rw [h64] at hx hy ⊢
  exact Any.bits_Mul64 mulLaid x y hx hy w
open Go.RowKit
theorem limbMul_any (x y : Nat) (hx : x < P2 64) (hy : y < P2 64) (w : World) :
    Calls Tryz.prog 138 #[.int .u64 x, .int .u64 y] w fun e w' => e = .returned (.tuple #[.int .u64 (x * y / P2 64 : Nat), .int .u64 (x * y % P2 64 : Nat)]) ∧ w' = w := by
  have h := Lib.hid (fun w' => bits_Mul64 x y hx hy w')
  obtain ⟨s, hs⟩ : ∃ s, s = x * y / P2 64 := ⟨_, rfl⟩
  obtain ⟨d, hd⟩ : ∃ d, d = x * y % P2 64 := ⟨_, rfl⟩
  rw [← hs, ← hd] at h ⊢
  clear hs hd hx hy
  go_enter Tryz.func138, Tryz.ntmps138
  go_wp2_with fail
  refine (h.out _).mono ?_
  rintro e w1 ⟨rfl, rfl⟩
  go_wp2
  exact bodyPost_ret (v := .tuple #[.int .u64 s, .int .u64 d]) (by simp [results, Tryz.results138, go_sem]) rfl ⟨rfl, rfl⟩
end Go.Proofs.YtegmmaaapdgocaaGreat
