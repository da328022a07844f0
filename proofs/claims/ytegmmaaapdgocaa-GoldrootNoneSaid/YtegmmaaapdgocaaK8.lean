/- SEVERAL TEXTS of the seat, one behind the other: each says at its head what it proves. -/
import Derived.Test.YtegmmaaapdgocaaK7
import Derived.Deep.RegionHeld3
import Derived.Deep.AppendLies
import Derived.Deep.DrawnRows
/- THE WALKS of the reference's shift down, and of how many digits a number has. -/
namespace Go.Proofs.Ytegmmaaapdgocaa
open Go Go.RowKit

end Go.Proofs.Ytegmmaaapdgocaa

/- THE WALKS of the reference's number of limbs, of one limb, and whether a number is odd. -/
namespace Go.Proofs.Ytegmmaaapdgocaa
open Go Go.RowKit

theorem u32wrap (x : Int) : IntKind.u32.wrap x = x % 4294967296 := by simp [IntKind.wrap, IntKind.signed, IntKind.bits]
theorem dig_even (n i : Nat) : dig n (2 * i) = limb n i % 4294967296 := by
  apply Nat.eq_of_testBit_eq
  intro j
  rw [show (4294967296 : Nat) = P2 32 from P2_32.symm, dig_bit, bit_mod, limb_bit]
  by_cases hj : j < 32
  · have : j < 64 := by omega
    rw [show 32 * (2 * i) = 64 * i by omega]
    simp [hj, this]
  · simp [hj]
theorem dig_odd (n i : Nat) : dig n (2 * i + 1) = limb n i / 4294967296 := by
  apply Nat.eq_of_testBit_eq
  intro j
  rw [show (4294967296 : Nat) = P2 32 from P2_32.symm, dig_bit, bit_div, limb_bit]
  rw [show 32 * (2 * i + 1) + j = 64 * i + (32 + j) by omega]
  by_cases hj : j < 32
  · have : 32 + j < 64 := by omega
    simp [hj, this]
  · have : ¬ (32 + j < 64) := by omega
    simp [hj, this]
attribute [local go_sem ↓] Go.wp_at_zero Go.wp_at_succ

theorem limb_one {l : Nat} (h : l ≤ 18446744073709551615) : limb l 0 = l := by
  unfold limb
  rw [show 64 * 0 = 0 from rfl, P2_0, Nat.div_one, P2_64, Nat.mod_eq_of_lt (by omega)]

end Go.Proofs.Ytegmmaaapdgocaa

/- THE WALK of the reference's product. -/
namespace Go.Proofs.Ytegmmaaapdgocaa
open Go Go.RowKit

/-! ### Digits of a product, line by line -/
/-- What stands when the digits below i of a are done. -/
def pS (a b i : Nat) : Nat := a % P2 (32 * i) * b
/-- And the digits below k of b for digit i of a. -/
def pN (a b i k : Nat) : Nat := pS a b i + dig a i * P2 (32 * i) * (b % P2 (32 * k))
/-- What is carried. -/
def pC (a b i k : Nat) : Nat := (pS a b i % P2 (32 * (i + k)) + dig a i * P2 (32 * i) * (b % P2 (32 * k))) / P2 (32 * (i + k))
theorem mod_split (n i : Nat) : n % P2 (32 * (i + 1)) = n % P2 (32 * i) + dig n i * P2 (32 * i) := by
  have h1 := dig_split n i
  have h2 := Nat.div_add_mod n (P2 (32 * i))
  have h3 := Nat.div_add_mod n (P2 (32 * (i + 1)))
  have h4 : P2 (32 * (i + 1)) = P2 (32 * i) * P2 32 := by rw [← P2_add]; congr 1
  rw [h1, Nat.mul_add, ← Nat.mul_assoc, ← h4, Nat.mul_comm (P2 (32 * i)) (dig n i)] at h2
  omega
theorem pS_zero (a b : Nat) : pS a b 0 = 0 := by unfold pS; rw [show 32 * 0 = 0 from rfl, P2_0, Nat.mod_one, Nat.zero_mul]
theorem pN_zero (a b i : Nat) : pN a b i 0 = pS a b i := by unfold pN; rw [show 32 * 0 = 0 from rfl, P2_0, Nat.mod_one, Nat.mul_zero]; rfl
theorem pC_zero (a b i : Nat) : pC a b i 0 = 0 := by
  unfold pC
  rw [show 32 * 0 = 0 from rfl, P2_0, Nat.mod_one, Nat.mul_zero, Nat.add_zero, Nat.add_zero]
  exact Nat.div_eq_of_lt (Nat.mod_lt _ (P2_pos _))
theorem P2_mul_step (i k : Nat) : P2 (32 * i) * P2 (32 * k) = P2 (32 * (i + k)) := by rw [← P2_add]; congr 1; omega
theorem pN_succ (a b i k : Nat) : pN a b i (k + 1) = pN a b i k + P2 (32 * (i + k)) * (dig a i * dig b k) := by
  unfold pN
  rw [mod_split b k, Nat.mul_add, ← Nat.add_assoc]
  congr 1
  rw [← P2_mul_step]
  simp only [Nat.mul_assoc, Nat.mul_comm, Nat.mul_left_comm]
theorem dig_low (n X j k : Nat) (h : j < k) : dig (n + P2 (32 * k) * X) j = dig n j := by
  unfold dig
  rw [show P2 (32 * k) = P2 (32 * j) * (P2 32 * P2 (32 * (k - j - 1))) by rw [← P2_add, ← P2_add]; congr 1; omega, Nat.mul_assoc, Nat.add_mul_div_left _ _ (P2_pos _), Nat.mul_assoc, Nat.add_mul_mod_self_left]
theorem pN_low (a b i k j : Nat) (h : j < i + k) : dig (pN a b i (k + 1)) j = dig (pN a b i k) j := by rw [pN_succ, dig_low _ _ _ _ h]
/-- The sum of one step. -/
def pT (a b i k : Nat) : Nat := pC a b i k + dig (pS a b i) (i + k) + dig a i * dig b k
theorem pT_eq (a b i k : Nat) : (pS a b i % P2 (32 * (i + k + 1)) + dig a i * P2 (32 * i) * (b % P2 (32 * (k + 1)))) / P2 (32 * (i + k)) = pT a b i k := by
  rw [mod_split (pS a b i) (i + k), mod_split b k, Nat.mul_add (dig a i * P2 (32 * i))]
  have : dig a i * P2 (32 * i) * (dig b k * P2 (32 * k)) = P2 (32 * (i + k)) * (dig a i * dig b k) := by
    rw [← P2_mul_step]; simp only [Nat.mul_assoc, Nat.mul_comm, Nat.mul_left_comm]
  rw [this, Nat.mul_comm (dig (pS a b i) (i + k))]
  generalize hU : dig a i * P2 (32 * i) * (b % P2 (32 * k)) = U
  rw [show pS a b i % P2 (32 * (i + k)) + P2 (32 * (i + k)) * dig (pS a b i) (i + k) + (U + P2 (32 * (i + k)) * (dig a i * dig b k)) = pS a b i % P2 (32 * (i + k)) + U + P2 (32 * (i + k)) * (dig (pS a b i) (i + k) + dig a i * dig b k) by rw [Nat.mul_add (P2 (32 * (i + k))) (dig (pS a b i) (i + k))]; omega]
  rw [Nat.add_mul_div_left _ _ (P2_pos _)]
  unfold pT pC
  rw [hU]; omega
theorem pC_succ (a b i k : Nat) : pC a b i (k + 1) = pT a b i k / 4294967296 := by
  rw [← pT_eq, Nat.div_div_eq_div_mul, ← P2_32, ← P2_add]
  unfold pC
  rw [← Nat.add_assoc, show 32 * (i + k + 1) = 32 * (i + k) + 32 by omega]
theorem pN_dig (a b i k : Nat) : dig (pN a b i (k + 1)) (i + k) = pT a b i k % 4294967296 := by
  rw [← pT_eq, ← P2_32]
  unfold dig
  have h := Nat.div_add_mod (pS a b i) (P2 (32 * (i + k + 1)))
  have e : P2 (32 * (i + k + 1)) = P2 (32 * (i + k)) * P2 32 := by rw [← P2_add]; congr 1
  unfold pN
  rw [show pS a b i + dig a i * P2 (32 * i) * (b % P2 (32 * (k + 1))) = (pS a b i % P2 (32 * (i + k + 1)) + dig a i * P2 (32 * i) * (b % P2 (32 * (k + 1)))) + P2 (32 * (i + k)) * (P2 32 * (pS a b i / P2 (32 * (i + k + 1)))) by rw [← Nat.mul_assoc, ← e]; omega]
  rw [Nat.add_mul_div_left _ _ (P2_pos _), Nat.add_mul_mod_self_left]
  rfl
theorem pC_le (a b i k : Nat) : pC a b i k ≤ 4294967295 := by
  apply Nat.le_of_lt_succ
  unfold pC
  rw [show Nat.succ 4294967295 = P2 32 from P2_32.symm, Nat.div_lt_iff_lt_mul (P2_pos _)]
  have h1 := Nat.mod_lt (pS a b i) (P2_pos (32 * (i + k)))
  have h2 := Nat.mod_lt b (P2_pos (32 * k))
  have h3 := dig_le a i
  have h4 : dig a i * P2 (32 * i) * (b % P2 (32 * k)) ≤ 4294967295 * P2 (32 * (i + k)) := by
    rw [← P2_mul_step, Nat.mul_assoc]
    exact Nat.mul_le_mul h3 (Nat.mul_le_mul_left _ (by omega))
  rw [P2_32]
  omega
theorem pT_le (a b i k : Nat) : dig a i * dig b k ≤ 18446744065119617025 := Nat.mul_le_mul (dig_le a i) (dig_le b k)
theorem pS_succ (a b i L : Nat) (hb : b < P2 (32 * L)) : pN a b i L = pS a b (i + 1) := by
  unfold pN pS
  rw [mod_split a i, Nat.add_mul, Nat.mod_eq_of_lt hb]
theorem pS_lt (a b i L : Nat) (hb : b < P2 (32 * L)) : pS a b i < P2 (32 * (i + L)) := by
  unfold pS
  rw [← P2_mul_step]
  rcases Nat.eq_zero_or_pos b with rfl | h
  · rw [Nat.mul_zero]; exact Nat.mul_pos (P2_pos _) (P2_pos _)
  · exact Nat.mul_lt_mul'' (Nat.mod_lt _ (P2_pos _)) hb
theorem pC_top (a b i L : Nat) (hb : b < P2 (32 * L)) : pC a b i L = dig (pS a b (i + 1)) (i + L) := by
  have h1 := pS_lt a b (i + 1) L hb
  have h2 := dig_split (pS a b (i + 1)) (i + L)
  rw [show i + L + 1 = i + 1 + L by omega, Nat.div_eq_of_lt h1] at h2
  have h3 : pS a b (i + 1) / P2 (32 * (i + L)) = dig (pS a b (i + 1)) (i + L) := by omega
  rw [← h3, ← pS_succ a b i L hb]
  unfold pC pN
  rw [Nat.mod_eq_of_lt (pS_lt a b i L hb)]
theorem pS_all (a b L : Nat) (ha : a < P2 (32 * L)) : pS a b L = a * b := by unfold pS; rw [Nat.mod_eq_of_lt ha]

theorem i64wrap (x : Int) (h : 0 ≤ x) (h2 : x ≤ 9223372036854775807) : IntKind.i64.wrap x = x := by
  simp [IntKind.wrap, IntKind.bits, IntKind.signed]
  omega
theorem wrapT (c s x y : Nat) (h1 : c ≤ 4294967295) (h2 : s ≤ 4294967295) (h3 : x ≤ 4294967295) (h4 : y ≤ 4294967295) :
    IntKind.u64.wrap (IntKind.u64.wrap ((c : Int) + IntKind.u64.wrap (s : Int)) + IntKind.u64.wrap (IntKind.u64.wrap (x : Int) * IntKind.u64.wrap (y : Int))) = ((c + s + x * y : Nat) : Int) ∧ c + s + x * y ≤ 18446744073709551615 := by
  have h := Nat.mul_le_mul h3 h4
  have e1 : IntKind.u64.wrap (x : Int) = (x : Int) := by rw [u64wrap]; omega
  have e2 : IntKind.u64.wrap (y : Int) = (y : Int) := by rw [u64wrap]; omega
  rw [e1, e2, ← Int.natCast_mul]
  generalize x * y = p at *
  simp only [u64wrap]
  omega
/-! ### The walk -/
/-- K cells in a block, each known. -/
structure Holds32 (w : World) (g K : Nat) (f : Nat → Nat) : Prop where
  ex : ∃ cs, w.heap[g]? = some (.cells cs 123 (0, 0)) ∧ ∀ j, j < K → cs[j]? = some (.int .u32 (f j : Nat))
theorem Holds32.cell {w : World} {g K : Nat} {f : Nat → Nat} (h : Holds32 w g K f) {j : Nat} (hj : j < K) : w.cell? ⟨g, j, none⟩ = some (.int .u32 (f j : Nat)) := by
  obtain ⟨cs, h1, h2⟩ := h.ex; rw [cell_row h1, h2 j hj]
theorem Holds32.free {w : World} {g K : Nat} {f : Nat → Nat} (h : Holds32 w g K f) (j : Nat) : w.frozen? ⟨g, j, none⟩ = false := by
  obtain ⟨cs, h1, h2⟩ := h.ex; exact free_row h1 j
theorem Holds32.lt {w : World} {g K : Nat} {f : Nat → Nat} (h : Holds32 w g K f) : g < w.heap.size := by
  obtain ⟨cs, h1, h2⟩ := h.ex; exact lt_of_heap h1
theorem Holds32.set {w : World} {g K : Nat} {f f' : Nat → Nat} (h : Holds32 w g K f) {j v : Nat} (hj : j < K) (hv : f' j = v) (ho : ∀ i, i < K → i ≠ j → f' i = f i) : Holds32 (w.setCell ⟨g, j, none⟩ (.int .u32 (v : Nat))) g K f' := by
  obtain ⟨cs, h1, h2⟩ := h.ex
  refine ⟨_, set_row h1 j _, fun i hi => ?_⟩
  have hs : j < cs.size := by
    rcases Nat.lt_or_ge j cs.size with h | h
    · exact h
    · have := h2 j hj; rw [Array.getElem?_eq_none h] at this; cases this
  rw [Array.getElem?_setIfInBounds]
  by_cases e : j = i
  · subst e; simp [hs, hv]
  · rw [if_neg e, h2 i hi, ho i hi (fun h => e h.symm)]
end Go.Proofs.Ytegmmaaapdgocaa
