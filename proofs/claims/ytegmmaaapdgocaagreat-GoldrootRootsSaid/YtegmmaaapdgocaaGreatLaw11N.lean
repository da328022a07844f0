/- PLAIN ARITHMETIC for the laws on radix2: quotients that come back; what is left behind some steps. No program stands in this text. -/
import Derived.Test.YtegmmaaapdgocaaGreatK14
namespace Go.Proofs.YtegmmaaapdgocaaGreat
open Go Go.RowKit

theorem lit_ltM (x : Nat) (h : x ≤ 18446744073709551615) : x < M := by
  rw [M_eq]
  exact Nat.lt_of_lt_of_le (show x < P2 64 by rw [P2_64]; omega) (P2_le (by omega))
/-- What a division answers, where there is none: noughts. -/
def dvQ (n d : Nat) : Nat := if mayN n d = 0 then n / d else 0
def dvR (n d : Nat) : Nat := if mayN n d = 0 then n % d else 0
theorem dv_no {n d : Nat} (h : mayN n d ≠ 0) : dvQ n d = 0 ∧ dvR n d = 0 := by unfold dvQ dvR; rw [if_neg h, if_neg h]; exact ⟨rfl, rfl⟩
theorem dv_yes {n d : Nat} (h : mayN n d = 0) : dvQ n d = n / d ∧ dvR n d = n % d := by unfold dvQ dvR; rw [if_pos h, if_pos h]; exact ⟨rfl, rfl⟩
theorem dv_lt {n d : Nat} (hn : n < M) : dvQ n d < M ∧ dvR n d < M := by
  have := M_pos
  unfold dvQ dvR
  split
  · exact ⟨Nat.lt_of_le_of_lt (Nat.div_le_self _ _) hn, Nat.lt_of_le_of_lt (Nat.mod_le _ _) hn⟩
  · exact ⟨M_pos, M_pos⟩
theorem may_range (n d : Nat) : mayN n d = 0 ∨ mayN n d = 4 ∨ mayN n d = 5 := by unfold mayN; split <;> (try split) <;> simp
theorem may_yes {n d : Nat} (h0 : 0 < d) (h1 : d < P2 120) (h2 : n < d * P2 128) : mayN n d = 0 := by
  unfold mayN
  rw [if_neg (by omega), if_neg]
  have := blen_le_of h1
  omega
theorem back_ok {q d r : Nat} (hq : q < P2 128) (hd : d < P2 120) (hr : r < d) : mayN (q * d + r) d = 0 ∧ (q * d + r) / d = q ∧ (q * d + r) % d = r ∧ q * d + r < M := by
  have h1 : q * d + r < d * P2 128 := by
    have : d * (q + 1) ≤ d * P2 128 := Nat.mul_le_mul_left _ hq
    rw [Nat.mul_add, Nat.mul_one, Nat.mul_comm d q] at this
    omega
  have h2 : d * P2 128 < M := by
    have := Nat.mul_lt_mul_of_pos_right hd (P2_pos 128)
    rw [← P2_add] at this
    rw [M_eq]
    exact Nat.lt_of_lt_of_le this (P2_le (by omega))
  refine ⟨may_yes (by omega) hd h1, ?_, ?_, by omega⟩
  · rw [Nat.mul_comm q d, Nat.mul_add_div (by omega), Nat.div_eq_of_lt hr, Nat.add_zero]
  · rw [Nat.mul_comm q d, Nat.mul_add_mod, Nat.mod_eq_of_lt hr]
theorem lft_sub (n d i : Nat) : lftN n d i + n / d / P2 (128 - i) * P2 (128 - i) * d = n := by
  unfold lftN
  rw [Nat.div_div_eq_div_mul, Nat.mul_assoc, Nat.mul_comm (P2 (128 - i)) d]
  have := Nat.div_add_mod n (d * P2 (128 - i))
  rw [Nat.mul_comm] at this
  omega
theorem lft_le (n d i : Nat) : lftN n d i ≤ n := Nat.mod_le _ _
end Go.Proofs.YtegmmaaapdgocaaGreat
