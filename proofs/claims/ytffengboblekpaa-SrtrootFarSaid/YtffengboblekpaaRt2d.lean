/- THE WALK of root2's third root. -/
import Derived.Test.YtffengboblekpaaRt2b
import Derived.Test.YtffengboblekpaaProd6
namespace Go.Proofs.Ytffengboblekpaa
open Go Go.RowKit

theorem cube_eq (s : Nat) : s ^ 3 = s * s * s := by rw [show (3 : Nat) = 2 + 1 from rfl, Nat.pow_succ, sqr]
theorem cube_small {s : Nat} (hs : s < P2 100) : s * s < M ∧ s ^ 3 < M := by
  have h1 : s * s < P2 200 := by have := Nat.mul_lt_mul'' hs hs; rwa [← P2_add] at this
  have h2 : s * s * s < P2 300 := by have := Nat.mul_lt_mul'' h1 hs; rwa [← P2_add] at this
  have a1 : P2 200 < P2 512 := P2_lt (by omega)
  have a2 : P2 300 < P2 512 := P2_lt (by omega)
  rw [cube_eq, M_eq]
  omega
theorem pwV_3 {s : Nat} (hs : s < P2 100) : pwV s 3 = s ^ 3 := by
  obtain ⟨h1, h2⟩ := cube_small hs
  have hsM : s < M := by rw [M_eq]; exact Nat.lt_trans hs (P2_lt (by omega))
  rw [cube_eq] at h2 ⊢
  show ((1 * s % M) * s % M) * s % M = _
  rw [Nat.one_mul, Nat.mod_eq_of_lt hsM, Nat.mod_eq_of_lt h1, Nat.mod_eq_of_lt h2]
/-- A third root, and its remainder. -/
def cbS (n : Nat) : Nat := if n < P2 256 then rtN 3 n else 0
def cbR (n : Nat) : Nat := if n < P2 256 then n - rtN 3 n ^ 3 else 0
theorem cb_yes {n : Nat} (h : n < P2 256) : cbS n = rtN 3 n ∧ cbR n = n - rtN 3 n ^ 3 := by unfold cbS cbR; rw [if_pos h, if_pos h]; exact ⟨rfl, rfl⟩
theorem cb_no {n : Nat} (h : ¬ n < P2 256) : cbS n = 0 ∧ cbR n = 0 := by unfold cbS cbR; rw [if_neg h, if_neg h]; exact ⟨rfl, rfl⟩

attribute [local go_sem ↓] Go.wp_at_zero Go.wp_at_succ
end Go.Proofs.Ytffengboblekpaa
