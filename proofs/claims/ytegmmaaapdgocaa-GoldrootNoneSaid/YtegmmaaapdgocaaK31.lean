/- SEVERAL TEXTS of the seat, one behind the other: each says at its head what it proves. -/
import Derived.Test.YtegmmaaapdgocaaRt2N
import Derived.Test.YtegmmaaapdgocaaR2b
import Derived.Test.YtegmmaaapdgocaaK30
import Derived.Test.YtegmmaaapdgocaaProd6
import Derived.Test.YtegmmaaapdgocaaLaw11N
/- THE WALKS of the reference of root2: powers, roots; whether a number has a root here. -/
namespace Go.Proofs.Ytegmmaaapdgocaa
open Go Go.RowKit

theorem blen_256' {n : Nat} : blen n ≤ 256 ↔ n < P2 256 := ⟨lt_of_blen, blen_le_of⟩
theorem pow_small {b i : Nat} (hb : b < P2 132) (hi : i ≤ 3) : b ^ i < P2 400 := by
  have h1 : b * b < P2 264 := by have := Nat.mul_lt_mul'' hb hb; rwa [← P2_add] at this
  have h2 : b * b * b < P2 396 := by have := Nat.mul_lt_mul'' h1 hb; rwa [← P2_add] at this
  have a1 : P2 0 < P2 400 := P2_lt (by omega)
  have a2 : P2 132 ≤ P2 400 := P2_le (by omega)
  have a3 : P2 264 ≤ P2 400 := P2_le (by omega)
  have a4 : P2 396 ≤ P2 400 := P2_le (by omega)
  rcases (show i = 0 ∨ i = 1 ∨ i = 2 ∨ i = 3 by omega) with rfl | rfl | rfl | rfl
  · rw [Nat.pow_zero, ← P2_0]; exact a1
  · rw [Nat.pow_one]; omega
  · rw [sqr]; omega
  · rw [show (3 : Nat) = 2 + 1 from rfl, Nat.pow_succ, sqr]; omega

attribute [local go_sem ↓] Go.wp_at_zero Go.wp_at_succ
end Go.Proofs.Ytegmmaaapdgocaa

/- THE WALK of root2's third root. -/
namespace Go.Proofs.Ytegmmaaapdgocaa
open Go Go.RowKit

theorem cube_eq (s : Nat) : s ^ 3 = s * s * s := by rw [show (3 : Nat) = 2 + 1 from rfl, Nat.pow_succ, sqr]
theorem cube_small {s : Nat} (hs : s < P2 100) : s * s < M ∧ s ^ 3 < M := by
  have h1 : s * s < P2 200 := by have := Nat.mul_lt_mul'' hs hs; rwa [← P2_add] at this
  have h2 : s * s * s < P2 300 := by have := Nat.mul_lt_mul'' h1 hs; rwa [← P2_add] at this
  have a1 : P2 200 < P2 512 := P2_lt (by omega)
  have a2 : P2 300 < P2 512 := P2_lt (by omega)
  rw [cube_eq, M_eq]
  omega
theorem pwV_3 {s : Nat} (hs : s < P2 100) : pwV s 3 = s ^ 3 := by
  obtain ⟨h1, h2⟩ := cube_small hs
  have hsM : s < M := by rw [M_eq]; exact Nat.lt_trans hs (P2_lt (by omega))
  rw [cube_eq] at h2 ⊢
  show ((1 * s % M) * s % M) * s % M = _
  rw [Nat.one_mul, Nat.mod_eq_of_lt hsM, Nat.mod_eq_of_lt h1, Nat.mod_eq_of_lt h2]
/-- A third root, and its remainder. -/
def cbS (n : Nat) : Nat := if n < P2 256 then rtN 3 n else 0
def cbR (n : Nat) : Nat := if n < P2 256 then n - rtN 3 n ^ 3 else 0
theorem cb_yes {n : Nat} (h : n < P2 256) : cbS n = rtN 3 n ∧ cbR n = n - rtN 3 n ^ 3 := by unfold cbS cbR; rw [if_pos h, if_pos h]; exact ⟨rfl, rfl⟩
theorem cb_no {n : Nat} (h : ¬ n < P2 256) : cbS n = 0 ∧ cbR n = 0 := by unfold cbS cbR; rw [if_neg h, if_neg h]; exact ⟨rfl, rfl⟩

attribute [local go_sem ↓] Go.wp_at_zero Go.wp_at_succ
end Go.Proofs.Ytegmmaaapdgocaa

/- THE WALKS of the laws on root2: roots and third roots. -/
namespace Go.Proofs.Ytegmmaaapdgocaa
open Go Go.RowKit

/-- Is a number a square? -/
def sqB (n : Nat) : Bool := decide (n < P2 256) && isZ (rsR n)
theorem rs_lt {n : Nat} (hn : n < M) : rsS n < M ∧ rsR n < M := by
  have := M_pos
  unfold rsS rsR
  split
  · rename_i h
    have := rt_lt h
    have h2 : P2 128 < M := by rw [M_eq]; exact P2_lt (by omega)
    exact ⟨by omega, by omega⟩
  · exact ⟨M_pos, M_pos⟩
theorem root_99 : (99 : Nat) < P2 256 ∧ rtN 2 99 = 9 ∧ rtN 3 99 = 4 := by
  refine ⟨?_, rt_unique (by decide) (by decide), ?_⟩
  · have : P2 64 ≤ P2 256 := P2_le (by omega)
    rw [P2_64] at this
    omega
  · have h1 := (rt_le 3 99 4 (by decide)).2 (by decide)
    have h2 : ¬ 5 ≤ rtN 3 99 := fun h => by
      have := (rt_le 3 99 5 (by decide)).1 h
      revert this
      decide
    omega

attribute [local go_sem ↓] Go.wp_at_zero Go.wp_at_succ
end Go.Proofs.Ytegmmaaapdgocaa
