/- THE WALKS of root2: what the root does with each step; roots, and whether a number is a square. -/
import Derived.Test.YtffengboblekpaaRt2
namespace Go.Proofs.Ytffengboblekpaa
open Go Go.RowKit

/-- A root, its remainder, and why there is none. -/
def rsS (n : Nat) : Nat := if n < P2 256 then rtN 2 n else 0
def rsR (n : Nat) : Nat := if n < P2 256 then n - rtN 2 n * rtN 2 n else 0
def rsE (n : Nat) : Int := if n < P2 256 then 0 else 4
theorem rs_yes {n : Nat} (h : n < P2 256) : rsS n = rtN 2 n ∧ rsR n = n - rtN 2 n * rtN 2 n ∧ rsE n = 0 := by unfold rsS rsR rsE; rw [if_pos h, if_pos h, if_pos h]; exact ⟨rfl, rfl, rfl⟩
theorem rs_no {n : Nat} (h : ¬ n < P2 256) : rsS n = 0 ∧ rsR n = 0 ∧ rsE n = 4 := by unfold rsS rsR rsE; rw [if_neg h, if_neg h, if_neg h]; exact ⟨rfl, rfl, rfl⟩
theorem blen_256 {n : Nat} : blen n ≤ 256 ↔ n < P2 256 := ⟨lt_of_blen, blen_le_of⟩

attribute [local go_sem ↓] Go.wp_at_zero Go.wp_at_succ
/-- What the root has in hand behind i steps. -/
structure RootIn (n Qb Rb : Nat) (wq : World) (i : Nat) (w' : World) : Prop where
  q : w'.heap[Qb]? = some (.cells (wcells (rtN 2 n / P2 (128 - i))) 24 (0, 0))
  r : ∃ r0, w'.heap[Rb]? = some (.cells (wcells r0) 24 (0, 0)) ∧ (0 < i → r0 = rlfN n i)
  but : But (fun k => k = Qb ∨ k = Rb ∨ wq.heap.size ≤ k) wq w'

attribute [local go_sem ↓] Go.wp_at_zero Go.wp_at_succ
end Go.Proofs.Ytffengboblekpaa
