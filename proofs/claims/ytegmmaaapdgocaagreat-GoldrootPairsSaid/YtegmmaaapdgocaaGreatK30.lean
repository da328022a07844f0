/- SEVERAL TEXTS of the seat, one behind the other: each says at its head what it proves. -/
import Derived.Test.YtegmmaaapdgocaaGreatRt2N
import Derived.Test.YtegmmaaapdgocaaGreatR2c
import Derived.Test.YtegmmaaapdgocaaGreatK16
/- THE WALK of root2's steps, with any function that takes them. -/
namespace Go.Proofs.YtegmmaaapdgocaaGreat
open Go Go.RowKit

/-- The digit that comes next; what is left behind i digits. -/
def rdgN (n i : Nat) : Nat := rtN 2 n / P2 (127 - i) % 2
def rlfN (n i : Nat) : Nat := n - rtT (rtN 2 n) (128 - i) * rtT (rtN 2 n) (128 - i)
theorem rlf_le (n i : Nat) : rlfN n i ≤ n := Nat.sub_le _ _
theorem rdg_le1 (n i : Nat) : rdgN n i ≤ 1 := by unfold rdgN; omega
theorem rlf_start {n : Nat} (h : n < P2 256) : rlfN n 0 = n := by
  unfold rlfN
  rw [show 128 - 0 = 128 from rfl, rtT_top (rt_lt h), Nat.mul_zero, Nat.sub_zero]
theorem rlf_end (n : Nat) : rlfN n 128 = n - rtN 2 n * rtN 2 n := by unfold rlfN; rw [show 128 - 128 = 0 from rfl, rtT_zero]

theorem But.extR {S : Nat → Prop} {w0 w : World} {R : List Aim} (h : But S w0 w) (x : ExtR w.heap.size R w) (hS : ∀ r ∈ R, S r.block) : But S w0 x.val :=
  h.trans ⟨x.os, x.tape, x.output, x.size, fun k hk hs => x.block k hk fun r hr e => hs (by rw [e]; exact hS r hr)⟩
attribute [local go_sem ↓] Go.wp_at_zero Go.wp_at_succ
end Go.Proofs.YtegmmaaapdgocaaGreat

/- THE WALKS of root2: what the root does with each step; roots, and whether a number is a square. -/
namespace Go.Proofs.YtegmmaaapdgocaaGreat
open Go Go.RowKit

/-- A root, its remainder, and why there is none. -/
def rsS (n : Nat) : Nat := if n < P2 256 then rtN 2 n else 0
def rsR (n : Nat) : Nat := if n < P2 256 then n - rtN 2 n * rtN 2 n else 0
def rsE (n : Nat) : Int := if n < P2 256 then 0 else 4
theorem rs_yes {n : Nat} (h : n < P2 256) : rsS n = rtN 2 n ∧ rsR n = n - rtN 2 n * rtN 2 n ∧ rsE n = 0 := by unfold rsS rsR rsE; rw [if_pos h, if_pos h, if_pos h]; exact ⟨rfl, rfl, rfl⟩
theorem rs_no {n : Nat} (h : ¬ n < P2 256) : rsS n = 0 ∧ rsR n = 0 ∧ rsE n = 4 := by unfold rsS rsR rsE; rw [if_neg h, if_neg h, if_neg h]; exact ⟨rfl, rfl, rfl⟩
theorem blen_256 {n : Nat} : blen n ≤ 256 ↔ n < P2 256 := ⟨lt_of_blen, blen_le_of⟩

attribute [local go_sem ↓] Go.wp_at_zero Go.wp_at_succ
/-- What the root has in hand behind i steps. -/
structure RootIn (n Qb Rb : Nat) (wq : World) (i : Nat) (w' : World) : Prop where
  q : w'.heap[Qb]? = some (.cells (wcells (rtN 2 n / P2 (128 - i))) 24 (0, 0))
  r : ∃ r0, w'.heap[Rb]? = some (.cells (wcells r0) 24 (0, 0)) ∧ (0 < i → r0 = rlfN n i)
  but : But (fun k => k = Qb ∨ k = Rb ∨ wq.heap.size ≤ k) wq w'

attribute [local go_sem ↓] Go.wp_at_zero Go.wp_at_succ
end Go.Proofs.YtegmmaaapdgocaaGreat
