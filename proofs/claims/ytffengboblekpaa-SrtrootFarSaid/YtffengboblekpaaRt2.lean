/- THE WALK of root2's steps, with any function that takes them. -/
import Derived.Test.YtffengboblekpaaRt2N
import Derived.Test.YtffengboblekpaaR2c
import Derived.Test.YtffengboblekpaaK16
namespace Go.Proofs.Ytffengboblekpaa
open Go Go.RowKit

/-- The digit that comes next; what is left behind i digits. -/
def rdgN (n i : Nat) : Nat := rtN 2 n / P2 (127 - i) % 2
def rlfN (n i : Nat) : Nat := n - rtT (rtN 2 n) (128 - i) * rtT (rtN 2 n) (128 - i)
theorem rlf_le (n i : Nat) : rlfN n i ≤ n := Nat.sub_le _ _
theorem rdg_le1 (n i : Nat) : rdgN n i ≤ 1 := by unfold rdgN; omega
theorem rlf_start {n : Nat} (h : n < P2 256) : rlfN n 0 = n := by
  unfold rlfN
  rw [show 128 - 0 = 128 from rfl, rtT_top (rt_lt h), Nat.mul_zero, Nat.sub_zero]
theorem rlf_end (n : Nat) : rlfN n 128 = n - rtN 2 n * rtN 2 n := by unfold rlfN; rw [show 128 - 128 = 0 from rfl, rtT_zero]

theorem But.extR {S : Nat → Prop} {w0 w : World} {R : List Aim} (h : But S w0 w) (x : ExtR w.heap.size R w) (hS : ∀ r ∈ R, S r.block) : But S w0 x.val :=
  h.trans ⟨x.os, x.tape, x.output, x.size, fun k hk hs => x.block k hk fun r hr e => hs (by rw [e]; exact hS r hr)⟩
attribute [local go_sem ↓] Go.wp_at_zero Go.wp_at_succ
end Go.Proofs.Ytffengboblekpaa
