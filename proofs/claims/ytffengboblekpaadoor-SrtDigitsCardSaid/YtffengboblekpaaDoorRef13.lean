/- THE WALKS of the reference of fly: digits, their sums, a difference modulo 2^512. -/
import Derived.Test.YtffengboblekpaaDoorK9
import Derived.Test.YtffengboblekpaaDoorK16
import Derived.Test.YtffengboblekpaaDoorInts
import Derived.Test.YtffengboblekpaaDoorFlyN
import Derived.Test.YtffengboblekpaaDoorK14
namespace Go.Proofs.YtffengboblekpaaDoor
open Go Go.RowKit

/-- What is above 0, and what is below. -/
def posS (zs : List Int) : Nat := zs.foldl (fun a d => a * P2 2 + d.toNat) 0
def negS (zs : List Int) : Nat := zs.foldl (fun a d => a * P2 2 + (-d).toNat) 0
theorem posS_succ (zs : List Int) (k : Nat) (d : Int) (h : zs[k]? = some d) : posS (zs.take (k + 1)) = posS (zs.take k) * P2 2 + d.toNat := take_foldl _ _ zs k d h
theorem negS_succ (zs : List Int) (k : Nat) (d : Int) (h : zs[k]? = some d) : negS (zs.take (k + 1)) = negS (zs.take k) * P2 2 + (-d).toNat := take_foldl _ _ zs k d h
theorem sums_spec (zs : List Int) (hz : ∀ d ∈ zs, isDig d = true) : ∀ k, k ≤ zs.length → posS (zs.take k) < P2 (2 * k) ∧ negS (zs.take k) < P2 (2 * k) ∧ digitsZ (zs.take k) = (posS (zs.take k) : Int) - (negS (zs.take k) : Int) := by
  intro k
  induction k with
  | zero => intro _; exact ⟨by rw [List.take_zero]; exact P2_pos _, by rw [List.take_zero]; exact P2_pos _, by rw [List.take_zero]; rfl⟩
  | succ k ih =>
    intro hk
    obtain ⟨h1, h2, h3⟩ := ih (by omega)
    obtain ⟨d, hd⟩ : ∃ d, zs[k]? = some d := ⟨zs[k]'(by omega), List.getElem?_eq_getElem _⟩
    obtain ⟨d1, d2⟩ := isDig_iff.1 (hz d (List.mem_of_getElem? hd))
    rw [posS_succ zs k d hd, negS_succ zs k d hd, digitsZ_succ zs k d hd, h3, show 2 * (k + 1) = 2 * k + 2 by omega, P2_add, P2_2]
    refine ⟨by omega, by omega, ?_⟩
    push_cast
    omega

attribute [local go_sem ↓] Go.wp_at_zero Go.wp_at_succ
end Go.Proofs.YtffengboblekpaaDoor
