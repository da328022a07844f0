/- THE WALKS of package fly, going on: the number of a list of digits. -/
import Derived.Test.YtffengboblekpaaFlyb
import Derived.Test.YtffengboblekpaaInts
import Derived.WalkMore
namespace Go.Proofs.Ytffengboblekpaa
open Go Go.RowKit

attribute [local go_sem ↓] Go.wp_at_zero Go.wp_at_succ
theorem first_bad : ∀ (zs : List Int), (∃ d ∈ zs, isDig d = false) → ∃ K, K < zs.length ∧ (∀ j d, j < K → zs[j]? = some d → isDig d = true) ∧ (∀ d, zs[K]? = some d → isDig d = false) := by
  intro zs
  induction zs with
  | nil => rintro ⟨d, hd, _⟩; cases hd
  | cons x xs ih =>
    rintro ⟨d, hd, hb⟩
    cases hx : isDig x with
    | false => exact ⟨0, by simp, fun j d hj => absurd hj (Nat.not_lt_zero _), fun d hd => by simp at hd; rw [← hd]; exact hx⟩
    | true =>
      obtain ⟨K, h1, h2, h3⟩ := ih ⟨d, by
        rcases List.mem_cons.1 hd with h | h
        · rw [h, hx] at hb; cases hb
        · exact h, hb⟩
      refine ⟨K + 1, by simp; exact h1, fun j d hj hd => ?_, fun d hd => h3 d (by simpa using hd)⟩
      rcases j with _ | j
      · simp at hd; rw [← hd]; exact hx
      · exact h2 j d (by omega) (by simpa using hd)
end Go.Proofs.Ytffengboblekpaa
