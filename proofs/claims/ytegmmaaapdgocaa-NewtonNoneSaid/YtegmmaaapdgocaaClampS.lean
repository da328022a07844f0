/- PLAIN WORDS on a shift that is held within bounds. -/
import Derived.Test.YtegmmaaapdgocaaProd4
import Derived.Test.YtegmmaaapdgocaaK9
namespace Go.Proofs.Ytegmmaaapdgocaa
open Go Go.RowKit

def clampS (n : Int) : Nat := if n < 0 then 0 else if 1100 < n then 1100 else n.toNat
theorem clampS_le (n : Int) : clampS n ≤ 1100 := by unfold clampS; split <;> (try split) <;> omega
theorem clampS_eq (n : Int) : min (max n 0) 1100 = (clampS n : Int) := by unfold clampS; split <;> (try split) <;> omega
theorem clampS_P (n : Int) : clampP n = min (clampS n) 1024 := by unfold clampS clampP; split <;> (try split) <;> (try split) <;> omega
theorem prod_cap {p : Nat} (hp : p < P2 1024) (c : Nat) : p / P2 (min c 1024) = p / P2 c ∧ decide (p % P2 (min c 1024) ≠ 0) = (cmpN (p / P2 c * P2 c) p != 0) := by
  have hd := Nat.div_add_mod p (P2 c)
  rw [Nat.mul_comm] at hd
  have e : p / P2 (min c 1024) = p / P2 c ∧ p % P2 (min c 1024) = p % P2 c := by
    rcases Nat.le_total c 1024 with h | h
    · rw [Nat.min_eq_left h]; exact ⟨rfl, rfl⟩
    · have hc : p < P2 c := Nat.lt_of_lt_of_le hp (P2_le h)
      rw [Nat.min_eq_right h, Nat.div_eq_of_lt hp, Nat.div_eq_of_lt hc, Nat.mod_eq_of_lt hp, Nat.mod_eq_of_lt hc]; exact ⟨rfl, rfl⟩
  refine ⟨e.1, ?_⟩
  rw [e.2]
  by_cases h : p % P2 c = 0
  · rw [cmpN_eq (by omega), h]; simp
  · rw [cmpN_lt (by omega), decide_eq_true h]; rfl

end Go.Proofs.Ytegmmaaapdgocaa
