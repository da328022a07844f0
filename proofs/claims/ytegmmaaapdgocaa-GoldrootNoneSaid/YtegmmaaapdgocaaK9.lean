/- SEVERAL TEXTS of the seat, one behind the other: each says at its head what it proves. -/
import Derived.Test.YtegmmaaapdgocaaK8
import Derived.Test.YtegmmaaapdgocaaK3
import Derived.Test.YtegmmaaapdgocaaK1
/- THE WALKS of the reference's numbers of wides: package radicandref02. -/
namespace Go.Proofs.Ytegmmaaapdgocaa
open Go Go.RowKit

theorem isBig_nil (w : World) (a : Option Addr) (c : Nat) : IsBig w (.slice a 0 c) 0 :=
  ⟨0, ⟨⟨a, c, rfl, Nat.zero_le _, fun h => absurd h (by omega)⟩, P2_pos _⟩, fun h => absurd rfl h⟩
theorem GivesBig.mono' {n : Nat} {W w w' : World} {e : Ending} (hb : Below W.heap.size W w) (h : GivesBig n w e w') : GivesBig n W e w' := by
  obtain ⟨r, h1, h2, h3⟩ := h
  exact ⟨r, h1, h2, below_then hb h3⟩
/-- One limb more. -/
theorem limb_step (a i : Nat) : a % P2 (64 * i) + limb a i * P2 (64 * i) = a % P2 (64 * (i + 1)) := by
  unfold limb
  have e : P2 (64 * (i + 1)) = P2 (64 * i) * P2 64 := by rw [← P2_add]; congr 1
  rw [e, Nat.mod_mul, Nat.mul_comm (P2 (64 * i))]
theorem mod_small (a i : Nat) (ha : a < M) : a % P2 (64 * i) < BIG := small_M (Nat.lt_of_le_of_lt (Nat.mod_le _ _) ha)
theorem limb_small (a i : Nat) : limb a i < BIG := small_of (limb_lt a i) (by omega)
theorem limb_shl_small (a i : Nat) (hi : i ≤ 8) : limb a i * P2 (64 * i) < BIG := by
  have h : limb a i * P2 (64 * i) < P2 64 * P2 (64 * i) := Nat.mul_lt_mul_of_pos_right (limb_lt a i) (P2_pos _)
  rw [← P2_add] at h
  exact small_of h (by omega)

end Go.Proofs.Ytegmmaaapdgocaa

/- THE WALK of the reference's wide of a number. -/
namespace Go.Proofs.Ytegmmaaapdgocaa
open Go Go.RowKit

theorem wcells_set {x y h : Nat} (hh : h < 8) (ho : ∀ j, j < 8 → j ≠ h → limb y j = limb x j) : (wcells x).setIfInBounds h (.int .u64 (limb y h : Nat)) = wcells y := by
  unfold wcells
  rcases h with _ | _ | _ | _ | _ | _ | _ | _ | h
  all_goals first | omega | skip
  all_goals simp only [List.setIfInBounds_toArray, List.set_cons_zero, List.set_cons_succ]
  all_goals try (repeat (first | rw [ho 0 (by decide) (by decide)] | rw [ho 1 (by decide) (by decide)] | rw [ho 2 (by decide) (by decide)] | rw [ho 3 (by decide) (by decide)] | rw [ho 4 (by decide) (by decide)] | rw [ho 5 (by decide) (by decide)] | rw [ho 6 (by decide) (by decide)] | rw [ho 7 (by decide) (by decide)]))
/-- The lower i digits of 32 bits. -/
theorem low_limb (b i : Nat) : limb (b % P2 (32 * (i + 1))) (i / 2) = limb (b % P2 (32 * i)) (i / 2) + dig b i * P2 (32 * (i % 2)) := by
  have hx := Nat.mod_lt b (P2_pos (32 * i))
  rw [mod_split]
  generalize b % P2 (32 * i) = x at *
  have e : P2 (32 * i) = P2 (64 * (i / 2)) * P2 (32 * (i % 2)) := by rw [← P2_add]; congr 1; omega
  have hd := dig_lt b i
  unfold limb
  rw [e, show dig b i * (P2 (64 * (i / 2)) * P2 (32 * (i % 2))) = P2 (64 * (i / 2)) * (dig b i * P2 (32 * (i % 2))) from Nat.mul_left_comm _ _ _, Nat.add_mul_div_left _ _ (P2_pos _)]
  have h1 : x / P2 (64 * (i / 2)) < P2 (32 * (i % 2)) := by rw [Nat.div_lt_iff_lt_mul (P2_pos _), Nat.mul_comm, ← e]; exact hx
  have h2 : dig b i * P2 (32 * (i % 2)) + P2 (32 * (i % 2)) ≤ P2 32 * P2 (32 * (i % 2)) := by
    rw [← Nat.succ_mul]; exact Nat.mul_le_mul_right _ hd
  have h3 : P2 32 * P2 (32 * (i % 2)) ≤ P2 64 := by rw [← P2_add]; exact P2_le (by omega)
  have h4 : x / P2 (64 * (i / 2)) + dig b i * P2 (32 * (i % 2)) < P2 64 := Nat.lt_of_lt_of_le (Nat.lt_of_lt_of_le (by omega) h2) h3
  have h5 : x / P2 (64 * (i / 2)) < P2 64 := Nat.lt_of_le_of_lt (Nat.le_add_right _ _) h4
  rw [Nat.mod_eq_of_lt h4, Nat.mod_eq_of_lt h5]
theorem low_other (b i j : Nat) (h : j ≠ i / 2) : limb (b % P2 (32 * (i + 1))) j = limb (b % P2 (32 * i)) j := by
  apply Nat.eq_of_testBit_eq
  intro t
  rw [limb_bit, limb_bit, bit_mod, bit_mod]
  by_cases ht : t < 64
  · rcases Nat.lt_or_ge j (i / 2) with h1 | h1
    · have h2 : 64 * j + t < 32 * (i + 1) := by omega
      have h3 : 64 * j + t < 32 * i := by omega
      simp [h2, h3]
    · have h2 : ¬ (64 * j + t < 32 * (i + 1)) := by omega
      have h3 : ¬ (64 * j + t < 32 * i) := by omega
      simp [h2, h3]
  · simp [ht]
theorem wide_over {b L : Nat} (h1 : b < P2 (32 * L)) (h2 : L ≠ 0 → P2 (32 * (L - 1)) ≤ b) : (16 < L ↔ M ≤ b) := by
  rw [M_eq]
  constructor
  · intro h
    exact Nat.le_trans (P2_le (by omega)) (h2 (by omega))
  · intro h
    rcases Nat.lt_or_ge 16 L with h3 | h3
    · exact h3
    · have := P2_le (show 32 * L ≤ 512 by omega); omega

attribute [local go_sem ↓] Go.wp_at_zero Go.wp_at_succ
end Go.Proofs.Ytegmmaaapdgocaa

/- THE WALKS of the reference's powers, signs and shifts with a sign. -/
namespace Go.Proofs.Ytegmmaaapdgocaa
open Go Go.RowKit

theorem one_small : (1 : Nat) < BIG := small_of (e := 1) (by rw [P2_eq]; decide) (by decide)
theorem P2_small {n : Nat} (h : n ≤ 900000) : P2 n < BIG := small_of (e := n + 1) (P2_lt (by omega)) (by omega)

theorem cmp_ge (a b : Nat) : decide (cmpN a b ≥ 0) = decide (b ≤ a) := by
  unfold cmpN
  split
  · simp; omega
  · split <;> simp <;> omega

end Go.Proofs.Ytegmmaaapdgocaa
