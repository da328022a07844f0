/- THE WALK of the reference's shift down with a sign. -/
import Derived.Test.YtegmmaaapdgocaaGreatK9
import Derived.Test.YtegmmaaapdgocaaGreatWide7
import Derived.Deep.DeepCutAuto
import Derived.Deep.RegionWith
namespace Go.Proofs.YtegmmaaapdgocaaGreat
open Go Go.RowKit

def clampR (n : Int) : Nat := if n < 0 then 0 else if 600 < n then 600 else n.toNat
theorem clampR_le (n : Int) : clampR n ≤ 600 := by unfold clampR; split <;> (try split) <;> omega
theorem clampR_neg {n : Int} (h : n < 0) : clampR n = 0 := if_pos h
theorem clampR_hi {n : Int} (h : 600 < n) : clampR n = 600 := by unfold clampR; rw [if_neg (by omega), if_pos h]
theorem clampR_mid {n : Int} (h : 0 ≤ n) (h2 : n ≤ 600) : (clampR n : Int) = n := by unfold clampR; rw [if_neg (by omega), if_neg (by omega)]; omega
theorem M_small : M < BIG := by rw [M_eq]; exact P2_small (by omega)
theorem sarN_low {a c : Nat} (ha : a < M) (h : a < P2 511) : a / P2 c % M = sarN a (min c 512) := by
  unfold sarN
  rw [if_neg (by omega), Nat.add_zero]
  rcases Nat.le_total c 512 with hc | hc
  · rw [Nat.min_eq_left hc, Nat.mod_eq_of_lt (Nat.lt_of_le_of_lt (Nat.div_le_self _ _) ha)]
  · rw [Nat.min_eq_right hc, ← M_eq, Nat.div_eq_of_lt ha, Nat.div_eq_of_lt (Nat.lt_of_lt_of_le ha (by rw [M_eq]; exact P2_le hc)), Nat.zero_mod]
theorem up_eq (d K q r : Nat) (hd : 0 < d) (hr : r < d) (hq : q < K) : (d * K - (d * q + r) + (d - 1)) / d = K - q := by
  have h : d * K - (d * q + r) + (d - 1) = d * (K - q) + (d - 1 - r) := by
    have h1 : d * K = d * q + d * (K - q) := by rw [← Nat.mul_add]; congr 1; omega
    have h2 : d ≤ d * (K - q) := Nat.le_mul_of_pos_right _ (by omega)
    omega
  rw [h, Nat.mul_add_div hd, Nat.div_eq_of_lt (by omega), Nat.add_zero]
theorem sarN_high {a c : Nat} (ha : a < M) (h : P2 511 ≤ a) : (M - (M - a + (P2 c - 1)) / P2 c) % M = sarN a (min c 512) ∧ (M - a + (P2 c - 1)) / P2 c ≤ M := by
  unfold sarN
  rw [if_pos h]
  rcases Nat.le_total c 512 with hc | hc
  · rw [Nat.min_eq_left hc]
    have hm := M_split hc
    have hd := P2_pos c
    have hq : a / P2 c < P2 (512 - c) := by rw [Nat.div_lt_iff_lt_mul hd, Nat.mul_comm, ← hm]; exact ha
    have hr := Nat.mod_lt a hd
    have hda := Nat.div_add_mod a (P2 c)
    have hu := up_eq (P2 c) (P2 (512 - c)) (a / P2 c) (a % P2 c) hd hr hq
    rw [hda, ← hm] at hu
    have hKM : P2 (512 - c) ≤ M := by rw [M_eq]; exact P2_le (by omega)
    rw [hu]
    clear hda hr hu hm
    generalize a / P2 c = q at *
    generalize P2 (512 - c) = K at *
    refine ⟨?_, by omega⟩
    rw [Nat.mod_eq_of_lt (by omega)]
    omega
  · rw [Nat.min_eq_right hc, ← M_eq, Nat.div_eq_of_lt ha, Nat.sub_self, P2_0]
    have h1 : P2 511 + P2 511 = M := M_half
    have h2 : M ≤ P2 c := by rw [M_eq]; exact P2_le hc
    have h3 : (M - a + (P2 c - 1)) / P2 c = 1 := by
      rw [Nat.div_eq_iff (by omega)]
      omega
    rw [h3]
    refine ⟨?_, by omega⟩
    rw [Nat.mod_eq_of_lt (by omega)]
    omega

attribute [local go_sem ↓] Go.wp_at_zero Go.wp_at_succ
end Go.Proofs.YtegmmaaapdgocaaGreat
