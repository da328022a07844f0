/- THE WALKS of package wide, going on: how many digits a number has. -/
import Derived.Test.YtbjofgoimkmbfaaWide7
import Derived.Test.YtbjofgoimkmbfaaBits
import Derived.Test.YtbjofgoimkmbfaaBig
import Derived.Lib.ItoaNum
namespace Go.Proofs.Ytbjofgoimkmbfaa
open Go Go.RowKit

theorem bitLen_blen (x : Nat) (hx : x < P2 64) : Lib.bitLen x = blen x := by
  by_cases h0 : x = 0
  · subst h0
    unfold Lib.bitLen
    rw [Lib.bitLenAux_zero, blen_zero]
  · rw [P2_eq] at hx
    have h := Lib.bitLenAux_bounds 64 x hx h0
    unfold Lib.bitLen
    exact (blen_eq (by rw [P2_eq]; exact h.2.2) (fun _ => by rw [P2_eq]; exact h.2.1)).symm
theorem limb_split (n i : Nat) : n / P2 (64 * i) = limb n i + P2 64 * (n / P2 (64 * (i + 1))) := by
  unfold limb
  rw [show 64 * (i + 1) = 64 * i + 64 from by omega, P2_add, ← Nat.div_div_eq_div_mul]
  exact (Nat.mod_add_div _ _).symm
theorem lt_of_limb_zero {n k : Nat} (h : n < P2 (64 * (k + 1))) (hd : limb n k = 0) : n < P2 (64 * k) := by
  have h1 := limb_split n k
  rw [Nat.div_eq_of_lt h, hd] at h1
  have h2 : n / P2 (64 * k) = 0 := by omega
  exact (Nat.div_eq_zero_iff_lt (P2_pos _)).1 h2
theorem blen_limb {n k : Nat} (h : n < P2 (64 * (k + 1))) (hd : limb n k ≠ 0) : blen n = 64 * k + blen (limb n k) := by
  have e1 := limb_split n k
  rw [Nat.div_eq_of_lt h, Nat.mul_zero, Nat.add_zero] at e1
  refine blen_eq ?_ fun _ => ?_
  · rw [P2_add, Nat.mul_comm, ← Nat.div_lt_iff_lt_mul (P2_pos _), e1]
    exact blen_lt _
  · have h0 := blen_pos hd
    rw [show 64 * k + blen (limb n k) - 1 = 64 * k + (blen (limb n k) - 1) by omega, P2_add, Nat.mul_comm, ← Nat.le_div_iff_mul_le (P2_pos _), e1]
    exact blen_le hd
/-- Limbs without noughts at the end. -/
def IsTrim (w : World) (v : Value) (n : Nat) : Prop := ∃ L, IsLimbs w v n L ∧ (L ≠ 0 → limb n (L - 1) ≠ 0)

set_option maxHeartbeats 400000 in
theorem limbTrim_any (v : Value) (n L : Nat) (w : World) (hL : L ≤ 100000) (hv : IsLimbs w v n L) :
    Calls Try.prog 182 #[v] w fun e w' => ∃ r, e = .returned r ∧ ∃ K, K ≤ L ∧ IsLimbs w r n K ∧ (K ≠ 0 → limb n (K - 1) ≠ 0) ∧ w' = w := by
  obtain ⟨⟨a, cap, rfl, hc, hx⟩, hl⟩ := hv
  go_enter Try.func182, Try.ntmps182
  go_wp2
  go_loop [3] (fun s => ∃ k : Nat, k ≤ L ∧ s = .int .i64 k ∧ n < P2 (64 * k)) (fun s => (intOf s).toNat)
  case atStart => exact ⟨L, Nat.le_refl _, rfl, hl⟩
  case round =>
    obtain ⟨k, hk, rfl, hn⟩ := hrel
    rcases k with _ | k
    · have HN := Lib.hid hn
      clear hx hl hn
      go_wp2
      go_ret
      exact ⟨_, rfl, 0, by omega, ⟨⟨a, 0, by simp, by omega, fun h => by omega⟩, HN.out⟩, fun h => absurd rfl h, rfl⟩
    · obtain ⟨b, o, rfl, hb, hcell⟩ := hx (by omega)
      have hg := hcell k (by omega)
      have HC := Lib.hid hcell
      have HN := Lib.hid hn
      clear hx hl hn hcell
      by_cases hd : limb n k = 0
      · have HD := Lib.hid (lt_of_limb_zero HN.out hd)
        rw [hd] at hg
        clear hd
        go_wp2
        go_round
        case rel => exact ⟨k, by omega, by go_num, HD.out⟩
        case measure => simp [intOf]
      · have hd' : (((limb n k : Nat) : Int) == 0) = false := by simp; exact hd
        have HD := Lib.hid hd
        clear hd
        go_wp2
        go_ret
        exact ⟨_, rfl, k + 1, by omega, ⟨⟨_, _, rfl, by omega, fun _ => ⟨b, o, rfl, hb, fun i hi => HC.out i (by omega)⟩⟩, HN.out⟩, fun _ => HD.out, rfl⟩

set_option maxHeartbeats 400000 in
theorem limbLen_any (v : Value) (n L : Nat) (w : World) (hL : L ≤ 100000) (hv : IsLimbs w v n L) :
    Calls Try.prog 134 #[v] w fun e w' => e = .returned (.int .i64 (blen n : Nat)) ∧ w' = w := by
  have HT := Lib.hid (limbTrim_any v n L w hL hv)
  obtain ⟨⟨a, cap, rfl, hc, hx⟩, hl⟩ := hv
  clear hx hl
  go_enter Try.func134, Try.ntmps134
  go_wp2_with fail
  refine HT.out.mono ?_
  rintro e w1 ⟨r, rfl, K, hK, hv, hne, rfl⟩
  obtain ⟨⟨a2, cap2, rfl, hc2, hx⟩, hl⟩ := hv
  have HL := Lib.hid hl
  rcases K with _ | k
  · clear hx hl hne
    go_wp2_with fail
    go_ret
    refine ⟨ret_int ?_, rfl⟩
    have := HL.out
    rw [show 64 * 0 = 0 from rfl, P2_0] at this
    rw [show n = 0 by omega, blen_zero]; rfl
  · obtain ⟨b, o, rfl, hb, hcell⟩ := hx (by omega)
    have hg := hcell k (by omega)
    have hle := limb_le n k
    have HNE := Lib.hid (hne (by omega))
    have hb64 : blen (limb n k) ≤ 64 := blen_le_of (limb_lt n k)
    have HB := Lib.hid (fun w' => bits_Len64 (limb n k) w' (by omega) (by omega))
    clear hx hl hne hcell
    go_wp2_with fail
    refine (HB.out _).mono ?_
    rintro e w2 ⟨rfl, rfl⟩
    rw [Int.toNat_natCast, bitLen_blen _ (limb_lt n k)]
    go_wp2_with fail
    go_ret
    refine ⟨ret_int ?_, rfl⟩
    rw [blen_limb HL.out HNE.out]
    omega

set_option maxHeartbeats 400000 in
theorem len_w (a : Nat) (ha : a < M) (w : World) : Calls Try.prog 51 #[wv a] w fun e w' => e = .returned (.int .i64 (blen a : Nat)) ∧ Below w.heap.size w w' := by
  have S : Hid (∀ w' p, w'.heap[p]? = some (.cells (wcells a) 31 (0, 0)) → Calls Try.prog 134 #[.slice (some ⟨p, 0, none⟩) 8 8] w' fun e w'' => e = .returned (.int .i64 (blen a : Nat)) ∧ w'' = w') :=
    Lib.hid fun w' p h => limbLen_any _ a 8 w' (by omega) (isLimbs_w ha h)
  clear ha
  go_enter Try.func51, Try.ntmps51
  go_wp2_with fail
  refine (S.out _ _ (alloc_new w _)).mono ?_
  rintro e w1 ⟨rfl, rfl⟩
  go_wp2_with fail
  go_ret
  exact ⟨rfl, below_al (Below.refl _ _) _⟩
end Go.Proofs.Ytbjofgoimkmbfaa
