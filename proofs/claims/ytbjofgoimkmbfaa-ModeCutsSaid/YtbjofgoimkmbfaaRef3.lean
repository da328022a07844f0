/- THE WALKS of the reference's shifts. -/
import Derived.Test.YtbjofgoimkmbfaaRef2
namespace Go.Proofs.Ytbjofgoimkmbfaa
open Go Go.RowKit

set_option maxHeartbeats 1000000 in
theorem rshl_any (va : Value) (a n : Nat) (w : World) (hsa : a < BIG) (hn : n ≤ 900000) (ha : IsBig w va a) :
    Calls Try.prog 61 #[va, .int .i64 n] w (GivesBig (a * P2 n) w) := by
  obtain ⟨La, hra, hma⟩ := ha
  have hla := small_len hra hma hsa
  have HRA := Lib.hid hra
  obtain ⟨⟨aa, ca, rfl, hca, hxa⟩, hna⟩ := hra
  have hN : a * P2 n < P2 (32 * (n / 32 + (La + 1))) := by
    have h1 : a * P2 n < P2 (32 * La) * P2 n := Nat.mul_lt_mul_of_pos_right hna (P2_pos _)
    rw [← P2_add] at h1
    exact Nat.lt_of_lt_of_le h1 (P2_le (by omega))
  have HN := Lib.hid hN
  clear hna hma hsa hxa hN
  go_enter Try.func61, Try.ntmps61
  go_wp2
  go_loopw [5, 6] (fun v s wr => ∃ k : Nat, k ≤ n / 32 ∧ s = .int .i64 k ∧ wr.ownsRow w.heap.size 137 1 v k (digsV (a * P2 n) k) ∧ Below w.heap.size w wr) (fun _ s _ => (n / 32 - (intOf s).toNat))
  case atStart => exact ⟨0, by omega, rfl, World.ownsRow_nil _ _ _ _, Below.refl _ _⟩
  case round =>
    obtain ⟨k, hk, rfl, hown, hbel⟩ := hrel
    by_cases hlt : k < n / 32
    · have HB2 := Lib.hid hbel
      have HO2 := Lib.hid hown
      have hz := hbel.size
      clear hbel hown
      go_wp2_with (at_builtin; obtain ⟨i0, hi, hz0, hz1, hz2⟩ := info_parts infoU32; refine wpList_append_own _ rfl _ _ 35 rfl w.heap.size 137 i0 (.int .u32 0) 1 4 Try.underlying35 hi hz0 hz1 hz2 rfl (by decide) _ _ _ rfl (HO2.out.alloc _) ⟨wr.heap.size, 0, none⟩ 1 1 [.int .u32 0] rfl rfl ?c1x ?c2x ?c3x ?c4x ?c5x ?_)
      case c1x =>
        intro j u hj
        match j, hj with
        | 0, hj => simp at hj; subst hj; simp [Addr.add]
      case c2x => intro u hu; simp at hu; subst hu; rfl
      case c3x => unfold maxLen; omega
      case c4x => omega
      case c5x => have := HB2.out.size; simp; omega
      intro v' w3 hown3 hgrow _
      have HB3 := Lib.hid (below_append HO2.out HB2.out HB2.out.size hgrow)
      have hcv := dig_shl_low a n k hlt
      have hown4 : w3.ownsRow w.heap.size 137 1 v' (k + 1) (digsV (a * P2 n) (k + 1)) := by rw [digsV_succ, hcv]; exact hown3
      have HO3 := Lib.hid hown4
      clear hown3 hown4 hgrow hcv
      go_wp2
      go_roundw
      case rel => exact ⟨k + 1, by omega, by go_num, HO3.out, HB3.out⟩
      case measure => simp [intOf]; omega
    · rw [show k = n / 32 by omega] at hown
      have hge : n / 32 ≤ k := by omega
      have HB0 := Lib.hid hbel
      have HO0 := Lib.hid hown
      clear hbel hown hlt
      obtain ⟨wo, rfl⟩ : ∃ wo : World, wo = wr := ⟨_, rfl⟩
      go_wp2
      go_loopw [5, 7, 8] (fun v c s w' => ∃ k : Nat, k ≤ La + 1 ∧ s = .int .i64 k ∧ c = .int .u64 (carryS a (n % 32) k : Nat) ∧ w'.ownsRow w.heap.size 137 1 v (n / 32 + k) (digsV (a * P2 n) (n / 32 + k)) ∧ Below w.heap.size w w') (fun _ _ s _ => (La + 1 - (intOf s).toNat))
      case atStart => exact ⟨0, by omega, rfl, by rw [carryS_zero]; rfl, HO0.out, HB0.out⟩
      case round =>
        obtain ⟨k, hk, rfl, rfl, hown, hbel⟩ := hrel
        clear HO0 HB0
        by_cases hlt : k < La + 1
        · have R1 : Hid (∀ w', Below w.heap.size w w' → Calls Try.prog 133 #[.slice aa La ca, .int .i64 k] w' fun e w'' => e = .returned (.int .u64 (dig a k : Nat)) ∧ Below w'.heap.size w' w'') := fun w' hw' => by
            have := digit_any _ a La k w' (by omega) (by omega) (by omega) (HRA.out.below hw' (Nat.le_refl _))
            rwa [digI_nat] at this
          have hda := dig_le a k
          have hcl := shl_sum_le a (n % 32) k (Nat.mod_lt _ (by decide))
          have HV := Lib.hid (shl_or a (n % 32) k (Nat.mod_lt _ (by decide)))
          have HB := Lib.hid hbel
          have HO := Lib.hid hown
          have hz := hbel.size
          clear hbel hown
          go_wp2_with fail
          refine (R1.out _ HB.out).mono ?_
          rintro e w2 ⟨rfl, hb2⟩
          have HB2 := Lib.hid (HB.out.trans (hb2.mono hz))
          have HO2 := Lib.hid (ownsRow_below HO.out hb2)
          clear hb2
          have hv := HV.out
          go_wp2_with (at_builtin; obtain ⟨i0, hi, hz0, hz1, hz2⟩ := info_parts infoU32; refine wpList_append_own _ rfl _ _ 35 rfl w.heap.size 137 i0 (.int .u32 0) 1 4 Try.underlying35 hi hz0 hz1 hz2 rfl (by decide) _ _ _ rfl (HO2.out.alloc _) ⟨w2.heap.size, 0, none⟩ 1 1 [.int .u32 (((dig a k * P2 (n % 32) + carryS a (n % 32) k : Nat) : Int) % 4294967296)] rfl rfl ?c1y ?c2y ?c3y ?c4y ?c5y ?_)
          case c1y =>
            intro j u hj
            match j, hj with
            | 0, hj => simp at hj; subst hj; simp [Addr.add]
          case c2y => intro u hu; simp at hu; subst hu; rfl
          case c3y => unfold maxLen; omega
          case c4y => omega
          case c5y => have := HB2.out.size; simp; omega
          intro v' w3 hown3 hgrow _
          have HB3 := Lib.hid (below_append HO2.out HB2.out HB2.out.size hgrow)
          have hsp := carryS_dig a (n % 32) k
          have hhi := dig_shl_high a n k
          have hX : ((dig a k : Nat) * (P2 (n % 32) : Nat) + (carryS a (n % 32) k : Nat) : Int) = ((dig a k * P2 (n % 32) + carryS a (n % 32) k : Nat) : Int) := by push_cast; rfl
          have hcv : ((dig a k : Nat) * (P2 (n % 32) : Nat) + (carryS a (n % 32) k : Nat) : Int) % 4294967296 = (dig (a * P2 n) (n / 32 + k) : Nat) := by rw [hX]; omega
          rw [hcv, ← digsV_succ] at hown3
          have HO3 := Lib.hid hown3
          have hcn : ((dig a k : Nat) * (P2 (n % 32) : Nat) + (carryS a (n % 32) k : Nat) : Int) / 4294967296 = (carryS a (n % 32) (k + 1) : Nat) := by rw [hX]; omega
          have HCN := Lib.hid hcn
          have h0 : (0 : Int) ≤ (dig a k : Nat) * (P2 (n % 32) : Nat) + (carryS a (n % 32) k : Nat) := by rw [hX]; omega
          clear hown3 hgrow hcv hsp hhi hcn hX hv
          go_wp2
          go_roundw
          case rel => exact ⟨k + 1, by omega, by go_num, by rw [HCN.out], HO3.out, HB3.out⟩
          case measure => simp [intOf]; omega
        · have HR := isRaw_of_owns hown (show a * P2 n < P2 (32 * (n / 32 + k)) by rw [show k = La + 1 by omega]; exact HN.out)
          have HB := Lib.hid hbel
          have hT := trim_any _ (a * P2 n) (n / 32 + k) _ (by omega) HR
          have HT := Lib.hid hT
          clear hown hbel HR hT
          go_wp2_with fail
          refine HT.out.mono ?_
          rintro e w1 ⟨r, rfl, hr, rfl⟩
          have HR := Lib.hid hr; clear hr
          go_wp2_with fail
          go_ret
          exact ⟨r, rfl, HR.out, HB.out⟩
end Go.Proofs.Ytbjofgoimkmbfaa
