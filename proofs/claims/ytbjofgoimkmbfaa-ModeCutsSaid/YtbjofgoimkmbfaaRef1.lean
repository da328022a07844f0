/- THE WALKS of the reference's numbers of any length: a digit, the noughts at the end, which is above. -/
import Derived.Test.YtbjofgoimkmbfaaRows
import Derived.Test.YtbjofgoimkmbfaaBig
namespace Go.Proofs.Ytbjofgoimkmbfaa
open Go Go.RowKit

set_option maxHeartbeats 400000 in
theorem digit_any (v : Value) (n L : Nat) (i : Int) (w : World) (hL : L ≤ 60000) (h1 : -9223372036854775808 ≤ i) (h2 : i ≤ 9223372036854775807) (hv : IsRaw w v n L) :
    Calls Try.prog 133 #[v, .int .i64 i] w fun e w' => e = .returned (.int .u64 (digI n i : Nat)) ∧ Below w.heap.size w w' := by
  obtain ⟨⟨a, cap, rfl, hc, hx⟩, hl⟩ := hv
  by_cases hi : i < 0
  · have HX := Lib.hid hx; have HL := Lib.hid hl; clear hx hl
    go_enter Try.func133, Try.ntmps133
    go_wp2
    go_ret
    exact ⟨ret_int (by rw [digI_neg hi]; rfl), Below.refl _ _⟩
  obtain ⟨k, rfl⟩ := Int.eq_ofNat_of_zero_le (by omega : 0 ≤ i)
  by_cases hk : L ≤ k
  · have hd := dig_big n k L hl hk
    have HD := Lib.hid hd
    clear hx hl hd
    go_enter Try.func133, Try.ntmps133
    go_wp2
    all_goals (go_ret; exact ⟨ret_int (by rw [digI_nat, HD.out]; rfl), Below.refl _ _⟩)
  · obtain ⟨b, o, rfl, hb, hcell⟩ := hx (by omega)
    have hk' : k < L := by omega
    have hg := hcell k hk'
    have hle := dig_le n k
    clear hx hl hcell
    go_enter Try.func133, Try.ntmps133
    go_wp2
    go_ret
    exact ⟨ret_int (by rw [digI_nat]), Below.refl _ _⟩

set_option maxHeartbeats 400000 in
theorem trim_any (v : Value) (n L : Nat) (w : World) (hL : L ≤ 60000) (hv : IsRaw w v n L) :
    Calls Try.prog 132 #[v] w fun e w' => ∃ r, e = .returned r ∧ IsBig w r n ∧ w' = w := by
  obtain ⟨⟨a, cap, rfl, hc, hx⟩, hl⟩ := hv
  go_enter Try.func132, Try.ntmps132
  go_wp2
  go_loop [3] (fun s => ∃ k : Nat, k ≤ L ∧ s = .int .i64 k ∧ n < P2 (32 * k)) (fun s => (intOf s).toNat)
  case atStart => exact ⟨L, Nat.le_refl _, rfl, hl⟩
  case round =>
    obtain ⟨k, hk, rfl, hn⟩ := hrel
    rcases k with _ | k
    · have HN := Lib.hid hn
      clear hx hl hn
      go_wp2
      go_ret
      exact ⟨_, rfl, ⟨0, ⟨⟨a, cap, by simp, by omega, fun h => by omega⟩, HN.out⟩, fun h => absurd rfl h⟩, rfl⟩
    · obtain ⟨b, o, rfl, hb, hcell⟩ := hx (by omega)
      have hg := hcell k (by omega)
      have HC := Lib.hid hcell
      have HN := Lib.hid hn
      clear hx hl hn hcell
      by_cases hd : dig n k = 0
      · have HD := Lib.hid (lt_of_dig_zero HN.out hd)
        rw [hd] at hg
        clear hd
        go_wp2
        go_round
        case rel => exact ⟨k, by omega, by go_num, HD.out⟩
        case measure => simp [intOf]
      · have hd' : (((dig n k : Nat) : Int) == 0) = false := by simp; exact hd
        have HD := Lib.hid (le_of_dig hd)
        clear hd
        go_wp2
        go_ret
        exact ⟨_, rfl, ⟨k + 1, ⟨⟨_, cap, rfl, by omega, fun _ => ⟨b, o, rfl, hb, fun i hi => HC.out i (by omega)⟩⟩, HN.out⟩, fun _ => HD.out⟩, rfl⟩

set_option maxHeartbeats 1000000 in
theorem cmp_any (va vb : Value) (a b : Nat) (w : World) (hsa : a < BIG) (hsb : b < BIG) (ha : IsBig w va a) (hb : IsBig w vb b) :
    Calls Try.prog 64 #[va, vb] w fun e w' => e = .returned (.int .i64 (cmpN a b)) ∧ Below w.heap.size w w' := by
  obtain ⟨La, hra, hma⟩ := ha
  obtain ⟨Lb, hrb, hmb⟩ := hb
  have hla := small_len hra hma hsa
  have hlb := small_len hrb hmb hsb
  have HRA := Lib.hid hra
  have HRB := Lib.hid hrb
  obtain ⟨⟨aa, ca, rfl, hca, hxa⟩, hna⟩ := hra
  obtain ⟨⟨ab, cb, rfl, hcb, hxb⟩, hnb⟩ := hrb
  have HNA := Lib.hid hna; have HNB := Lib.hid hnb
  clear hna hnb hma hmb hsa hsb hxa hxb
  by_cases hmax : La < Lb
  all_goals
    go_enter Try.func64, Try.ntmps64
    go_wp2
    go_loopw [5] (fun s wr => ∃ k : Nat, k ≤ La + Lb ∧ s = .int .i64 ((k : Int) - 1) ∧ a / P2 (32 * k) = b / P2 (32 * k) ∧ Below w.heap.size w wr) (fun s _ => (intOf s + 1).toNat)
    case atStart =>
      first
        | exact ⟨Lb, by omega, rfl, by rw [above_top (lt_top HNA.out (by omega)), above_top HNB.out], Below.refl _ _⟩
        | exact ⟨La, by omega, rfl, by rw [above_top HNA.out, above_top (lt_top HNB.out (by omega))], Below.refl _ _⟩
    case round =>
      obtain ⟨k, hk, rfl, he, hbel⟩ := hrel
      have HE := Lib.hid he
      clear he
      rcases k with _ | k
      · have HB := Lib.hid hbel; clear hbel
        go_wp2
        go_ret
        refine ⟨ret_int ?_, HB.out⟩
        have := HE.out
        rw [show 32 * 0 = 0 from rfl, P2_0, Nat.div_one, Nat.div_one] at this
        rw [cmpN_eq this]
      · have d1 := digit_any _ a La ((k + 1 : Nat) - 1 : Int) wr (by omega) (by omega) (by omega) (HRA.out.below hbel (Nat.le_refl _))
        rw [show ((k + 1 : Nat) - 1 : Int) = (k : Int) from by omega, digI_nat] at d1
        have D1 := Lib.hid d1
        clear d1
        have R2 : Hid (∀ w', Below w.heap.size w w' → Calls Try.prog 133 #[.slice ab Lb cb, .int .i64 k] w' fun e w'' => e = .returned (.int .u64 (dig b k : Nat)) ∧ Below w'.heap.size w' w'') := fun w' hw' => by
          have := digit_any _ b Lb k w' (by omega) (by omega) (by omega) (HRB.out.below hw' (Nat.le_refl _))
          rwa [digI_nat] at this
        have R1 : Hid (∀ w', Below w.heap.size w w' → Calls Try.prog 133 #[.slice aa La ca, .int .i64 k] w' fun e w'' => e = .returned (.int .u64 (dig a k : Nat)) ∧ Below w'.heap.size w' w'') := fun w' hw' => by
          have := digit_any _ a La k w' (by omega) (by omega) (by omega) (HRA.out.below hw' (Nat.le_refl _))
          rwa [digI_nat] at this
        clear D1
        have hda := dig_le a k
        have hdb := dig_le b k
        have hz := hbel.size
        have HB := Lib.hid hbel; clear hbel
        have hd : dig a k < dig b k ∨ dig b k < dig a k ∨ dig a k = dig b k := by omega
        rcases hd with hd | hd | hd
        · go_wp2_with fail
          refine (R1.out _ HB.out).mono ?_
          rintro e w1 ⟨rfl, hb1⟩
          have HB1 := Lib.hid (HB.out.trans (hb1.mono hz)); clear hb1
          go_wp2_with fail
          refine (R2.out _ HB1.out).mono ?_
          rintro e w2 ⟨rfl, hb2⟩
          have HB2 := Lib.hid (HB1.out.trans (hb2.mono HB1.out.size)); clear hb2
          go_wp2_with fail
          go_ret
          exact ⟨ret_int (by rw [cmpN_lt (above_lt HE.out hd)]), HB2.out⟩
        · go_wp2_with fail
          refine (R1.out _ HB.out).mono ?_
          rintro e w1 ⟨rfl, hb1⟩
          have HB1 := Lib.hid (HB.out.trans (hb1.mono hz)); clear hb1
          go_wp2_with fail
          refine (R2.out _ HB1.out).mono ?_
          rintro e w2 ⟨rfl, hb2⟩
          have HB2 := Lib.hid (HB1.out.trans (hb2.mono HB1.out.size)); clear hb2
          go_wp2_with fail
          refine (R1.out _ HB2.out).mono ?_
          rintro e w3 ⟨rfl, hb3⟩
          have HB3 := Lib.hid (HB2.out.trans (hb3.mono HB2.out.size)); clear hb3
          go_wp2_with fail
          refine (R2.out _ HB3.out).mono ?_
          rintro e w4 ⟨rfl, hb4⟩
          have HB4 := Lib.hid (HB3.out.trans (hb4.mono HB3.out.size)); clear hb4
          go_wp2_with fail
          go_ret
          exact ⟨ret_int (by rw [cmpN_gt (above_lt HE.out.symm hd)]), HB4.out⟩
        · have HD := Lib.hid hd
          have h1 : ¬ dig a k < dig b k := by omega
          have h2 : ¬ dig b k < dig a k := by omega
          clear hd
          go_wp2_with fail
          refine (R1.out _ HB.out).mono ?_
          rintro e w1 ⟨rfl, hb1⟩
          have HB1 := Lib.hid (HB.out.trans (hb1.mono hz)); clear hb1
          go_wp2_with fail
          refine (R2.out _ HB1.out).mono ?_
          rintro e w2 ⟨rfl, hb2⟩
          have HB2 := Lib.hid (HB1.out.trans (hb2.mono HB1.out.size)); clear hb2
          go_wp2_with fail
          refine (R1.out _ HB2.out).mono ?_
          rintro e w3 ⟨rfl, hb3⟩
          have HB3 := Lib.hid (HB2.out.trans (hb3.mono HB2.out.size)); clear hb3
          go_wp2_with fail
          refine (R2.out _ HB3.out).mono ?_
          rintro e w4 ⟨rfl, hb4⟩
          have HB4 := Lib.hid (HB3.out.trans (hb4.mono HB3.out.size)); clear hb4
          go_wp2
          go_roundw
          case rel => exact ⟨k, by omega, by go_num, above_step HE.out HD.out, HB4.out⟩
          case measure => simp [intOf]
end Go.Proofs.Ytbjofgoimkmbfaa
