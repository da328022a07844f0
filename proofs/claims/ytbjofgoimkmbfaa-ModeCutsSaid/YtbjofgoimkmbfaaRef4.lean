/- THE WALKS of the reference's shift down, and of how many digits a number has. -/
import Derived.Test.YtbjofgoimkmbfaaRef3
namespace Go.Proofs.Ytbjofgoimkmbfaa
open Go Go.RowKit

set_option maxHeartbeats 1000000 in
theorem rshr_any (va : Value) (a n : Nat) (w : World) (hsa : a < BIG) (hn : n ≤ 900000) (ha : IsBig w va a) :
    Calls Try.prog 46 #[va, .int .i64 n] w (GivesBig (a / P2 n) w) := by
  obtain ⟨La, hra, hma⟩ := ha
  have hla := small_len hra hma hsa
  have HRA := Lib.hid hra
  obtain ⟨⟨aa, ca, rfl, hca, hxa⟩, hna⟩ := hra
  have hN : a / P2 n < P2 (32 * (La - n / 32)) := by
    rw [Nat.div_lt_iff_lt_mul (P2_pos _), ← P2_add]
    exact Nat.lt_of_lt_of_le hna (P2_le (by omega))
  have HN := Lib.hid hN
  clear hna hma hsa hxa hN
  go_enter Try.func46, Try.ntmps46
  go_wp2
  go_loopw [5, 6] (fun v s wr => ∃ i : Nat, n / 32 ≤ i ∧ (i ≤ La ∨ i ≤ n / 32) ∧ s = .int .i64 i ∧ wr.ownsRow w.heap.size 137 1 v (i - n / 32) (digsV (a / P2 n) (i - n / 32)) ∧ Below w.heap.size w wr) (fun _ s _ => (La - (intOf s).toNat))
  case atStart => exact ⟨n / 32, by omega, by omega, congrArg (Value.int .i64) (by omega), by rw [Nat.sub_self]; exact World.ownsRow_nil _ _ _ _, Below.refl _ _⟩
  case round =>
    obtain ⟨i, hi1, hi2, rfl, hown, hbel⟩ := hrel
    by_cases hlt : i < La
    · have R1 : Hid (∀ w', Below w.heap.size w w' → Calls Try.prog 133 #[.slice aa La ca, .int .i64 i] w' fun e w'' => e = .returned (.int .u64 (dig a i : Nat)) ∧ Below w'.heap.size w' w'') := fun w' hw' => by
        have := digit_any _ a La i w' (by omega) (by omega) (by omega) (HRA.out.below hw' (Nat.le_refl _))
        rwa [digI_nat] at this
      have R2 : Hid (∀ w', Below w.heap.size w w' → Calls Try.prog 133 #[.slice aa La ca, .int .i64 ((i : Int) + 1)] w' fun e w'' => e = .returned (.int .u64 (dig a (i + 1) : Nat)) ∧ Below w'.heap.size w' w'') := fun w' hw' => by
        have := digit_any _ a La ((i + 1 : Nat)) w' (by omega) (by omega) (by omega) (HRA.out.below hw' (Nat.le_refl _))
        rw [digI_nat] at this
        exact this
      have hda := dig_le a i
      have hdb := dig_le a (i + 1)
      have HV := Lib.hid (shr_or (dig a i) (dig a (i + 1)) hda hdb)
      have HB := Lib.hid hbel
      have HO := Lib.hid hown
      have hz := hbel.size
      clear hbel hown
      go_wp2_with fail
      refine (R1.out _ HB.out).mono ?_
      rintro e w1 ⟨rfl, hb1⟩
      have HB1 := Lib.hid (HB.out.trans (hb1.mono hz))
      have HO1 := Lib.hid (ownsRow_below HO.out hb1)
      clear hb1
      go_wp2_with fail
      refine (R2.out _ HB1.out).mono ?_
      rintro e w2 ⟨rfl, hb2⟩
      have HB2 := Lib.hid (HB1.out.trans (hb2.mono HB1.out.size))
      have HO2 := Lib.hid (ownsRow_below HO1.out hb2)
      clear hb2
      obtain ⟨X, hX⟩ : ∃ X, X = dig a i ||| dig a (i + 1) * 4294967296 := ⟨_, rfl⟩
      have hv := HV.out
      rw [← hX] at hv
      have HX := Lib.hid hX
      clear hX
      go_wp2_with (at_builtin; obtain ⟨i0, hi, hz0, hz1, hz2⟩ := info_parts infoU32; refine wpList_append_own _ rfl _ _ 35 rfl w.heap.size 137 i0 (.int .u32 0) 1 4 Try.underlying35 hi hz0 hz1 hz2 rfl (by decide) _ _ _ rfl (HO2.out.alloc _) ⟨w2.heap.size, 0, none⟩ 1 1 [.int .u32 (((X : Nat) : Int) / 2 ^ (n % 32) % 4294967296)] rfl rfl ?c1 ?c2 ?c3 ?c4 ?c5 ?_)
      case c1 =>
        intro j u hj
        match j, hj with
        | 0, hj => simp at hj; subst hj; simp [Addr.add]
      case c2 => intro u hu; simp at hu; subst hu; rfl
      case c3 => unfold maxLen; omega
      case c4 => omega
      case c5 => have := HB2.out.size; simp; omega
      intro v' w3 hown3 hgrow _
      have HB3 := Lib.hid (below_append HO2.out HB2.out HB2.out.size hgrow)
      have hsp := dig_shr a n (i - n / 32)
      rw [show n / 32 + (i - n / 32) = i by omega, ← HX.out] at hsp
      have hcv : ((X : Nat) : Int) / 2 ^ (n % 32) % 4294967296 = (dig (a / P2 n) (i - n / 32) : Nat) := by rw [div_u64]; omega
      rw [hcv, ← digsV_succ, show i - n / 32 + 1 = i + 1 - n / 32 by omega] at hown3
      have HO3 := Lib.hid hown3
      clear hown3 hgrow hcv hsp hv
      go_wp2
      go_roundw
      case rel => exact ⟨i + 1, by omega, by omega, by go_num, HO3.out, HB3.out⟩
      case measure => simp [intOf]; omega
    · have HR := isRaw_of_owns hown (show a / P2 n < P2 (32 * (i - n / 32)) by exact Nat.lt_of_lt_of_le HN.out (P2_le (by omega)))
      have HB := Lib.hid hbel
      have hT := trim_any _ (a / P2 n) (i - n / 32) _ (by omega) HR
      have HT := Lib.hid hT
      clear hown hbel HR hT
      go_wp2_with fail
      refine HT.out.mono ?_
      rintro e w1 ⟨r, rfl, hr, rfl⟩
      have HR := Lib.hid hr; clear hr
      go_wp2_with fail
      go_ret
      exact ⟨r, rfl, HR.out, HB.out⟩

set_option maxHeartbeats 1000000 in
theorem rlen_any (va : Value) (a : Nat) (w : World) (hsa : a < BIG) (ha : IsBig w va a) :
    Calls Try.prog 52 #[va] w fun e w' => e = .returned (.int .i64 (blen a : Nat)) ∧ Below w.heap.size w w' := by
  obtain ⟨L0, hr0, hm0⟩ := ha
  have hl0 := small_len hr0 hm0 hsa
  have hT := trim_any _ a L0 w (by omega) hr0
  have HT := Lib.hid hT
  obtain ⟨⟨a0, c0, rfl, _, _⟩, _⟩ := hr0
  clear hT hm0
  have HS := Lib.hid hsa
  clear hsa
  go_enter Try.func52, Try.ntmps52
  go_wp2_with fail
  refine HT.out.mono ?_
  rintro e w1 ⟨r, rfl, hr, rfl⟩
  obtain ⟨La, hra, hma⟩ := hr
  have hla := small_len hra hma HS.out
  obtain ⟨⟨aa, ca, rfl, hca, hxa⟩, hna⟩ := hra
  have HN := Lib.hid hna
  have HM := Lib.hid hma
  rcases La with _ | k
  · clear hxa hna hma HT HS
    go_wp2_with fail
    go_ret
    refine ⟨ret_int ?_, Below.refl _ _⟩
    have := HN.out
    rw [show 32 * 0 = 0 from rfl, P2_0] at this
    rw [show a = 0 by omega, blen_zero]; rfl
  · obtain ⟨b, o, rfl, hb, hcell⟩ := hxa (by omega)
    have hg := hcell k (by omega)
    have hle := dig_le a k
    clear hxa hna hma HT HS hcell
    go_wp2
    go_loop [3, 4] (fun s d => ∃ j : Nat, j ≤ 32 ∧ s = .int .i64 j ∧ d = .int .u32 (dig a k / P2 j : Nat) ∧ (0 < j → P2 (j - 1) ≤ dig a k)) (fun _ d => (intOf d).toNat)
    case atStart => exact ⟨0, by omega, rfl, by rw [P2_0, Nat.div_one], fun h => absurd h (by omega)⟩
    case round =>
      obtain ⟨j, hj, rfl, rfl, hp⟩ := hrel
      have HP := Lib.hid hp
      clear hp
      by_cases hd : dig a k / P2 j = 0
      · have hd' : ¬ (0 < ((dig a k / P2 j : Nat) : Int)) := by rw [hd]; decide
        have HD := Lib.hid ((Nat.div_eq_zero_iff_lt (P2_pos _)).1 hd)
        clear hd
        go_wp2
        go_ret
        refine ⟨ret_int ?_, Below.refl _ _⟩
        have hj0 : 0 < j := by
          rcases j with _ | j
          · have h1 := HD.out
            rw [P2_0] at h1
            have := HM.out (by omega)
            have h3 := lt_of_dig_zero HN.out (by omega)
            rw [Nat.add_sub_cancel] at this
            omega
          · omega
        rw [blen_top HN.out HD.out HP.out hj0]
        omega
      · have hd' : 0 < ((dig a k / P2 j : Nat) : Int) := Int.natCast_pos.2 (Nat.pos_of_ne_zero hd)
        have hpj : P2 j ≤ dig a k := by
          rcases Nat.lt_or_ge (dig a k) (P2 j) with h | h
          · exact absurd (Nat.div_eq_of_lt h) hd
          · exact h
        have hj' : j < 32 := by
          rcases Nat.lt_or_ge j 32 with h | h
          · exact h
          · have := P2_le h
            have := dig_lt a k
            omega
        have hh : ((dig a k / P2 j : Nat) : Int) / 2 = ((dig a k / P2 (j + 1) : Nat) : Int) := by
          rw [P2_add, ← Nat.div_div_eq_div_mul, show P2 1 = 2 from by rw [P2_eq]]; omega
        have HH := Lib.hid hh
        have HJ := Lib.hid hpj
        have hm : dig a k / P2 j ≤ 4294967295 := by have := Nat.div_le_self (dig a k) (P2 j); omega
        obtain ⟨q, hq⟩ : ∃ q, q = dig a k / P2 j := ⟨_, rfl⟩
        rw [← hq] at hd' hm ⊢
        have HQ := Lib.hid hq
        clear hd hh hpj hq
        go_wp2
        go_round
        case rel => exact ⟨j + 1, by omega, by go_num, by rw [← HH.out, ← HQ.out], fun _ => HJ.out⟩
        case measure => simp [intOf]; omega
end Go.Proofs.Ytbjofgoimkmbfaa
