/- SEVERAL TEXTS of the seat, one behind the other: each says at its head what it proves. -/
import Derived.Test.YtegmmaaapdgocaaGreatK7
import Derived.Deep.RegionHeld3
import Derived.Deep.AppendLies
import Derived.Deep.DrawnRows
/- THE WALKS of the reference's shift down, and of how many digits a number has. -/
namespace Go.Proofs.YtegmmaaapdgocaaGreat
open Go Go.RowKit

set_option maxHeartbeats 1000000 in
theorem rshr_any (va : Value) (a n : Nat) (w : World) (hsa : a < BIG) (hn : n ≤ 900000) (ha : IsBig w va a) :
    Calls Tryz.prog 31 #[va, .int .i64 n] w (GivesBig (a / P2 n) w) := by
  obtain ⟨La, hra, hma⟩ := ha
  have hla := small_len hra hma hsa
  have HRA := Lib.hid hra
  obtain ⟨⟨aa, ca, rfl, hca, hxa⟩, hna⟩ := hra
  have hN : a / P2 n < P2 (32 * (La - n / 32)) := by
    rw [Nat.div_lt_iff_lt_mul (P2_pos _), ← P2_add]
    exact Nat.lt_of_lt_of_le hna (P2_le (by omega))
  have HN := Lib.hid hN
  clear hna hma hsa hxa hN
  go_enter Tryz.func31, Tryz.ntmps31
  go_wp2
  go_loopw [5, 6] (fun v s wr => ∃ i : Nat, n / 32 ≤ i ∧ (i ≤ La ∨ i ≤ n / 32) ∧ s = .int .i64 i ∧ wr.ownsRow w.heap.size 80 1 v (i - n / 32) (digsV (a / P2 n) (i - n / 32)) ∧ Below w.heap.size w wr) (fun _ s _ => (La - (intOf s).toNat))
  case atStart => exact ⟨n / 32, by omega, by omega, congrArg (Value.int .i64) (by omega), by rw [Nat.sub_self]; exact World.ownsRow_nil _ _ _ _, Below.refl _ _⟩
  case round =>
    obtain ⟨i, hi1, hi2, rfl, hown, hbel⟩ := hrel
    by_cases hlt : i < La
    · have R1 : Hid (∀ w', Below w.heap.size w w' → Calls Tryz.prog 70 #[.slice aa La ca, .int .i64 i] w' fun e w'' => e = .returned (.int .u64 (dig a i : Nat)) ∧ Below w'.heap.size w' w'') := fun w' hw' => by
        have := digit_any _ a La i w' (by omega) (by omega) (by omega) (HRA.out.below hw' (Nat.le_refl _))
        rwa [digI_nat] at this
      have R2 : Hid (∀ w', Below w.heap.size w w' → Calls Tryz.prog 70 #[.slice aa La ca, .int .i64 ((i : Int) + 1)] w' fun e w'' => e = .returned (.int .u64 (dig a (i + 1) : Nat)) ∧ Below w'.heap.size w' w'') := fun w' hw' => by
        have := digit_any _ a La ((i + 1 : Nat)) w' (by omega) (by omega) (by omega) (HRA.out.below hw' (Nat.le_refl _))
        rw [digI_nat] at this
        exact this
      have hda := dig_le a i
      have hdb := dig_le a (i + 1)
      have HV := Lib.hid (shr_or (dig a i) (dig a (i + 1)) hda hdb)
      have HB := Lib.hid hbel
      have HO := Lib.hid hown
      have hz := hbel.size
      clear hbel hown
      go_wp2_with fail
      refine (R1.out _ HB.out).mono ?_
      rintro e w1 ⟨rfl, hb1⟩
      have HB1 := Lib.hid (HB.out.trans (hb1.mono hz))
      have HO1 := Lib.hid (ownsRow_below HO.out hb1)
      clear hb1
      go_wp2_with fail
      refine (R2.out _ HB1.out).mono ?_
      rintro e w2 ⟨rfl, hb2⟩
      have HB2 := Lib.hid (HB1.out.trans (hb2.mono HB1.out.size))
      have HO2 := Lib.hid (ownsRow_below HO1.out hb2)
      clear hb2
      obtain ⟨X, hX⟩ : ∃ X, X = dig a i ||| dig a (i + 1) * 4294967296 := ⟨_, rfl⟩
      have hv := HV.out
      rw [← hX] at hv
      have HX := Lib.hid hX
      clear hX
      go_wp2_with (at_builtin; obtain ⟨i0, hi, hz0, hz1, hz2⟩ := info_parts infoU32; refine wpList_append_own _ rfl _ _ 45 rfl w.heap.size 80 i0 (.int .u32 0) 1 4 Tryz.underlying45 hi hz0 hz1 hz2 rfl (by decide) _ _ _ rfl (HO2.out.alloc _) ⟨w2.heap.size, 0, none⟩ 1 1 [.int .u32 (((X : Nat) : Int) / 2 ^ (n % 32) % 4294967296)] rfl rfl ?c1 ?c2 ?c3 ?c4 ?c5 ?_)
      case c1 =>
        intro j u hj
        match j, hj with
        | 0, hj => simp at hj; subst hj; simp [Addr.add]
      case c2 => intro u hu; simp at hu; subst hu; rfl
      case c3 => unfold maxLen; omega
      case c4 => omega
      case c5 => have := HB2.out.size; simp; omega
      intro v' w3 hown3 hgrow _
      have HB3 := Lib.hid (below_append HO2.out HB2.out HB2.out.size hgrow)
      have hsp := dig_shr a n (i - n / 32)
      rw [show n / 32 + (i - n / 32) = i by omega, ← HX.out] at hsp
      have hcv : ((X : Nat) : Int) / 2 ^ (n % 32) % 4294967296 = (dig (a / P2 n) (i - n / 32) : Nat) := by rw [div_u64]; omega
      rw [hcv, ← digsV_succ, show i - n / 32 + 1 = i + 1 - n / 32 by omega] at hown3
      have HO3 := Lib.hid hown3
      clear hown3 hgrow hcv hsp hv
      go_wp2
      go_roundw
      case rel => exact ⟨i + 1, by omega, by omega, by go_num, HO3.out, HB3.out⟩
      case measure => simp [intOf]; omega
    · have HR := isRaw_of_owns hown (show a / P2 n < P2 (32 * (i - n / 32)) by exact Nat.lt_of_lt_of_le HN.out (P2_le (by omega)))
      have HB := Lib.hid hbel
      have hT := trim_any _ (a / P2 n) (i - n / 32) _ (by omega) HR
      have HT := Lib.hid hT
      clear hown hbel HR hT
      go_wp2_with fail
      refine HT.out.mono ?_
      rintro e w1 ⟨r, rfl, hr, rfl⟩
      have HR := Lib.hid hr; clear hr
      go_wp2_with fail
      go_ret
      exact ⟨r, rfl, HR.out, HB.out⟩

set_option maxHeartbeats 1000000 in
theorem rlen_any (va : Value) (a : Nat) (w : World) (hsa : a < BIG) (ha : IsBig w va a) :
    Calls Tryz.prog 46 #[va] w fun e w' => e = .returned (.int .i64 (blen a : Nat)) ∧ Below w.heap.size w w' := by
  obtain ⟨L0, hr0, hm0⟩ := ha
  have hl0 := small_len hr0 hm0 hsa
  have hT := trim_any _ a L0 w (by omega) hr0
  have HT := Lib.hid hT
  obtain ⟨⟨a0, c0, rfl, _, _⟩, _⟩ := hr0
  clear hT hm0
  have HS := Lib.hid hsa
  clear hsa
  go_enter Tryz.func46, Tryz.ntmps46
  go_wp2_with fail
  refine HT.out.mono ?_
  rintro e w1 ⟨r, rfl, hr, rfl⟩
  obtain ⟨La, hra, hma⟩ := hr
  have hla := small_len hra hma HS.out
  obtain ⟨⟨aa, ca, rfl, hca, hxa⟩, hna⟩ := hra
  have HN := Lib.hid hna
  have HM := Lib.hid hma
  rcases La with _ | k
  · clear hxa hna hma HT HS
    go_wp2_with fail
    go_ret
    refine ⟨ret_int ?_, Below.refl _ _⟩
    have := HN.out
    rw [show 32 * 0 = 0 from rfl, P2_0] at this
    rw [show a = 0 by omega, blen_zero]; rfl
  · obtain ⟨b, o, rfl, hb, hcell⟩ := hxa (by omega)
    have hg := hcell k (by omega)
    have hle := dig_le a k
    clear hxa hna hma HT HS hcell
    go_wp2
    go_loop [3, 4] (fun s d => ∃ j : Nat, j ≤ 32 ∧ s = .int .i64 j ∧ d = .int .u32 (dig a k / P2 j : Nat) ∧ (0 < j → P2 (j - 1) ≤ dig a k)) (fun _ d => (intOf d).toNat)
    case atStart => exact ⟨0, by omega, rfl, by rw [P2_0, Nat.div_one], fun h => absurd h (by omega)⟩
    case round =>
      obtain ⟨j, hj, rfl, rfl, hp⟩ := hrel
      have HP := Lib.hid hp
      clear hp
      by_cases hd : dig a k / P2 j = 0
      · have hd' : ¬ (0 < ((dig a k / P2 j : Nat) : Int)) := by rw [hd]; decide
        have HD := Lib.hid ((Nat.div_eq_zero_iff_lt (P2_pos _)).1 hd)
        clear hd
        go_wp2
        go_ret
        refine ⟨ret_int ?_, Below.refl _ _⟩
        have hj0 : 0 < j := by
          rcases j with _ | j
          · have h1 := HD.out
            rw [P2_0] at h1
            have := HM.out (by omega)
            have h3 := lt_of_dig_zero HN.out (by omega)
            rw [Nat.add_sub_cancel] at this
            omega
          · omega
        rw [blen_top HN.out HD.out HP.out hj0]
        omega
      · have hd' : 0 < ((dig a k / P2 j : Nat) : Int) := Int.natCast_pos.2 (Nat.pos_of_ne_zero hd)
        have hpj : P2 j ≤ dig a k := by
          rcases Nat.lt_or_ge (dig a k) (P2 j) with h | h
          · exact absurd (Nat.div_eq_of_lt h) hd
          · exact h
        have hj' : j < 32 := by
          rcases Nat.lt_or_ge j 32 with h | h
          · exact h
          · have := P2_le h
            have := dig_lt a k
            omega
        have hh : ((dig a k / P2 j : Nat) : Int) / 2 = ((dig a k / P2 (j + 1) : Nat) : Int) := by
          rw [P2_add, ← Nat.div_div_eq_div_mul, show P2 1 = 2 from by rw [P2_eq]]; omega
        have HH := Lib.hid hh
        have HJ := Lib.hid hpj
        have hm : dig a k / P2 j ≤ 4294967295 := by have := Nat.div_le_self (dig a k) (P2 j); omega
        obtain ⟨q, hq⟩ : ∃ q, q = dig a k / P2 j := ⟨_, rfl⟩
        rw [← hq] at hd' hm ⊢
        have HQ := Lib.hid hq
        clear hd hh hpj hq
        go_wp2
        go_round
        case rel => exact ⟨j + 1, by omega, by go_num, by rw [← HH.out, ← HQ.out], fun _ => HJ.out⟩
        case measure => simp [intOf]; omega
end Go.Proofs.YtegmmaaapdgocaaGreat

/- THE WALKS of the reference's number of limbs, of one limb, and whether a number is odd. -/
namespace Go.Proofs.YtegmmaaapdgocaaGreat
open Go Go.RowKit

theorem u32wrap (x : Int) : IntKind.u32.wrap x = x % 4294967296 := by simp [IntKind.wrap, IntKind.signed, IntKind.bits]
theorem dig_even (n i : Nat) : dig n (2 * i) = limb n i % 4294967296 := by
  apply Nat.eq_of_testBit_eq
  intro j
  rw [show (4294967296 : Nat) = P2 32 from P2_32.symm, dig_bit, bit_mod, limb_bit]
  by_cases hj : j < 32
  · have : j < 64 := by omega
    rw [show 32 * (2 * i) = 64 * i by omega]
    simp [hj, this]
  · simp [hj]
theorem dig_odd (n i : Nat) : dig n (2 * i + 1) = limb n i / 4294967296 := by
  apply Nat.eq_of_testBit_eq
  intro j
  rw [show (4294967296 : Nat) = P2 32 from P2_32.symm, dig_bit, bit_div, limb_bit]
  rw [show 32 * (2 * i + 1) + j = 64 * i + (32 + j) by omega]
  by_cases hj : j < 32
  · have : 32 + j < 64 := by omega
    simp [hj, this]
  · have : ¬ (32 + j < 64) := by omega
    simp [hj, this]
attribute [local go_sem ↓] Go.wp_at_zero Go.wp_at_succ

set_option maxHeartbeats 1000000 in
theorem of_any (v : Value) (n L : Nat) (w : World) (hL : L ≤ 15000) (hv : IsLimbs w v n L) :
    Calls Tryz.prog 102 #[v] w (GivesBig n w) := by
  obtain ⟨⟨a, cap, rfl, hc, hx⟩, hn⟩ := hv
  have HN := Lib.hid hn
  have HX := Lib.hid hx
  clear hn hx
  go_enter Tryz.func102, Tryz.ntmps102
  go_wp2
  go_loopw [3, 4] (fun v s wr => ∃ i : Nat, i ≤ L ∧ s = .int .i64 i ∧ wr.ownsRow w.heap.size 80 1 v (2 * i) (digsV n (2 * i)) ∧ Below w.heap.size w wr) (fun _ s _ => (L - (intOf s).toNat))
  case atStart => exact ⟨0, by omega, rfl, World.ownsRow_nil _ _ _ _, Below.refl _ _⟩
  case round =>
    obtain ⟨i, hi, rfl, hown, hbel⟩ := hrel
    by_cases hlt : i < L
    · obtain ⟨b, o, rfl, hb, hcell⟩ := HX.out (by omega)
      have hg := (hbel.cell (p := ⟨b, o + i, none⟩) hb).trans (hcell i hlt)
      have hsz := hbel.size
      have hle := limb_le n i
      have hi0 : (0 : Int) ≤ (i : Int) := Int.natCast_nonneg _
      have hi1 : (i : Int) < (L : Int) := by omega
      obtain ⟨X, hX⟩ : ∃ X, X = limb n i := ⟨_, rfl⟩
      rw [← hX] at hg hle
      have HX2 := Lib.hid hX
      have HB := Lib.hid hbel
      have HO := Lib.hid hown
      have hown' : Hid (u3.ownBlock ≠ some b) := Lib.hid (fun h => by have := (hown.lt b h).1; omega)
      obtain ⟨i0, hii, hz0, hz1, hz2⟩ := info_parts infoU32
      have HI := Lib.hid hii; have HZ0 := Lib.hid hz0; have HZ1 := Lib.hid hz1; have HZ2 := Lib.hid hz2
      clear hcell hbel hown hX hii hz0 hz1 hz2
      go_wp2_with fail
      go_region_held3 (fun w' => w'.cell? ⟨b, o + i, none⟩ = some (.int .u64 (X : Nat)))
        (first | go_keep | (rw [hgrow.cell_far _ (by simp; omega) (Ne.symm hown'.out)]; assumption))
        ((refine step_append_lies _ (by rfl) _ _ _ (by rfl) w.heap.size 80 i0 (.int .u32 0) 1 4 Tryz.underlying45 HI.out HZ0.out HZ1.out HZ2.out rfl (by omega) u3 (2 * i) (digsV n (2 * i)) (by rfl) ((HO.out.alloc _).drew)
            ⟨wr.heap.size, 0, none⟩ 2 2 [.int .u32 (IntKind.u32.wrap (X : Nat)), .int .u32 (IntKind.u32.wrap ((X : Nat) / 4294967296))] (by rfl) (by rfl) (World.news_of_block (cs := #[.int .u32 (IntKind.u32.wrap (X : Nat)), .int .u32 (IntKind.u32.wrap ((X : Nat) / 4294967296))]) (t := 80) (fr := (0, 0)) (heap_alloc_new wr _)) (by simp [Value.oneCell'])
            (by omega) (by unfold maxLen; omega) (by omega) (by simp; omega) (wr.heap.size + 1) (by simp) ?_; intro gg cap2 w3 hown3 hgrow hat hlt3))
      have hcv : ([.int .u32 (IntKind.u32.wrap (X : Nat)), .int .u32 (IntKind.u32.wrap ((X : Nat) / 4294967296))] : List Value) = [.int .u32 (dig n (2 * i) : Nat), .int .u32 (dig n (2 * i + 1) : Nat)] := by
        have h1 : IntKind.u32.wrap (X : Nat) = (dig n (2 * i) : Nat) := by rw [dig_even, ← HX2.out, u32wrap]; omega
        have h2 : IntKind.u32.wrap ((X : Nat) / 4294967296 : Int) = (dig n (2 * i + 1) : Nat) := by rw [dig_odd, ← HX2.out, u32wrap]; omega
        rw [h1, h2]
      rw [hcv, show ([.int .u32 (dig n (2 * i) : Nat), .int .u32 (dig n (2 * i + 1) : Nat)] : List Value) = [.int .u32 (dig n (2 * i) : Nat)] ++ [.int .u32 (dig n (2 * i + 1) : Nat)] from rfl, ← List.append_assoc, ← digsV_succ, ← digsV_succ, show 2 * i + 1 + 1 = 2 * (i + 1) by omega] at hown3
      have HO3 := Lib.hid hown3
      have HB3 := Lib.hid (below_append (ownsRow_below HO.out (Below.refl _ _).drew) HB.out.drew HB.out.size hgrow)
      clear hown3 hgrow hcv
      go_wp2
      go_roundw
      case rel => exact ⟨i + 1, by omega, by go_num, HO3.out, HB3.out⟩
      case measure => simp [intOf]; omega
    · have HR := isRaw_of_owns hown (show n < P2 (32 * (2 * i)) by exact Nat.lt_of_lt_of_le HN.out (P2_le (by omega)))
      have HB := Lib.hid hbel
      have hT := trim_any _ n (2 * i) _ (by omega) HR
      have HT := Lib.hid hT
      clear hown hbel HR hT
      go_wp2_with fail
      refine HT.out.mono ?_
      rintro e w1 ⟨r, rfl, hr, rfl⟩
      have HR := Lib.hid hr; clear hr
      go_wp2_with fail
      go_ret
      exact ⟨r, rfl, HR.out, HB.out⟩

theorem limb_one {l : Nat} (h : l ≤ 18446744073709551615) : limb l 0 = l := by
  unfold limb
  rw [show 64 * 0 = 0 from rfl, P2_0, Nat.div_one, P2_64, Nat.mod_eq_of_lt (by omega)]

set_option maxHeartbeats 1000000 in
/-- One limb. -/
theorem small_any (l : Nat) (w : World) (hl : l ≤ 18446744073709551615) :
    Calls Tryz.prog 73 #[.int .u64 l] w (GivesBig l w) := by
  have R : Hid (∀ w' a, w'.cell? ⟨a, 0, none⟩ = some (.int .u64 l) → a < w'.heap.size → Calls Tryz.prog 102 #[.slice (some ⟨a, 0, none⟩) 1 1] w' (GivesBig l w')) :=
    Lib.hid fun w' a hc ha => of_any _ l 1 w' (by omega) ⟨⟨_, _, rfl, Nat.le_refl _, fun _ => ⟨a, 0, rfl, ha, fun i hi => by
      obtain rfl : i = 0 := by omega
      rw [limb_one hl]; exact hc⟩⟩, by rw [Nat.mul_one, P2_64]; omega⟩
  go_enter Tryz.func73, Tryz.ntmps73
  go_wp2_with fail
  refine (R.out _ _ ?_ ?_).mono ?_
  · rw [cell_row (alloc_new w _)]; rfl
  · simp
  rintro e w1 ⟨r, rfl, hr, hb⟩
  have HR := Lib.hid hr
  have HB := Lib.hid (below_then (below_al (Below.refl _ _) _) hb)
  clear hr hb
  go_wp2_with fail
  go_ret
  exact ⟨r, rfl, HR.out, HB.out⟩

end Go.Proofs.YtegmmaaapdgocaaGreat

/- THE WALK of the reference's product. -/
namespace Go.Proofs.YtegmmaaapdgocaaGreat
open Go Go.RowKit

/-! ### Digits of a product, line by line -/
/-- What stands when the digits below i of a are done. -/
def pS (a b i : Nat) : Nat := a % P2 (32 * i) * b
/-- And the digits below k of b for digit i of a. -/
def pN (a b i k : Nat) : Nat := pS a b i + dig a i * P2 (32 * i) * (b % P2 (32 * k))
/-- What is carried. -/
def pC (a b i k : Nat) : Nat := (pS a b i % P2 (32 * (i + k)) + dig a i * P2 (32 * i) * (b % P2 (32 * k))) / P2 (32 * (i + k))
theorem mod_split (n i : Nat) : n % P2 (32 * (i + 1)) = n % P2 (32 * i) + dig n i * P2 (32 * i) := by
  have h1 := dig_split n i
  have h2 := Nat.div_add_mod n (P2 (32 * i))
  have h3 := Nat.div_add_mod n (P2 (32 * (i + 1)))
  have h4 : P2 (32 * (i + 1)) = P2 (32 * i) * P2 32 := by rw [← P2_add]; congr 1
  rw [h1, Nat.mul_add, ← Nat.mul_assoc, ← h4, Nat.mul_comm (P2 (32 * i)) (dig n i)] at h2
  omega
theorem pS_zero (a b : Nat) : pS a b 0 = 0 := by unfold pS; rw [show 32 * 0 = 0 from rfl, P2_0, Nat.mod_one, Nat.zero_mul]
theorem pN_zero (a b i : Nat) : pN a b i 0 = pS a b i := by unfold pN; rw [show 32 * 0 = 0 from rfl, P2_0, Nat.mod_one, Nat.mul_zero]; rfl
theorem pC_zero (a b i : Nat) : pC a b i 0 = 0 := by
  unfold pC
  rw [show 32 * 0 = 0 from rfl, P2_0, Nat.mod_one, Nat.mul_zero, Nat.add_zero, Nat.add_zero]
  exact Nat.div_eq_of_lt (Nat.mod_lt _ (P2_pos _))
theorem P2_mul_step (i k : Nat) : P2 (32 * i) * P2 (32 * k) = P2 (32 * (i + k)) := by rw [← P2_add]; congr 1; omega
theorem pN_succ (a b i k : Nat) : pN a b i (k + 1) = pN a b i k + P2 (32 * (i + k)) * (dig a i * dig b k) := by
  unfold pN
  rw [mod_split b k, Nat.mul_add, ← Nat.add_assoc]
  congr 1
  rw [← P2_mul_step]
  simp only [Nat.mul_assoc, Nat.mul_comm, Nat.mul_left_comm]
theorem dig_low (n X j k : Nat) (h : j < k) : dig (n + P2 (32 * k) * X) j = dig n j := by
  unfold dig
  rw [show P2 (32 * k) = P2 (32 * j) * (P2 32 * P2 (32 * (k - j - 1))) by rw [← P2_add, ← P2_add]; congr 1; omega, Nat.mul_assoc, Nat.add_mul_div_left _ _ (P2_pos _), Nat.mul_assoc, Nat.add_mul_mod_self_left]
theorem pN_low (a b i k j : Nat) (h : j < i + k) : dig (pN a b i (k + 1)) j = dig (pN a b i k) j := by rw [pN_succ, dig_low _ _ _ _ h]
/-- The sum of one step. -/
def pT (a b i k : Nat) : Nat := pC a b i k + dig (pS a b i) (i + k) + dig a i * dig b k
theorem pT_eq (a b i k : Nat) : (pS a b i % P2 (32 * (i + k + 1)) + dig a i * P2 (32 * i) * (b % P2 (32 * (k + 1)))) / P2 (32 * (i + k)) = pT a b i k := by
  rw [mod_split (pS a b i) (i + k), mod_split b k, Nat.mul_add (dig a i * P2 (32 * i))]
  have : dig a i * P2 (32 * i) * (dig b k * P2 (32 * k)) = P2 (32 * (i + k)) * (dig a i * dig b k) := by
    rw [← P2_mul_step]; simp only [Nat.mul_assoc, Nat.mul_comm, Nat.mul_left_comm]
  rw [this, Nat.mul_comm (dig (pS a b i) (i + k))]
  generalize hU : dig a i * P2 (32 * i) * (b % P2 (32 * k)) = U
  rw [show pS a b i % P2 (32 * (i + k)) + P2 (32 * (i + k)) * dig (pS a b i) (i + k) + (U + P2 (32 * (i + k)) * (dig a i * dig b k)) = pS a b i % P2 (32 * (i + k)) + U + P2 (32 * (i + k)) * (dig (pS a b i) (i + k) + dig a i * dig b k) by rw [Nat.mul_add (P2 (32 * (i + k))) (dig (pS a b i) (i + k))]; omega]
  rw [Nat.add_mul_div_left _ _ (P2_pos _)]
  unfold pT pC
  rw [hU]; omega
theorem pC_succ (a b i k : Nat) : pC a b i (k + 1) = pT a b i k / 4294967296 := by
  rw [← pT_eq, Nat.div_div_eq_div_mul, ← P2_32, ← P2_add]
  unfold pC
  rw [← Nat.add_assoc, show 32 * (i + k + 1) = 32 * (i + k) + 32 by omega]
theorem pN_dig (a b i k : Nat) : dig (pN a b i (k + 1)) (i + k) = pT a b i k % 4294967296 := by
  rw [← pT_eq, ← P2_32]
  unfold dig
  have h := Nat.div_add_mod (pS a b i) (P2 (32 * (i + k + 1)))
  have e : P2 (32 * (i + k + 1)) = P2 (32 * (i + k)) * P2 32 := by rw [← P2_add]; congr 1
  unfold pN
  rw [show pS a b i + dig a i * P2 (32 * i) * (b % P2 (32 * (k + 1))) = (pS a b i % P2 (32 * (i + k + 1)) + dig a i * P2 (32 * i) * (b % P2 (32 * (k + 1)))) + P2 (32 * (i + k)) * (P2 32 * (pS a b i / P2 (32 * (i + k + 1)))) by rw [← Nat.mul_assoc, ← e]; omega]
  rw [Nat.add_mul_div_left _ _ (P2_pos _), Nat.add_mul_mod_self_left]
  rfl
theorem pC_le (a b i k : Nat) : pC a b i k ≤ 4294967295 := by
  apply Nat.le_of_lt_succ
  unfold pC
  rw [show Nat.succ 4294967295 = P2 32 from P2_32.symm, Nat.div_lt_iff_lt_mul (P2_pos _)]
  have h1 := Nat.mod_lt (pS a b i) (P2_pos (32 * (i + k)))
  have h2 := Nat.mod_lt b (P2_pos (32 * k))
  have h3 := dig_le a i
  have h4 : dig a i * P2 (32 * i) * (b % P2 (32 * k)) ≤ 4294967295 * P2 (32 * (i + k)) := by
    rw [← P2_mul_step, Nat.mul_assoc]
    exact Nat.mul_le_mul h3 (Nat.mul_le_mul_left _ (by omega))
  rw [P2_32]
  omega
theorem pT_le (a b i k : Nat) : dig a i * dig b k ≤ 18446744065119617025 := Nat.mul_le_mul (dig_le a i) (dig_le b k)
theorem pS_succ (a b i L : Nat) (hb : b < P2 (32 * L)) : pN a b i L = pS a b (i + 1) := by
  unfold pN pS
  rw [mod_split a i, Nat.add_mul, Nat.mod_eq_of_lt hb]
theorem pS_lt (a b i L : Nat) (hb : b < P2 (32 * L)) : pS a b i < P2 (32 * (i + L)) := by
  unfold pS
  rw [← P2_mul_step]
  rcases Nat.eq_zero_or_pos b with rfl | h
  · rw [Nat.mul_zero]; exact Nat.mul_pos (P2_pos _) (P2_pos _)
  · exact Nat.mul_lt_mul'' (Nat.mod_lt _ (P2_pos _)) hb
theorem pC_top (a b i L : Nat) (hb : b < P2 (32 * L)) : pC a b i L = dig (pS a b (i + 1)) (i + L) := by
  have h1 := pS_lt a b (i + 1) L hb
  have h2 := dig_split (pS a b (i + 1)) (i + L)
  rw [show i + L + 1 = i + 1 + L by omega, Nat.div_eq_of_lt h1] at h2
  have h3 : pS a b (i + 1) / P2 (32 * (i + L)) = dig (pS a b (i + 1)) (i + L) := by omega
  rw [← h3, ← pS_succ a b i L hb]
  unfold pC pN
  rw [Nat.mod_eq_of_lt (pS_lt a b i L hb)]
theorem pS_all (a b L : Nat) (ha : a < P2 (32 * L)) : pS a b L = a * b := by unfold pS; rw [Nat.mod_eq_of_lt ha]

theorem i64wrap (x : Int) (h : 0 ≤ x) (h2 : x ≤ 9223372036854775807) : IntKind.i64.wrap x = x := by
  simp [IntKind.wrap, IntKind.bits, IntKind.signed]
  omega
theorem wrapT (c s x y : Nat) (h1 : c ≤ 4294967295) (h2 : s ≤ 4294967295) (h3 : x ≤ 4294967295) (h4 : y ≤ 4294967295) :
    IntKind.u64.wrap (IntKind.u64.wrap ((c : Int) + IntKind.u64.wrap (s : Int)) + IntKind.u64.wrap (IntKind.u64.wrap (x : Int) * IntKind.u64.wrap (y : Int))) = ((c + s + x * y : Nat) : Int) ∧ c + s + x * y ≤ 18446744073709551615 := by
  have h := Nat.mul_le_mul h3 h4
  have e1 : IntKind.u64.wrap (x : Int) = (x : Int) := by rw [u64wrap]; omega
  have e2 : IntKind.u64.wrap (y : Int) = (y : Int) := by rw [u64wrap]; omega
  rw [e1, e2, ← Int.natCast_mul]
  generalize x * y = p at *
  simp only [u64wrap]
  omega
/-! ### The walk -/
/-- K cells in a block, each known. -/
structure Holds32 (w : World) (g K : Nat) (f : Nat → Nat) : Prop where
  ex : ∃ cs, w.heap[g]? = some (.cells cs 80 (0, 0)) ∧ ∀ j, j < K → cs[j]? = some (.int .u32 (f j : Nat))
theorem Holds32.cell {w : World} {g K : Nat} {f : Nat → Nat} (h : Holds32 w g K f) {j : Nat} (hj : j < K) : w.cell? ⟨g, j, none⟩ = some (.int .u32 (f j : Nat)) := by
  obtain ⟨cs, h1, h2⟩ := h.ex; rw [cell_row h1, h2 j hj]
theorem Holds32.free {w : World} {g K : Nat} {f : Nat → Nat} (h : Holds32 w g K f) (j : Nat) : w.frozen? ⟨g, j, none⟩ = false := by
  obtain ⟨cs, h1, h2⟩ := h.ex; exact free_row h1 j
theorem Holds32.lt {w : World} {g K : Nat} {f : Nat → Nat} (h : Holds32 w g K f) : g < w.heap.size := by
  obtain ⟨cs, h1, h2⟩ := h.ex; exact lt_of_heap h1
theorem Holds32.set {w : World} {g K : Nat} {f f' : Nat → Nat} (h : Holds32 w g K f) {j v : Nat} (hj : j < K) (hv : f' j = v) (ho : ∀ i, i < K → i ≠ j → f' i = f i) : Holds32 (w.setCell ⟨g, j, none⟩ (.int .u32 (v : Nat))) g K f' := by
  obtain ⟨cs, h1, h2⟩ := h.ex
  refine ⟨_, set_row h1 j _, fun i hi => ?_⟩
  have hs : j < cs.size := by
    rcases Nat.lt_or_ge j cs.size with h | h
    · exact h
    · have := h2 j hj; rw [Array.getElem?_eq_none h] at this; cases this
  rw [Array.getElem?_setIfInBounds]
  by_cases e : j = i
  · subst e; simp [hs, hv]
  · rw [if_neg e, h2 i hi, ho i hi (fun h => e h.symm)]
set_option maxHeartbeats 2000000 in
theorem mul_any (va vb : Value) (a b : Nat) (w : World) (hsa : a < BIG) (hsb : b < BIG) (ha : IsBig w va a) (hb : IsBig w vb b) :
    Calls Tryz.prog 32 #[va, vb] w (GivesBig (a * b) w) := by
  obtain ⟨La, hra, hma⟩ := ha
  obtain ⟨Lb, hrb, hmb⟩ := hb
  have hla := small_len hra hma hsa
  have hlb := small_len hrb hmb hsb
  obtain ⟨⟨aa, ca, rfl, hca, hxa⟩, hna⟩ := hra
  obtain ⟨⟨ab, cb, rfl, hcb, hxb⟩, hnb⟩ := hrb
  have HNA := Lib.hid hna; have HNB := Lib.hid hnb
  have HXA := Lib.hid hxa; have HXB := Lib.hid hxb
  clear hna hnb hma hmb hsa hsb hxa hxb
  go_enter Tryz.func32, Tryz.ntmps32
  go_wp2_with (obtain ⟨i0, hi, hz0, hz1, hz2⟩ := info_parts infoU32; refine wpList_make_full _ rfl _ _ 45 rfl w.heap.size 80 i0 (.int .u32 0) 1 Tryz.underlying45 hi hz0 hz1 _ _ _ _ (La + Lb) rfl rfl ?hL ?hC ?b2 ?b3 ?b4 ?_)
  case hL => omega
  case hC => omega
  case b2 => rw [hz2]; omega
  case b3 => unfold maxLen; omega
  case b4 => exact Nat.le_refl _
  intro w0 hown hgrow
  have hB0 : Below w.heap.size w w0 := (Below.refl _ _).grown hgrow (Nat.le_refl _) (fun k hk => by cases hk)
  have hH0 : Holds32 w0 w.heap.size (La + Lb) (fun j => dig (pS a b 0) j) := by
    obtain ⟨hlen, ⟨h1, _⟩ | ⟨g, cap, cur, hv, hbg, hg, hnc, hcz, hcs, htake⟩⟩ := hown
    · cases h1
    · cases hv
      refine ⟨cur, hg, fun j hj => ?_⟩
      have h1 : (madeCells #[Value.int IntKind.u32 0] ((La + Lb) * 1)).toList[j]? = some (.int .u32 0) := by
        rw [toList_madeCells_one]; exact List.getElem?_replicate_of_lt (by omega)
      have h2 : (madeCells #[Value.int IntKind.u32 0] ((La + Lb) * 1)).toList = List.take ((La + Lb) * 1) cur.toList := by rw [htake, Nat.mul_one]
      rw [h2, List.getElem?_take, if_pos (by omega)] at h1
      rw [pS_zero, dig_zero, ← Array.getElem?_toList]; exact h1
  clear hown hgrow hi hz0 hz1 hz2
  have HB0 := Lib.hid hB0
  have HH0 := Lib.hid hH0
  clear hB0 hH0
  go_wp2
  go_loopw [6, 7, 8] (fun s c t wr => ∃ i : Nat, i ≤ La ∧ s = .int .i64 i ∧ Holds32 wr w.heap.size (La + Lb) (fun j => dig (pS a b i) j) ∧ Below w.heap.size w wr) (fun s _ _ _ => (La - (intOf s).toNat))
  case atStart => exact ⟨0, by omega, rfl, HH0.out, HB0.out⟩
  case round =>
    obtain ⟨i, hi, rfl, hH, hbel⟩ := hrel
    clear HB0 HH0
    have HB := Lib.hid hbel
    have HH := Lib.hid hH
    clear hbel hH
    obtain ⟨wo, rfl⟩ : ∃ wo : World, wo = wr := ⟨_, rfl⟩
    by_cases hlt : i < La
    · go_wp2
      go_loopw [7, 8] (fun c t wr => ∃ k : Nat, k ≤ Lb ∧ t = .int .i64 k ∧ c = .int .u64 (pC a b i k : Nat) ∧ Holds32 wr w.heap.size (La + Lb) (fun j => if j < i + k then dig (pN a b i k) j else dig (pS a b i) j) ∧ Below w.heap.size w wr) (fun _ t _ => (Lb - (intOf t).toNat))
      case atStart => exact ⟨0, by omega, rfl, by rw [pC_zero]; rfl, by
        obtain ⟨cs, h1, h2⟩ := HH.out.ex
        exact ⟨cs, h1, fun j hj => by rw [h2 j hj, pN_zero]; simp⟩, HB.out⟩
      case round =>
        obtain ⟨k, hk, rfl, rfl, hH, hbel⟩ := hrel
        clear HB HH
        by_cases hlt2 : k < Lb
        · obtain ⟨ba, oa, rfl, hba, hca'⟩ := HXA.out (by omega)
          obtain ⟨bb, ob, rfl, hbb, hcb'⟩ := HXB.out (by omega)
          have ga := (hbel.cell (p := ⟨ba, oa + i, none⟩) (by obtain ⟨_, _, ht⟩ := hba; exact lt_of_heap ht)).trans (hca' i hlt)
          have gb := (hbel.cell (p := ⟨bb, ob + k, none⟩) (by obtain ⟨_, _, ht⟩ := hbb; exact lt_of_heap ht)).trans (hcb' k hlt2)
          have gs := hH.cell (j := i + k) (by omega)
          have gf := hH.free (i + k)
          have gl := hH.lt
          rw [if_neg (by omega)] at gs
          have HW := Lib.hid (wrapT (pC a b i k) (dig (pS a b i) (i + k)) (dig a i) (dig b k) (pC_le a b i k) (dig_le _ _) (dig_le a i) (dig_le b k))
          have HH := Lib.hid hH
          have HB := Lib.hid hbel
          clear hca' hcb' hH hbel
          have e0 : (0 : Int) ≤ (i : Int) + (k : Int) := by omega
          have e1 : (i : Int) + (k : Int) < (La : Int) + (Lb : Int) := by omega
          have e2 : (i : Int) + (k : Int) < ((La + Lb : Nat) : Int) := by omega
          have e3 : IntKind.i64.wrap ((i : Int) + (k : Int)) = (i : Int) + (k : Int) := i64wrap _ (by omega) (by omega)
          have e4 : ((i : Int) + (k : Int)).toNat = i + k := by omega
          have e5 : (0 : Int) ≤ (i : Int) := Int.natCast_nonneg _
          have e6 : (0 : Int) ≤ (k : Int) := Int.natCast_nonneg _
          have e7 : (i : Int) < (La : Int) := by omega
          have e8 : (k : Int) < (Lb : Int) := by omega
          go_wp2
          go_region_held3 (fun w' => w'.cell? ⟨ba, oa + i, none⟩ = some (.int .u32 (dig a i : Nat)) ∧ w'.cell? ⟨bb, ob + k, none⟩ = some (.int .u32 (dig b k : Nat)) ∧ w'.cell? ⟨w.heap.size, i + k, none⟩ = some (.int .u32 (dig (pS a b i) (i + k) : Nat))) (go_keep) (fail)
          rw [HW.out.1]
          obtain ⟨T, hT⟩ : ∃ T, T = pC a b i k + dig (pS a b i) (i + k) + dig a i * dig b k := ⟨_, rfl⟩
          have hTl := HW.out.2
          rw [← hT] at hTl ⊢
          have HT := Lib.hid (show T = pT a b i k from hT)
          obtain ⟨wd, hwd⟩ : ∃ wd : World, wd = wr.drew := ⟨_, rfl⟩
          rw [← hwd]
          have HHd : Hid (Holds32 wd w.heap.size (La + Lb) (fun j => if j < i + k then dig (pN a b i k) j else dig (pS a b i) j)) := Lib.hid (by rw [hwd]; exact ⟨HH.out.ex⟩)
          have HBd : Hid (Below w.heap.size w wd) := Lib.hid (by rw [hwd]; exact HB.out.drew)
          have gs := HHd.out.cell (j := i + k) (by omega)
          have gf := HHd.out.free (i + k)
          have gl := HHd.out.lt
          rw [if_neg (by omega)] at gs
          clear HW HH HB hT hwd ga gb
          go_wp2
          have HHn : Hid (Holds32 (wd.setCell ⟨w.heap.size, i + k, none⟩ (.int .u32 ((T % 4294967296 : Nat) : Int))) w.heap.size (La + Lb) (fun j => if j < i + (k + 1) then dig (pN a b i (k + 1)) j else dig (pS a b i) j)) := Lib.hid (by
            refine HHd.out.set (by omega) ?_ ?_
            · rw [if_pos (by omega), pN_dig, HT.out]
            · intro j hj hne
              by_cases hlow : j < i + k
              · rw [if_pos (by omega), if_pos hlow, pN_low _ _ _ _ _ hlow]
              · rw [if_neg (by omega), if_neg hlow])
          have HBn := Lib.hid (below_set HBd.out (Nat.le_refl _) (i + k) (.int .u32 ((T % 4294967296 : Nat) : Int)))
          have hcT : ((T : Nat) : Int) / 4294967296 = ((pC a b i (k + 1) : Nat) : Int) := by rw [pC_succ, ← HT.out]; omega
          go_roundw
          case rel => exact ⟨k + 1, by omega, by go_num, by rw [← hcT], HHn.out, HBn.out⟩
          case measure => simp [intOf]; omega
        · obtain ⟨hk2⟩ : Nonempty (Lb ≤ k ∧ k ≤ Lb) := ⟨by omega, hk⟩
          have hke : k = Lb := by omega
          have gs := hH.cell (j := i + Lb) (by omega)
          have gf := hH.free (i + Lb)
          have gl := hH.lt
          have HC := Lib.hid (show pC a b i k = dig (pS a b (i + 1)) (i + Lb) by rw [hke, pC_top a b i Lb HNB.out])
          have hcl := pC_le a b i k
          have e0 : (0 : Int) ≤ (i : Int) + (Lb : Int) := by omega
          have e1 : (i : Int) + (Lb : Int) < (La : Int) + (Lb : Int) := by omega
          have e2 : (i : Int) + (Lb : Int) < ((La + Lb : Nat) : Int) := by omega
          have e3 : IntKind.i64.wrap ((i : Int) + (Lb : Int)) = (i : Int) + (Lb : Int) := i64wrap _ (by omega) (by omega)
          have e4 : ((i : Int) + (Lb : Int)).toNat = i + Lb := by omega
          have HH := Lib.hid hH
          have HB := Lib.hid hbel
          have HK := Lib.hid hke
          obtain ⟨C, hC⟩ : ∃ C, C = pC a b i k := ⟨_, rfl⟩
          rw [← hC] at hcl HC ⊢
          clear hH hbel hke hC
          go_wp2
          have hCm : IntKind.u32.wrap (C : Int) = (C : Int) := by rw [u32wrap]; omega
          have HHn : Hid (Holds32 (wr.setCell ⟨w.heap.size, i + Lb, none⟩ (.int .u32 (C : Nat))) w.heap.size (La + Lb) (fun j => dig (pS a b (i + 1)) j)) := Lib.hid (by
            refine HH.out.set (by omega) HC.out.symm ?_
            intro j hj hne
            rw [HK.out]
            by_cases hlow : j < i + Lb
            · rw [if_pos hlow, pS_succ _ _ _ _ HNB.out]
            · rw [if_neg hlow, dig_big _ _ (i + Lb) (pS_lt a b i Lb HNB.out) (by omega), dig_big _ _ (i + 1 + Lb) (pS_lt a b (i + 1) Lb HNB.out) (by omega)])
          have HBn := Lib.hid (below_set HB.out (Nat.le_refl _) (i + Lb) (.int .u32 (C : Nat)))
          go_roundw
          case rel => exact ⟨i + 1, by omega, by go_num, HHn.out, HBn.out⟩
          case measure => simp [intOf]; omega
    · have hR : IsRaw wo (.slice (some ⟨w.heap.size, 0, none⟩) (La + Lb) (La + Lb)) (a * b) (La + Lb) := by
        have h1 : i = La := by omega
        subst h1
        have h2 := pS_lt a b i Lb HNB.out
        rw [pS_all a b i HNA.out] at h2
        refine ⟨⟨_, _, rfl, Nat.le_refl _, fun _ => ⟨_, 0, rfl, (by obtain ⟨cs, h3, _⟩ := HH.out.ex; exact ⟨cs, _, h3⟩), fun j hj => ?_⟩⟩, h2⟩
        rw [Nat.zero_add, HH.out.cell hj, pS_all a b i HNA.out]
      have hT := trim_any _ (a * b) (La + Lb) _ (by omega) hR
      have HT := Lib.hid hT
      clear hR hT HH
      go_wp2_with fail
      refine HT.out.mono ?_
      rintro e w1 ⟨r, rfl, hr, rfl⟩
      have HR := Lib.hid hr; clear hr
      go_wp2_with fail
      go_ret
      exact ⟨r, rfl, HR.out, HB.out⟩
end Go.Proofs.YtegmmaaapdgocaaGreat
