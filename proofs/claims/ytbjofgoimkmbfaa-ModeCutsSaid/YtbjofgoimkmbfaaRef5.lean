/- THE WALKS of the reference's number of limbs, of one limb, and whether a number is odd. -/
import Derived.Test.YtbjofgoimkmbfaaRef4
import Derived.Deep.RegionHeld3
import Derived.Deep.AppendLies
import Derived.Deep.DrawnRows
namespace Go.Proofs.Ytbjofgoimkmbfaa
open Go Go.RowKit

theorem u32wrap (x : Int) : IntKind.u32.wrap x = x % 4294967296 := by simp [IntKind.wrap, IntKind.signed, IntKind.bits]
theorem dig_even (n i : Nat) : dig n (2 * i) = limb n i % 4294967296 := by
  apply Nat.eq_of_testBit_eq
  intro j
  rw [show (4294967296 : Nat) = P2 32 from P2_32.symm, dig_bit, bit_mod, limb_bit]
  by_cases hj : j < 32
  · have : j < 64 := by omega
    rw [show 32 * (2 * i) = 64 * i by omega]
    simp [hj, this]
  · simp [hj]
theorem dig_odd (n i : Nat) : dig n (2 * i + 1) = limb n i / 4294967296 := by
  apply Nat.eq_of_testBit_eq
  intro j
  rw [show (4294967296 : Nat) = P2 32 from P2_32.symm, dig_bit, bit_div, limb_bit]
  rw [show 32 * (2 * i + 1) + j = 64 * i + (32 + j) by omega]
  by_cases hj : j < 32
  · have : 32 + j < 64 := by omega
    simp [hj, this]
  · have : ¬ (32 + j < 64) := by omega
    simp [hj, this]
attribute [local go_sem ↓] Go.wp_at_zero Go.wp_at_succ

set_option maxHeartbeats 1000000 in
theorem of_any (v : Value) (n L : Nat) (w : World) (hL : L ≤ 15000) (hv : IsLimbs w v n L) :
    Calls Try.prog 42 #[v] w (GivesBig n w) := by
  obtain ⟨⟨a, cap, rfl, hc, hx⟩, hn⟩ := hv
  have HN := Lib.hid hn
  have HX := Lib.hid hx
  clear hn hx
  go_enter Try.func42, Try.ntmps42
  go_wp2
  go_loopw [3, 4] (fun v s wr => ∃ i : Nat, i ≤ L ∧ s = .int .i64 i ∧ wr.ownsRow w.heap.size 137 1 v (2 * i) (digsV n (2 * i)) ∧ Below w.heap.size w wr) (fun _ s _ => (L - (intOf s).toNat))
  case atStart => exact ⟨0, by omega, rfl, World.ownsRow_nil _ _ _ _, Below.refl _ _⟩
  case round =>
    obtain ⟨i, hi, rfl, hown, hbel⟩ := hrel
    by_cases hlt : i < L
    · obtain ⟨b, o, rfl, hb, hcell⟩ := HX.out (by omega)
      have hg := (hbel.cell (p := ⟨b, o + i, none⟩) hb).trans (hcell i hlt)
      have hsz := hbel.size
      have hle := limb_le n i
      have hi0 : (0 : Int) ≤ (i : Int) := Int.natCast_nonneg _
      have hi1 : (i : Int) < (L : Int) := by omega
      obtain ⟨X, hX⟩ : ∃ X, X = limb n i := ⟨_, rfl⟩
      rw [← hX] at hg hle
      have HX2 := Lib.hid hX
      have HB := Lib.hid hbel
      have HO := Lib.hid hown
      have hown' : Hid (u3.ownBlock ≠ some b) := Lib.hid (fun h => by have := (hown.lt b h).1; omega)
      obtain ⟨i0, hii, hz0, hz1, hz2⟩ := info_parts infoU32
      have HI := Lib.hid hii; have HZ0 := Lib.hid hz0; have HZ1 := Lib.hid hz1; have HZ2 := Lib.hid hz2
      clear hcell hbel hown hX hii hz0 hz1 hz2
      go_wp2_with fail
      go_region_held3 (fun w' => w'.cell? ⟨b, o + i, none⟩ = some (.int .u64 (X : Nat)))
        (first | go_keep | (rw [hgrow.cell_far _ (by simp; omega) (Ne.symm hown'.out)]; assumption))
        ((refine step_append_lies _ (by rfl) _ _ _ (by rfl) w.heap.size 137 i0 (.int .u32 0) 1 4 Try.underlying35 HI.out HZ0.out HZ1.out HZ2.out rfl (by omega) u3 (2 * i) (digsV n (2 * i)) (by rfl) ((HO.out.alloc _).drew)
            ⟨wr.heap.size, 0, none⟩ 2 2 [.int .u32 (IntKind.u32.wrap (X : Nat)), .int .u32 (IntKind.u32.wrap ((X : Nat) / 4294967296))] (by rfl) (by rfl) (World.news_of_block (cs := #[.int .u32 (IntKind.u32.wrap (X : Nat)), .int .u32 (IntKind.u32.wrap ((X : Nat) / 4294967296))]) (t := 137) (fr := (0, 0)) (heap_alloc_new wr _)) (by simp [Value.oneCell'])
            (by omega) (by unfold maxLen; omega) (by omega) (by simp; omega) (wr.heap.size + 1) (by simp) ?_; intro gg cap2 w3 hown3 hgrow hat hlt3))
      have hcv : ([.int .u32 (IntKind.u32.wrap (X : Nat)), .int .u32 (IntKind.u32.wrap ((X : Nat) / 4294967296))] : List Value) = [.int .u32 (dig n (2 * i) : Nat), .int .u32 (dig n (2 * i + 1) : Nat)] := by
        have h1 : IntKind.u32.wrap (X : Nat) = (dig n (2 * i) : Nat) := by rw [dig_even, ← HX2.out, u32wrap]; omega
        have h2 : IntKind.u32.wrap ((X : Nat) / 4294967296 : Int) = (dig n (2 * i + 1) : Nat) := by rw [dig_odd, ← HX2.out, u32wrap]; omega
        rw [h1, h2]
      rw [hcv, show ([.int .u32 (dig n (2 * i) : Nat), .int .u32 (dig n (2 * i + 1) : Nat)] : List Value) = [.int .u32 (dig n (2 * i) : Nat)] ++ [.int .u32 (dig n (2 * i + 1) : Nat)] from rfl, ← List.append_assoc, ← digsV_succ, ← digsV_succ, show 2 * i + 1 + 1 = 2 * (i + 1) by omega] at hown3
      have HO3 := Lib.hid hown3
      have HB3 := Lib.hid (below_append (ownsRow_below HO.out (Below.refl _ _).drew) HB.out.drew HB.out.size hgrow)
      clear hown3 hgrow hcv
      go_wp2
      go_roundw
      case rel => exact ⟨i + 1, by omega, by go_num, HO3.out, HB3.out⟩
      case measure => simp [intOf]; omega
    · have HR := isRaw_of_owns hown (show n < P2 (32 * (2 * i)) by exact Nat.lt_of_lt_of_le HN.out (P2_le (by omega)))
      have HB := Lib.hid hbel
      have hT := trim_any _ n (2 * i) _ (by omega) HR
      have HT := Lib.hid hT
      clear hown hbel HR hT
      go_wp2_with fail
      refine HT.out.mono ?_
      rintro e w1 ⟨r, rfl, hr, rfl⟩
      have HR := Lib.hid hr; clear hr
      go_wp2_with fail
      go_ret
      exact ⟨r, rfl, HR.out, HB.out⟩

theorem limb_one {l : Nat} (h : l ≤ 18446744073709551615) : limb l 0 = l := by
  unfold limb
  rw [show 64 * 0 = 0 from rfl, P2_0, Nat.div_one, P2_64, Nat.mod_eq_of_lt (by omega)]

set_option maxHeartbeats 1000000 in
/-- One limb. -/
theorem small_any (l : Nat) (w : World) (hl : l ≤ 18446744073709551615) :
    Calls Try.prog 49 #[.int .u64 l] w (GivesBig l w) := by
  have R : Hid (∀ w' a, w'.cell? ⟨a, 0, none⟩ = some (.int .u64 l) → a < w'.heap.size → Calls Try.prog 42 #[.slice (some ⟨a, 0, none⟩) 1 1] w' (GivesBig l w')) :=
    Lib.hid fun w' a hc ha => of_any _ l 1 w' (by omega) ⟨⟨_, _, rfl, Nat.le_refl _, fun _ => ⟨a, 0, rfl, ha, fun i hi => by
      obtain rfl : i = 0 := by omega
      rw [limb_one hl]; exact hc⟩⟩, by rw [Nat.mul_one, P2_64]; omega⟩
  go_enter Try.func49, Try.ntmps49
  go_wp2_with fail
  refine (R.out _ _ ?_ ?_).mono ?_
  · rw [cell_row (alloc_new w _)]; rfl
  · simp
  rintro e w1 ⟨r, rfl, hr, hb⟩
  have HR := Lib.hid hr
  have HB := Lib.hid (below_then (below_al (Below.refl _ _) _) hb)
  clear hr hb
  go_wp2_with fail
  go_ret
  exact ⟨r, rfl, HR.out, HB.out⟩

set_option maxHeartbeats 400000 in
/-- Is a number odd? -/
theorem odd_any (va : Value) (a : Nat) (w : World) (hsa : a < BIG) (ha : IsBig w va a) :
    Calls Try.prog 45 #[va] w fun e w' => e = .returned (.bool (a.testBit 0)) ∧ Below w.heap.size w w' := by
  obtain ⟨La, hra, hma⟩ := ha
  have hla := small_len hra hma hsa
  have hd := digit_any va a La 0 w (by omega) (by omega) (by omega) hra
  rw [show digI a 0 = dig a 0 from digI_nat a 0] at hd
  have HD := Lib.hid hd
  have hle := dig_le a 0
  have hbit : a.testBit 0 = decide (dig a 0 % 2 = 1) := by
    have := dig_bit a 0 0
    rw [show 32 * 0 + 0 = 0 from rfl] at this
    rw [← Nat.testBit_zero, this]; simp
  have HBIT := Lib.hid hbit
  clear hra hma hsa hd hbit
  go_enter Try.func45, Try.ntmps45
  go_wp2_with fail
  refine HD.out.mono ?_
  rintro e w1 ⟨rfl, hb⟩
  have HB := Lib.hid hb; clear hb
  go_wp2_with fail
  go_ret
  exact ⟨ret_bool (by rw [HBIT.out]; by_cases h : dig a 0 % 2 = 1 <;> simp [h] <;> omega), HB.out⟩
end Go.Proofs.Ytbjofgoimkmbfaa
