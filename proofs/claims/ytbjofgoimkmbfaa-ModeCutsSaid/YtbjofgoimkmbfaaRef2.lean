/- THE WALKS of the reference's sum. -/
import Derived.Test.YtbjofgoimkmbfaaRef1
namespace Go.Proofs.Ytbjofgoimkmbfaa
open Go Go.RowKit

theorem infoU32 : (Try.prog.info? 137).map (fun i => (i.zero, i.size, i.bytes)) = some (some (.int .u32 0), 1, 4) := by kernel_rfl

set_option maxHeartbeats 1000000 in
theorem add_any (va vb : Value) (a b : Nat) (w : World) (hsa : a < BIG) (hsb : b < BIG) (ha : IsBig w va a) (hb : IsBig w vb b) :
    Calls Try.prog 74 #[va, vb] w (GivesBig (a + b) w) := by
  obtain ⟨La, hra, hma⟩ := ha
  obtain ⟨Lb, hrb, hmb⟩ := hb
  have hla := small_len hra hma hsa
  have hlb := small_len hrb hmb hsb
  have HRA := Lib.hid hra
  have HRB := Lib.hid hrb
  obtain ⟨⟨aa, ca, rfl, hca, hxa⟩, hna⟩ := hra
  obtain ⟨⟨ab, cb, rfl, hcb, hxb⟩, hnb⟩ := hrb
  obtain ⟨K, hK1, hK2, hmax⟩ : ∃ K, La ≤ K ∧ Lb ≤ K ∧ ((La < Lb ∧ K ≤ Lb) ∨ (Lb ≤ La ∧ K ≤ La)) := by
    by_cases h : La < Lb
    · exact ⟨Lb, by omega, by omega, by omega⟩
    · exact ⟨La, by omega, by omega, by omega⟩
  have hK : K ≤ 30000 := by omega
  have hN : a + b < P2 (32 * (K + 1)) := by
    have h1 := lt_top hna hK1
    have h2 := lt_top hnb hK2
    rw [show 32 * (K + 1) = 32 * K + 32 from by omega, P2_add, P2_32]
    omega
  have HN := Lib.hid hN
  clear hna hnb hma hmb hsa hsb hxa hxb hN
  rcases hmax with ⟨hm1, hm2⟩ | ⟨hm1, hm2⟩
  all_goals
    go_enter Try.func74, Try.ntmps74
    go_wp2
    go_loopw [5, 6, 7] (fun v c s wr => ∃ k : Nat, k ≤ K + 1 ∧ s = .int .i64 k ∧ c = .int .u64 (carry a b k : Nat) ∧ wr.ownsRow w.heap.size 137 1 v k (digsV (a + b) k) ∧ Below w.heap.size w wr) (fun _ _ s _ => (K + 1 - (intOf s).toNat))
    case atStart => exact ⟨0, by omega, rfl, by rw [carry_zero]; rfl, World.ownsRow_nil _ _ _ _, Below.refl _ _⟩
    case round =>
      obtain ⟨k, hk, rfl, rfl, hown, hbel⟩ := hrel
      by_cases hlt : k < K + 1
      · have R1 : Hid (∀ w', Below w.heap.size w w' → Calls Try.prog 133 #[.slice aa La ca, .int .i64 k] w' fun e w'' => e = .returned (.int .u64 (dig a k : Nat)) ∧ Below w'.heap.size w' w'') := fun w' hw' => by
          have := digit_any _ a La k w' (by omega) (by omega) (by omega) (HRA.out.below hw' (Nat.le_refl _))
          rwa [digI_nat] at this
        have R2 : Hid (∀ w', Below w.heap.size w w' → Calls Try.prog 133 #[.slice ab Lb cb, .int .i64 k] w' fun e w'' => e = .returned (.int .u64 (dig b k : Nat)) ∧ Below w'.heap.size w' w'') := fun w' hw' => by
          have := digit_any _ b Lb k w' (by omega) (by omega) (by omega) (HRB.out.below hw' (Nat.le_refl _))
          rwa [digI_nat] at this
        have hda := dig_le a k
        have hdb := dig_le b k
        have hcl := carry_le a b k
        have HB := Lib.hid hbel
        have HO := Lib.hid hown
        have hz := hbel.size
        clear hbel hown
        go_wp2_with fail
        refine (R1.out _ HB.out).mono ?_
        rintro e w1 ⟨rfl, hb1⟩
        have HB1 := Lib.hid (HB.out.trans (hb1.mono hz))
        have hz1 := hb1.size
        have HO1 := Lib.hid (ownsRow_below HO.out hb1)
        clear hb1
        go_wp2_with fail
        refine (R2.out _ HB1.out).mono ?_
        rintro e w2 ⟨rfl, hb2⟩
        have HB2 := Lib.hid (HB1.out.trans (hb2.mono HB1.out.size))
        have hz2 := hb2.size
        have HO2 := Lib.hid (ownsRow_below HO1.out hb2)
        clear hb2
        obtain ⟨i0, hi, hz0, hz1, hz2⟩ := info_parts infoU32
        go_wp2_with (at_builtin; refine wpList_append_own _ rfl _ _ 35 rfl w.heap.size 137 i0 (.int .u32 0) 1 4 Try.underlying35 hi hz0 hz1 hz2 rfl (by decide) _ _ _ rfl (HO2.out.alloc _) ⟨w2.heap.size, 0, none⟩ 1 1 [.int .u32 (((carry a b k : Nat) + (dig a k : Nat) + (dig b k : Nat) : Int) % 4294967296)] rfl rfl ?c1 ?c2 ?c3 ?c4 ?c5 ?_)
        case c1 =>
          intro j u hj
          match j, hj with
          | 0, hj => simp at hj; subst hj; simp [Addr.add]
        case c2 => intro u hu; simp at hu; subst hu; rfl
        case c3 => unfold maxLen; omega
        case c4 => omega
        case c5 => have := HB2.out.size; simp; omega
        intro v' w3 hown3 hgrow _
        have HB3 := Lib.hid (below_append HO2.out HB2.out HB2.out.size hgrow)
        have hsp := carry_dig a b k
        have hcv : (((carry a b k : Nat) + (dig a k : Nat) + (dig b k : Nat) : Int) % 4294967296) = (dig (a + b) k : Nat) := by omega
        rw [hcv, ← digsV_succ] at hown3
        have HO3 := Lib.hid hown3
        have hcn : (((carry a b k : Nat) + (dig a k : Nat) + (dig b k : Nat) : Int) / 4294967296) = (carry a b (k + 1) : Nat) := by omega
        have HCN := Lib.hid hcn
        clear hown3 hgrow hcv hsp hcn hi hz0 hz1 hz2
        go_wp2
        go_roundw
        case rel => exact ⟨k + 1, by omega, by go_num, by rw [HCN.out], HO3.out, HB3.out⟩
        case measure => simp [intOf]; omega
      · have HR := isRaw_of_owns hown (show a + b < P2 (32 * k) by rw [show k = K + 1 by omega]; exact HN.out)
        have HB := Lib.hid hbel
        have hT := trim_any _ (a + b) k wr (by omega) HR
        have HT := Lib.hid hT
        clear hown hbel HR hT
        go_wp2_with fail
        refine HT.out.mono ?_
        rintro e w1 ⟨r, rfl, hr, rfl⟩
        have HR := Lib.hid hr; clear hr
        go_wp2_with fail
        go_ret
        exact ⟨r, rfl, HR.out, HB.out⟩

set_option maxHeartbeats 1000000 in
theorem sub_any (va vb : Value) (b t : Nat) (w : World) (hsa : b + t < BIG) (ha : IsBig w va (b + t)) (hb : IsBig w vb b) :
    Calls Try.prog 48 #[va, vb] w (GivesBig t w) := by
  have hsb : b < BIG := by omega
  obtain ⟨La, hra, hma⟩ := ha
  obtain ⟨Lb, hrb, hmb⟩ := hb
  have hla := small_len hra hma hsa
  have hlb := small_len hrb hmb hsb
  have HRA := Lib.hid hra
  have HRB := Lib.hid hrb
  obtain ⟨⟨aa, ca, rfl, hca, hxa⟩, hna⟩ := hra
  obtain ⟨⟨ab, cb, rfl, hcb, hxb⟩, hnb⟩ := hrb
  have hN : t < P2 (32 * La) := by omega
  have HN := Lib.hid hN
  clear hna hnb hma hmb hsa hsb hxa hxb hN
  go_enter Try.func48, Try.ntmps48
  go_wp2
  go_loopw [5, 6, 7] (fun v c s wr => ∃ k : Nat, k ≤ La ∧ s = .int .i64 k ∧ c = .int .u64 (carry b t k : Nat) ∧ wr.ownsRow w.heap.size 137 1 v k (digsV t k) ∧ Below w.heap.size w wr) (fun _ _ s _ => (La - (intOf s).toNat))
  case atStart => exact ⟨0, by omega, rfl, by rw [carry_zero]; rfl, World.ownsRow_nil _ _ _ _, Below.refl _ _⟩
  case round =>
    obtain ⟨k, hk, rfl, rfl, hown, hbel⟩ := hrel
    by_cases hlt : k < La
    · have R1 : Hid (∀ w', Below w.heap.size w w' → Calls Try.prog 133 #[.slice aa La ca, .int .i64 k] w' fun e w'' => e = .returned (.int .u64 (dig (b + t) k : Nat)) ∧ Below w'.heap.size w' w'') := fun w' hw' => by
        have := digit_any _ (b + t) La k w' (by omega) (by omega) (by omega) (HRA.out.below hw' (Nat.le_refl _))
        rwa [digI_nat] at this
      have R2 : Hid (∀ w', Below w.heap.size w w' → Calls Try.prog 133 #[.slice ab Lb cb, .int .i64 k] w' fun e w'' => e = .returned (.int .u64 (dig b k : Nat)) ∧ Below w'.heap.size w' w'') := fun w' hw' => by
        have := digit_any _ b Lb k w' (by omega) (by omega) (by omega) (HRB.out.below hw' (Nat.le_refl _))
        rwa [digI_nat] at this
      have hda := dig_le (b + t) k
      have hdb := dig_le b k
      have hcl := carry_le b t k
      have HB := Lib.hid hbel
      have HO := Lib.hid hown
      have hz := hbel.size
      clear hbel hown
      go_wp2_with fail
      refine (R1.out _ HB.out).mono ?_
      rintro e w1 ⟨rfl, hb1⟩
      have HB1 := Lib.hid (HB.out.trans (hb1.mono hz))
      have HO1 := Lib.hid (ownsRow_below HO.out hb1)
      clear hb1
      go_wp2_with fail
      refine (R2.out _ HB1.out).mono ?_
      rintro e w2 ⟨rfl, hb2⟩
      have HB2 := Lib.hid (HB1.out.trans (hb2.mono HB1.out.size))
      have HO2 := Lib.hid (ownsRow_below HO1.out hb2)
      clear hb2
      obtain ⟨i0, hi, hz0, hz1, hz2⟩ := info_parts infoU32
      go_wp2_with (at_builtin; refine wpList_append_own _ rfl _ _ 35 rfl w.heap.size 137 i0 (.int .u32 0) 1 4 Try.underlying35 hi hz0 hz1 hz2 rfl (by decide) _ _ _ rfl (HO2.out.alloc _) ⟨w2.heap.size, 0, none⟩ 1 1 [.int .u32 (((dig (b + t) k : Nat) + 4294967296 - (dig b k : Nat) - (carry b t k : Nat) : Int) % 4294967296)] rfl rfl ?c1 ?c2 ?c3 ?c4 ?c5 ?_)
      case c1 =>
        intro j u hj
        match j, hj with
        | 0, hj => simp at hj; subst hj; simp [Addr.add]
      case c2 => intro u hu; simp at hu; subst hu; rfl
      case c3 => unfold maxLen; omega
      case c4 => omega
      case c5 => have := HB2.out.size; simp; omega
      intro v' w3 hown3 hgrow _
      have HB3 := Lib.hid (below_append HO2.out HB2.out HB2.out.size hgrow)
      have hsp := borrow_dig b t k
      have hcv : (((dig (b + t) k : Nat) + 4294967296 - (dig b k : Nat) - (carry b t k : Nat) : Int) % 4294967296) = (dig t k : Nat) := by omega
      rw [hcv, ← digsV_succ] at hown3
      have HO3 := Lib.hid hown3
      have hcn : (1 - ((dig (b + t) k : Nat) + 4294967296 - (dig b k : Nat) - (carry b t k : Nat) : Int) / 4294967296) = (carry b t (k + 1) : Nat) := by omega
      have HCN := Lib.hid hcn
      have hcq : ((dig (b + t) k : Nat) + 4294967296 - (dig b k : Nat) - (carry b t k : Nat) : Int) / 4294967296 ≤ 1 := by omega
      clear hown3 hgrow hcv hsp hcn hi hz0 hz1 hz2
      go_wp2
      go_roundw
      case rel => exact ⟨k + 1, by omega, by go_num, by rw [HCN.out], HO3.out, HB3.out⟩
      case measure => simp [intOf]; omega
    · have HR := isRaw_of_owns hown (show t < P2 (32 * k) by rw [show k = La by omega]; exact HN.out)
      have HB := Lib.hid hbel
      have hT := trim_any _ t k wr (by omega) HR
      have HT := Lib.hid hT
      clear hown hbel HR hT
      go_wp2_with fail
      refine HT.out.mono ?_
      rintro e w1 ⟨r, rfl, hr, rfl⟩
      have HR := Lib.hid hr; clear hr
      go_wp2_with fail
      go_ret
      exact ⟨r, rfl, HR.out, HB.out⟩
end Go.Proofs.Ytbjofgoimkmbfaa
