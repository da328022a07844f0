/- THE WALK of the law on rom: tables are made once. -/
import Derived.Test.YtkkjbkadaofjpaaLaw17b
import Derived.Test.YtkkjbkadaofjpaaRomNil
namespace Go.Proofs.Ytkkjbkadaofjpaa
open Go Go.RowKit

attribute [local go_sem ↓] Go.wp_at_zero Go.wp_at_succ
set_option maxRecDepth 100000 in
set_option maxHeartbeats 4000000 in
theorem romOnce_any (i : Int) (d : Nat) (t : Int) (w : World) (_h0 : -9223372036854775808 ≤ i) (h1 : i ≤ 9223372036854775807) (hd : d < M) (t0 : 0 ≤ t) (_t1 : t ≤ 255) :
    Calls Try.prog 8 #[.int .i64 i, wv d, .int .u8 t] w fun e w' => e = .returned (.bool true) ∧ Below w.heap.size w w' := by
  clear _h0
  have SA := Lib.hid (fun w' => awake17_any w')
  have S0 := Lib.hid (fun w' => romNew_any w')
  have S1 := Lib.hid (fun g w' h => recip_any g i w' h)
  have S2 := Lib.hid (fun g w' h => root_any g i w' h h1)
  have S3 := Lib.hid (fun g w' h => guess_any g d hd w' h)
  have S4 := Lib.hid (fun g w' h => guessRoot_any g d hd w' h)
  have N1 := Lib.hid (fun w' => recip_nil i w')
  have N2 := Lib.hid (fun w' => root_nil i w')
  have N3 := Lib.hid (fun w' => guess_nil d hd w')
  have N4 := Lib.hid (fun w' => guessRoot_nil d hd w')
  have N5 := Lib.hid (fun w' => made_nil w')
  have M0 := Lib.hid (fun g w' h => made_new g w' h)
  have M1 := Lib.hid (fun g w' h => made_ok g w' h)
  obtain ⟨T, hT⟩ := Int.eq_ofNat_of_zero_le (show 0 ≤ t % 4 by omega)
  have hTe : t % 4 = (T : Int) := hT
  have hT3 : (T : Int) ≤ 3 := by omega
  have hTm : Int.tmod t 4 = (T : Int) := by rw [Int.tmod_eq_emod_of_nonneg t0]; exact hTe
  clear hd h1 hT
  go_enter Try.func8, Try.ntmps8
  have HB := Lib.hid (Below.refl w.heap.size w)
  have Gd := Lib.hid (alloc_new (w) (.cells (wcells d) 31))
  replace HB := Lib.hid (below_al HB.out (.cells (wcells d) 31))
  have cGd := cell_row Gd.out
  go_wp2_with fail
  refine (N1.out _).mono ?_
  rintro e w1 ⟨rfl, hb⟩
  clear cGd
  replace HB := Lib.hid (below_then HB.out hb)
  replace Gd := Lib.hid ((hb.block _ (lt_of_heap Gd.out)).trans Gd.out)
  clear hb
  have cGd := cell_row Gd.out
  go_wp2_with fail
  refine (N2.out _).mono ?_
  rintro e w2 ⟨rfl, hb⟩
  clear cGd
  replace HB := Lib.hid (below_then HB.out hb)
  replace Gd := Lib.hid ((hb.block _ (lt_of_heap Gd.out)).trans Gd.out)
  clear hb
  have cGd := cell_row Gd.out
  go_wp2_with fail
  refine (N3.out _).mono ?_
  rintro e w3 ⟨rfl, hb⟩
  clear cGd
  replace HB := Lib.hid (below_then HB.out hb)
  replace Gd := Lib.hid ((hb.block _ (lt_of_heap Gd.out)).trans Gd.out)
  clear hb
  have cGd := cell_row Gd.out
  go_wp2_with fail
  refine (N4.out _).mono ?_
  rintro e w4 ⟨rfl, hb⟩
  clear cGd
  replace HB := Lib.hid (below_then HB.out hb)
  replace Gd := Lib.hid ((hb.block _ (lt_of_heap Gd.out)).trans Gd.out)
  clear hb
  have cGd := cell_row Gd.out
  go_wp2_with fail
  refine (N5.out _).mono ?_
  rintro e w5 ⟨rfl, rfl⟩
  clear cGd
  go_wp2
  go_loopw [16] (fun s16 wr => ∃ k : Nat, s16 = .int .i64 (k : Int) ∧ k ≤ 4 ∧ Hid (Below w.heap.size w wr) ∧ Hid (wr.heap[w.heap.size]? = some (.cells (wcells d) 31 (0, 0)))) (fun s16 _ => 4 - (intOf s16).toNat)
  case atStart => exact ⟨0, rfl, by omega, HB, Gd⟩
  case round =>
    clear HB Gd
    obtain ⟨k, rfl, hk, HB, Gd⟩ := hrel
    by_cases hlt : k < 4
    · have hki : (k : Int) < 4 := by omega
      have hk0 : (0 : Int) ≤ (k : Int) := Int.natCast_nonneg _
      have HLT := Lib.hid hlt
      clear hk hlt
      go_wp2_with fail
      refine (S0.out _).mono ?_
      rintro e w1 ⟨rfl, hn, hb⟩
      have HG0 := Lib.hid (lt_of_heap Gd.out)
      have KN := Lib.hid hn
      have KR := Lib.hid (show IsRom _ _ from Or.inl hn)
      replace HB := Lib.hid (below_then HB.out hb)
      replace Gd := Lib.hid ((hb.block _ (lt_of_heap Gd.out)).trans Gd.out)
      clear hn hb
      obtain ⟨g, hg⟩ : ∃ g, g = wr.heap.size := ⟨_, rfl⟩
      rw [← hg] at KN KR HG0 ⊢
      clear hg
      go_wp2_with fail
      refine (M0.out _ _ KN.out).mono ?_
      rintro e w2 ⟨rfl, rfl⟩
      clear KN
      go_wp2
      go_loopw [18] (fun s18 wr2 => ∃ n : Nat, s18 = .int .i64 (n : Int) ∧ n ≤ T + 1 ∧ Hid (Below w.heap.size w wr2) ∧ Hid (wr2.heap[w.heap.size]? = some (.cells (wcells d) 31 (0, 0))) ∧ Hid (IsRom wr2 g)) (fun s18 _ => T + 1 - (intOf s18).toNat)
      case atStart => exact ⟨0, rfl, by omega, HB, Gd, KR⟩
      case round =>
        clear HB Gd KR
        obtain ⟨n, rfl, hn, HB, Gd, KR⟩ := hrel
        have hn0 : (0 : Int) ≤ (n : Int) := Int.natCast_nonneg _
        by_cases hln : n ≤ T
        · have hni : (n : Int) ≤ (T : Int) := by omega
          have HLN := Lib.hid hln
          have hm4 : ((k : Int) + (n : Int)) % 4 = 0 ∨ ((k : Int) + (n : Int)) % 4 = 1 ∨ ((k : Int) + (n : Int)) % 4 = 2 ∨ ((k : Int) + (n : Int)) % 4 = 3 := by omega
          clear hn hln
          rcases hm4 with hm | hm | hm | hm
          · skip
            have cGd := cell_row Gd.out
            go_wp2_with fail
            refine (S1.out _ _ KR.out).mono ?_
            rintro e w6 ⟨rfl, hok, hb⟩
            clear cGd
            replace HB := Lib.hid (But.below HB.out hb HB.out.size (fun i hi => by have := HG0.out; omega))
            replace Gd := Lib.hid (hb.heap Gd.out (by have := HG0.out; omega))
            replace KR := Lib.hid (show IsRom _ _ from Or.inr hok)
            have HOK := Lib.hid hok
            clear hok hb
            go_wp2_with fail
            refine (M1.out _ _ HOK.out).mono ?_
            rintro e w7 ⟨rfl, rfl⟩
            go_wp2
            go_roundw
            case rel => exact ⟨n + 1, by go_num, by have := HLN.out; omega, HB, Gd, KR⟩
            case measure => have := HLN.out; simp [intOf]; omega
          · skip
            have cGd := cell_row Gd.out
            go_wp2_with fail
            refine (S2.out _ _ KR.out).mono ?_
            rintro e w7 ⟨rfl, hok, hb⟩
            clear cGd
            replace HB := Lib.hid (But.below HB.out hb HB.out.size (fun i hi => by have := HG0.out; omega))
            replace Gd := Lib.hid (hb.heap Gd.out (by have := HG0.out; omega))
            replace KR := Lib.hid (show IsRom _ _ from Or.inr hok)
            have HOK := Lib.hid hok
            clear hok hb
            go_wp2_with fail
            refine (M1.out _ _ HOK.out).mono ?_
            rintro e w7 ⟨rfl, rfl⟩
            go_wp2
            go_roundw
            case rel => exact ⟨n + 1, by go_num, by have := HLN.out; omega, HB, Gd, KR⟩
            case measure => have := HLN.out; simp [intOf]; omega
          · skip
            have cGd := cell_row Gd.out
            go_wp2_with fail
            refine (S3.out _ _ KR.out).mono ?_
            rintro e w8 ⟨rfl, hok, hb⟩
            clear cGd
            replace HB := Lib.hid (But.below HB.out hb HB.out.size (fun i hi => by have := HG0.out; omega))
            replace Gd := Lib.hid (hb.heap Gd.out (by have := HG0.out; omega))
            replace KR := Lib.hid (show IsRom _ _ from Or.inr hok)
            have HOK := Lib.hid hok
            clear hok hb
            go_wp2_with fail
            refine (M1.out _ _ HOK.out).mono ?_
            rintro e w7 ⟨rfl, rfl⟩
            go_wp2
            go_roundw
            case rel => exact ⟨n + 1, by go_num, by have := HLN.out; omega, HB, Gd, KR⟩
            case measure => have := HLN.out; simp [intOf]; omega
          · skip
            have cGd := cell_row Gd.out
            go_wp2_with fail
            refine (S4.out _ _ KR.out).mono ?_
            rintro e w9 ⟨rfl, hok, hb⟩
            clear cGd
            replace HB := Lib.hid (But.below HB.out hb HB.out.size (fun i hi => by have := HG0.out; omega))
            replace Gd := Lib.hid (hb.heap Gd.out (by have := HG0.out; omega))
            replace KR := Lib.hid (show IsRom _ _ from Or.inr hok)
            have HOK := Lib.hid hok
            clear hok hb
            go_wp2_with fail
            refine (M1.out _ _ HOK.out).mono ?_
            rintro e w7 ⟨rfl, rfl⟩
            go_wp2
            go_roundw
            case rel => exact ⟨n + 1, by go_num, by have := HLN.out; omega, HB, Gd, KR⟩
            case measure => have := HLN.out; simp [intOf]; omega
        · have hni : ¬ (n : Int) ≤ (T : Int) := by omega
          clear hn hln KR
          go_wp2
          go_roundw
          case rel => exact ⟨k + 1, by go_num, HLT.out, HB, Gd⟩
          case measure => have := HLT.out; simp [intOf]; omega
    · obtain rfl : k = 4 := by omega
      clear hk hlt
      have cGd := cell_row Gd.out
      go_wp2_with fail
      refine (SA.out _).mono ?_
      rintro e w10 ⟨rfl, hb⟩
      clear cGd
      replace HB := Lib.hid (below_then HB.out hb)
      replace Gd := Lib.hid ((hb.block _ (lt_of_heap Gd.out)).trans Gd.out)
      clear hb
      have cGd := cell_row Gd.out
      go_wp2
      go_ret
      exact ⟨rfl, HB.out⟩
end Go.Proofs.Ytkkjbkadaofjpaa
