/- THE WALKS of the laws on rom: the document's example; what each table has of any place. -/
import Derived.Test.YtkkjbkadaofjpaaLaw17
namespace Go.Proofs.Ytkkjbkadaofjpaa
open Go Go.RowKit

theorem rtg_0 : rtgN 0 = 1016 := by
  unfold rtgN
  exact rt_unique (by decide) (by decide)
theorem rootV_32 : rootV 32 = 1016 := by
  unfold rootV
  rw [if_pos (by decide), show ((32 : Int) - 32).toNat = 0 from rfl, rtg_0]
attribute [local go_sem ↓] Go.wp_at_zero Go.wp_at_succ
set_option maxHeartbeats 1000000 in
theorem awake17_any (w : World) : Calls Try.prog 25 #[] w fun e w' => e = .returned (.bool true) ∧ Below w.heap.size w w' := by
  have S0 := Lib.hid (fun w' => romNew_any w')
  have S1 := Lib.hid (fun g w' h => recip_any g 0 w' h)
  rw [show recipV 0 = 1016 from rfl, show recipB 0 = true from rfl] at S1
  have S2 := Lib.hid (fun g w' h => root_any g 32 w' h (by decide))
  rw [rootV_32, show rootB 32 = true from rfl] at S2
  go_enter Try.func25, Try.ntmps25
  go_wp2_with fail
  refine (S0.out _).mono ?_
  rintro e w1 ⟨rfl, hn, hb⟩
  have KR := Lib.hid (show IsRom _ _ from Or.inl hn)
  have HB := Lib.hid hb
  have HSZ := Lib.hid (Nat.le_refl w.heap.size)
  clear hn hb
  go_wp2_with fail
  refine (S1.out _ _ KR.out).mono ?_
  rintro e w1 ⟨rfl, hok, hb⟩
  replace HB := Lib.hid (But.below HB.out hb HB.out.size (fun i hi => by have := HSZ.out; omega))
  replace KR := Lib.hid (show IsRom _ _ from Or.inr hok)
  have HOK := Lib.hid hok
  clear hok hb
  go_wp2_with fail
  refine (S2.out _ _ KR.out).mono ?_
  rintro e w2 ⟨rfl, hok, hb⟩
  replace HB := Lib.hid (But.below HB.out hb HB.out.size (fun i hi => by have := HSZ.out; omega))
  replace KR := Lib.hid (show IsRom _ _ from Or.inr hok)
  have HOK := Lib.hid hok
  clear hok hb
  go_wp2
  go_ret
  exact ⟨rfl, HB.out⟩
set_option maxHeartbeats 1000000 in
theorem romTables_any (i : Int) (w : World) (_h0 : -9223372036854775808 ≤ i) (h1 : i ≤ 9223372036854775807) :
    Calls Try.prog 3 #[.int .i64 i] w fun e w' => e = .returned (.bool true) ∧ Below w.heap.size w w' := by
  clear _h0
  have SA := Lib.hid (fun w' => awake17_any w')
  have S0 := Lib.hid (fun w' => romNew_any w')
  have S1 := Lib.hid (fun g w' h => recip_any g i w' h)
  have S2 := Lib.hid (fun g w' h => root_any g i w' h h1)
  have S3 := Lib.hid (fun w' => rrecip_any i w')
  have S4 := Lib.hid (fun w' => rroot17_any i w')
  obtain ⟨a, ha⟩ : ∃ a, a = recipV i := ⟨_, rfl⟩
  obtain ⟨b, hb⟩ : ∃ a, a = recipB i := ⟨_, rfl⟩
  obtain ⟨c, hc⟩ : ∃ a, a = rootV i := ⟨_, rfl⟩
  obtain ⟨d, hd⟩ : ∃ a, a = rootB i := ⟨_, rfl⟩
  rw [← ha, ← hb] at S1 S3
  rw [← hc, ← hd] at S2 S4
  clear ha hb hc hd h1
  go_enter Try.func3, Try.ntmps3
  go_wp2_with fail
  refine (S0.out _).mono ?_
  rintro e w1 ⟨rfl, hn, hb⟩
  have KR := Lib.hid (show IsRom _ _ from Or.inl hn)
  have HB := Lib.hid hb
  have HSZ := Lib.hid (Nat.le_refl w.heap.size)
  clear hn hb
  go_wp2_with fail
  refine (S1.out _ _ KR.out).mono ?_
  rintro e w3 ⟨rfl, hok, hb⟩
  replace HB := Lib.hid (But.below HB.out hb HB.out.size (fun i hi => by have := HSZ.out; omega))
  replace KR := Lib.hid (show IsRom _ _ from Or.inr hok)
  have HOK := Lib.hid hok
  clear hok hb
  go_wp2_with fail
  refine (S2.out _ _ KR.out).mono ?_
  rintro e w4 ⟨rfl, hok, hb⟩
  replace HB := Lib.hid (But.below HB.out hb HB.out.size (fun i hi => by have := HSZ.out; omega))
  replace KR := Lib.hid (show IsRom _ _ from Or.inr hok)
  have HOK := Lib.hid hok
  clear hok hb
  go_wp2_with fail
  refine (S3.out _).mono ?_
  rintro e w5 ⟨rfl, hb⟩
  replace HB := Lib.hid (below_then HB.out hb)
  clear hb
  go_wp2_with fail
  refine (S4.out _).mono ?_
  rintro e w6 ⟨rfl, hb⟩
  replace HB := Lib.hid (below_then HB.out hb)
  clear hb
  go_wp2_with fail
  refine (SA.out _).mono ?_
  rintro e w7 ⟨rfl, hb⟩
  replace HB := Lib.hid (below_then HB.out hb)
  clear hb
  go_wp2
  go_ret
  exact ⟨rfl, HB.out⟩
end Go.Proofs.Ytkkjbkadaofjpaa
