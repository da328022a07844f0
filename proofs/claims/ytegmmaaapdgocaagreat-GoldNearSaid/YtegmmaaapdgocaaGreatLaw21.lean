/- THE WALKS of the laws on gold: the document's example; quotients and remainders. -/
import Derived.Test.YtegmmaaapdgocaaGreatGold2
import Derived.Test.YtegmmaaapdgocaaGreatK29
import Derived.Test.YtegmmaaapdgocaaGreatK23
namespace Go.Proofs.YtegmmaaapdgocaaGreat
open Go Go.RowKit

attribute [local go_sem ↓] Go.wp_at_zero Go.wp_at_succ
set_option maxRecDepth 100000 in
set_option maxHeartbeats 1000000 in
theorem awake21_any (w : World) : Calls Tryz.prog 51 #[] w fun e w' => e = .returned (.bool true) ∧ Below w.heap.size w w' := by
  have S0 := Lib.hid (fun w' => newA_nil w')
  have S1 := Lib.hid (fun e g w' hE hI hne => divA_w e g 100 7 (lit_ltM _ (by decide)) (lit_ltM _ (by decide)) w' hE hI hne)
  obtain ⟨e1, e2⟩ := dv_yes may_100_7
  rw [e1, e2, may_100_7, show (100 : Nat) / 7 = 14 from rfl, show (100 : Nat) % 7 = 2 from rfl] at S1
  have E100 : (#[.int .u64 100, .int .u64 0, .int .u64 0, .int .u64 0, .int .u64 0, .int .u64 0, .int .u64 0, .int .u64 0] : Array Value) = wcells 100 := lit_cells 100 (by decide)
  have E7 : (#[.int .u64 7, .int .u64 0, .int .u64 0, .int .u64 0, .int .u64 0, .int .u64 0, .int .u64 0, .int .u64 0] : Array Value) = wcells 7 := lit_cells 7 (by decide)
  have E14 : (#[.int .u64 14, .int .u64 0, .int .u64 0, .int .u64 0, .int .u64 0, .int .u64 0, .int .u64 0, .int .u64 0] : Array Value) = wcells 14 := lit_cells 14 (by decide)
  have E2 : (#[.int .u64 2, .int .u64 0, .int .u64 0, .int .u64 0, .int .u64 0, .int .u64 0, .int .u64 0, .int .u64 0] : Array Value) = wcells 2 := lit_cells 2 (by decide)
  clear e1 e2
  go_enter Tryz.func51, Tryz.ntmps51
  have HB := Lib.hid (Below.refl w.heap.size w)
  go_wp2_with fail
  refine (S0.out _).mono ?_
  rintro x w1 ⟨e, g, rfl, hen, hb⟩
  replace HB := Lib.hid (below_then HB.out hb)
  have Ge := Lib.hid hen.eng
  have KR := Lib.hid hen.rom
  have HNE := Lib.hid hen.ne
  have HLE := Lib.hid hen.le
  have HLG := Lib.hid hen.lg
  clear hen hb
  have cGe := cell_row Ge.out
  go_wp2_with fail
  refine (S1.out _ _ _ Ge.out KR.out HNE.out).mono ?_
  rintro e w2 ⟨rfl, hv⟩
  clear cGe
  replace Ge := Lib.hid (hv.heap Ge.out (by have := HLG.out; have := HNE.out; omega))
  replace HB := Lib.hid (hv.out HB.out (by have := HLG.out; have := HNE.out; omega))
  replace KR := Lib.hid hv.rom
  clear hv
  have Gq := Lib.hid (alloc_new (w2) (.cells (wcells 14) 24))
  replace HB := Lib.hid (below_al HB.out (.cells (wcells 14) 24))
  replace Gq := Lib.hid (keepAl (o' := .cells (wcells 2) 24) Gq.out)
  have Gr := Lib.hid (alloc_new' (w := (w2).alloc (.cells (wcells 14) 24)) (n := w2.heap.size + 1) (.cells (wcells 2) 24) (by simp))
  replace HB := Lib.hid (below_al HB.out (.cells (wcells 2) 24))
  have cGq := cell_row Gq.out
  have cGr := cell_row Gr.out
  go_wp2
  go_ret
  exact ⟨rfl, HB.out⟩
set_option maxRecDepth 100000 in
set_option maxHeartbeats 2000000 in
theorem goldDivides_any (n d : Nat) (w : World) (hn : n < M) (hd : d < M) :
    Calls Tryz.prog 10 #[wv n, wv d] w fun e w' => e = .returned (.bool true) ∧ Below w.heap.size w w' := by
  have S0 := Lib.hid (fun w' => romNew_any w')
  have S1 := Lib.hid (fun g w' h => newA_at g w' h)
  have S2 := Lib.hid (fun e g w' hE hI hne => divA_w e g n d hn hd w' hE hI hne)
  have S4 := Lib.hid (fun w' => holds11_any n d w' hn hd)
  have SA := Lib.hid (fun w' => awake21_any w')
  obtain ⟨Q, hQ⟩ : ∃ x, x = dvQ n d := ⟨_, rfl⟩
  obtain ⟨R, hR⟩ : ∃ x, x = dvR n d := ⟨_, rfl⟩
  obtain ⟨E, hE⟩ : ∃ x, x = mayN n d := ⟨_, rfl⟩
  rw [← hQ, ← hR, ← hE] at S2 S4
  clear hn hd hQ hR hE
  go_enter Tryz.func10, Tryz.ntmps10
  have HB := Lib.hid (Below.refl w.heap.size w)
  have Gn := Lib.hid (alloc_new (w) (.cells (wcells n) 24))
  replace HB := Lib.hid (below_al HB.out (.cells (wcells n) 24))
  replace Gn := Lib.hid (keepAl (o' := .cells (wcells d) 24) Gn.out)
  have Gd := Lib.hid (alloc_new' (w := (w).alloc (.cells (wcells n) 24)) (n := w.heap.size + 1) (.cells (wcells d) 24) (by simp))
  replace HB := Lib.hid (below_al HB.out (.cells (wcells d) 24))
  have cGn := cell_row Gn.out
  have cGd := cell_row Gd.out
  go_upto_region 1 with fail
  clear cGn cGd
  obtain ⟨wA, hw⟩ : ∃ wx, wx = ((w).alloc (.cells (wcells n) 24)).alloc (.cells (wcells d) 24) := ⟨_, rfl⟩
  rw [← hw] at Gn Gd HB ⊢
  clear hw
  have HZ := Lib.hid (lt_of_heap Gd.out)
  go_wp2_with fail
  refine (S0.out _).mono ?_
  rintro x wB ⟨rfl, hr, hb⟩
  replace HB := Lib.hid (below_then HB.out hb)
  have KR := Lib.hid (show IsRom wB wA.heap.size from Or.inl hr)
  replace Gn := Lib.hid ((hb.block _ (lt_of_heap Gn.out)).trans Gn.out)
  replace Gd := Lib.hid ((hb.block _ (lt_of_heap Gd.out)).trans Gd.out)
  clear hb hr
  go_wp2_with fail
  refine (S1.out _ _ KR.out).mono ?_
  rintro x wC ⟨rfl, he, hr, hb⟩
  replace HB := Lib.hid (below_then HB.out hb)
  have HNE := Lib.hid (show wB.heap.size ≠ wA.heap.size from fun h => by have := KR.out.lt; omega)
  replace KR := Lib.hid hr
  have Ge := Lib.hid he
  replace Gn := Lib.hid ((hb.block _ (lt_of_heap Gn.out)).trans Gn.out)
  replace Gd := Lib.hid ((hb.block _ (lt_of_heap Gd.out)).trans Gd.out)
  clear hb hr he
  have cGn := cell_row Gn.out
  have cGd := cell_row Gd.out
  have cGe := cell_row Ge.out
  go_wp2_with fail
  refine (S2.out _ _ _ Ge.out KR.out HNE.out).mono ?_
  rintro e w3 ⟨rfl, hv⟩
  clear cGn cGd cGe
  replace Gn := Lib.hid (hv.heap Gn.out (by have := HZ.out; have := HNE.out; omega))
  replace Gd := Lib.hid (hv.heap Gd.out (by have := HZ.out; have := HNE.out; omega))
  replace Ge := Lib.hid (hv.heap Ge.out (by have := HZ.out; have := HNE.out; omega))
  replace HB := Lib.hid (hv.out HB.out (by have := HZ.out; have := HNE.out; omega))
  replace KR := Lib.hid hv.rom
  clear hv
  replace Gn := Lib.hid (keepAl (o' := .cells (wcells Q) 24) Gn.out)
  replace Gd := Lib.hid (keepAl (o' := .cells (wcells Q) 24) Gd.out)
  have Gq := Lib.hid (alloc_new (w3) (.cells (wcells Q) 24))
  replace HB := Lib.hid (below_al HB.out (.cells (wcells Q) 24))
  replace Gn := Lib.hid (keepAl (o' := .cells (wcells R) 24) Gn.out)
  replace Gd := Lib.hid (keepAl (o' := .cells (wcells R) 24) Gd.out)
  replace Gq := Lib.hid (keepAl (o' := .cells (wcells R) 24) Gq.out)
  have Gr := Lib.hid (alloc_new' (w := (w3).alloc (.cells (wcells Q) 24)) (n := w3.heap.size + 1) (.cells (wcells R) 24) (by simp))
  replace HB := Lib.hid (below_al HB.out (.cells (wcells R) 24))
  have cGn := cell_row Gn.out
  have cGd := cell_row Gd.out
  have cGq := cell_row Gq.out
  have cGr := cell_row Gr.out
  go_wp2_with fail
  refine (S4.out _).mono ?_
  rintro e w4 ⟨rfl, hb⟩
  clear cGn cGd cGq cGr
  replace HB := Lib.hid (below_then HB.out hb)
  replace Gn := Lib.hid ((hb.block _ (lt_of_heap Gn.out)).trans Gn.out)
  replace Gd := Lib.hid ((hb.block _ (lt_of_heap Gd.out)).trans Gd.out)
  replace Gq := Lib.hid ((hb.block _ (lt_of_heap Gq.out)).trans Gq.out)
  replace Gr := Lib.hid ((hb.block _ (lt_of_heap Gr.out)).trans Gr.out)
  clear hb
  have cGn := cell_row Gn.out
  have cGd := cell_row Gd.out
  have cGq := cell_row Gq.out
  have cGr := cell_row Gr.out
  go_wp2_with fail
  refine (SA.out _).mono ?_
  rintro e w5 ⟨rfl, hb⟩
  clear cGn cGd cGq cGr
  replace HB := Lib.hid (below_then HB.out hb)
  replace Gn := Lib.hid ((hb.block _ (lt_of_heap Gn.out)).trans Gn.out)
  replace Gd := Lib.hid ((hb.block _ (lt_of_heap Gd.out)).trans Gd.out)
  replace Gq := Lib.hid ((hb.block _ (lt_of_heap Gq.out)).trans Gq.out)
  replace Gr := Lib.hid ((hb.block _ (lt_of_heap Gr.out)).trans Gr.out)
  clear hb
  have cGn := cell_row Gn.out
  have cGd := cell_row Gd.out
  have cGq := cell_row Gq.out
  have cGr := cell_row Gr.out
  go_wp2
  go_ret
  exact ⟨rfl, HB.out⟩
end Go.Proofs.YtegmmaaapdgocaaGreat
