/- THE WALKS of the laws on goldroot: the document's example; roots. -/
import Derived.Test.YtegmmaaapdgocaaGreatGoldr2
import Derived.Test.YtegmmaaapdgocaaGreatK31
namespace Go.Proofs.YtegmmaaapdgocaaGreat
open Go Go.RowKit

attribute [local go_sem ↓] Go.wp_at_zero Go.wp_at_succ
set_option maxRecDepth 100000 in
set_option maxHeartbeats 1000000 in
theorem awake22_any (w : World) : Calls Tryz.prog 26 #[] w fun e w' => e = .returned (.bool true) ∧ Below w.heap.size w w' := by
  have S0 := Lib.hid (fun w' => newB_nil w')
  have S1 := Lib.hid (fun e g w' hE hI hne => rootB_w e g 99 (lit_ltM _ (by decide)) w' hE hI hne)
  obtain ⟨h0, h1, _⟩ := root_99
  obtain ⟨a1, a2, a3⟩ := rs_yes h0
  rw [a1, a2, a3, h1] at S1
  have E99 : (#[.int .u64 99, .int .u64 0, .int .u64 0, .int .u64 0, .int .u64 0, .int .u64 0, .int .u64 0, .int .u64 0] : Array Value) = wcells 99 := lit_cells 99 (by decide)
  have E9 : (#[.int .u64 9, .int .u64 0, .int .u64 0, .int .u64 0, .int .u64 0, .int .u64 0, .int .u64 0, .int .u64 0] : Array Value) = wcells 9 := lit_cells 9 (by decide)
  have E18 : (#[.int .u64 18, .int .u64 0, .int .u64 0, .int .u64 0, .int .u64 0, .int .u64 0, .int .u64 0, .int .u64 0] : Array Value) = wcells 18 := lit_cells 18 (by decide)
  clear h0 h1 a1 a2 a3
  go_enter Tryz.func26, Tryz.ntmps26
  have HB := Lib.hid (Below.refl w.heap.size w)
  go_wp2_with fail
  refine (S0.out _).mono ?_
  rintro x w1 ⟨e, g, rfl, hen, hb⟩
  replace HB := Lib.hid (below_then HB.out hb)
  have Ge := Lib.hid hen.eng
  have KR := Lib.hid hen.rom
  have HNE := Lib.hid hen.ne
  have HLE := Lib.hid hen.le
  have HLG := Lib.hid hen.lg
  clear hen hb
  have cGe := cell_row Ge.out
  go_wp2_with fail
  refine (S1.out _ _ _ Ge.out KR.out HNE.out).mono ?_
  rintro e w2 ⟨rfl, hv⟩
  clear cGe
  replace Ge := Lib.hid (hv.heap Ge.out (by have := HLG.out; have := HNE.out; omega))
  replace HB := Lib.hid (hv.out HB.out (by have := HLG.out; have := HNE.out; omega))
  replace KR := Lib.hid hv.rom
  clear hv
  have Gq := Lib.hid (alloc_new (w2) (.cells (wcells 9) 24))
  replace HB := Lib.hid (below_al HB.out (.cells (wcells 9) 24))
  replace Gq := Lib.hid (keepAl (o' := .cells (wcells 18) 24) Gq.out)
  have Gr := Lib.hid (alloc_new' (w := (w2).alloc (.cells (wcells 9) 24)) (n := w2.heap.size + 1) (.cells (wcells 18) 24) (by simp))
  replace HB := Lib.hid (below_al HB.out (.cells (wcells 18) 24))
  have cGq := cell_row Gq.out
  have cGr := cell_row Gr.out
  go_wp2
  go_ret
  exact ⟨rfl, HB.out⟩
set_option maxRecDepth 100000 in
set_option maxHeartbeats 2000000 in
theorem goldrootRoots_any (n : Nat) (w : World) (hn : n < M) :
    Calls Tryz.prog 5 #[wv n] w fun e w' => e = .returned (.bool true) ∧ Below w.heap.size w w' := by
  have S0 := Lib.hid (fun w' => romNew_any w')
  have S1 := Lib.hid (fun g w' h => newB_at g w' h)
  have S2 := Lib.hid (fun e g w' hE hI hne => rootB_w e g n hn w' hE hI hne)
  have S4 := Lib.hid (fun w' => holds12_any n w' hn)
  have SA := Lib.hid (fun w' => awake22_any w')
  obtain ⟨Q, hQ⟩ : ∃ x, x = rsS n := ⟨_, rfl⟩
  obtain ⟨R, hR⟩ : ∃ x, x = rsR n := ⟨_, rfl⟩
  obtain ⟨E, hE⟩ : ∃ x, x = rsE n := ⟨_, rfl⟩
  rw [← hQ, ← hR, ← hE] at S2 S4
  clear hn hQ hR hE
  go_enter Tryz.func5, Tryz.ntmps5
  have HB := Lib.hid (Below.refl w.heap.size w)
  have Gn := Lib.hid (alloc_new (w) (.cells (wcells n) 24))
  replace HB := Lib.hid (below_al HB.out (.cells (wcells n) 24))
  have cGn := cell_row Gn.out
  go_upto_region 1 with fail
  clear cGn
  obtain ⟨wA, hw⟩ : ∃ wx, wx = (w).alloc (.cells (wcells n) 24) := ⟨_, rfl⟩
  rw [← hw] at Gn HB ⊢
  clear hw
  have HZ := Lib.hid (lt_of_heap Gn.out)
  go_wp2_with fail
  refine (S0.out _).mono ?_
  rintro x wB ⟨rfl, hr, hb⟩
  replace HB := Lib.hid (below_then HB.out hb)
  have KR := Lib.hid (show IsRom wB wA.heap.size from Or.inl hr)
  replace Gn := Lib.hid ((hb.block _ (lt_of_heap Gn.out)).trans Gn.out)
  clear hb hr
  go_wp2_with fail
  refine (S1.out _ _ KR.out).mono ?_
  rintro x wC ⟨rfl, he, hr, hb⟩
  replace HB := Lib.hid (below_then HB.out hb)
  have HNE := Lib.hid (show wB.heap.size ≠ wA.heap.size from fun h => by have := KR.out.lt; omega)
  replace KR := Lib.hid hr
  have Ge := Lib.hid he
  replace Gn := Lib.hid ((hb.block _ (lt_of_heap Gn.out)).trans Gn.out)
  clear hb hr he
  have cGn := cell_row Gn.out
  have cGe := cell_row Ge.out
  go_wp2_with fail
  refine (S2.out _ _ _ Ge.out KR.out HNE.out).mono ?_
  rintro e w3 ⟨rfl, hv⟩
  clear cGn cGe
  replace Gn := Lib.hid (hv.heap Gn.out (by have := HZ.out; have := HNE.out; omega))
  replace Ge := Lib.hid (hv.heap Ge.out (by have := HZ.out; have := HNE.out; omega))
  replace HB := Lib.hid (hv.out HB.out (by have := HZ.out; have := HNE.out; omega))
  replace KR := Lib.hid hv.rom
  clear hv
  replace Gn := Lib.hid (keepAl (o' := .cells (wcells Q) 24) Gn.out)
  have Gq := Lib.hid (alloc_new (w3) (.cells (wcells Q) 24))
  replace HB := Lib.hid (below_al HB.out (.cells (wcells Q) 24))
  replace Gn := Lib.hid (keepAl (o' := .cells (wcells R) 24) Gn.out)
  replace Gq := Lib.hid (keepAl (o' := .cells (wcells R) 24) Gq.out)
  have Gr := Lib.hid (alloc_new' (w := (w3).alloc (.cells (wcells Q) 24)) (n := w3.heap.size + 1) (.cells (wcells R) 24) (by simp))
  replace HB := Lib.hid (below_al HB.out (.cells (wcells R) 24))
  have cGn := cell_row Gn.out
  have cGq := cell_row Gq.out
  have cGr := cell_row Gr.out
  go_wp2_with fail
  refine (S4.out _).mono ?_
  rintro e w4 ⟨rfl, hb⟩
  clear cGn cGq cGr
  replace HB := Lib.hid (below_then HB.out hb)
  replace Gn := Lib.hid ((hb.block _ (lt_of_heap Gn.out)).trans Gn.out)
  replace Gq := Lib.hid ((hb.block _ (lt_of_heap Gq.out)).trans Gq.out)
  replace Gr := Lib.hid ((hb.block _ (lt_of_heap Gr.out)).trans Gr.out)
  clear hb
  have cGn := cell_row Gn.out
  have cGq := cell_row Gq.out
  have cGr := cell_row Gr.out
  go_wp2_with fail
  refine (SA.out _).mono ?_
  rintro e w5 ⟨rfl, hb⟩
  clear cGn cGq cGr
  replace HB := Lib.hid (below_then HB.out hb)
  replace Gn := Lib.hid ((hb.block _ (lt_of_heap Gn.out)).trans Gn.out)
  replace Gq := Lib.hid ((hb.block _ (lt_of_heap Gq.out)).trans Gq.out)
  replace Gr := Lib.hid ((hb.block _ (lt_of_heap Gr.out)).trans Gr.out)
  clear hb
  have cGn := cell_row Gn.out
  have cGq := cell_row Gq.out
  have cGr := cell_row Gr.out
  go_wp2
  go_ret
  exact ⟨rfl, HB.out⟩
end Go.Proofs.YtegmmaaapdgocaaGreat
