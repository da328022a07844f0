/- THE WALKS of the laws on goldroot: the document's example; roots. -/
import Derived.Test.YtegmmaaapdgocaaGoldr2
import Derived.Test.YtegmmaaapdgocaaK31
namespace Go.Proofs.Ytegmmaaapdgocaa
open Go Go.RowKit

attribute [local go_sem ↓] Go.wp_at_zero Go.wp_at_succ
set_option maxRecDepth 100000 in
set_option maxHeartbeats 1000000 in
theorem awake22_any (w : World) : Calls Try.prog 9 #[] w fun e w' => e = .returned (.bool true) ∧ Below w.heap.size w w' := by
  have S0 := Lib.hid (fun w' => newB_nil w')
  have S1 := Lib.hid (fun e g w' hE hI hne => rootB_w e g 99 (lit_ltM _ (by decide)) w' hE hI hne)
  obtain ⟨h0, h1, _⟩ := root_99
  obtain ⟨a1, a2, a3⟩ := rs_yes h0
  rw [a1, a2, a3, h1] at S1
  have E99 : (#[.int .u64 99, .int .u64 0, .int .u64 0, .int .u64 0, .int .u64 0, .int .u64 0, .int .u64 0, .int .u64 0] : Array Value) = wcells 99 := lit_cells 99 (by decide)
  have E9 : (#[.int .u64 9, .int .u64 0, .int .u64 0, .int .u64 0, .int .u64 0, .int .u64 0, .int .u64 0, .int .u64 0] : Array Value) = wcells 9 := lit_cells 9 (by decide)
  have E18 : (#[.int .u64 18, .int .u64 0, .int .u64 0, .int .u64 0, .int .u64 0, .int .u64 0, .int .u64 0, .int .u64 0] : Array Value) = wcells 18 := lit_cells 18 (by decide)
  clear h0 h1 a1 a2 a3
  go_enter Try.func9, Try.ntmps9
  have HB := Lib.hid (Below.refl w.heap.size w)
  go_wp2_with fail
  refine (S0.out _).mono ?_
  rintro x w1 ⟨e, g, rfl, hen, hb⟩
  replace HB := Lib.hid (below_then HB.out hb)
  have Ge := Lib.hid hen.eng
  have KR := Lib.hid hen.rom
  have HNE := Lib.hid hen.ne
  have HLE := Lib.hid hen.le
  have HLG := Lib.hid hen.lg
  clear hen hb
  have cGe := cell_row Ge.out
  go_wp2_with fail
  refine (S1.out _ _ _ Ge.out KR.out HNE.out).mono ?_
  rintro e w2 ⟨rfl, hv⟩
  clear cGe
  replace Ge := Lib.hid (hv.heap Ge.out (by have := HLG.out; have := HNE.out; omega))
  replace HB := Lib.hid (hv.out HB.out (by have := HLG.out; have := HNE.out; omega))
  replace KR := Lib.hid hv.rom
  clear hv
  have Gq := Lib.hid (alloc_new (w2) (.cells (wcells 9) 24))
  replace HB := Lib.hid (below_al HB.out (.cells (wcells 9) 24))
  replace Gq := Lib.hid (keepAl (o' := .cells (wcells 18) 24) Gq.out)
  have Gr := Lib.hid (alloc_new' (w := (w2).alloc (.cells (wcells 9) 24)) (n := w2.heap.size + 1) (.cells (wcells 18) 24) (by simp))
  replace HB := Lib.hid (below_al HB.out (.cells (wcells 18) 24))
  have cGq := cell_row Gq.out
  have cGr := cell_row Gr.out
  go_wp2
  go_ret
  exact ⟨rfl, HB.out⟩
end Go.Proofs.Ytegmmaaapdgocaa
