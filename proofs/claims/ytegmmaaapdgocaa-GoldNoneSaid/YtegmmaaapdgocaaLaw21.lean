/- THE WALKS of the laws on gold: the document's example; quotients and remainders. -/
import Derived.Test.YtegmmaaapdgocaaGold2
import Derived.Test.YtegmmaaapdgocaaK29
import Derived.Test.YtegmmaaapdgocaaK23
namespace Go.Proofs.Ytegmmaaapdgocaa
open Go Go.RowKit

attribute [local go_sem ↓] Go.wp_at_zero Go.wp_at_succ
set_option maxRecDepth 100000 in
set_option maxHeartbeats 1000000 in
theorem awake21_any (w : World) : Calls Try.prog 12 #[] w fun e w' => e = .returned (.bool true) ∧ Below w.heap.size w w' := by
  have S0 := Lib.hid (fun w' => newA_nil w')
  have S1 := Lib.hid (fun e g w' hE hI hne => divA_w e g 100 7 (lit_ltM _ (by decide)) (lit_ltM _ (by decide)) w' hE hI hne)
  obtain ⟨e1, e2⟩ := dv_yes may_100_7
  rw [e1, e2, may_100_7, show (100 : Nat) / 7 = 14 from rfl, show (100 : Nat) % 7 = 2 from rfl] at S1
  have E100 : (#[.int .u64 100, .int .u64 0, .int .u64 0, .int .u64 0, .int .u64 0, .int .u64 0, .int .u64 0, .int .u64 0] : Array Value) = wcells 100 := lit_cells 100 (by decide)
  have E7 : (#[.int .u64 7, .int .u64 0, .int .u64 0, .int .u64 0, .int .u64 0, .int .u64 0, .int .u64 0, .int .u64 0] : Array Value) = wcells 7 := lit_cells 7 (by decide)
  have E14 : (#[.int .u64 14, .int .u64 0, .int .u64 0, .int .u64 0, .int .u64 0, .int .u64 0, .int .u64 0, .int .u64 0] : Array Value) = wcells 14 := lit_cells 14 (by decide)
  have E2 : (#[.int .u64 2, .int .u64 0, .int .u64 0, .int .u64 0, .int .u64 0, .int .u64 0, .int .u64 0, .int .u64 0] : Array Value) = wcells 2 := lit_cells 2 (by decide)
  clear e1 e2
  go_enter Try.func12, Try.ntmps12
  have HB := Lib.hid (Below.refl w.heap.size w)
  go_wp2_with fail
  refine (S0.out _).mono ?_
  rintro x w1 ⟨e, g, rfl, hen, hb⟩
  replace HB := Lib.hid (below_then HB.out hb)
  have Ge := Lib.hid hen.eng
  have KR := Lib.hid hen.rom
  have HNE := Lib.hid hen.ne
  have HLE := Lib.hid hen.le
  have HLG := Lib.hid hen.lg
  clear hen hb
  have cGe := cell_row Ge.out
  go_wp2_with fail
  refine (S1.out _ _ _ Ge.out KR.out HNE.out).mono ?_
  rintro e w2 ⟨rfl, hv⟩
  clear cGe
  replace Ge := Lib.hid (hv.heap Ge.out (by have := HLG.out; have := HNE.out; omega))
  replace HB := Lib.hid (hv.out HB.out (by have := HLG.out; have := HNE.out; omega))
  replace KR := Lib.hid hv.rom
  clear hv
  have Gq := Lib.hid (alloc_new (w2) (.cells (wcells 14) 24))
  replace HB := Lib.hid (below_al HB.out (.cells (wcells 14) 24))
  replace Gq := Lib.hid (keepAl (o' := .cells (wcells 2) 24) Gq.out)
  have Gr := Lib.hid (alloc_new' (w := (w2).alloc (.cells (wcells 14) 24)) (n := w2.heap.size + 1) (.cells (wcells 2) 24) (by simp))
  replace HB := Lib.hid (below_al HB.out (.cells (wcells 2) 24))
  have cGq := cell_row Gq.out
  have cGr := cell_row Gr.out
  go_wp2
  go_ret
  exact ⟨rfl, HB.out⟩
end Go.Proofs.Ytegmmaaapdgocaa
