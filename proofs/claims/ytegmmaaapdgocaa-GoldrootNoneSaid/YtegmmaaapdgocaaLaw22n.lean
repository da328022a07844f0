/- THE WALK of the law on a goldroot engine that isn't there. -/
import Derived.Test.YtegmmaaapdgocaaLaw22
namespace Go.Proofs.Ytegmmaaapdgocaa
open Go Go.RowKit

attribute [local go_sem ↓] Go.wp_at_zero Go.wp_at_succ
set_option maxRecDepth 100000 in
set_option maxHeartbeats 2000000 in
theorem goldrootNone_any (n : Nat) (k : Int) (w : World) (hn : n < M) (_h1 : -9223372036854775808 ≤ k) (_h2 : k ≤ 9223372036854775807) :
    Calls Try.prog 3 #[wv n, .int .i64 k] w fun e w' => e = .returned (.bool true) ∧ Below w.heap.size w w' := by
  have S1 := Lib.hid (fun w' => rootB_no (.pointer none) n 6 6 (Or.inr ⟨by decide, by decide, rfl⟩) (fun w' => pairB_nil n 5 hn w') w')
  have S2 := Lib.hid (fun w' => pairB_nil n k hn w')
  have SA := Lib.hid (fun w' => awake22_any w')
  clear hn _h1 _h2
  go_enter Try.func3, Try.ntmps3
  have HB := Lib.hid (Below.refl w.heap.size w)
  have Gn := Lib.hid (alloc_new (w) (.cells (wcells n) 24))
  replace HB := Lib.hid (below_al HB.out (.cells (wcells n) 24))
  have cGn := cell_row Gn.out
  go_wp2_with fail
  refine (S1.out _).mono ?_
  rintro e w1 ⟨rfl, hb⟩
  clear cGn
  replace HB := Lib.hid (below_then HB.out hb)
  replace Gn := Lib.hid ((hb.block _ (lt_of_heap Gn.out)).trans Gn.out)
  clear hb
  replace Gn := Lib.hid (keepAl (o' := .cells (wcells 0) 24) Gn.out)
  have Gq := Lib.hid (alloc_new (w1) (.cells (wcells 0) 24))
  replace HB := Lib.hid (below_al HB.out (.cells (wcells 0) 24))
  replace Gn := Lib.hid (keepAl (o' := .cells (wcells 0) 24) Gn.out)
  replace Gq := Lib.hid (keepAl (o' := .cells (wcells 0) 24) Gq.out)
  have Gr := Lib.hid (alloc_new' (w := (w1).alloc (.cells (wcells 0) 24)) (n := w1.heap.size + 1) (.cells (wcells 0) 24) (by simp))
  replace HB := Lib.hid (below_al HB.out (.cells (wcells 0) 24))
  have cGn := cell_row Gn.out
  have cGq := cell_row Gq.out
  have cGr := cell_row Gr.out
  go_wp2_with fail
  refine (S2.out _).mono ?_
  rintro e w2 ⟨rfl, hb⟩
  clear cGn cGq cGr
  replace HB := Lib.hid (below_then HB.out hb)
  replace Gn := Lib.hid ((hb.block _ (lt_of_heap Gn.out)).trans Gn.out)
  replace Gq := Lib.hid ((hb.block _ (lt_of_heap Gq.out)).trans Gq.out)
  replace Gr := Lib.hid ((hb.block _ (lt_of_heap Gr.out)).trans Gr.out)
  clear hb
  replace Gn := Lib.hid (keepAl (o' := .cells (wcells 0) 24) Gn.out)
  replace Gq := Lib.hid (keepAl (o' := .cells (wcells 0) 24) Gq.out)
  replace Gr := Lib.hid (keepAl (o' := .cells (wcells 0) 24) Gr.out)
  have Gx := Lib.hid (alloc_new (w2) (.cells (wcells 0) 24))
  replace HB := Lib.hid (below_al HB.out (.cells (wcells 0) 24))
  replace Gn := Lib.hid (keepAl (o' := .cells (wcells 0) 24) Gn.out)
  replace Gq := Lib.hid (keepAl (o' := .cells (wcells 0) 24) Gq.out)
  replace Gr := Lib.hid (keepAl (o' := .cells (wcells 0) 24) Gr.out)
  replace Gx := Lib.hid (keepAl (o' := .cells (wcells 0) 24) Gx.out)
  have Gy := Lib.hid (alloc_new' (w := (w2).alloc (.cells (wcells 0) 24)) (n := w2.heap.size + 1) (.cells (wcells 0) 24) (by simp))
  replace HB := Lib.hid (below_al HB.out (.cells (wcells 0) 24))
  have cGn := cell_row Gn.out
  have cGq := cell_row Gq.out
  have cGr := cell_row Gr.out
  have cGx := cell_row Gx.out
  have cGy := cell_row Gy.out
  go_upto_region 4 with fail
  clear cGn cGq cGr cGx cGy
  obtain ⟨wL, hw⟩ : ∃ wx, wx = ((w2).alloc (.cells (wcells 0) 24)).alloc (.cells (wcells 0) 24) := ⟨_, rfl⟩
  rw [← hw] at Gn Gq Gr Gx Gy HB ⊢
  clear hw
  replace Gn := Lib.hid (keepAl (o' := .cells (wcells 0) 24) Gn.out)
  replace Gq := Lib.hid (keepAl (o' := .cells (wcells 0) 24) Gq.out)
  replace Gr := Lib.hid (keepAl (o' := .cells (wcells 0) 24) Gr.out)
  replace Gx := Lib.hid (keepAl (o' := .cells (wcells 0) 24) Gx.out)
  replace Gy := Lib.hid (keepAl (o' := .cells (wcells 0) 24) Gy.out)
  have Gz := Lib.hid (alloc_new (wL) (.cells (wcells 0) 24))
  replace HB := Lib.hid (below_al HB.out (.cells (wcells 0) 24))
  have cGn := cell_row Gn.out
  have cGq := cell_row Gq.out
  have cGr := cell_row Gr.out
  have cGx := cell_row Gx.out
  have cGy := cell_row Gy.out
  have cGz := cell_row Gz.out
  go_wp2_with fail
  refine (SA.out _).mono ?_
  rintro e w3 ⟨rfl, hb⟩
  clear cGn cGq cGr cGx cGy cGz
  replace HB := Lib.hid (below_then HB.out hb)
  replace Gn := Lib.hid ((hb.block _ (lt_of_heap Gn.out)).trans Gn.out)
  replace Gq := Lib.hid ((hb.block _ (lt_of_heap Gq.out)).trans Gq.out)
  replace Gr := Lib.hid ((hb.block _ (lt_of_heap Gr.out)).trans Gr.out)
  replace Gx := Lib.hid ((hb.block _ (lt_of_heap Gx.out)).trans Gx.out)
  replace Gy := Lib.hid ((hb.block _ (lt_of_heap Gy.out)).trans Gy.out)
  replace Gz := Lib.hid ((hb.block _ (lt_of_heap Gz.out)).trans Gz.out)
  clear hb
  have cGn := cell_row Gn.out
  have cGq := cell_row Gq.out
  have cGr := cell_row Gr.out
  have cGx := cell_row Gx.out
  have cGy := cell_row Gy.out
  have cGz := cell_row Gz.out
  go_wp2
  go_ret
  exact ⟨rfl, HB.out⟩
end Go.Proofs.Ytegmmaaapdgocaa
