/- THE WALK of the law on a gold engine that isn't there. -/
import Derived.Test.YtegmmaaapdgocaaLaw21
namespace Go.Proofs.Ytegmmaaapdgocaa
open Go Go.RowKit

attribute [local go_sem ↓] Go.wp_at_zero Go.wp_at_succ
set_option maxRecDepth 100000 in
set_option maxHeartbeats 2000000 in
theorem goldNone_any (n d : Nat) (k : Int) (w : World) (hn : n < M) (hd : d < M) (_h1 : -9223372036854775808 ≤ k) (_h2 : k ≤ 9223372036854775807) :
    Calls Try.prog 4 #[wv n, wv d, .int .i64 k] w fun e w' => e = .returned (.bool true) ∧ Below w.heap.size w w' := by
  have S1 := Lib.hid (fun w' => divA_no (.pointer none) n d 6 (by decide) (fun w' => pairA_nil n d 5 hn hd w') w')
  have S2 := Lib.hid (fun w' => pairA_nil n d k hn hd w')
  have SA := Lib.hid (fun w' => awake21_any w')
  clear hn hd _h1 _h2
  go_enter Try.func4, Try.ntmps4
  have HB := Lib.hid (Below.refl w.heap.size w)
  have Gn := Lib.hid (alloc_new (w) (.cells (wcells n) 24))
  replace HB := Lib.hid (below_al HB.out (.cells (wcells n) 24))
  replace Gn := Lib.hid (keepAl (o' := .cells (wcells d) 24) Gn.out)
  have Gd := Lib.hid (alloc_new' (w := (w).alloc (.cells (wcells n) 24)) (n := w.heap.size + 1) (.cells (wcells d) 24) (by simp))
  replace HB := Lib.hid (below_al HB.out (.cells (wcells d) 24))
  have cGn := cell_row Gn.out
  have cGd := cell_row Gd.out
  go_wp2_with fail
  refine (S1.out _).mono ?_
  rintro e w1 ⟨rfl, hb⟩
  clear cGn cGd
  replace HB := Lib.hid (below_then HB.out hb)
  replace Gn := Lib.hid ((hb.block _ (lt_of_heap Gn.out)).trans Gn.out)
  replace Gd := Lib.hid ((hb.block _ (lt_of_heap Gd.out)).trans Gd.out)
  clear hb
  replace Gn := Lib.hid (keepAl (o' := .cells (wcells 0) 24) Gn.out)
  replace Gd := Lib.hid (keepAl (o' := .cells (wcells 0) 24) Gd.out)
  have Gq := Lib.hid (alloc_new (w1) (.cells (wcells 0) 24))
  replace HB := Lib.hid (below_al HB.out (.cells (wcells 0) 24))
  replace Gn := Lib.hid (keepAl (o' := .cells (wcells 0) 24) Gn.out)
  replace Gd := Lib.hid (keepAl (o' := .cells (wcells 0) 24) Gd.out)
  replace Gq := Lib.hid (keepAl (o' := .cells (wcells 0) 24) Gq.out)
  have Gr := Lib.hid (alloc_new' (w := (w1).alloc (.cells (wcells 0) 24)) (n := w1.heap.size + 1) (.cells (wcells 0) 24) (by simp))
  replace HB := Lib.hid (below_al HB.out (.cells (wcells 0) 24))
  have cGn := cell_row Gn.out
  have cGd := cell_row Gd.out
  have cGq := cell_row Gq.out
  have cGr := cell_row Gr.out
  go_wp2_with fail
  refine (S2.out _).mono ?_
  rintro e w2 ⟨rfl, hb⟩
  clear cGn cGd cGq cGr
  replace HB := Lib.hid (below_then HB.out hb)
  replace Gn := Lib.hid ((hb.block _ (lt_of_heap Gn.out)).trans Gn.out)
  replace Gd := Lib.hid ((hb.block _ (lt_of_heap Gd.out)).trans Gd.out)
  replace Gq := Lib.hid ((hb.block _ (lt_of_heap Gq.out)).trans Gq.out)
  replace Gr := Lib.hid ((hb.block _ (lt_of_heap Gr.out)).trans Gr.out)
  clear hb
  replace Gn := Lib.hid (keepAl (o' := .cells (wcells 0) 24) Gn.out)
  replace Gd := Lib.hid (keepAl (o' := .cells (wcells 0) 24) Gd.out)
  replace Gq := Lib.hid (keepAl (o' := .cells (wcells 0) 24) Gq.out)
  replace Gr := Lib.hid (keepAl (o' := .cells (wcells 0) 24) Gr.out)
  have Gx := Lib.hid (alloc_new (w2) (.cells (wcells 0) 24))
  replace HB := Lib.hid (below_al HB.out (.cells (wcells 0) 24))
  replace Gn := Lib.hid (keepAl (o' := .cells (wcells 0) 24) Gn.out)
  replace Gd := Lib.hid (keepAl (o' := .cells (wcells 0) 24) Gd.out)
  replace Gq := Lib.hid (keepAl (o' := .cells (wcells 0) 24) Gq.out)
  replace Gr := Lib.hid (keepAl (o' := .cells (wcells 0) 24) Gr.out)
  replace Gx := Lib.hid (keepAl (o' := .cells (wcells 0) 24) Gx.out)
  have Gy := Lib.hid (alloc_new' (w := (w2).alloc (.cells (wcells 0) 24)) (n := w2.heap.size + 1) (.cells (wcells 0) 24) (by simp))
  replace HB := Lib.hid (below_al HB.out (.cells (wcells 0) 24))
  have cGn := cell_row Gn.out
  have cGd := cell_row Gd.out
  have cGq := cell_row Gq.out
  have cGr := cell_row Gr.out
  have cGx := cell_row Gx.out
  have cGy := cell_row Gy.out
  go_upto_region 4 with fail
  clear cGn cGd cGq cGr cGx cGy
  obtain ⟨wL, hw⟩ : ∃ wx, wx = ((w2).alloc (.cells (wcells 0) 24)).alloc (.cells (wcells 0) 24) := ⟨_, rfl⟩
  rw [← hw] at Gn Gd Gq Gr Gx Gy HB ⊢
  clear hw
  replace Gn := Lib.hid (keepAl (o' := .cells (wcells 0) 24) Gn.out)
  replace Gd := Lib.hid (keepAl (o' := .cells (wcells 0) 24) Gd.out)
  replace Gq := Lib.hid (keepAl (o' := .cells (wcells 0) 24) Gq.out)
  replace Gr := Lib.hid (keepAl (o' := .cells (wcells 0) 24) Gr.out)
  replace Gx := Lib.hid (keepAl (o' := .cells (wcells 0) 24) Gx.out)
  replace Gy := Lib.hid (keepAl (o' := .cells (wcells 0) 24) Gy.out)
  have Gz := Lib.hid (alloc_new (wL) (.cells (wcells 0) 24))
  replace HB := Lib.hid (below_al HB.out (.cells (wcells 0) 24))
  have cGn := cell_row Gn.out
  have cGd := cell_row Gd.out
  have cGq := cell_row Gq.out
  have cGr := cell_row Gr.out
  have cGx := cell_row Gx.out
  have cGy := cell_row Gy.out
  have cGz := cell_row Gz.out
  go_wp2_with fail
  refine (SA.out _).mono ?_
  rintro e w3 ⟨rfl, hb⟩
  clear cGn cGd cGq cGr cGx cGy cGz
  replace HB := Lib.hid (below_then HB.out hb)
  replace Gn := Lib.hid ((hb.block _ (lt_of_heap Gn.out)).trans Gn.out)
  replace Gd := Lib.hid ((hb.block _ (lt_of_heap Gd.out)).trans Gd.out)
  replace Gq := Lib.hid ((hb.block _ (lt_of_heap Gq.out)).trans Gq.out)
  replace Gr := Lib.hid ((hb.block _ (lt_of_heap Gr.out)).trans Gr.out)
  replace Gx := Lib.hid ((hb.block _ (lt_of_heap Gx.out)).trans Gx.out)
  replace Gy := Lib.hid ((hb.block _ (lt_of_heap Gy.out)).trans Gy.out)
  replace Gz := Lib.hid ((hb.block _ (lt_of_heap Gz.out)).trans Gz.out)
  clear hb
  have cGn := cell_row Gn.out
  have cGd := cell_row Gd.out
  have cGq := cell_row Gq.out
  have cGr := cell_row Gr.out
  have cGx := cell_row Gx.out
  have cGy := cell_row Gy.out
  have cGz := cell_row Gz.out
  go_wp2
  go_ret
  exact ⟨rfl, HB.out⟩
end Go.Proofs.Ytegmmaaapdgocaa
