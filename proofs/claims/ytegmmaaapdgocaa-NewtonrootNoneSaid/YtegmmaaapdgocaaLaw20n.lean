/- THE WALK of the law on a newtonroot engine that isn't there. -/
import Derived.Test.YtegmmaaapdgocaaK33
namespace Go.Proofs.Ytegmmaaapdgocaa
open Go Go.RowKit

attribute [local go_sem ↓] Go.wp_at_zero Go.wp_at_succ
set_option maxRecDepth 100000 in
set_option maxHeartbeats 2000000 in
theorem newtonrootNone_any (n : Nat) (k : Int) (w : World) (hn : n < M) (_h1 : -9223372036854775808 ≤ k) (_h2 : k ≤ 9223372036854775807) :
    Calls Try.prog 5 #[wv n, .int .i64 k] w fun e w' => e = .returned (.bool true) ∧ Below w.heap.size w w' := by
  have S1 := Lib.hid (fun w' => rootQ_no (.pointer none) n 6 hn (Or.inl (by decide)) (fun w' => mayQ_nil n w') w')
  have S2 := Lib.hid (fun w' => recQ_nil n k hn w')
  have S3 := Lib.hid (fun w' => guessQ_no (.pointer none) n 6 hn (Or.inl (by decide)) (fun w' => mayQ_nil n w') w')
  have SA := Lib.hid (fun w' => awake20_any w')
  clear hn _h1 _h2
  go_enter Try.func5, Try.ntmps5
  have HB := Lib.hid (Below.refl w.heap.size w)
  have Gn := Lib.hid (alloc_new (w) (.cells (wcells n) 24))
  replace HB := Lib.hid (below_al HB.out (.cells (wcells n) 24))
  have cGn := cell_row Gn.out
  go_wp2_with fail
  refine (S1.out _).mono ?_
  rintro e w1 ⟨rfl, hb⟩
  clear cGn
  replace HB := Lib.hid (below_then HB.out hb)
  replace Gn := Lib.hid ((hb.block _ (lt_of_heap Gn.out)).trans Gn.out)
  clear hb
  replace Gn := Lib.hid (keepAl (o' := .cells (wcells 0) 24) Gn.out)
  have Gq := Lib.hid (alloc_new (w1) (.cells (wcells 0) 24))
  replace HB := Lib.hid (below_al HB.out (.cells (wcells 0) 24))
  replace Gn := Lib.hid (keepAl (o' := .cells (wcells 0) 24) Gn.out)
  replace Gq := Lib.hid (keepAl (o' := .cells (wcells 0) 24) Gq.out)
  have Gr := Lib.hid (alloc_new' (w := (w1).alloc (.cells (wcells 0) 24)) (n := w1.heap.size + 1) (.cells (wcells 0) 24) (by simp))
  replace HB := Lib.hid (below_al HB.out (.cells (wcells 0) 24))
  have cGn := cell_row Gn.out
  have cGq := cell_row Gq.out
  have cGr := cell_row Gr.out
  go_wp2_with fail
  refine (S2.out _).mono ?_
  rintro e w2 ⟨rfl, hb⟩
  clear cGn cGq cGr
  replace HB := Lib.hid (below_then HB.out hb)
  replace Gn := Lib.hid ((hb.block _ (lt_of_heap Gn.out)).trans Gn.out)
  replace Gq := Lib.hid ((hb.block _ (lt_of_heap Gq.out)).trans Gq.out)
  replace Gr := Lib.hid ((hb.block _ (lt_of_heap Gr.out)).trans Gr.out)
  clear hb
  replace Gn := Lib.hid (keepAl (o' := .cells (wcells 0) 24) Gn.out)
  replace Gq := Lib.hid (keepAl (o' := .cells (wcells 0) 24) Gq.out)
  replace Gr := Lib.hid (keepAl (o' := .cells (wcells 0) 24) Gr.out)
  have Gy := Lib.hid (alloc_new (w2) (.cells (wcells 0) 24))
  replace HB := Lib.hid (below_al HB.out (.cells (wcells 0) 24))
  have cGn := cell_row Gn.out
  have cGq := cell_row Gq.out
  have cGr := cell_row Gr.out
  have cGy := cell_row Gy.out
  go_wp2_with fail
  refine (S3.out _).mono ?_
  rintro e w3 ⟨rfl, hb⟩
  clear cGn cGq cGr cGy
  replace HB := Lib.hid (below_then HB.out hb)
  replace Gn := Lib.hid ((hb.block _ (lt_of_heap Gn.out)).trans Gn.out)
  replace Gq := Lib.hid ((hb.block _ (lt_of_heap Gq.out)).trans Gq.out)
  replace Gr := Lib.hid ((hb.block _ (lt_of_heap Gr.out)).trans Gr.out)
  replace Gy := Lib.hid ((hb.block _ (lt_of_heap Gy.out)).trans Gy.out)
  clear hb
  replace Gn := Lib.hid (keepAl (o' := .cells (wcells 0) 24) Gn.out)
  replace Gq := Lib.hid (keepAl (o' := .cells (wcells 0) 24) Gq.out)
  replace Gr := Lib.hid (keepAl (o' := .cells (wcells 0) 24) Gr.out)
  replace Gy := Lib.hid (keepAl (o' := .cells (wcells 0) 24) Gy.out)
  have Gx := Lib.hid (alloc_new (w3) (.cells (wcells 0) 24))
  replace HB := Lib.hid (below_al HB.out (.cells (wcells 0) 24))
  replace Gn := Lib.hid (keepAl (o' := .cells (wcells 0) 24) Gn.out)
  replace Gq := Lib.hid (keepAl (o' := .cells (wcells 0) 24) Gq.out)
  replace Gr := Lib.hid (keepAl (o' := .cells (wcells 0) 24) Gr.out)
  replace Gy := Lib.hid (keepAl (o' := .cells (wcells 0) 24) Gy.out)
  replace Gx := Lib.hid (keepAl (o' := .cells (wcells 0) 24) Gx.out)
  have Gz := Lib.hid (alloc_new' (w := (w3).alloc (.cells (wcells 0) 24)) (n := w3.heap.size + 1) (.cells (wcells 0) 24) (by simp))
  replace HB := Lib.hid (below_al HB.out (.cells (wcells 0) 24))
  have cGn := cell_row Gn.out
  have cGq := cell_row Gq.out
  have cGr := cell_row Gr.out
  have cGy := cell_row Gy.out
  have cGx := cell_row Gx.out
  have cGz := cell_row Gz.out
  go_wp2_with fail
  refine (SA.out _).mono ?_
  rintro e w4 ⟨rfl, hb⟩
  clear cGn cGq cGr cGy cGx cGz
  replace HB := Lib.hid (below_then HB.out hb)
  replace Gn := Lib.hid ((hb.block _ (lt_of_heap Gn.out)).trans Gn.out)
  replace Gq := Lib.hid ((hb.block _ (lt_of_heap Gq.out)).trans Gq.out)
  replace Gr := Lib.hid ((hb.block _ (lt_of_heap Gr.out)).trans Gr.out)
  replace Gy := Lib.hid ((hb.block _ (lt_of_heap Gy.out)).trans Gy.out)
  replace Gx := Lib.hid ((hb.block _ (lt_of_heap Gx.out)).trans Gx.out)
  replace Gz := Lib.hid ((hb.block _ (lt_of_heap Gz.out)).trans Gz.out)
  clear hb
  have cGn := cell_row Gn.out
  have cGq := cell_row Gq.out
  have cGr := cell_row Gr.out
  have cGy := cell_row Gy.out
  have cGx := cell_row Gx.out
  have cGz := cell_row Gz.out
  go_wp2
  go_ret
  exact ⟨rfl, HB.out⟩
end Go.Proofs.Ytegmmaaapdgocaa
