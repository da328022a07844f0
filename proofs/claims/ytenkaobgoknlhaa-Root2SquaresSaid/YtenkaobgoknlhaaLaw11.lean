/- THE WALKS of the laws on radix2: quotients and remainders. -/
import Derived.Test.YtenkaobgoknlhaaR2e
import Derived.Test.YtenkaobgoknlhaaR2b
namespace Go.Proofs.Ytenkaobgoknlhaa
open Go Go.RowKit

attribute [local go_sem ↓] Go.wp_at_zero Go.wp_at_succ
theorem awake11_any (w : World) : Calls Try.prog 80 #[] w fun e w' => e = .returned (.bool true) ∧ Below w.heap.size w w' := by
  have hm : mayN 100 7 = 0 := may_yes (by decide) (Nat.lt_of_lt_of_le (show 7 < P2 64 by rw [P2_64]; decide) (P2_le (by omega))) (by
    have : P2 64 ≤ P2 128 := P2_le (by omega)
    rw [P2_64] at this
    omega)
  obtain ⟨e1, e2⟩ := dv_yes hm
  have S1 := Lib.hid (fun w' => divide_w 100 7 (lit_ltM _ (by decide)) (lit_ltM _ (by decide)) w')
  rw [e1, e2, hm] at S1
  have E100 : (#[.int .u64 100, .int .u64 0, .int .u64 0, .int .u64 0, .int .u64 0, .int .u64 0, .int .u64 0, .int .u64 0] : Array Value) = wcells 100 := lit_cells 100 (by decide)
  have E7 : (#[.int .u64 7, .int .u64 0, .int .u64 0, .int .u64 0, .int .u64 0, .int .u64 0, .int .u64 0, .int .u64 0] : Array Value) = wcells 7 := lit_cells 7 (by decide)
  have E14 : (#[.int .u64 14, .int .u64 0, .int .u64 0, .int .u64 0, .int .u64 0, .int .u64 0, .int .u64 0, .int .u64 0] : Array Value) = wcells 14 := lit_cells 14 (by decide)
  have E2 : (#[.int .u64 2, .int .u64 0, .int .u64 0, .int .u64 0, .int .u64 0, .int .u64 0, .int .u64 0, .int .u64 0] : Array Value) = wcells 2 := lit_cells 2 (by decide)
  clear e1 e2 hm
  go_enter Try.func80, Try.ntmps80
  have HB := Lib.hid (Below.refl w.heap.size w)
  go_wp2_with fail
  refine (S1.out _).mono ?_
  rintro e w1 ⟨rfl, hb⟩
  replace HB := Lib.hid (below_then HB.out hb)
  clear hb
  have Gq := Lib.hid (alloc_new (w1) (.cells (wcells 14) 26))
  replace HB := Lib.hid (below_al HB.out (.cells (wcells 14) 26))
  replace Gq := Lib.hid (keepAl (o' := .cells (wcells 2) 26) Gq.out)
  have Gr := Lib.hid (alloc_new' (w := (w1).alloc (.cells (wcells 14) 26)) (n := w1.heap.size + 1) (.cells (wcells 2) 26) (by simp))
  replace HB := Lib.hid (below_al HB.out (.cells (wcells 2) 26))
  have cGq := cell_row Gq.out
  have cGr := cell_row Gr.out
  go_wp2
  go_ret
  exact ⟨rfl, HB.out⟩

set_option maxRecDepth 100000 in
set_option maxHeartbeats 2000000 in
theorem holds11_any (n d : Nat) (w : World) (hn : n < M) (hd : d < M) :
    Calls Try.prog 79 #[wv n, wv d, wv (dvQ n d), wv (dvR n d), .int .i64 (mayN n d)] w fun e w' => e = .returned (.bool true) ∧ Below w.heap.size w w' := by
  have S1 := Lib.hid (fun w' => rmay_any n d hn hd w')
  by_cases hm : mayN n d = 0
  · obtain ⟨h1, h2, h3⟩ := may_ok hm
    obtain ⟨e1, e2⟩ := dv_yes hm
    have hq : n / d < P2 131 := Nat.lt_of_lt_of_le (quo_lt h1 h3) (P2_le (by omega))
    have S2 := Lib.hid (fun w' => rdivide_any n d w' hn hd h1 hq)
    rw [e1, e2, hm]
    rw [hm] at S1
    obtain ⟨Q, hQ⟩ : ∃ x, x = n / d := ⟨_, rfl⟩
    obtain ⟨R, hR⟩ : ∃ x, x = n % d := ⟨_, rfl⟩
    rw [← hQ, ← hR] at S2 ⊢
    clear hn hd hm h1 h2 h3 e1 e2 hq hQ hR
    go_enter Try.func79, Try.ntmps79
    have HB := Lib.hid (Below.refl w.heap.size w)
    have Gn := Lib.hid (alloc_new (w) (.cells (wcells n) 26))
    replace HB := Lib.hid (below_al HB.out (.cells (wcells n) 26))
    replace Gn := Lib.hid (keepAl (o' := .cells (wcells d) 26) Gn.out)
    have Gd := Lib.hid (alloc_new' (w := (w).alloc (.cells (wcells n) 26)) (n := w.heap.size + 1) (.cells (wcells d) 26) (by simp))
    replace HB := Lib.hid (below_al HB.out (.cells (wcells d) 26))
    replace Gn := Lib.hid (keepAl (o' := .cells (wcells Q) 26) Gn.out)
    replace Gd := Lib.hid (keepAl (o' := .cells (wcells Q) 26) Gd.out)
    have Gq := Lib.hid (alloc_new' (w := ((w).alloc (.cells (wcells n) 26)).alloc (.cells (wcells d) 26)) (n := w.heap.size + 1 + 1) (.cells (wcells Q) 26) (by simp))
    replace HB := Lib.hid (below_al HB.out (.cells (wcells Q) 26))
    replace Gn := Lib.hid (keepAl (o' := .cells (wcells R) 26) Gn.out)
    replace Gd := Lib.hid (keepAl (o' := .cells (wcells R) 26) Gd.out)
    replace Gq := Lib.hid (keepAl (o' := .cells (wcells R) 26) Gq.out)
    have Gr := Lib.hid (alloc_new' (w := (((w).alloc (.cells (wcells n) 26)).alloc (.cells (wcells d) 26)).alloc (.cells (wcells Q) 26)) (n := w.heap.size + 1 + 1 + 1) (.cells (wcells R) 26) (by simp))
    replace HB := Lib.hid (below_al HB.out (.cells (wcells R) 26))
    have cGn := cell_row Gn.out
    have cGd := cell_row Gd.out
    have cGq := cell_row Gq.out
    have cGr := cell_row Gr.out
    go_wp2_with fail
    refine (S1.out _).mono ?_
    rintro e w2 ⟨rfl, hb⟩
    clear cGn cGd cGq cGr
    replace HB := Lib.hid (below_then HB.out hb)
    replace Gn := Lib.hid ((hb.block _ (lt_of_heap Gn.out)).trans Gn.out)
    replace Gd := Lib.hid ((hb.block _ (lt_of_heap Gd.out)).trans Gd.out)
    replace Gq := Lib.hid ((hb.block _ (lt_of_heap Gq.out)).trans Gq.out)
    replace Gr := Lib.hid ((hb.block _ (lt_of_heap Gr.out)).trans Gr.out)
    clear hb
    have cGn := cell_row Gn.out
    have cGd := cell_row Gd.out
    have cGq := cell_row Gq.out
    have cGr := cell_row Gr.out
    go_wp2_with fail
    refine (S2.out _).mono ?_
    rintro e w3 ⟨rfl, hb⟩
    clear cGn cGd cGq cGr
    replace HB := Lib.hid (below_then HB.out hb)
    replace Gn := Lib.hid ((hb.block _ (lt_of_heap Gn.out)).trans Gn.out)
    replace Gd := Lib.hid ((hb.block _ (lt_of_heap Gd.out)).trans Gd.out)
    replace Gq := Lib.hid ((hb.block _ (lt_of_heap Gq.out)).trans Gq.out)
    replace Gr := Lib.hid ((hb.block _ (lt_of_heap Gr.out)).trans Gr.out)
    clear hb
    replace Gn := Lib.hid (keepAl (o' := .cells (wcells Q) 26) Gn.out)
    replace Gd := Lib.hid (keepAl (o' := .cells (wcells Q) 26) Gd.out)
    replace Gq := Lib.hid (keepAl (o' := .cells (wcells Q) 26) Gq.out)
    replace Gr := Lib.hid (keepAl (o' := .cells (wcells Q) 26) Gr.out)
    have Ga := Lib.hid (alloc_new (w3) (.cells (wcells Q) 26))
    replace HB := Lib.hid (below_al HB.out (.cells (wcells Q) 26))
    replace Gn := Lib.hid (keepAl (o' := .cells (wcells R) 26) Gn.out)
    replace Gd := Lib.hid (keepAl (o' := .cells (wcells R) 26) Gd.out)
    replace Gq := Lib.hid (keepAl (o' := .cells (wcells R) 26) Gq.out)
    replace Gr := Lib.hid (keepAl (o' := .cells (wcells R) 26) Gr.out)
    replace Ga := Lib.hid (keepAl (o' := .cells (wcells R) 26) Ga.out)
    have Gb := Lib.hid (alloc_new' (w := (w3).alloc (.cells (wcells Q) 26)) (n := w3.heap.size + 1) (.cells (wcells R) 26) (by simp))
    replace HB := Lib.hid (below_al HB.out (.cells (wcells R) 26))
    have cGn := cell_row Gn.out
    have cGd := cell_row Gd.out
    have cGq := cell_row Gq.out
    have cGr := cell_row Gr.out
    have cGa := cell_row Ga.out
    have cGb := cell_row Gb.out
    go_wp2
    go_ret
    exact ⟨rfl, HB.out⟩
  · obtain ⟨e1, e2⟩ := dv_no hm
    have hr := may_range n d
    rw [e1, e2]
    obtain ⟨E, hE⟩ : ∃ x, x = mayN n d := ⟨_, rfl⟩
    rw [← hE] at S1 hm hr ⊢
    have hb : (E == 0) = false := by simp [hm]
    clear hn hd e1 e2 hE hr hm
    go_enter Try.func79, Try.ntmps79
    have HB := Lib.hid (Below.refl w.heap.size w)
    have Gn := Lib.hid (alloc_new (w) (.cells (wcells n) 26))
    replace HB := Lib.hid (below_al HB.out (.cells (wcells n) 26))
    replace Gn := Lib.hid (keepAl (o' := .cells (wcells d) 26) Gn.out)
    have Gd := Lib.hid (alloc_new' (w := (w).alloc (.cells (wcells n) 26)) (n := w.heap.size + 1) (.cells (wcells d) 26) (by simp))
    replace HB := Lib.hid (below_al HB.out (.cells (wcells d) 26))
    replace Gn := Lib.hid (keepAl (o' := .cells (wcells 0) 26) Gn.out)
    replace Gd := Lib.hid (keepAl (o' := .cells (wcells 0) 26) Gd.out)
    have Gq := Lib.hid (alloc_new' (w := ((w).alloc (.cells (wcells n) 26)).alloc (.cells (wcells d) 26)) (n := w.heap.size + 1 + 1) (.cells (wcells 0) 26) (by simp))
    replace HB := Lib.hid (below_al HB.out (.cells (wcells 0) 26))
    replace Gn := Lib.hid (keepAl (o' := .cells (wcells 0) 26) Gn.out)
    replace Gd := Lib.hid (keepAl (o' := .cells (wcells 0) 26) Gd.out)
    replace Gq := Lib.hid (keepAl (o' := .cells (wcells 0) 26) Gq.out)
    have Gr := Lib.hid (alloc_new' (w := (((w).alloc (.cells (wcells n) 26)).alloc (.cells (wcells d) 26)).alloc (.cells (wcells 0) 26)) (n := w.heap.size + 1 + 1 + 1) (.cells (wcells 0) 26) (by simp))
    replace HB := Lib.hid (below_al HB.out (.cells (wcells 0) 26))
    have cGn := cell_row Gn.out
    have cGd := cell_row Gd.out
    have cGq := cell_row Gq.out
    have cGr := cell_row Gr.out
    go_wp2_with fail
    refine (S1.out _).mono ?_
    rintro e w4 ⟨rfl, hb⟩
    clear cGn cGd cGq cGr
    replace HB := Lib.hid (below_then HB.out hb)
    replace Gn := Lib.hid ((hb.block _ (lt_of_heap Gn.out)).trans Gn.out)
    replace Gd := Lib.hid ((hb.block _ (lt_of_heap Gd.out)).trans Gd.out)
    replace Gq := Lib.hid ((hb.block _ (lt_of_heap Gq.out)).trans Gq.out)
    replace Gr := Lib.hid ((hb.block _ (lt_of_heap Gr.out)).trans Gr.out)
    clear hb
    have cGn := cell_row Gn.out
    have cGd := cell_row Gd.out
    have cGq := cell_row Gq.out
    have cGr := cell_row Gr.out
    go_wp2
    go_ret
    exact ⟨rfl, HB.out⟩

set_option maxRecDepth 100000 in
set_option maxHeartbeats 2000000 in
theorem radix2Divides_any (n d : Nat) (w : World) (hn : n < M) (hd : d < M) :
    Calls Try.prog 14 #[wv n, wv d] w fun e w' => e = .returned (.bool true) ∧ Below w.heap.size w w' := by
  have S1 := Lib.hid (fun w' => divide_w n d hn hd w')
  have S2 := Lib.hid (fun w' => may_w n d hn hd w')
  have S3 := Lib.hid (fun w' => rmay_any n d hn hd w')
  have S4 := Lib.hid (fun w' => holds11_any n d w' hn hd)
  have SA := Lib.hid (fun w' => awake11_any w')
  obtain ⟨Q, hQ⟩ : ∃ x, x = dvQ n d := ⟨_, rfl⟩
  obtain ⟨R, hR⟩ : ∃ x, x = dvR n d := ⟨_, rfl⟩
  obtain ⟨E, hE⟩ : ∃ x, x = mayN n d := ⟨_, rfl⟩
  rw [← hQ, ← hR, ← hE] at S1 S4
  rw [← hE] at S2 S3
  clear hn hd hQ hR hE
  go_enter Try.func14, Try.ntmps14
  have HB := Lib.hid (Below.refl w.heap.size w)
  have Gn := Lib.hid (alloc_new (w) (.cells (wcells n) 26))
  replace HB := Lib.hid (below_al HB.out (.cells (wcells n) 26))
  replace Gn := Lib.hid (keepAl (o' := .cells (wcells d) 26) Gn.out)
  have Gd := Lib.hid (alloc_new' (w := (w).alloc (.cells (wcells n) 26)) (n := w.heap.size + 1) (.cells (wcells d) 26) (by simp))
  replace HB := Lib.hid (below_al HB.out (.cells (wcells d) 26))
  have cGn := cell_row Gn.out
  have cGd := cell_row Gd.out
  go_wp2_with fail
  refine (S1.out _).mono ?_
  rintro e w5 ⟨rfl, hb⟩
  clear cGn cGd
  replace HB := Lib.hid (below_then HB.out hb)
  replace Gn := Lib.hid ((hb.block _ (lt_of_heap Gn.out)).trans Gn.out)
  replace Gd := Lib.hid ((hb.block _ (lt_of_heap Gd.out)).trans Gd.out)
  clear hb
  replace Gn := Lib.hid (keepAl (o' := .cells (wcells Q) 26) Gn.out)
  replace Gd := Lib.hid (keepAl (o' := .cells (wcells Q) 26) Gd.out)
  have Gq := Lib.hid (alloc_new (w5) (.cells (wcells Q) 26))
  replace HB := Lib.hid (below_al HB.out (.cells (wcells Q) 26))
  replace Gn := Lib.hid (keepAl (o' := .cells (wcells R) 26) Gn.out)
  replace Gd := Lib.hid (keepAl (o' := .cells (wcells R) 26) Gd.out)
  replace Gq := Lib.hid (keepAl (o' := .cells (wcells R) 26) Gq.out)
  have Gr := Lib.hid (alloc_new' (w := (w5).alloc (.cells (wcells Q) 26)) (n := w5.heap.size + 1) (.cells (wcells R) 26) (by simp))
  replace HB := Lib.hid (below_al HB.out (.cells (wcells R) 26))
  have cGn := cell_row Gn.out
  have cGd := cell_row Gd.out
  have cGq := cell_row Gq.out
  have cGr := cell_row Gr.out
  go_upto_region 2 with fail
  clear cGn cGd cGq cGr
  obtain ⟨w6, hw⟩ : ∃ wx, wx = ((w5).alloc (.cells (wcells Q) 26)).alloc (.cells (wcells R) 26) := ⟨_, rfl⟩
  rw [← hw] at Gn Gd Gq Gr HB ⊢
  clear hw
  have xGn := ext_row (B := w6.heap.size) Gn.out (lt_of_heap Gn.out)
  have xGd := ext_row (B := w6.heap.size) Gd.out (lt_of_heap Gd.out)
  have xGq := ext_row (B := w6.heap.size) Gq.out (lt_of_heap Gq.out)
  have xGr := ext_row (B := w6.heap.size) Gr.out (lt_of_heap Gr.out)
  refine wp_region_ext w6.heap.size (by kernel_rfl) (by kernel_rfl) ?_
  repeat (go_big_quiet_step (first | (go_at_call 77; with_reducible exact Calls.quiet_ext (Nat.le_refl _) (S2.out _)) | (go_at_call 78; with_reducible exact Calls.quiet_ext (Nat.le_refl _) (S3.out _)) | (go_at_call 79; with_reducible exact Calls.quiet_ext (Nat.le_refl _) (S4.out _)) | (go_at_call 80; with_reducible exact Calls.quiet_ext (Nat.le_refl _) (SA.out _))))
  refine wpQuiet_nil ?_
  intro w7 hb
  clear xGn xGd xGq xGr
  replace HB := Lib.hid (below_then HB.out hb)
  replace Gn := Lib.hid ((hb.block _ (lt_of_heap Gn.out)).trans Gn.out)
  replace Gd := Lib.hid ((hb.block _ (lt_of_heap Gd.out)).trans Gd.out)
  replace Gq := Lib.hid ((hb.block _ (lt_of_heap Gq.out)).trans Gq.out)
  replace Gr := Lib.hid ((hb.block _ (lt_of_heap Gr.out)).trans Gr.out)
  clear hb
  go_wp2
  go_ret
  exact ⟨rfl, HB.out⟩
end Go.Proofs.Ytenkaobgoknlhaa
