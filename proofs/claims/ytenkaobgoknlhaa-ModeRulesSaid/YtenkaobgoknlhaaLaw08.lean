/- THE WALK of the law on cuts. -/
import Derived.Test.YtenkaobgoknlhaaMode4
namespace Go.Proofs.Ytenkaobgoknlhaa
open Go Go.RowKit

attribute [local go_sem ↓] Go.wp_at_zero Go.wp_at_succ
set_option maxRecDepth 100000 in
set_option maxHeartbeats 4000000 in
theorem modeCuts_any (a : Nat) (n q0 q1 q2 : Int) (w : World) (ha : a < M) (h1 : -9223372036854775808 ≤ n) (h2 : n ≤ 9223372036854775807)
    (_a1 : -9223372036854775808 ≤ q0) (_a2 : q0 ≤ 9223372036854775807) (_b1 : -9223372036854775808 ≤ q1) (_b2 : q1 ≤ 9223372036854775807) (_c1 : -9223372036854775808 ≤ q2) (_c2 : q2 ≤ 9223372036854775807) :
    Calls Try.prog 17 #[wv a, .int .i64 n, .agg #[.int .i64 q0, .int .i64 q1, .int .i64 q2]] w fun e w' => e = .returned (.bool true) ∧ Below w.heap.size w w' := by
  have SC := Lib.hid (fun b1 b2 w' => cut_w a n b1 q2 b2 w' ha h1 h2)
  have SR := Lib.hid (fun b1 b2 w' => rcut_any a n b1 q2 b2 w' ha)
  have SA := Lib.hid (fun w' => awake08_any w')
  clear ha h1 h2 _a1 _a2 _b1 _b2 _c1 _c2
  go_enter Try.func17, Try.ntmps17
  have HB := Lib.hid (Below.refl w.heap.size w)
  have Ga := Lib.hid (alloc_new (w) (.cells (wcells a) 26))
  replace HB := Lib.hid (below_al HB.out (.cells (wcells a) 26))
  replace Ga := Lib.hid (keepAl (o' := .cells #[.int .i64 q0, .int .i64 q1, .int .i64 q2] 91) Ga.out)
  have Gq := Lib.hid (alloc_new' (w := (w).alloc (.cells (wcells a) 26)) (n := w.heap.size + 1) (.cells #[.int .i64 q0, .int .i64 q1, .int .i64 q2] 91) (by simp))
  replace HB := Lib.hid (below_al HB.out (.cells #[.int .i64 q0, .int .i64 q1, .int .i64 q2] 91))
  go_upto_region 1 with fail
  obtain ⟨wL, hw⟩ : ∃ wx, wx = ((w).alloc (.cells (wcells a) 26)).alloc (.cells #[.int .i64 q0, .int .i64 q1, .int .i64 q2] 91) := ⟨_, rfl⟩
  rw [← hw] at Ga Gq HB ⊢
  clear hw
  go_cut [7, 8] (fun s7 s8 wx => (∃ b1 b2 : Bool, s7 = .bool b1 ∧ s8 = .bool b2) ∧ wx.heap[w.heap.size]? = some (.cells (wcells a) 26 (0, 0)) ∧ wx.heap[w.heap.size + 1]? = some (.cells #[.int .i64 q0, .int .i64 q1, .int .i64 q2] 91 (0, 0)) ∧ Below w.heap.size w wx)
  case first =>
    have xGa := ext_row (B := wL.heap.size) Ga.out (lt_of_heap Ga.out)
    have xGq := ext_row (B := wL.heap.size) Gq.out (lt_of_heap Gq.out)
    refine wp_region_ext wL.heap.size (by kernel_rfl) (by kernel_rfl) ?_
    repeat (go_big_quiet_step (fail))
    refine wpQuiet_nil ?_
    intro w1 hb
    clear xGa xGq
    replace HB := Lib.hid (below_then HB.out hb)
    replace Ga := Lib.hid ((hb.block _ (lt_of_heap Ga.out)).trans Ga.out)
    replace Gq := Lib.hid ((hb.block _ (lt_of_heap Gq.out)).trans Gq.out)
    clear hb
    go_wp2
    go_meet
    exact ⟨⟨_, _, rfl, rfl⟩, Ga.out, Gq.out, HB.out⟩
  case rest =>
    obtain ⟨⟨b1, b2, rfl, rfl⟩, hg1, hg2, hbw⟩ := hcut
    replace Ga := Lib.hid hg1; replace Gq := Lib.hid hg2; replace HB := Lib.hid hbw
    clear hg1 hg2 hbw
    obtain ⟨V, hV⟩ : ∃ V, V = cutV a n b1 q2 b2 := ⟨_, rfl⟩
    obtain ⟨B, hB⟩ : ∃ B, B = cutB a n b1 q2 := ⟨_, rfl⟩
    have S1 := Lib.hid (fun w' => SC.out b1 b2 w')
    have S2 := Lib.hid (fun w' => SR.out b1 b2 w')
    rw [← hV, ← hB] at S1 S2
    clear hV hB SC SR
    have cGa := cell_row Ga.out
    have cGq := cell_row Gq.out
    go_wp2_with fail
    refine (S1.out _).mono ?_
    rintro e w2 ⟨rfl, hb⟩
    clear cGa cGq
    replace HB := Lib.hid (below_then HB.out hb)
    replace Ga := Lib.hid ((hb.block _ (lt_of_heap Ga.out)).trans Ga.out)
    replace Gq := Lib.hid ((hb.block _ (lt_of_heap Gq.out)).trans Gq.out)
    clear hb
    replace Ga := Lib.hid (keepAl (o' := .cells (wcells V) 26) Ga.out)
    replace Gq := Lib.hid (keepAl (o' := .cells (wcells V) 26) Gq.out)
    have Gx := Lib.hid (alloc_new (w2) (.cells (wcells V) 26))
    replace HB := Lib.hid (below_al HB.out (.cells (wcells V) 26))
    have cGa := cell_row Ga.out
    have cGq := cell_row Gq.out
    have cGx := cell_row Gx.out
    go_wp2_with fail
    refine (S2.out _).mono ?_
    rintro e w3 ⟨rfl, hb⟩
    clear cGa cGq cGx
    replace HB := Lib.hid (below_then HB.out hb)
    replace Ga := Lib.hid ((hb.block _ (lt_of_heap Ga.out)).trans Ga.out)
    replace Gq := Lib.hid ((hb.block _ (lt_of_heap Gq.out)).trans Gq.out)
    replace Gx := Lib.hid ((hb.block _ (lt_of_heap Gx.out)).trans Gx.out)
    clear hb
    replace Ga := Lib.hid (keepAl (o' := .cells (wcells V) 26) Ga.out)
    replace Gq := Lib.hid (keepAl (o' := .cells (wcells V) 26) Gq.out)
    replace Gx := Lib.hid (keepAl (o' := .cells (wcells V) 26) Gx.out)
    have Gy := Lib.hid (alloc_new (w3) (.cells (wcells V) 26))
    replace HB := Lib.hid (below_al HB.out (.cells (wcells V) 26))
    have cGa := cell_row Ga.out
    have cGq := cell_row Gq.out
    have cGx := cell_row Gx.out
    have cGy := cell_row Gy.out
    go_wp2_with fail
    refine (SA.out _).mono ?_
    rintro e w4 ⟨rfl, hb⟩
    clear cGa cGq cGx cGy
    replace HB := Lib.hid (below_then HB.out hb)
    replace Ga := Lib.hid ((hb.block _ (lt_of_heap Ga.out)).trans Ga.out)
    replace Gq := Lib.hid ((hb.block _ (lt_of_heap Gq.out)).trans Gq.out)
    replace Gx := Lib.hid ((hb.block _ (lt_of_heap Gx.out)).trans Gx.out)
    replace Gy := Lib.hid ((hb.block _ (lt_of_heap Gy.out)).trans Gy.out)
    clear hb
    have cGa := cell_row Ga.out
    have cGq := cell_row Gq.out
    have cGx := cell_row Gx.out
    have cGy := cell_row Gy.out
    go_wp2
    go_ret
    exact ⟨rfl, HB.out⟩
end Go.Proofs.Ytenkaobgoknlhaa
