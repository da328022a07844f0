/- THE WALK of the law on what is cut off. -/
import Derived.Test.YtbjofgoimkmbfaaMode4
namespace Go.Proofs.Ytbjofgoimkmbfaa
open Go Go.RowKit

attribute [local go_sem ↓] Go.wp_at_zero Go.wp_at_succ
set_option maxRecDepth 100000 in
set_option maxHeartbeats 4000000 in
theorem modeRests_any (a : Nat) (n q0 q1 q2 q3 : Int) (w : World) (ha : a < M) (h1 : -9223372036854775808 ≤ n) (h2 : n ≤ 9223372036854775807)
    (_a1 : -9223372036854775808 ≤ q0) (_a2 : q0 ≤ 9223372036854775807) (_b1 : -9223372036854775808 ≤ q1) (_b2 : q1 ≤ 9223372036854775807) (_c1 : -9223372036854775808 ≤ q2) (_c2 : q2 ≤ 9223372036854775807) (_d1 : -9223372036854775808 ≤ q3) (_d2 : q3 ≤ 9223372036854775807) :
    Calls Try.prog 17 #[wv a, .int .i64 n, .agg #[.int .i64 q0, .int .i64 q1, .int .i64 q2, .int .i64 q3]] w fun e w' => e = .returned (.bool true) ∧ Below w.heap.size w w' := by
  have SC := Lib.hid (fun b1 w' => rest_w a n b1 w' ha h1 h2)
  have SR := Lib.hid (fun b1 w' => rrest_any a n b1 w' ha)
  have SG := Lib.hid (fun m b2 b3 r w' => grows_w m b2 b3 r w')
  have SI := Lib.hid (fun m w' => rmode_is m w')
  have SH := Lib.hid (fun m b2 b3 r w' => rgrows_any m b2 b3 r w')
  have SA := Lib.hid (fun w' => awake08_any w')
  clear ha h1 h2 _a1 _a2 _b1 _b2 _c1 _c2 _d1 _d2
  go_enter Try.func17, Try.ntmps17
  have HB := Lib.hid (Below.refl w.heap.size w)
  have Ga := Lib.hid (alloc_new (w) (.cells (wcells a) 31))
  replace HB := Lib.hid (below_al HB.out (.cells (wcells a) 31))
  replace Ga := Lib.hid (keepAl (o' := .cells #[.int .i64 q0, .int .i64 q1, .int .i64 q2, .int .i64 q3] 91) Ga.out)
  have Gq := Lib.hid (alloc_new' (w := (w).alloc (.cells (wcells a) 31)) (n := w.heap.size + 1) (.cells #[.int .i64 q0, .int .i64 q1, .int .i64 q2, .int .i64 q3] 91) (by simp))
  replace HB := Lib.hid (below_al HB.out (.cells #[.int .i64 q0, .int .i64 q1, .int .i64 q2, .int .i64 q3] 91))
  go_upto_region 1 with fail
  obtain ⟨wL, hw⟩ : ∃ wx, wx = ((w).alloc (.cells (wcells a) 31)).alloc (.cells #[.int .i64 q0, .int .i64 q1, .int .i64 q2, .int .i64 q3] 91) := ⟨_, rfl⟩
  rw [← hw] at Ga Gq HB ⊢
  clear hw
  go_cut [7, 8, 9] (fun s7 s8 s9 wx => (∃ b1 b2 b3 : Bool, s7 = .bool b1 ∧ s8 = .bool b2 ∧ s9 = .bool b3) ∧ wx.heap[w.heap.size]? = some (.cells (wcells a) 31 (0, 0)) ∧ wx.heap[w.heap.size + 1]? = some (.cells #[.int .i64 q0, .int .i64 q1, .int .i64 q2, .int .i64 q3] 91 (0, 0)) ∧ Below w.heap.size w wx)
  case first =>
    have xGa := ext_row (B := wL.heap.size) Ga.out (lt_of_heap Ga.out)
    have xGq := ext_row (B := wL.heap.size) Gq.out (lt_of_heap Gq.out)
    refine wp_region_ext wL.heap.size (by kernel_rfl) (by kernel_rfl) ?_
    repeat (go_big_quiet_step (fail))
    refine wpQuiet_nil ?_
    intro w1 hb
    clear xGa xGq
    replace HB := Lib.hid (below_then HB.out hb)
    replace Ga := Lib.hid ((hb.block _ (lt_of_heap Ga.out)).trans Ga.out)
    replace Gq := Lib.hid ((hb.block _ (lt_of_heap Gq.out)).trans Gq.out)
    clear hb
    go_wp2
    go_meet
    exact ⟨⟨_, _, _, rfl, rfl, rfl⟩, Ga.out, Gq.out, HB.out⟩
  case rest =>
    obtain ⟨⟨b1, b2, b3, rfl, rfl, rfl⟩, hg1, hg2, hbw⟩ := hcut
    replace Ga := Lib.hid hg1; replace Gq := Lib.hid hg2; replace HB := Lib.hid hbw
    clear hg1 hg2 hbw
    obtain ⟨R, hR⟩ : ∃ V, V = restN a n b1 := ⟨_, rfl⟩
    have S1 := Lib.hid (fun w' => SC.out b1 w')
    have S2 := Lib.hid (fun w' => SR.out b1 w')
    rw [← hR] at S1 S2
    clear hR SC SR
    have cGa := cell_row Ga.out
    have cGq := cell_row Gq.out
    go_wp2_with fail
    refine (S2.out _).mono ?_
    rintro e w2 ⟨rfl, hb⟩
    clear cGa cGq
    replace HB := Lib.hid (below_then HB.out hb)
    replace Ga := Lib.hid ((hb.block _ (lt_of_heap Ga.out)).trans Ga.out)
    replace Gq := Lib.hid ((hb.block _ (lt_of_heap Gq.out)).trans Gq.out)
    clear hb
    go_wp2
    go_loopw [11] (fun s wr => ∃ m : Int, s = .int .i64 m ∧ -1 ≤ m ∧ m ≤ 8 ∧ Hid (wr.heap[w.heap.size]? = some (.cells (wcells a) 31 (0, 0))) ∧ Hid (wr.heap[w.heap.size + 1]? = some (.cells #[.int .i64 q0, .int .i64 q1, .int .i64 q2, .int .i64 q3] 91 (0, 0))) ∧ Hid (Below w.heap.size w wr)) (fun s _ => (8 - intOf s).toNat)
    case atStart => exact ⟨-1, rfl, by omega, by omega, Ga, Gq, HB⟩
    case round =>
      clear Ga Gq HB
      obtain ⟨m, rfl, hm1, hm2, Ga, Gq, HB⟩ := hrel
      by_cases hlt : m < 8
      · have G1 := Lib.hid (fun w' => SG.out m b2 b3 R w')
        have G2 := Lib.hid (fun w' => SG.out m b2 b3 q3 w')
        have I1 := Lib.hid (fun w' => SI.out m w')
        have H1 := Lib.hid (fun w' => SH.out m b2 b3 R w')
        have H2 := Lib.hid (fun w' => SH.out m b2 b3 q3 w')
        obtain ⟨X, hX⟩ : ∃ X, X = growsN m b2 b3 R := ⟨_, rfl⟩
        obtain ⟨Y, hY⟩ : ∃ X, X = growsN m b2 b3 q3 := ⟨_, rfl⟩
        obtain ⟨J, hJ⟩ : ∃ X, X = isMode m := ⟨_, rfl⟩
        rw [← hX] at G1 H1
        rw [← hY] at G2 H2
        rw [← hJ] at G1 G2 I1
        clear hX hY hJ
        cases J
        · rw [Bool.false_and] at G1 G2
          have cGa := cell_row Ga.out
          have cGq := cell_row Gq.out
          go_wp2_with fail
          refine (G1.out _).mono ?_
          rintro e w3 ⟨rfl, hb⟩
          clear cGa cGq
          replace HB := Lib.hid (below_then HB.out hb)
          replace Ga := Lib.hid ((hb.block _ (lt_of_heap Ga.out)).trans Ga.out)
          replace Gq := Lib.hid ((hb.block _ (lt_of_heap Gq.out)).trans Gq.out)
          clear hb
          have cGa := cell_row Ga.out
          have cGq := cell_row Gq.out
          go_wp2_with fail
          refine (I1.out _).mono ?_
          rintro e w4 ⟨rfl, hb⟩
          clear cGa cGq
          replace HB := Lib.hid (below_then HB.out hb)
          replace Ga := Lib.hid ((hb.block _ (lt_of_heap Ga.out)).trans Ga.out)
          replace Gq := Lib.hid ((hb.block _ (lt_of_heap Gq.out)).trans Gq.out)
          clear hb
          have cGa := cell_row Ga.out
          have cGq := cell_row Gq.out
          go_wp2_with fail
          refine (G2.out _).mono ?_
          rintro e w5 ⟨rfl, hb⟩
          clear cGa cGq
          replace HB := Lib.hid (below_then HB.out hb)
          replace Ga := Lib.hid ((hb.block _ (lt_of_heap Ga.out)).trans Ga.out)
          replace Gq := Lib.hid ((hb.block _ (lt_of_heap Gq.out)).trans Gq.out)
          clear hb
          have cGa := cell_row Ga.out
          have cGq := cell_row Gq.out
          go_wp2_with fail
          refine (I1.out _).mono ?_
          rintro e w6 ⟨rfl, hb⟩
          clear cGa cGq
          replace HB := Lib.hid (below_then HB.out hb)
          replace Ga := Lib.hid ((hb.block _ (lt_of_heap Ga.out)).trans Ga.out)
          replace Gq := Lib.hid ((hb.block _ (lt_of_heap Gq.out)).trans Gq.out)
          clear hb
          have cGa := cell_row Ga.out
          have cGq := cell_row Gq.out
          go_wp2
          go_roundw
          case rel => exact ⟨m + 1, by go_num, by omega, by omega, Ga, Gq, HB⟩
          case measure => simp [intOf]; omega
        · rw [Bool.true_and] at G1 G2
          have cGa := cell_row Ga.out
          have cGq := cell_row Gq.out
          go_wp2_with fail
          refine (G1.out _).mono ?_
          rintro e w7 ⟨rfl, hb⟩
          clear cGa cGq
          replace HB := Lib.hid (below_then HB.out hb)
          replace Ga := Lib.hid ((hb.block _ (lt_of_heap Ga.out)).trans Ga.out)
          replace Gq := Lib.hid ((hb.block _ (lt_of_heap Gq.out)).trans Gq.out)
          clear hb
          have cGa := cell_row Ga.out
          have cGq := cell_row Gq.out
          go_wp2_with fail
          refine (I1.out _).mono ?_
          rintro e w8 ⟨rfl, hb⟩
          clear cGa cGq
          replace HB := Lib.hid (below_then HB.out hb)
          replace Ga := Lib.hid ((hb.block _ (lt_of_heap Ga.out)).trans Ga.out)
          replace Gq := Lib.hid ((hb.block _ (lt_of_heap Gq.out)).trans Gq.out)
          clear hb
          have cGa := cell_row Ga.out
          have cGq := cell_row Gq.out
          go_wp2_with fail
          refine (H1.out _).mono ?_
          rintro e w9 ⟨rfl, hb⟩
          clear cGa cGq
          replace HB := Lib.hid (below_then HB.out hb)
          replace Ga := Lib.hid ((hb.block _ (lt_of_heap Ga.out)).trans Ga.out)
          replace Gq := Lib.hid ((hb.block _ (lt_of_heap Gq.out)).trans Gq.out)
          clear hb
          have cGa := cell_row Ga.out
          have cGq := cell_row Gq.out
          go_wp2_with fail
          refine (G2.out _).mono ?_
          rintro e w10 ⟨rfl, hb⟩
          clear cGa cGq
          replace HB := Lib.hid (below_then HB.out hb)
          replace Ga := Lib.hid ((hb.block _ (lt_of_heap Ga.out)).trans Ga.out)
          replace Gq := Lib.hid ((hb.block _ (lt_of_heap Gq.out)).trans Gq.out)
          clear hb
          have cGa := cell_row Ga.out
          have cGq := cell_row Gq.out
          go_wp2_with fail
          refine (I1.out _).mono ?_
          rintro e w11 ⟨rfl, hb⟩
          clear cGa cGq
          replace HB := Lib.hid (below_then HB.out hb)
          replace Ga := Lib.hid ((hb.block _ (lt_of_heap Ga.out)).trans Ga.out)
          replace Gq := Lib.hid ((hb.block _ (lt_of_heap Gq.out)).trans Gq.out)
          clear hb
          have cGa := cell_row Ga.out
          have cGq := cell_row Gq.out
          go_wp2_with fail
          refine (H2.out _).mono ?_
          rintro e w12 ⟨rfl, hb⟩
          clear cGa cGq
          replace HB := Lib.hid (below_then HB.out hb)
          replace Ga := Lib.hid ((hb.block _ (lt_of_heap Ga.out)).trans Ga.out)
          replace Gq := Lib.hid ((hb.block _ (lt_of_heap Gq.out)).trans Gq.out)
          clear hb
          have cGa := cell_row Ga.out
          have cGq := cell_row Gq.out
          go_wp2
          go_roundw
          case rel => exact ⟨m + 1, by go_num, by omega, by omega, Ga, Gq, HB⟩
          case measure => simp [intOf]; omega
      · skip
        have cGa := cell_row Ga.out
        have cGq := cell_row Gq.out
        go_wp2_with fail
        refine (S1.out _).mono ?_
        rintro e w13 ⟨rfl, hb⟩
        clear cGa cGq
        replace HB := Lib.hid (below_then HB.out hb)
        replace Ga := Lib.hid ((hb.block _ (lt_of_heap Ga.out)).trans Ga.out)
        replace Gq := Lib.hid ((hb.block _ (lt_of_heap Gq.out)).trans Gq.out)
        clear hb
        have cGa := cell_row Ga.out
        have cGq := cell_row Gq.out
        go_wp2_with fail
        refine (SA.out _).mono ?_
        rintro e w14 ⟨rfl, hb⟩
        clear cGa cGq
        replace HB := Lib.hid (below_then HB.out hb)
        replace Ga := Lib.hid ((hb.block _ (lt_of_heap Ga.out)).trans Ga.out)
        replace Gq := Lib.hid ((hb.block _ (lt_of_heap Gq.out)).trans Gq.out)
        clear hb
        have cGa := cell_row Ga.out
        have cGq := cell_row Gq.out
        go_wp2
        go_ret
        exact ⟨rfl, HB.out⟩
end Go.Proofs.Ytbjofgoimkmbfaa
