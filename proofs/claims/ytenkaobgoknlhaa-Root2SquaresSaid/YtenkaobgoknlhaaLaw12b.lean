/- THE WALK of the law that a square has its root. -/
import Derived.Test.YtenkaobgoknlhaaLaw12
import Derived.Test.YtenkaobgoknlhaaLaw11c
import Derived.Laws.StructEq
namespace Go.Proofs.Ytenkaobgoknlhaa
open Go Go.RowKit

theorem root_back {x y : Nat} (hx : x < P2 128) (hy : y ≤ 2 * x) : x * x + y < P2 256 ∧ rtN 2 (x * x + y) = x ∧ x * x + y - x * x = y := by
  have h1 : (x + 1) * (x + 1) ≤ P2 128 * P2 128 := Nat.mul_le_mul hx hx
  rw [← P2_add, show 128 + 128 = 256 from rfl, Nat.add_mul, Nat.mul_add, Nat.mul_one, Nat.one_mul] at h1
  exact ⟨by omega, rt_unique (by omega) (by omega), by omega⟩
@[go_sem high] theorem eq_word (a b c d : Int) (w : World) : (Op.equalIn 10000 35 (.agg #[.int .u64 a, .int .u64 b]) (.agg #[.int .u64 c, .int .u64 d])).run Try.prog w = .ok (a == c && b == d) w := by
  have u3 := Try.underlying24
  rw [show (10000 : Nat) = 9999 + 1 from rfl, run_equalIn_struct w 9999 35 _ _ (by kernel_rfl) (by kernel_rfl)]
  simp only [Program.fieldsOf, Try.underlying35]
  go_simp
  by_cases h1 : a = c <;> by_cases h2 : b = d <;> simp [h1, h2]
theorem zero_word (x y : Nat) (hx : x ≤ 18446744073709551615) (hy : y ≤ 18446744073709551615) : ((x : Int) == 0 && (y : Int) == 0) = isZ (y + P2 64 * x) := by
  have hlt := word_lt y x hy hx
  have hM : y + P2 64 * x < M := Nat.lt_trans hlt (by rw [M_eq]; exact P2_lt (by omega))
  rw [P2_64] at hM ⊢
  by_cases h : y + 18446744073709551616 * x = 0
  · rw [isZ_yes h, show x = 0 by omega, show y = 0 by omega]; rfl
  · rw [isZ_no hM h]
    by_cases h1 : x = 0
    · have : y ≠ 0 := by omega
      simp [this]
    · simp [h1]

attribute [local go_sem ↓] Go.wp_at_zero Go.wp_at_succ
set_option maxRecDepth 100000 in
set_option maxHeartbeats 4000000 in
theorem root2Squares_any (sh sl rh rl : Nat) (w : World) (b1 : sh ≤ 18446744073709551615) (b2 : sl ≤ 18446744073709551615) (b5 : rh ≤ 18446744073709551615) (b6 : rl ≤ 18446744073709551615) :
    Calls Try.prog 25 #[.agg #[.int .u64 (sh : Int), .int .u64 (sl : Int)], .agg #[.int .u64 (rh : Int), .int .u64 (rl : Int)]] w fun e w' => e = .returned (.bool true) ∧ Below w.heap.size w w' := by
  have hX := word_lt sl sh b2 b1
  have hZ := word_lt rl rh b6 b5
  have O1 := Lib.hid (fun w' g h => of2_any sl sh b2 b1 w' g h)
  have O3 := Lib.hid (fun w' g h => of2_any rl rh b6 b5 w' g h)
  have E1 := word_cells sh sl b1 b2
  have E3 := word_cells rh rl b5 b6
  obtain ⟨X, eX⟩ : ∃ x, x = sl + P2 64 * sh := ⟨_, rfl⟩
  obtain ⟨Z, eZ⟩ : ∃ x, x = rl + P2 64 * rh := ⟨_, rfl⟩
  rw [← eX] at hX O1 E1
  rw [← eZ] at hZ O3 E3
  have SA := Lib.hid (fun w' => awake12_any w')
  have T0 : Hid (∀ (v : Value) (w' : World), IsBig w' v X → Calls Try.prog 49 #[v, .int .i64 1] w' (GivesBig (X * P2 1) w')) := Lib.hid fun v w' h => rshl_any v X 1 w' (small_of hX (by omega)) (by omega) h
  rw [P2_1] at T0
  have h2 : X * 2 < P2 129 := by rw [show 129 = 128 + 1 from rfl, P2_twice]; omega
  have SC := Lib.hid (fun v v2 w' h h' => cmp_any v v2 Z (X * 2) w' (small_of hZ (by omega)) (small_of h2 (by omega)) h h')
  have hzw := zero_word rh rl b5 b6
  rw [← eZ] at hzw
  have HZW := Lib.hid hzw
  have HXM := Lib.hid hX; have HZM := Lib.hid hZ
  obtain ⟨X2, hX2⟩ : ∃ x, x = X * 2 := ⟨_, rfl⟩
  rw [← hX2] at T0 SC
  have HX2 := Lib.hid hX2
  clear hzw hX hZ eX eZ b1 b2 b5 b6 h2 hX2
  go_enter Try.func25, Try.ntmps25
  have HB := Lib.hid (Below.refl w.heap.size w)
  have Gq := Lib.hid (alloc_new (w) (.cells #[.int .u64 (sh : Int), .int .u64 (sl : Int)] 35))
  replace HB := Lib.hid (below_al HB.out (.cells #[.int .u64 (sh : Int), .int .u64 (sl : Int)] 35))
  replace Gq := Lib.hid (keepAl (o' := .cells #[.int .u64 (rh : Int), .int .u64 (rl : Int)] 35) Gq.out)
  have Gr := Lib.hid (alloc_new' (w := (w).alloc (.cells #[.int .u64 (sh : Int), .int .u64 (sl : Int)] 35)) (n := w.heap.size + 1) (.cells #[.int .u64 (rh : Int), .int .u64 (rl : Int)] 35) (by simp))
  replace HB := Lib.hid (below_al HB.out (.cells #[.int .u64 (rh : Int), .int .u64 (rl : Int)] 35))
  go_upto_region 1 with fail
  obtain ⟨wL, hw⟩ : ∃ wx, wx = ((w).alloc (.cells #[.int .u64 (sh : Int), .int .u64 (sl : Int)] 35)).alloc (.cells #[.int .u64 (rh : Int), .int .u64 (rl : Int)] 35) := ⟨_, rfl⟩
  rw [← hw] at Gq Gr HB ⊢
  clear hw
  have xGq := ext_row (B := wL.heap.size) Gq.out (lt_of_heap Gq.out)
  have xGr := ext_row (B := wL.heap.size) Gr.out (lt_of_heap Gr.out)
  apply wp_region_loose (looseR [_, _, _, _, _, _, _, _, _, _, _, _, _, _]) (pureL [])
  · kernel_rfl
  · kernel_rfl
  · kernel_rfl
  · exact allocs_ok [] rfl (by intro T hT; cases hT)
  · exact looseR_st _
  · change wpL _ _ _ _ _ _ _ 14 0 _ _
    refine wpL_calm wL rfl rfl rfl rfl (fun K hK K0 hK0 => ?_)
    go_simp
    first | refine hK _ _ rfl rfl ?_ | refine hK0 _ rfl ?_
    clear hK hK0 K K0
    refine wpL_calm wL rfl rfl rfl rfl (fun K hK K0 hK0 => ?_)
    go_simp
    first | refine hK _ _ rfl rfl ?_ | refine hK0 _ rfl ?_
    clear hK hK0 K K0
    refine wpL_calm wL rfl rfl rfl rfl (fun K hK K0 hK0 => ?_)
    go_simp
    first | refine hK _ _ rfl rfl ?_ | refine hK0 _ rfl ?_
    clear hK hK0 K K0
    refine wpL_calm wL rfl rfl rfl rfl (fun K hK K0 hK0 => ?_)
    go_simp
    first | refine hK _ _ rfl rfl ?_ | refine hK0 _ rfl ?_
    clear hK hK0 K K0
    refine wpL_row wL (fun g => .slice (some ⟨g, 0, none⟩) 2 2) (.cells #[.int .u64 (sl : Int), .int .u64 (sh : Int)] 24) (fun _ => rfl) rfl rfl rfl rfl (by first | rfl | go_simp) rfl (by rintro w' ⟨x, rfl⟩; go_simp) (fun g4 => ?_)
    refine wpL_call (Lft.big X) (big_some w _) rfl rfl rfl rfl (by first | rfl | go_simp) rfl (fun w' hC hF => ?_) (fun v5 hv5 => ?_)
    · obtain ⟨x, rfl⟩ := hC
      go_simp
      go_at_call 30
      exact gives_loose (O1.out _ g4 (hF 4 _ 16 rfl rfl rfl rfl (by decide)).2)
    refine wpL_calm wL rfl rfl rfl rfl (fun K hK K0 hK0 => ?_)
    go_simp
    first | refine hK _ _ rfl rfl ?_ | refine hK0 _ rfl ?_
    clear hK hK0 K K0
    refine wpL_calm wL rfl rfl rfl rfl (fun K hK K0 hK0 => ?_)
    go_simp
    first | refine hK _ _ rfl rfl ?_ | refine hK0 _ rfl ?_
    clear hK hK0 K K0
    refine wpL_calm wL rfl rfl rfl rfl (fun K hK K0 hK0 => ?_)
    go_simp
    first | refine hK _ _ rfl rfl ?_ | refine hK0 _ rfl ?_
    clear hK hK0 K K0
    refine wpL_calm wL rfl rfl rfl rfl (fun K hK K0 hK0 => ?_)
    go_simp
    first | refine hK _ _ rfl rfl ?_ | refine hK0 _ rfl ?_
    clear hK hK0 K K0
    refine wpL_row wL (fun g => .slice (some ⟨g, 0, none⟩) 2 2) (.cells #[.int .u64 (rl : Int), .int .u64 (rh : Int)] 24) (fun _ => rfl) rfl rfl rfl rfl (by first | rfl | go_simp) rfl (by rintro w' ⟨x, rfl⟩; go_simp) (fun g10 => ?_)
    refine wpL_call (Lft.big Z) (big_some w _) rfl rfl rfl rfl (by first | rfl | go_simp) rfl (fun w' hC hF => ?_) (fun v11 hv11 => ?_)
    · obtain ⟨x, rfl⟩ := hC
      go_simp
      go_at_call 30
      exact gives_loose (O3.out _ g10 (hF 10 _ 22 rfl rfl rfl rfl (by decide)).2)
    refine wpL_call (Lft.big X) (big_some wL _) rfl rfl rfl rfl rfl rfl (fun w' hC hF => ?_) (fun v12 hv12 => ?_)
    · obtain ⟨x, rfl⟩ := hC
      have hf := hF 5 _ 17 rfl rfl rfl rfl (by decide)
      go_simp
      exact ⟨Below.refl _ _, hf⟩
    refine wpL_call (Lft.big Z) (big_some wL _) rfl rfl rfl rfl rfl rfl (fun w' hC hF => ?_) (fun v13 hv13 => ?_)
    · obtain ⟨x, rfl⟩ := hC
      have hf := hF 11 _ 23 rfl rfl rfl rfl (by decide)
      go_simp
      exact ⟨Below.refl _ _, hf⟩
    refine wpL_nil (endL [] rfl (by intro q hq; cases hq) (fun w1 hb hst hap hfin => ?_))
    have Rx : Hid (IsBig w1 v12 X) := Lib.hid (hfin rfl 12 _ 5 rfl rfl rfl rfl)
    have Ry : Hid (IsBig w1 v13 Z) := Lib.hid (hfin rfl 13 _ 6 rfl rfl rfl rfl)
    replace HB := Lib.hid (below_then HB.out hb)
    replace Gq := Lib.hid ((hb.block _ (lt_of_heap Gq.out)).trans Gq.out)
    replace Gr := Lib.hid ((hb.block _ (lt_of_heap Gr.out)).trans Gr.out)
    clear hb hst hap hfin xGq xGr
    rcases Nat.lt_or_ge X2 Z with hzy | hzy
    · have e0 : 0 < cmpN Z X2 := by unfold cmpN; split <;> (try split) <;> omega
      obtain ⟨C, hC⟩ : ∃ C, C = cmpN Z X2 := ⟨_, rfl⟩
      rw [← hC] at SC e0
      clear hC hzy
      have cGq := cell_row Gq.out
      have cGr := cell_row Gr.out
      go_wp2_with fail
      refine (T0.out _ _ Rx.out).mono ?_
      rintro e w2 ⟨rd, rfl, hr, hb⟩
      clear cGq cGr
      replace HB := Lib.hid (below_then HB.out hb)
      replace Gq := Lib.hid ((hb.block _ (lt_of_heap Gq.out)).trans Gq.out)
      replace Gr := Lib.hid ((hb.block _ (lt_of_heap Gr.out)).trans Gr.out)
      replace Rx := Lib.hid (Rx.out.below hb)
      replace Ry := Lib.hid (Ry.out.below hb)
      have Rd := Lib.hid hr
      clear hr hb
      have cGq := cell_row Gq.out
      have cGr := cell_row Gr.out
      go_wp2_with fail
      refine (SC.out _ _ _ Ry.out Rd.out).mono ?_
      rintro e w3 ⟨rfl, hb⟩
      clear cGq cGr
      replace HB := Lib.hid (below_then HB.out hb)
      replace Gq := Lib.hid ((hb.block _ (lt_of_heap Gq.out)).trans Gq.out)
      replace Gr := Lib.hid ((hb.block _ (lt_of_heap Gr.out)).trans Gr.out)
      replace Rx := Lib.hid (Rx.out.below hb)
      replace Ry := Lib.hid (Ry.out.below hb)
      replace Rd := Lib.hid (Rd.out.below hb)
      clear hb
      have cGq := cell_row Gq.out
      have cGr := cell_row Gr.out
      go_wp2_with fail
      refine (SA.out _).mono ?_
      rintro e w4 ⟨rfl, hb⟩
      clear cGq cGr
      replace HB := Lib.hid (below_then HB.out hb)
      replace Gq := Lib.hid ((hb.block _ (lt_of_heap Gq.out)).trans Gq.out)
      replace Gr := Lib.hid ((hb.block _ (lt_of_heap Gr.out)).trans Gr.out)
      replace Rx := Lib.hid (Rx.out.below hb)
      replace Ry := Lib.hid (Ry.out.below hb)
      replace Rd := Lib.hid (Rd.out.below hb)
      clear hb
      have cGq := cell_row Gq.out
      have cGr := cell_row Gr.out
      go_wp2
      go_ret
      exact ⟨rfl, HB.out⟩
    · have e0 : ¬ 0 < cmpN Z X2 := by unfold cmpN; split <;> (try split) <;> omega
      obtain ⟨C, hC⟩ : ∃ C, C = cmpN Z X2 := ⟨_, rfl⟩
      rw [← hC] at SC e0
      obtain ⟨m1, m2, m3⟩ := root_back HXM.out (show Z ≤ 2 * X by have := HX2.out; omega)
      have m4 : X * X + Z < M := Nat.lt_trans m1 (by rw [M_eq]; exact P2_lt (by omega))
      have hXB : X < BIG := small_of HXM.out (by omega)
      have hXX : X * X < BIG := small_M (by omega)
      have T1 := Lib.hid (fun v v2 w' h h' => mul_any v v2 X X w' hXB hXB h h')
      have T2 := Lib.hid (fun v v2 w' h h' => add_any v v2 (X * X) Z w' hXX (small_of HZM.out (by omega)) h h')
      have T3 := Lib.hid (fun v w' h => wide_any v (X * X + Z) w' (small_M m4) h)
      rw [Nat.mod_eq_of_lt m4] at T3
      have T4 := Lib.hid (fun w' => root_w (X * X + Z) m4 w')
      obtain ⟨a1, a2, a3⟩ := rs_yes m1
      rw [a1, a2, a3, m2, m3] at T4
      have T5 := Lib.hid (fun w' => square12_w (X * X + Z) m4 w')
      have hq : sqB (X * X + Z) = isZ Z := by unfold sqB; rw [decide_eq_true m1, Bool.true_and, a2, m2, m3]
      rw [hq] at T5
      obtain ⟨N, hN⟩ : ∃ N, N = X * X + Z := ⟨_, rfl⟩
      rw [← hN] at T2 T3 T4 T5
      obtain ⟨p, hp⟩ : ∃ N, N = X * X := ⟨_, rfl⟩
      rw [← hp] at T1 T2
      obtain ⟨f, hf⟩ : ∃ f, f = decide (M ≤ N) := ⟨_, rfl⟩
      rw [← hf] at T3
      clear hzy m1 m2 m3 m4 hXB hXX a1 a2 a3 hq hN hp hf hC O1 O3
      have cGq := cell_row Gq.out
      have cGr := cell_row Gr.out
      go_wp2_with fail
      refine (T0.out _ _ Rx.out).mono ?_
      rintro e w5 ⟨rd, rfl, hr, hb⟩
      clear cGq cGr
      replace HB := Lib.hid (below_then HB.out hb)
      replace Gq := Lib.hid ((hb.block _ (lt_of_heap Gq.out)).trans Gq.out)
      replace Gr := Lib.hid ((hb.block _ (lt_of_heap Gr.out)).trans Gr.out)
      replace Rx := Lib.hid (Rx.out.below hb)
      replace Ry := Lib.hid (Ry.out.below hb)
      have Rd := Lib.hid hr
      clear hr hb
      have cGq := cell_row Gq.out
      have cGr := cell_row Gr.out
      go_wp2_with fail
      refine (SC.out _ _ _ Ry.out Rd.out).mono ?_
      rintro e w6 ⟨rfl, hb⟩
      clear cGq cGr
      replace HB := Lib.hid (below_then HB.out hb)
      replace Gq := Lib.hid ((hb.block _ (lt_of_heap Gq.out)).trans Gq.out)
      replace Gr := Lib.hid ((hb.block _ (lt_of_heap Gr.out)).trans Gr.out)
      replace Rx := Lib.hid (Rx.out.below hb)
      replace Ry := Lib.hid (Ry.out.below hb)
      replace Rd := Lib.hid (Rd.out.below hb)
      clear hb
      have cGq := cell_row Gq.out
      have cGr := cell_row Gr.out
      go_wp2_with fail
      refine (T1.out _ _ _ Rx.out Rx.out).mono ?_
      rintro e w7 ⟨rp, rfl, hr, hb⟩
      clear cGq cGr
      replace HB := Lib.hid (below_then HB.out hb)
      replace Gq := Lib.hid ((hb.block _ (lt_of_heap Gq.out)).trans Gq.out)
      replace Gr := Lib.hid ((hb.block _ (lt_of_heap Gr.out)).trans Gr.out)
      replace Rx := Lib.hid (Rx.out.below hb)
      replace Ry := Lib.hid (Ry.out.below hb)
      replace Rd := Lib.hid (Rd.out.below hb)
      have Rp := Lib.hid hr
      clear hr hb
      have cGq := cell_row Gq.out
      have cGr := cell_row Gr.out
      go_wp2_with fail
      refine (T2.out _ _ _ Rp.out Ry.out).mono ?_
      rintro e w8 ⟨rs, rfl, hr, hb⟩
      clear cGq cGr
      replace HB := Lib.hid (below_then HB.out hb)
      replace Gq := Lib.hid ((hb.block _ (lt_of_heap Gq.out)).trans Gq.out)
      replace Gr := Lib.hid ((hb.block _ (lt_of_heap Gr.out)).trans Gr.out)
      replace Rx := Lib.hid (Rx.out.below hb)
      replace Ry := Lib.hid (Ry.out.below hb)
      replace Rd := Lib.hid (Rd.out.below hb)
      replace Rp := Lib.hid (Rp.out.below hb)
      have Rs := Lib.hid hr
      clear hr hb
      have cGq := cell_row Gq.out
      have cGr := cell_row Gr.out
      go_wp2_with fail
      refine (T3.out _ _ Rs.out).mono ?_
      rintro e w9 ⟨rfl, hb⟩
      clear cGq cGr
      replace HB := Lib.hid (below_then HB.out hb)
      replace Gq := Lib.hid ((hb.block _ (lt_of_heap Gq.out)).trans Gq.out)
      replace Gr := Lib.hid ((hb.block _ (lt_of_heap Gr.out)).trans Gr.out)
      replace Rx := Lib.hid (Rx.out.below hb)
      replace Ry := Lib.hid (Ry.out.below hb)
      replace Rd := Lib.hid (Rd.out.below hb)
      replace Rp := Lib.hid (Rp.out.below hb)
      replace Rs := Lib.hid (Rs.out.below hb)
      clear hb
      replace Gq := Lib.hid (keepAl (o' := .cells (wcells N) 26) Gq.out)
      replace Gr := Lib.hid (keepAl (o' := .cells (wcells N) 26) Gr.out)
      have Gn := Lib.hid (alloc_new (w9) (.cells (wcells N) 26))
      replace HB := Lib.hid (below_al HB.out (.cells (wcells N) 26))
      have cGq := cell_row Gq.out
      have cGr := cell_row Gr.out
      have cGn := cell_row Gn.out
      go_wp2_with fail
      refine (T4.out _).mono ?_
      rintro e w10 ⟨rfl, hb⟩
      clear cGq cGr cGn
      replace HB := Lib.hid (below_then HB.out hb)
      replace Gq := Lib.hid ((hb.block _ (lt_of_heap Gq.out)).trans Gq.out)
      replace Gr := Lib.hid ((hb.block _ (lt_of_heap Gr.out)).trans Gr.out)
      replace Gn := Lib.hid ((hb.block _ (lt_of_heap Gn.out)).trans Gn.out)
      clear hb
      replace Gq := Lib.hid (keepAl (o' := .cells (wcells X) 26) Gq.out)
      replace Gr := Lib.hid (keepAl (o' := .cells (wcells X) 26) Gr.out)
      replace Gn := Lib.hid (keepAl (o' := .cells (wcells X) 26) Gn.out)
      have Ga := Lib.hid (alloc_new (w10) (.cells (wcells X) 26))
      replace HB := Lib.hid (below_al HB.out (.cells (wcells X) 26))
      replace Gq := Lib.hid (keepAl (o' := .cells (wcells Z) 26) Gq.out)
      replace Gr := Lib.hid (keepAl (o' := .cells (wcells Z) 26) Gr.out)
      replace Gn := Lib.hid (keepAl (o' := .cells (wcells Z) 26) Gn.out)
      replace Ga := Lib.hid (keepAl (o' := .cells (wcells Z) 26) Ga.out)
      have Gb := Lib.hid (alloc_new' (w := (w10).alloc (.cells (wcells X) 26)) (n := w10.heap.size + 1) (.cells (wcells Z) 26) (by simp))
      replace HB := Lib.hid (below_al HB.out (.cells (wcells Z) 26))
      have hzw := HZW.out
      obtain ⟨F, hF⟩ : ∃ F, F = isZ Z := ⟨_, rfl⟩
      rw [← hF] at hzw T5
      clear hF
      have cGq := cell_row Gq.out
      have cGr := cell_row Gr.out
      have cGn := cell_row Gn.out
      have cGa := cell_row Ga.out
      have cGb := cell_row Gb.out
      go_upto_region 6 with fail
      clear cGq cGr cGn cGa cGb
      cases F
      all_goals
        obtain ⟨w11, hw⟩ : ∃ wx, wx = ((w10).alloc (.cells (wcells X) 26)).alloc (.cells (wcells Z) 26) := ⟨_, rfl⟩
        rw [← hw] at Gq Gr Gn Ga Gb HB ⊢
        clear hw
        have xGq := ext_row (B := w11.heap.size) Gq.out (lt_of_heap Gq.out)
        have xGr := ext_row (B := w11.heap.size) Gr.out (lt_of_heap Gr.out)
        have xGn := ext_row (B := w11.heap.size) Gn.out (lt_of_heap Gn.out)
        have xGa := ext_row (B := w11.heap.size) Ga.out (lt_of_heap Ga.out)
        have xGb := ext_row (B := w11.heap.size) Gb.out (lt_of_heap Gb.out)
        refine wp_region_ext w11.heap.size (by kernel_rfl) (by kernel_rfl) ?_
        repeat (go_big_quiet_step (first | (go_at_call 102; with_reducible exact Calls.quiet_ext (Nat.le_refl _) (T5.out _)) | (go_at_call 98; with_reducible exact Calls.quiet_ext (Nat.le_refl _) (SA.out _))))
        refine wpQuiet_nil ?_
        intro w12 hb
        clear xGq xGr xGn xGa xGb
        replace HB := Lib.hid (below_then HB.out hb)
        replace Gq := Lib.hid ((hb.block _ (lt_of_heap Gq.out)).trans Gq.out)
        replace Gr := Lib.hid ((hb.block _ (lt_of_heap Gr.out)).trans Gr.out)
        replace Gn := Lib.hid ((hb.block _ (lt_of_heap Gn.out)).trans Gn.out)
        replace Ga := Lib.hid ((hb.block _ (lt_of_heap Ga.out)).trans Ga.out)
        replace Gb := Lib.hid ((hb.block _ (lt_of_heap Gb.out)).trans Gb.out)
        clear hb
        go_wp2
        go_ret
        exact ⟨rfl, HB.out⟩
end Go.Proofs.Ytenkaobgoknlhaa
