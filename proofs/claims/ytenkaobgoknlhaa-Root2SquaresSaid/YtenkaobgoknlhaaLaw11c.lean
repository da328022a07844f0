/- THE WALK of the law that quotients come back. -/
import Derived.Test.YtenkaobgoknlhaaLaw11
import Derived.Test.YtenkaobgoknlhaaLoose3
import Derived.Test.YtenkaobgoknlhaaK8
namespace Go.Proofs.Ytenkaobgoknlhaa
open Go Go.RowKit

theorem of2_any (l h : Nat) (hl : l ≤ 18446744073709551615) (hh : h ≤ 18446744073709551615) (w : World) (g : Nat) (hg : w.heap[g]? = some (.cells #[.int .u64 (l : Int), .int .u64 (h : Int)] 24 (0, 0))) :
    Calls Try.prog 30 #[.slice (some ⟨g, 0, none⟩) 2 2] w (GivesBig (l + P2 64 * h) w) := by
  obtain ⟨h0, h1, h2⟩ := word_limbs h l hh hl
  refine of_any _ (l + P2 64 * h) 2 w (by decide) ⟨⟨_, 2, rfl, Nat.le_refl _, fun _ => ⟨g, 0, rfl, lt_of_heap hg, fun i hi => ?_⟩⟩, h2⟩
  rw [cell_row hg]
  match i, hi with
  | 0, _ => rw [h0]; rfl
  | 1, _ => rw [h1]; rfl
theorem word_lt (l h : Nat) (hl : l ≤ 18446744073709551615) (hh : h ≤ 18446744073709551615) : l + P2 64 * h < P2 128 := by
  rw [show 128 = 64 + 64 from rfl, P2_add, P2_64]
  omega

attribute [local go_sem ↓] Go.wp_at_zero Go.wp_at_succ
set_option maxRecDepth 100000 in
set_option maxHeartbeats 4000000 in
theorem radix2Back_any (qh ql dh0 dl rh rl : Nat) (w : World) (b1 : qh ≤ 18446744073709551615) (b2 : ql ≤ 18446744073709551615) (b3 : dh0 ≤ 18446744073709551615) (b4 : dl ≤ 18446744073709551615) (b5 : rh ≤ 18446744073709551615) (b6 : rl ≤ 18446744073709551615) :
    Calls Try.prog 15 #[.agg #[.int .u64 (qh : Int), .int .u64 (ql : Int)], .agg #[.int .u64 (dh0 : Int), .int .u64 (dl : Int)], .agg #[.int .u64 (rh : Int), .int .u64 (rl : Int)]] w fun e w' => e = .returned (.bool true) ∧ Below w.heap.size w w' := by
  obtain ⟨dh, hdh⟩ : ∃ x, x = dh0 % 72057594037927936 := ⟨_, rfl⟩
  have hm1 : Int.tmod (dh0 : Int) 72057594037927936 = (dh : Int) := by rw [Int.tmod_eq_emod_of_nonneg (by omega)]; omega
  have hm2 : IntKind.u64.wrap (dh : Int) = (dh : Int) := by rw [u64wrap]; omega
  have c1 : dh < 72057594037927936 := by omega
  have hX := word_lt ql qh b2 b1
  have hY : dl + P2 64 * dh < P2 120 := by
    rw [show 120 = 64 + 56 from rfl, P2_add, P2_64, show P2 56 = 72057594037927936 by rw [P2_eq]]
    omega
  have hZ := word_lt rl rh b6 b5
  have O1 := Lib.hid (fun w' g h => of2_any ql qh b2 b1 w' g h)
  have O2 := Lib.hid (fun w' g h => of2_any dl dh b4 (by omega) w' g h)
  have O3 := Lib.hid (fun w' g h => of2_any rl rh b6 b5 w' g h)
  have E1 := word_cells qh ql b1 b2
  have E2 := word_cells dh dl (by omega) b4
  have E3 := word_cells rh rl b5 b6
  obtain ⟨X, eX⟩ : ∃ x, x = ql + P2 64 * qh := ⟨_, rfl⟩
  obtain ⟨Y, eY⟩ : ∃ x, x = dl + P2 64 * dh := ⟨_, rfl⟩
  obtain ⟨Z, eZ⟩ : ∃ x, x = rl + P2 64 * rh := ⟨_, rfl⟩
  rw [← eX] at hX O1 E1
  rw [← eY] at hY O2 E2
  rw [← eZ] at hZ O3 E3
  have sm : ∀ {x e : Nat}, x < P2 e → e ≤ 1024 → x < BIG := fun h he => small_of h (by omega)
  have SA := Lib.hid (fun w' => awake11_any w')
  have SC := Lib.hid (fun v v2 w' h h' => cmp_any v v2 Z Y w' (sm hZ (by omega)) (sm hY (by omega)) h h')
  have HXM := Lib.hid hX; have HYM := Lib.hid hY; have HZM := Lib.hid hZ
  clear hX hY hZ eX eY eZ hdh b1 b2 b3 b4 b5 b6 c1 sm
  go_enter Try.func15, Try.ntmps15
  go_upto_region 2 with fail
  have HB := Lib.hid (Below.refl w.heap.size w)
  have Gq := Lib.hid (alloc_new (w) (.cells #[.int .u64 (qh : Int), .int .u64 (ql : Int)] 35))
  replace HB := Lib.hid (below_al HB.out (.cells #[.int .u64 (qh : Int), .int .u64 (ql : Int)] 35))
  replace Gq := Lib.hid (keepAl (o' := .cells #[.int .u64 (dh : Int), .int .u64 (dl : Int)] 35) Gq.out)
  have Gd := Lib.hid (alloc_new' (w := (w).alloc (.cells #[.int .u64 (qh : Int), .int .u64 (ql : Int)] 35)) (n := w.heap.size + 1) (.cells #[.int .u64 (dh : Int), .int .u64 (dl : Int)] 35) (by simp))
  replace HB := Lib.hid (below_al HB.out (.cells #[.int .u64 (dh : Int), .int .u64 (dl : Int)] 35))
  replace Gq := Lib.hid (keepAl (o' := .cells #[.int .u64 (rh : Int), .int .u64 (rl : Int)] 35) Gq.out)
  replace Gd := Lib.hid (keepAl (o' := .cells #[.int .u64 (rh : Int), .int .u64 (rl : Int)] 35) Gd.out)
  have Gr := Lib.hid (alloc_new' (w := ((w).alloc (.cells #[.int .u64 (qh : Int), .int .u64 (ql : Int)] 35)).alloc (.cells #[.int .u64 (dh : Int), .int .u64 (dl : Int)] 35)) (n := w.heap.size + 1 + 1) (.cells #[.int .u64 (rh : Int), .int .u64 (rl : Int)] 35) (by simp))
  replace HB := Lib.hid (below_al HB.out (.cells #[.int .u64 (rh : Int), .int .u64 (rl : Int)] 35))
  obtain ⟨wL, hw⟩ : ∃ wx, wx = (((w).alloc (.cells #[.int .u64 (qh : Int), .int .u64 (ql : Int)] 35)).alloc (.cells #[.int .u64 (dh : Int), .int .u64 (dl : Int)] 35)).alloc (.cells #[.int .u64 (rh : Int), .int .u64 (rl : Int)] 35) := ⟨_, rfl⟩
  rw [← hw] at Gq Gd Gr HB ⊢
  clear hw
  have xGq := ext_row (B := wL.heap.size) Gq.out (lt_of_heap Gq.out)
  have xGd := ext_row (B := wL.heap.size) Gd.out (lt_of_heap Gd.out)
  have xGr := ext_row (B := wL.heap.size) Gr.out (lt_of_heap Gr.out)
  apply wp_region_loose (looseR [_, _, _, _, _, _, _, _, _, _, _, _, _, _, _, _, _, _, _, _, _]) (pureL [])
  · kernel_rfl
  · kernel_rfl
  · kernel_rfl
  · exact allocs_ok [] rfl (by intro T hT; cases hT)
  · exact looseR_st _
  · change wpL _ _ _ _ _ _ _ 21 0 _ _
    refine wpL_calm wL rfl rfl rfl rfl (fun K hK K0 hK0 => ?_)
    go_simp
    first | refine hK _ _ rfl rfl ?_ | refine hK0 _ rfl ?_
    clear hK hK0 K K0
    refine wpL_calm wL rfl rfl rfl rfl (fun K hK K0 hK0 => ?_)
    go_simp
    first | refine hK _ _ rfl rfl ?_ | refine hK0 _ rfl ?_
    clear hK hK0 K K0
    refine wpL_calm wL rfl rfl rfl rfl (fun K hK K0 hK0 => ?_)
    go_simp
    first | refine hK _ _ rfl rfl ?_ | refine hK0 _ rfl ?_
    clear hK hK0 K K0
    refine wpL_calm wL rfl rfl rfl rfl (fun K hK K0 hK0 => ?_)
    go_simp
    first | refine hK _ _ rfl rfl ?_ | refine hK0 _ rfl ?_
    clear hK hK0 K K0
    refine wpL_row wL (fun g => .slice (some ⟨g, 0, none⟩) 2 2) (.cells #[.int .u64 (ql : Int), .int .u64 (qh : Int)] 24) (fun _ => rfl) rfl rfl rfl rfl rfl rfl (by rintro w' ⟨x, rfl⟩; go_simp) (fun g4 => ?_)
    refine wpL_call (Lft.big X) (big_some w _) rfl rfl rfl rfl rfl rfl (fun w' hC hF => ?_) (fun v5 hv5 => ?_)
    · obtain ⟨x, rfl⟩ := hC
      go_simp
      go_at_call 30
      exact gives_loose (O1.out _ g4 (hF 4 _ 23 rfl rfl rfl rfl (by decide)).2)
    refine wpL_calm wL rfl rfl rfl rfl (fun K hK K0 hK0 => ?_)
    go_simp
    first | refine hK _ _ rfl rfl ?_ | refine hK0 _ rfl ?_
    clear hK hK0 K K0
    refine wpL_calm wL rfl rfl rfl rfl (fun K hK K0 hK0 => ?_)
    go_simp
    first | refine hK _ _ rfl rfl ?_ | refine hK0 _ rfl ?_
    clear hK hK0 K K0
    refine wpL_calm wL rfl rfl rfl rfl (fun K hK K0 hK0 => ?_)
    go_simp
    first | refine hK _ _ rfl rfl ?_ | refine hK0 _ rfl ?_
    clear hK hK0 K K0
    refine wpL_calm wL rfl rfl rfl rfl (fun K hK K0 hK0 => ?_)
    go_simp
    first | refine hK _ _ rfl rfl ?_ | refine hK0 _ rfl ?_
    clear hK hK0 K K0
    refine wpL_row wL (fun g => .slice (some ⟨g, 0, none⟩) 2 2) (.cells #[.int .u64 (dl : Int), .int .u64 (dh : Int)] 24) (fun _ => rfl) rfl rfl rfl rfl rfl rfl (by rintro w' ⟨x, rfl⟩; go_simp) (fun g10 => ?_)
    refine wpL_call (Lft.big Y) (big_some w _) rfl rfl rfl rfl rfl rfl (fun w' hC hF => ?_) (fun v11 hv11 => ?_)
    · obtain ⟨x, rfl⟩ := hC
      go_simp
      go_at_call 30
      exact gives_loose (O2.out _ g10 (hF 10 _ 29 rfl rfl rfl rfl (by decide)).2)
    refine wpL_calm wL rfl rfl rfl rfl (fun K hK K0 hK0 => ?_)
    go_simp
    first | refine hK _ _ rfl rfl ?_ | refine hK0 _ rfl ?_
    clear hK hK0 K K0
    refine wpL_calm wL rfl rfl rfl rfl (fun K hK K0 hK0 => ?_)
    go_simp
    first | refine hK _ _ rfl rfl ?_ | refine hK0 _ rfl ?_
    clear hK hK0 K K0
    refine wpL_calm wL rfl rfl rfl rfl (fun K hK K0 hK0 => ?_)
    go_simp
    first | refine hK _ _ rfl rfl ?_ | refine hK0 _ rfl ?_
    clear hK hK0 K K0
    refine wpL_calm wL rfl rfl rfl rfl (fun K hK K0 hK0 => ?_)
    go_simp
    first | refine hK _ _ rfl rfl ?_ | refine hK0 _ rfl ?_
    clear hK hK0 K K0
    refine wpL_row wL (fun g => .slice (some ⟨g, 0, none⟩) 2 2) (.cells #[.int .u64 (rl : Int), .int .u64 (rh : Int)] 24) (fun _ => rfl) rfl rfl rfl rfl rfl rfl (by rintro w' ⟨x, rfl⟩; go_simp) (fun g16 => ?_)
    refine wpL_call (Lft.big Z) (big_some w _) rfl rfl rfl rfl rfl rfl (fun w' hC hF => ?_) (fun v17 hv17 => ?_)
    · obtain ⟨x, rfl⟩ := hC
      go_simp
      go_at_call 30
      exact gives_loose (O3.out _ g16 (hF 16 _ 35 rfl rfl rfl rfl (by decide)).2)
    refine wpL_call (Lft.big X) (big_some wL _) rfl rfl rfl rfl rfl rfl (fun w' hC hF => ?_) (fun v18 hv18 => ?_)
    · obtain ⟨x, rfl⟩ := hC
      have hf := hF 5 _ 24 rfl rfl rfl rfl (by decide)
      go_simp
      exact ⟨Below.refl _ _, hf⟩
    refine wpL_call (Lft.big Y) (big_some wL _) rfl rfl rfl rfl rfl rfl (fun w' hC hF => ?_) (fun v19 hv19 => ?_)
    · obtain ⟨x, rfl⟩ := hC
      have hf := hF 11 _ 30 rfl rfl rfl rfl (by decide)
      go_simp
      exact ⟨Below.refl _ _, hf⟩
    refine wpL_call (Lft.big Z) (big_some wL _) rfl rfl rfl rfl rfl rfl (fun w' hC hF => ?_) (fun v20 hv20 => ?_)
    · obtain ⟨x, rfl⟩ := hC
      have hf := hF 17 _ 36 rfl rfl rfl rfl (by decide)
      go_simp
      exact ⟨Below.refl _ _, hf⟩
    refine wpL_nil (endL [] rfl (by intro q hq; cases hq) (fun w1 hb hst hap hfin => ?_))
    have Rx : Hid (IsBig w1 v18 X) := Lib.hid (hfin rfl 18 _ 7 rfl rfl rfl rfl)
    have Ry : Hid (IsBig w1 v19 Y) := Lib.hid (hfin rfl 19 _ 8 rfl rfl rfl rfl)
    have Rz : Hid (IsBig w1 v20 Z) := Lib.hid (hfin rfl 20 _ 9 rfl rfl rfl rfl)
    replace HB := Lib.hid (below_then HB.out hb)
    replace Gq := Lib.hid ((hb.block _ (lt_of_heap Gq.out)).trans Gq.out)
    replace Gd := Lib.hid ((hb.block _ (lt_of_heap Gd.out)).trans Gd.out)
    replace Gr := Lib.hid ((hb.block _ (lt_of_heap Gr.out)).trans Gr.out)
    clear hb hst hap hfin xGq xGd xGr
    rcases Nat.lt_or_ge Z Y with hzy | hzy
    · have e0 := cmpN_lt hzy
      rw [e0] at SC
      obtain ⟨m1, m2, m3, m4⟩ := back_ok HXM.out HYM.out hzy
      have big : ∀ {x : Nat}, x < M → x < BIG := fun h => small_M h
      have hXB : X < BIG := small_of HXM.out (by omega)
      have hYB : Y < BIG := small_of HYM.out (by omega)
      have hYM : Y < M := by rw [M_eq]; exact Nat.lt_of_lt_of_le HYM.out (P2_le (by omega))
      have hXY : X * Y < BIG := big (by omega)
      have T1 := Lib.hid (fun v v2 w' h h' => mul_any v v2 X Y w' hXB hYB h h')
      have T2 := Lib.hid (fun v v2 w' h h' => add_any v v2 (X * Y) Z w' hXY (small_of HZM.out (by omega)) h h')
      have T3 := Lib.hid (fun v w' h => wide_any v (X * Y + Z) w' (big m4) h)
      rw [Nat.mod_eq_of_lt m4] at T3
      have T4 := Lib.hid (fun w' => divide_w (X * Y + Z) Y m4 hYM w')
      rw [(dv_yes m1).1, (dv_yes m1).2, m2, m3, m1] at T4
      obtain ⟨N, hN⟩ : ∃ N, N = X * Y + Z := ⟨_, rfl⟩
      rw [← hN] at T2 T3 T4
      obtain ⟨p, hp⟩ : ∃ N, N = X * Y := ⟨_, rfl⟩
      rw [← hp] at T1 T2
      obtain ⟨f, hf⟩ : ∃ f, f = decide (M ≤ N) := ⟨_, rfl⟩
      rw [← hf] at T3
      clear e0 hzy m1 m2 m3 m4 big hXB hYB hYM hXY hN hp hf O1 O2 O3
      have cGq := cell_row Gq.out
      have cGd := cell_row Gd.out
      have cGr := cell_row Gr.out
      go_wp2_with fail
      refine (SC.out _ _ _ Rz.out Ry.out).mono ?_
      rintro e w2 ⟨rfl, hb⟩
      clear cGq cGd cGr
      replace HB := Lib.hid (below_then HB.out hb)
      replace Gq := Lib.hid ((hb.block _ (lt_of_heap Gq.out)).trans Gq.out)
      replace Gd := Lib.hid ((hb.block _ (lt_of_heap Gd.out)).trans Gd.out)
      replace Gr := Lib.hid ((hb.block _ (lt_of_heap Gr.out)).trans Gr.out)
      replace Rx := Lib.hid (Rx.out.below hb)
      replace Ry := Lib.hid (Ry.out.below hb)
      replace Rz := Lib.hid (Rz.out.below hb)
      clear hb
      have cGq := cell_row Gq.out
      have cGd := cell_row Gd.out
      have cGr := cell_row Gr.out
      go_wp2_with fail
      refine (T1.out _ _ _ Rx.out Ry.out).mono ?_
      rintro e w3 ⟨rp, rfl, hr, hb⟩
      clear cGq cGd cGr
      replace HB := Lib.hid (below_then HB.out hb)
      replace Gq := Lib.hid ((hb.block _ (lt_of_heap Gq.out)).trans Gq.out)
      replace Gd := Lib.hid ((hb.block _ (lt_of_heap Gd.out)).trans Gd.out)
      replace Gr := Lib.hid ((hb.block _ (lt_of_heap Gr.out)).trans Gr.out)
      replace Rx := Lib.hid (Rx.out.below hb)
      replace Ry := Lib.hid (Ry.out.below hb)
      replace Rz := Lib.hid (Rz.out.below hb)
      have Rp := Lib.hid hr
      clear hr hb
      have cGq := cell_row Gq.out
      have cGd := cell_row Gd.out
      have cGr := cell_row Gr.out
      go_wp2_with fail
      refine (T2.out _ _ _ Rp.out Rz.out).mono ?_
      rintro e w4 ⟨rs, rfl, hr, hb⟩
      clear cGq cGd cGr
      replace HB := Lib.hid (below_then HB.out hb)
      replace Gq := Lib.hid ((hb.block _ (lt_of_heap Gq.out)).trans Gq.out)
      replace Gd := Lib.hid ((hb.block _ (lt_of_heap Gd.out)).trans Gd.out)
      replace Gr := Lib.hid ((hb.block _ (lt_of_heap Gr.out)).trans Gr.out)
      replace Rx := Lib.hid (Rx.out.below hb)
      replace Ry := Lib.hid (Ry.out.below hb)
      replace Rz := Lib.hid (Rz.out.below hb)
      replace Rp := Lib.hid (Rp.out.below hb)
      have Rs := Lib.hid hr
      clear hr hb
      have cGq := cell_row Gq.out
      have cGd := cell_row Gd.out
      have cGr := cell_row Gr.out
      go_wp2_with fail
      refine (T3.out _ _ Rs.out).mono ?_
      rintro e w5 ⟨rfl, hb⟩
      clear cGq cGd cGr
      replace HB := Lib.hid (below_then HB.out hb)
      replace Gq := Lib.hid ((hb.block _ (lt_of_heap Gq.out)).trans Gq.out)
      replace Gd := Lib.hid ((hb.block _ (lt_of_heap Gd.out)).trans Gd.out)
      replace Gr := Lib.hid ((hb.block _ (lt_of_heap Gr.out)).trans Gr.out)
      replace Rx := Lib.hid (Rx.out.below hb)
      replace Ry := Lib.hid (Ry.out.below hb)
      replace Rz := Lib.hid (Rz.out.below hb)
      replace Rp := Lib.hid (Rp.out.below hb)
      replace Rs := Lib.hid (Rs.out.below hb)
      clear hb
      replace Gq := Lib.hid (keepAl (o' := .cells (wcells N) 26) Gq.out)
      replace Gd := Lib.hid (keepAl (o' := .cells (wcells N) 26) Gd.out)
      replace Gr := Lib.hid (keepAl (o' := .cells (wcells N) 26) Gr.out)
      have Gn := Lib.hid (alloc_new (w5) (.cells (wcells N) 26))
      replace HB := Lib.hid (below_al HB.out (.cells (wcells N) 26))
      have cGq := cell_row Gq.out
      have cGd := cell_row Gd.out
      have cGr := cell_row Gr.out
      have cGn := cell_row Gn.out
      go_wp2_with fail
      refine (T4.out _).mono ?_
      rintro e w6 ⟨rfl, hb⟩
      clear cGq cGd cGr cGn
      replace HB := Lib.hid (below_then HB.out hb)
      replace Gq := Lib.hid ((hb.block _ (lt_of_heap Gq.out)).trans Gq.out)
      replace Gd := Lib.hid ((hb.block _ (lt_of_heap Gd.out)).trans Gd.out)
      replace Gr := Lib.hid ((hb.block _ (lt_of_heap Gr.out)).trans Gr.out)
      replace Gn := Lib.hid ((hb.block _ (lt_of_heap Gn.out)).trans Gn.out)
      clear hb
      replace Gq := Lib.hid (keepAl (o' := .cells (wcells X) 26) Gq.out)
      replace Gd := Lib.hid (keepAl (o' := .cells (wcells X) 26) Gd.out)
      replace Gr := Lib.hid (keepAl (o' := .cells (wcells X) 26) Gr.out)
      replace Gn := Lib.hid (keepAl (o' := .cells (wcells X) 26) Gn.out)
      have Ga := Lib.hid (alloc_new (w6) (.cells (wcells X) 26))
      replace HB := Lib.hid (below_al HB.out (.cells (wcells X) 26))
      replace Gq := Lib.hid (keepAl (o' := .cells (wcells Z) 26) Gq.out)
      replace Gd := Lib.hid (keepAl (o' := .cells (wcells Z) 26) Gd.out)
      replace Gr := Lib.hid (keepAl (o' := .cells (wcells Z) 26) Gr.out)
      replace Gn := Lib.hid (keepAl (o' := .cells (wcells Z) 26) Gn.out)
      replace Ga := Lib.hid (keepAl (o' := .cells (wcells Z) 26) Ga.out)
      have Gb := Lib.hid (alloc_new' (w := (w6).alloc (.cells (wcells X) 26)) (n := w6.heap.size + 1) (.cells (wcells Z) 26) (by simp))
      replace HB := Lib.hid (below_al HB.out (.cells (wcells Z) 26))
      have cGq := cell_row Gq.out
      have cGd := cell_row Gd.out
      have cGr := cell_row Gr.out
      have cGn := cell_row Gn.out
      have cGa := cell_row Ga.out
      have cGb := cell_row Gb.out
      go_wp2_with fail
      refine (SA.out _).mono ?_
      rintro e w7 ⟨rfl, hb⟩
      clear cGq cGd cGr cGn cGa cGb
      replace HB := Lib.hid (below_then HB.out hb)
      replace Gq := Lib.hid ((hb.block _ (lt_of_heap Gq.out)).trans Gq.out)
      replace Gd := Lib.hid ((hb.block _ (lt_of_heap Gd.out)).trans Gd.out)
      replace Gr := Lib.hid ((hb.block _ (lt_of_heap Gr.out)).trans Gr.out)
      replace Gn := Lib.hid ((hb.block _ (lt_of_heap Gn.out)).trans Gn.out)
      replace Ga := Lib.hid ((hb.block _ (lt_of_heap Ga.out)).trans Ga.out)
      replace Gb := Lib.hid ((hb.block _ (lt_of_heap Gb.out)).trans Gb.out)
      clear hb
      have cGq := cell_row Gq.out
      have cGd := cell_row Gd.out
      have cGr := cell_row Gr.out
      have cGn := cell_row Gn.out
      have cGa := cell_row Ga.out
      have cGb := cell_row Gb.out
      go_wp2
      go_ret
      exact ⟨rfl, HB.out⟩
    · have e0 : 0 ≤ cmpN Z Y := by unfold cmpN; split <;> (try split) <;> omega
      obtain ⟨C, hC⟩ : ∃ C, C = cmpN Z Y := ⟨_, rfl⟩
      rw [← hC] at SC e0
      clear hC hzy
      have cGq := cell_row Gq.out
      have cGd := cell_row Gd.out
      have cGr := cell_row Gr.out
      go_wp2_with fail
      refine (SC.out _ _ _ Rz.out Ry.out).mono ?_
      rintro e w8 ⟨rfl, hb⟩
      clear cGq cGd cGr
      replace HB := Lib.hid (below_then HB.out hb)
      replace Gq := Lib.hid ((hb.block _ (lt_of_heap Gq.out)).trans Gq.out)
      replace Gd := Lib.hid ((hb.block _ (lt_of_heap Gd.out)).trans Gd.out)
      replace Gr := Lib.hid ((hb.block _ (lt_of_heap Gr.out)).trans Gr.out)
      replace Rx := Lib.hid (Rx.out.below hb)
      replace Ry := Lib.hid (Ry.out.below hb)
      replace Rz := Lib.hid (Rz.out.below hb)
      clear hb
      have cGq := cell_row Gq.out
      have cGd := cell_row Gd.out
      have cGr := cell_row Gr.out
      go_wp2_with fail
      refine (SA.out _).mono ?_
      rintro e w9 ⟨rfl, hb⟩
      clear cGq cGd cGr
      replace HB := Lib.hid (below_then HB.out hb)
      replace Gq := Lib.hid ((hb.block _ (lt_of_heap Gq.out)).trans Gq.out)
      replace Gd := Lib.hid ((hb.block _ (lt_of_heap Gd.out)).trans Gd.out)
      replace Gr := Lib.hid ((hb.block _ (lt_of_heap Gr.out)).trans Gr.out)
      replace Rx := Lib.hid (Rx.out.below hb)
      replace Ry := Lib.hid (Ry.out.below hb)
      replace Rz := Lib.hid (Rz.out.below hb)
      clear hb
      have cGq := cell_row Gq.out
      have cGd := cell_row Gd.out
      have cGr := cell_row Gr.out
      go_wp2
      go_ret
      exact ⟨rfl, HB.out⟩
end Go.Proofs.Ytenkaobgoknlhaa
