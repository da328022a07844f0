/- THE WALK of the law on a digit further. -/
import Derived.Test.YtkkjbkadaofjpaaLaw13
import Derived.Laws.StructEq
namespace Go.Proofs.Ytkkjbkadaofjpaa
open Go Go.RowKit

theorem part_q (a b : Nat) (w : World) : (part 31 (fc a b) 0).run Try.prog w = .ok (wv a) w := by kernel_rfl
theorem part_l (a b : Nat) (w : World) : (part 31 (fc a b) 8).run Try.prog w = .ok (wv b) w := by kernel_rfl
theorem eq_wideF (a b : Nat) (w : World) : (Op.equalIn 9999 31 (.agg (wcells a)) (.agg (wcells b))).run Try.prog w = .ok (decide (a % M = b % M)) w := by
  rw [run_eq_ints (d := 9997) Try.underlying31 Try.underlying24 (by kernel_rfl) _ _ (fun i => (limb a i : Nat)) (fun i => (limb b i : Nat)) (fun i hi => wcells_get a i hi) (fun i hi => wcells_get b i hi)]
  congr 1
  exact decide_eq_decide.2 (same_wide a b)
@[go_sem high] theorem eq_state (a b c d : Nat) (w : World) : (Op.equalIn 10000 42 (.agg (fc a b)) (.agg (fc c d))).run Try.prog w = .ok (decide (a % M = c % M) && decide (b % M = d % M)) w := by
  rw [show (10000 : Nat) = 9999 + 1 from rfl, run_equalIn_struct w 9999 42 _ _ (by kernel_rfl) (by kernel_rfl)]
  simp only [Program.fieldsOf, Try.underlying42]
  obtain ⟨x, hx⟩ : ∃ x, x = decide (a % M = c % M) := ⟨_, rfl⟩
  obtain ⟨y, hy⟩ : ∃ x, x = decide (b % M = d % M) := ⟨_, rfl⟩
  have e1 := eq_wideF a c w
  have e2 := eq_wideF b d w
  rw [← hx] at e1 ⊢
  rw [← hy] at e2 ⊢
  cases x <;> cases y <;> simp [Op.eqFields, Sem.run_bind, part_q, part_l, e1, e2]
attribute [local go_sem ↓] Go.wp_at_zero Go.wp_at_succ
set_option maxRecDepth 100000 in
set_option maxHeartbeats 2000000 in
theorem flyNext_pos (q : Nat) (d : Int) (w : World) (hq : q < M) (hd : isDig d = true) (h0 : 0 < d) :
    Calls Try.prog 5 #[wv q, .int .i64 d] w fun e w' => e = .returned (.bool true) ∧ Below w.heap.size w w' := by
  have SA := Lib.hid (fun w' => awake13_any w')
  have SI := Lib.hid (fun w' => is13_any d w')
  have hM1 : (1 : Nat) < M := lit_ltM _ (by decide)
  have hqB := small_M hq
  have h1B := small_M hM1
  have S0 := Lib.hid (fun w' => small_any 1 w' (by omega))
  have S1 := Lib.hid (fun w' => new_w q hq w')
  rw [toW_sub q 1 hq hM1] at S1
  have S2 := Lib.hid (fun w' => big_any q hq w')
  have S3 := Lib.hid (fun va vb w' h h' => rwide13_any va vb q 1 w' hqB h1B h h')
  obtain ⟨L, hL⟩ : ∃ x, x = toW ((q : Int) - ((1 : Nat) : Int)) := ⟨_, rfl⟩
  rw [← hL] at S1 S3
  rw [hd] at SI
  obtain ⟨z1, z2⟩ := isDig_iff.1 hd
  have S4 := Lib.hid (fun w' => next_w (q : Int) d hd w')
  rw [toW_nat hq, show toW ((q : Int) - 1) = L from hL.symm] at S4
  have h4 : q * P2 2 < P2 514 := by rw [show 514 = 512 + 2 from rfl, P2_add, ← M_eq]; exact Nat.mul_lt_mul_of_pos_right hq (P2_pos 2)
  have hB0 : ∀ x, x < P2 515 → x < BIG := fun x h => small_of h (by omega)
  have h515 : P2 515 = P2 514 * 2 := P2_twice 514
  have h515' : 16 ≤ P2 514 := by rw [show (16 : Nat) = P2 4 by rw [P2_eq]]; exact P2_le (by omega)
  have S5 := Lib.hid (fun v w' h => rshl_any v q 2 w' hqB (by omega) h)
  have e4 : ((q * P2 2 : Nat) : Int) = 4 * (q : Int) := by rw [P2_2]; omega
  obtain ⟨D, rfl⟩ := Int.eq_ofNat_of_zero_le (show 0 ≤ d by omega)
  have S6 := Lib.hid (fun w' => small_any D w' (by omega))
  have S7 := Lib.hid (fun v v2 w' h h' => add_any v v2 (q * P2 2) D w' (hB0 _ (by omega)) (hB0 _ (by omega)) h h')
  have S8 := Lib.hid (fun v v2 w' h h' => add_any v v2 0 1 w' (hB0 _ (by omega)) (hB0 _ (by omega)) h h')
  have W1 := Lib.hid (fun v v2 w' h h' => rwide13_any v v2 (q * P2 2 + D) 0 w' (hB0 _ (by omega)) (hB0 _ (by omega)) h h')
  have W2 := Lib.hid (fun v v2 w' h h' => rwide13_any v v2 (q * P2 2 + D) (0 + 1) w' (hB0 _ (by omega)) (hB0 _ (by omega)) h h')
  rw [show ((q * P2 2 + D : Nat) : Int) - ((0 : Nat) : Int) = 4 * (q : Int) + (D : Int) by omega] at W1
  rw [show ((q * P2 2 + D : Nat) : Int) - ((0 + 1 : Nat) : Int) = 4 * (q : Int) + (D : Int) - 1 by omega] at W2
  obtain ⟨A, hA⟩ : ∃ x, x = toW (4 * (q : Int) + (D : Int)) := ⟨_, rfl⟩
  obtain ⟨B, hB⟩ : ∃ x, x = toW (4 * (q : Int) + (D : Int) - 1) := ⟨_, rfl⟩
  rw [← hA] at S4 W1
  rw [← hB] at S4 W2
  obtain ⟨q4, hq4⟩ : ∃ x, x = q * P2 2 := ⟨_, rfl⟩
  rw [← hq4] at S5 S7 W1 W2
  obtain ⟨X, hX⟩ : ∃ x, x = q4 + D := ⟨_, rfl⟩
  rw [← hX] at S7 W1 W2
  have hw : IntKind.u64.wrap (D : Int) = (D : Int) := by rw [u64wrap]; omega
  have e0 : (0 : Int) < (D : Int) := h0
  clear hd hq hM1 hqB h1B hL z1 z2 h4 hB0 h515 h515' e4 hA hB hq4 hX h0
  go_enter Try.func5, Try.ntmps5
  have HB := Lib.hid (Below.refl w.heap.size w)
  have Gq := Lib.hid (alloc_new (w) (.cells (wcells q) 31))
  replace HB := Lib.hid (below_al HB.out (.cells (wcells q) 31))
  have cGq := cell_row Gq.out
  go_wp2_with fail
  refine (S0.out _).mono ?_
  rintro e w1 ⟨ro, rfl, hr, hb⟩
  clear cGq
  replace HB := Lib.hid (below_then HB.out hb)
  replace Gq := Lib.hid ((hb.block _ (lt_of_heap Gq.out)).trans Gq.out)
  have Ro := Lib.hid hr
  clear hr hb
  have cGq := cell_row Gq.out
  go_wp2_with fail
  refine (S1.out _).mono ?_
  rintro e w2 ⟨rfl, hb⟩
  clear cGq
  replace HB := Lib.hid (below_then HB.out hb)
  replace Gq := Lib.hid ((hb.block _ (lt_of_heap Gq.out)).trans Gq.out)
  replace Ro := Lib.hid (Ro.out.below hb)
  clear hb
  replace Gq := Lib.hid (keepAl (o' := .cells (fc q L) 42) Gq.out)
  replace Ro := Lib.hid (Ro.out.below (below_al (Below.refl (w2).heap.size (w2)) (.cells (fc q L) 42)))
  have Gs := Lib.hid (alloc_new (w2) (.cells (fc q L) 42))
  replace HB := Lib.hid (below_al HB.out (.cells (fc q L) 42))
  go_upto_region 3 with fail
  obtain ⟨wL, hw⟩ : ∃ wx, wx = (w2).alloc (.cells (fc q L) 42) := ⟨_, rfl⟩
  rw [← hw] at Gq Ro Gs HB ⊢
  clear hw
  have xGq := ext_row (B := wL.heap.size) Gq.out (lt_of_heap Gq.out)
  have xGs := ext_row (B := wL.heap.size) Gs.out (lt_of_heap Gs.out)
  apply wp_region_loose (looseR [_, _, _, _, _, _, _, _, _, _, _, _, _]) (pureL [])
  · kernel_rfl
  · kernel_rfl
  · kernel_rfl
  · exact allocs_ok [] rfl (by intro T hT; cases hT)
  · exact looseR_st _
  · change wpL _ _ _ _ _ _ _ 13 0 _ _
    refine wpL_calm wL rfl rfl rfl rfl (fun K hK K0 hK0 => ?_)
    go_simp
    first | refine hK _ _ rfl rfl ?_ | refine hK0 _ rfl ?_
    clear hK hK0 K K0
    refine wpL_calm wL rfl rfl rfl rfl (fun K hK K0 hK0 => ?_)
    go_simp
    first | refine hK _ _ rfl rfl ?_ | refine hK0 _ rfl ?_
    clear hK hK0 K K0
    refine wpL_calm wL rfl rfl rfl rfl (fun K hK K0 hK0 => ?_)
    go_simp
    first | refine hK _ _ rfl rfl ?_ | refine hK0 _ rfl ?_
    clear hK hK0 K K0
    refine wpL_calm wL rfl rfl rfl rfl (fun K hK K0 hK0 => ?_)
    go_simp
    first | refine hK _ _ rfl rfl ?_ | refine hK0 _ rfl ?_
    clear hK hK0 K K0
    refine wpL_calm wL rfl rfl rfl rfl (fun K hK K0 hK0 => ?_)
    go_simp
    first | refine hK _ _ rfl rfl ?_ | refine hK0 _ rfl ?_
    clear hK hK0 K K0
    refine wpL_calm wL rfl rfl rfl rfl (fun K hK K0 hK0 => ?_)
    go_simp
    first | refine hK _ _ rfl rfl ?_ | refine hK0 _ rfl ?_
    clear hK hK0 K K0
    refine wpL_calm wL rfl rfl rfl rfl (fun K hK K0 hK0 => ?_)
    go_simp
    first | refine hK _ _ rfl rfl ?_ | refine hK0 _ rfl ?_
    clear hK hK0 K K0
    refine wpL_calm wL rfl rfl rfl rfl (fun K hK K0 hK0 => ?_)
    go_simp
    first | refine hK _ _ rfl rfl ?_ | refine hK0 _ rfl ?_
    clear hK hK0 K K0
    refine wpL_call (Lft.big q) (big_some w _) rfl rfl rfl rfl (by first | rfl | go_simp) rfl (fun w' hC hF => ?_) (fun v8 hv8 => ?_)
    · obtain ⟨x, rfl⟩ := hC
      go_simp
      go_at_call 33
      exact gives_loose (S2.out _)
    refine wpL_calm wL rfl rfl rfl rfl (fun K hK K0 hK0 => ?_)
    go_simp
    first | refine hK _ _ rfl rfl ?_ | refine hK0 _ rfl ?_
    clear hK hK0 K K0
    refine wpL_call (Lft.val (wv L)) (val_some wL _) rfl rfl rfl rfl (by first | rfl | go_simp) rfl (fun w' hC hF => ?_) (fun v10 hv10 => ?_)
    · obtain ⟨x, rfl⟩ := hC
      go_simp
      go_at_call 30
      exact val_loose (S3.out _ _ _ (hF 8 _ 22 rfl rfl rfl rfl (by decide)) (ext_bigB Ro.out (Below.refl _ _) x))
    obtain ⟨_, rfl⟩ := hv10
    refine wpL_calm wL rfl rfl rfl rfl (fun K hK K0 hK0 => ?_)
    go_simp
    first | refine hK _ _ rfl rfl ?_ | refine hK0 _ rfl ?_
    clear hK hK0 K K0
    refine wpL_calm wL rfl rfl rfl rfl (fun K hK K0 hK0 => ?_)
    go_simp
    first | refine hK _ _ rfl rfl ?_ | refine hK0 _ rfl ?_
    clear hK hK0 K K0
    refine wpL_nil (endL [] rfl (by intro q hq; cases hq) (fun w3 hb hst hap hfin => ?_))
    replace HB := Lib.hid (below_then HB.out hb)
    replace Gq := Lib.hid ((hb.block _ (lt_of_heap Gq.out)).trans Gq.out)
    replace Ro := Lib.hid (Ro.out.below hb)
    replace Gs := Lib.hid ((hb.block _ (lt_of_heap Gs.out)).trans Gs.out)
    clear hb hst hap hfin xGq xGs
    have cGq := cell_row Gq.out
    have cGs := cell_row Gs.out
    go_wp2_with fail
    refine (S4.out _).mono ?_
    rintro e w4 ⟨rfl, hb⟩
    clear cGq cGs
    replace HB := Lib.hid (below_then HB.out hb)
    replace Gq := Lib.hid ((hb.block _ (lt_of_heap Gq.out)).trans Gq.out)
    replace Ro := Lib.hid (Ro.out.below hb)
    replace Gs := Lib.hid ((hb.block _ (lt_of_heap Gs.out)).trans Gs.out)
    clear hb
    replace Gq := Lib.hid (keepAl (o' := .cells (fc A B) 42) Gq.out)
    replace Ro := Lib.hid (Ro.out.below (below_al (Below.refl (w4).heap.size (w4)) (.cells (fc A B) 42)))
    replace Gs := Lib.hid (keepAl (o' := .cells (fc A B) 42) Gs.out)
    have Gt := Lib.hid (alloc_new (w4) (.cells (fc A B) 42))
    replace HB := Lib.hid (below_al HB.out (.cells (fc A B) 42))
    have cGq := cell_row Gq.out
    have cGs := cell_row Gs.out
    have cGt := cell_row Gt.out
    go_wp2_with fail
    refine (SI.out _).mono ?_
    rintro e w5 ⟨rfl, hb⟩
    clear cGq cGs cGt
    replace HB := Lib.hid (below_then HB.out hb)
    replace Gq := Lib.hid ((hb.block _ (lt_of_heap Gq.out)).trans Gq.out)
    replace Ro := Lib.hid (Ro.out.below hb)
    replace Gs := Lib.hid ((hb.block _ (lt_of_heap Gs.out)).trans Gs.out)
    replace Gt := Lib.hid ((hb.block _ (lt_of_heap Gt.out)).trans Gt.out)
    clear hb
    have cGq := cell_row Gq.out
    have cGs := cell_row Gs.out
    have cGt := cell_row Gt.out
    go_wp2_with fail
    refine (S2.out _).mono ?_
    rintro e w6 ⟨ra, rfl, hr, hb⟩
    clear cGq cGs cGt
    replace HB := Lib.hid (below_then HB.out hb)
    replace Gq := Lib.hid ((hb.block _ (lt_of_heap Gq.out)).trans Gq.out)
    replace Ro := Lib.hid (Ro.out.below hb)
    replace Gs := Lib.hid ((hb.block _ (lt_of_heap Gs.out)).trans Gs.out)
    replace Gt := Lib.hid ((hb.block _ (lt_of_heap Gt.out)).trans Gt.out)
    have Ra := Lib.hid hr
    clear hr hb
    have cGq := cell_row Gq.out
    have cGs := cell_row Gs.out
    have cGt := cell_row Gt.out
    go_wp2_with fail
    refine (S5.out _ _ Ra.out).mono ?_
    rintro e w7 ⟨rx, rfl, hr, hb⟩
    clear cGq cGs cGt
    replace HB := Lib.hid (below_then HB.out hb)
    replace Gq := Lib.hid ((hb.block _ (lt_of_heap Gq.out)).trans Gq.out)
    replace Ro := Lib.hid (Ro.out.below hb)
    replace Gs := Lib.hid ((hb.block _ (lt_of_heap Gs.out)).trans Gs.out)
    replace Gt := Lib.hid ((hb.block _ (lt_of_heap Gt.out)).trans Gt.out)
    replace Ra := Lib.hid (Ra.out.below hb)
    have Rx := Lib.hid hr
    clear hr hb
    replace Gq := Lib.hid (keepAl (o' := .cells #[] 109) Gq.out)
    replace Ro := Lib.hid (Ro.out.below (below_al (Below.refl (w7).heap.size (w7)) (.cells #[] 109)))
    replace Gs := Lib.hid (keepAl (o' := .cells #[] 109) Gs.out)
    replace Gt := Lib.hid (keepAl (o' := .cells #[] 109) Gt.out)
    replace Ra := Lib.hid (Ra.out.below (below_al (Below.refl (w7).heap.size (w7)) (.cells #[] 109)))
    replace Rx := Lib.hid (Rx.out.below (below_al (Below.refl (w7).heap.size (w7)) (.cells #[] 109)))
    have Ge := Lib.hid (alloc_new (w7) (.cells #[] 109))
    replace HB := Lib.hid (below_al HB.out (.cells #[] 109))
    have Ry : Hid (IsBig ((w7).alloc (.cells #[] 109)) (.slice (some ⟨w7.heap.size, 0, none⟩) 0 0) 0) := Lib.hid (isBig_nil _ _ _)
    have cGq := cell_row Gq.out
    have cGs := cell_row Gs.out
    have cGt := cell_row Gt.out
    go_wp2_with fail
    refine (S6.out _).mono ?_
    rintro e w8 ⟨rd, rfl, hr, hb⟩
    clear cGq cGs cGt
    replace HB := Lib.hid (below_then HB.out hb)
    replace Gq := Lib.hid ((hb.block _ (lt_of_heap Gq.out)).trans Gq.out)
    replace Ro := Lib.hid (Ro.out.below hb)
    replace Gs := Lib.hid ((hb.block _ (lt_of_heap Gs.out)).trans Gs.out)
    replace Gt := Lib.hid ((hb.block _ (lt_of_heap Gt.out)).trans Gt.out)
    replace Ra := Lib.hid (Ra.out.below hb)
    replace Rx := Lib.hid (Rx.out.below hb)
    replace Ry := Lib.hid (Ry.out.below hb)
    have Rd := Lib.hid hr
    clear hr hb
    have cGq := cell_row Gq.out
    have cGs := cell_row Gs.out
    have cGt := cell_row Gt.out
    go_wp2_with fail
    refine (S7.out _ _ _ Rx.out Rd.out).mono ?_
    rintro e w9 ⟨rz, rfl, hr, hb⟩
    clear cGq cGs cGt
    replace HB := Lib.hid (below_then HB.out hb)
    replace Gq := Lib.hid ((hb.block _ (lt_of_heap Gq.out)).trans Gq.out)
    replace Ro := Lib.hid (Ro.out.below hb)
    replace Gs := Lib.hid ((hb.block _ (lt_of_heap Gs.out)).trans Gs.out)
    replace Gt := Lib.hid ((hb.block _ (lt_of_heap Gt.out)).trans Gt.out)
    replace Ra := Lib.hid (Ra.out.below hb)
    replace Rx := Lib.hid (Rx.out.below hb)
    replace Ry := Lib.hid (Ry.out.below hb)
    replace Rd := Lib.hid (Rd.out.below hb)
    have Rz := Lib.hid hr
    clear hr hb
    go_upto_region 12 with fail
    obtain ⟨wT, hw⟩ : ∃ wx, wx = w9 := ⟨_, rfl⟩
    rw [← hw] at Gq Ro Gs Gt Ry Rz HB ⊢
    clear hw
    have xGq := ext_row (B := wT.heap.size) Gq.out (lt_of_heap Gq.out)
    have xGs := ext_row (B := wT.heap.size) Gs.out (lt_of_heap Gs.out)
    have xGt := ext_row (B := wT.heap.size) Gt.out (lt_of_heap Gt.out)
    apply wp_region_loose (looseR [_, _, _, _, _, _, _, _, _, _, _, _, _, _, _, _, _, _, _, _, _, _, _]) (pureL [])
    · kernel_rfl
    · kernel_rfl
    · kernel_rfl
    · exact allocs_ok [] rfl (by intro T hT; cases hT)
    · exact looseR_st _
    · change wpL _ _ _ _ _ _ _ 23 0 _ _
      refine wpL_calm wT rfl rfl rfl rfl (fun K hK K0 hK0 => ?_)
      go_simp
      first | refine hK _ _ rfl rfl ?_ | refine hK0 _ rfl ?_
      clear hK hK0 K K0
      refine wpL_calm wT rfl rfl rfl rfl (fun K hK K0 hK0 => ?_)
      go_simp
      first | refine hK _ _ rfl rfl ?_ | refine hK0 _ rfl ?_
      clear hK hK0 K K0
      refine wpL_calm wT rfl rfl rfl rfl (fun K hK K0 hK0 => ?_)
      go_simp
      first | refine hK _ _ rfl rfl ?_ | refine hK0 _ rfl ?_
      clear hK hK0 K K0
      refine wpL_calm wT rfl rfl rfl rfl (fun K hK K0 hK0 => ?_)
      go_simp
      first | refine hK _ _ rfl rfl ?_ | refine hK0 _ rfl ?_
      clear hK hK0 K K0
      refine wpL_calm wT rfl rfl rfl rfl (fun K hK K0 hK0 => ?_)
      go_simp
      first | refine hK _ _ rfl rfl ?_ | refine hK0 _ rfl ?_
      clear hK hK0 K K0
      refine wpL_calm wT rfl rfl rfl rfl (fun K hK K0 hK0 => ?_)
      go_simp
      first | refine hK _ _ rfl rfl ?_ | refine hK0 _ rfl ?_
      clear hK hK0 K K0
      refine wpL_call (Lft.val (wv A)) (val_some wT _) rfl rfl rfl rfl (by first | rfl | go_simp) rfl (fun w' hC hF => ?_) (fun v6 hv6 => ?_)
      · obtain ⟨x, rfl⟩ := hC
        go_simp
        go_at_call 30
        exact val_loose (W1.out _ _ _ (ext_bigB Rz.out (Below.refl _ _) x) (ext_bigB Ry.out (Below.refl _ _) x))
      obtain ⟨_, rfl⟩ := hv6
      refine wpL_calm wT rfl rfl rfl rfl (fun K hK K0 hK0 => ?_)
      go_simp
      first | refine hK _ _ rfl rfl ?_ | refine hK0 _ rfl ?_
      clear hK hK0 K K0
      refine wpL_calm wT rfl rfl rfl rfl (fun K hK K0 hK0 => ?_)
      go_simp
      first | refine hK _ _ rfl rfl ?_ | refine hK0 _ rfl ?_
      clear hK hK0 K K0
      refine wpL_calm wT rfl rfl rfl rfl (fun K hK K0 hK0 => ?_)
      go_simp
      first | refine hK _ _ rfl rfl ?_ | refine hK0 _ rfl ?_
      clear hK hK0 K K0
      refine wpL_calm wT rfl rfl rfl rfl (fun K hK K0 hK0 => ?_)
      go_simp
      first | refine hK _ _ rfl rfl ?_ | refine hK0 _ rfl ?_
      clear hK hK0 K K0
      refine wpL_calm wT rfl rfl rfl rfl (fun K hK K0 hK0 => ?_)
      go_simp
      first | refine hK _ _ rfl rfl ?_ | refine hK0 _ rfl ?_
      clear hK hK0 K K0
      refine wpL_calm wT rfl rfl rfl rfl (fun K hK K0 hK0 => ?_)
      go_simp
      first | refine hK _ _ rfl rfl ?_ | refine hK0 _ rfl ?_
      clear hK hK0 K K0
      refine wpL_calm wT rfl rfl rfl rfl (fun K hK K0 hK0 => ?_)
      go_simp
      first | refine hK _ _ rfl rfl ?_ | refine hK0 _ rfl ?_
      clear hK hK0 K K0
      refine wpL_calm wT rfl rfl rfl rfl (fun K hK K0 hK0 => ?_)
      go_simp
      first | refine hK _ _ rfl rfl ?_ | refine hK0 _ rfl ?_
      clear hK hK0 K K0
      refine wpL_call (Lft.big (0 + 1)) (big_some w _) rfl rfl rfl rfl (by first | rfl | go_simp) rfl (fun w' hC hF => ?_) (fun v15 hv15 => ?_)
      · obtain ⟨x, rfl⟩ := hC
        go_simp
        go_at_call 36
        exact gives_loose (S8.out _ _ _ (ext_bigB Ry.out (Below.refl _ _) x) (ext_bigB Ro.out (Below.refl _ _) x))
      refine wpL_call (Lft.val (wv B)) (val_some wT _) rfl rfl rfl rfl (by first | rfl | go_simp) rfl (fun w' hC hF => ?_) (fun v16 hv16 => ?_)
      · obtain ⟨x, rfl⟩ := hC
        go_simp
        go_at_call 30
        exact val_loose (W2.out _ _ _ (ext_bigB Rz.out (Below.refl _ _) x) (hF 15 _ 76 rfl rfl rfl rfl (by decide)))
      obtain ⟨_, rfl⟩ := hv16
      refine wpL_calm wT rfl rfl rfl rfl (fun K hK K0 hK0 => ?_)
      go_simp
      first | refine hK _ _ rfl rfl ?_ | refine hK0 _ rfl ?_
      clear hK hK0 K K0
      refine wpL_calm wT rfl rfl rfl rfl (fun K hK K0 hK0 => ?_)
      go_simp
      first | refine hK _ _ rfl rfl ?_ | refine hK0 _ rfl ?_
      clear hK hK0 K K0
      refine wpL_calm wT rfl rfl rfl rfl (fun K hK K0 hK0 => ?_)
      go_simp
      first | refine hK _ _ rfl rfl ?_ | refine hK0 _ rfl ?_
      clear hK hK0 K K0
      refine wpL_call (Lft.val (.bool true)) (val_some wT _) rfl rfl rfl rfl (by first | rfl | go_simp) rfl (fun w' hC hF => ?_) (fun v20 hv20 => ?_)
      · obtain ⟨x, rfl⟩ := hC
        go_simp
        go_at_call 26
        exact val_loose (SA.out _)
      obtain ⟨_, rfl⟩ := hv20
      refine wpL_calm wT rfl rfl rfl rfl (fun K hK K0 hK0 => ?_)
      go_simp
      first | refine hK _ _ rfl rfl ?_ | refine hK0 _ rfl ?_
      clear hK hK0 K K0
      refine wpL_calm wT rfl rfl rfl rfl (fun K hK K0 hK0 => ?_)
      go_simp
      first | refine hK _ _ rfl rfl ?_ | refine hK0 _ rfl ?_
      clear hK hK0 K K0
      refine wpL_nil (endL [] rfl (by intro q hq; cases hq) (fun w10 hb hst hap hfin => ?_))
      replace HB := Lib.hid (below_then HB.out hb)
      replace Gq := Lib.hid ((hb.block _ (lt_of_heap Gq.out)).trans Gq.out)
      replace Ro := Lib.hid (Ro.out.below hb)
      replace Gs := Lib.hid ((hb.block _ (lt_of_heap Gs.out)).trans Gs.out)
      replace Gt := Lib.hid ((hb.block _ (lt_of_heap Gt.out)).trans Gt.out)
      replace Ry := Lib.hid (Ry.out.below hb)
      replace Rz := Lib.hid (Rz.out.below hb)
      clear hb hst hap hfin xGq xGs xGt
      go_wp2
      go_ret
      exact ⟨rfl, HB.out⟩
set_option maxRecDepth 100000 in
set_option maxHeartbeats 2000000 in
theorem flyNext_neg (q : Nat) (d : Int) (w : World) (hq : q < M) (hd : isDig d = true) (h0 : d ≤ 0) :
    Calls Try.prog 5 #[wv q, .int .i64 d] w fun e w' => e = .returned (.bool true) ∧ Below w.heap.size w w' := by
  have SA := Lib.hid (fun w' => awake13_any w')
  have SI := Lib.hid (fun w' => is13_any d w')
  have hM1 : (1 : Nat) < M := lit_ltM _ (by decide)
  have hqB := small_M hq
  have h1B := small_M hM1
  have S0 := Lib.hid (fun w' => small_any 1 w' (by omega))
  have S1 := Lib.hid (fun w' => new_w q hq w')
  rw [toW_sub q 1 hq hM1] at S1
  have S2 := Lib.hid (fun w' => big_any q hq w')
  have S3 := Lib.hid (fun va vb w' h h' => rwide13_any va vb q 1 w' hqB h1B h h')
  obtain ⟨L, hL⟩ : ∃ x, x = toW ((q : Int) - ((1 : Nat) : Int)) := ⟨_, rfl⟩
  rw [← hL] at S1 S3
  rw [hd] at SI
  obtain ⟨z1, z2⟩ := isDig_iff.1 hd
  have S4 := Lib.hid (fun w' => next_w (q : Int) d hd w')
  rw [toW_nat hq, show toW ((q : Int) - 1) = L from hL.symm] at S4
  have h4 : q * P2 2 < P2 514 := by rw [show 514 = 512 + 2 from rfl, P2_add, ← M_eq]; exact Nat.mul_lt_mul_of_pos_right hq (P2_pos 2)
  have hB0 : ∀ x, x < P2 515 → x < BIG := fun x h => small_of h (by omega)
  have h515 : P2 515 = P2 514 * 2 := P2_twice 514
  have h515' : 16 ≤ P2 514 := by rw [show (16 : Nat) = P2 4 by rw [P2_eq]]; exact P2_le (by omega)
  have S5 := Lib.hid (fun v w' h => rshl_any v q 2 w' hqB (by omega) h)
  have e4 : ((q * P2 2 : Nat) : Int) = 4 * (q : Int) := by rw [P2_2]; omega
  obtain ⟨D, hD⟩ := Int.eq_ofNat_of_zero_le (show 0 ≤ -d by omega)
  have S6 := Lib.hid (fun w' => small_any D w' (by omega))
  have S8 := Lib.hid (fun v v2 w' h h' => add_any v v2 D 1 w' (hB0 _ (by omega)) (hB0 _ (by omega)) h h')
  have W1 := Lib.hid (fun v v2 w' h h' => rwide13_any v v2 (q * P2 2) D w' (hB0 _ (by omega)) (hB0 _ (by omega)) h h')
  have W2 := Lib.hid (fun v v2 w' h h' => rwide13_any v v2 (q * P2 2) (D + 1) w' (hB0 _ (by omega)) (hB0 _ (by omega)) h h')
  rw [show ((q * P2 2 : Nat) : Int) - (D : Int) = 4 * (q : Int) + d by omega] at W1
  rw [show ((q * P2 2 : Nat) : Int) - ((D + 1 : Nat) : Int) = 4 * (q : Int) + d - 1 by omega] at W2
  obtain ⟨A, hA⟩ : ∃ x, x = toW (4 * (q : Int) + d) := ⟨_, rfl⟩
  obtain ⟨B, hB⟩ : ∃ x, x = toW (4 * (q : Int) + d - 1) := ⟨_, rfl⟩
  rw [← hA] at S4 W1
  rw [← hB] at S4 W2
  obtain ⟨q4, hq4⟩ : ∃ x, x = q * P2 2 := ⟨_, rfl⟩
  rw [← hq4] at S5 W1 W2
  have hwn : IntKind.i64.wrap (-d) = (D : Int) := by rw [hD]; exact IntWalk.i64_in _ (by omega)
  have hw : IntKind.u64.wrap (D : Int) = (D : Int) := by rw [u64wrap]; omega
  have e0 : ¬ (0 : Int) < d := by omega
  clear hd hq hM1 hqB h1B hL z1 z2 h4 hB0 h515 h515' e4 hA hB hq4 h0 hD
  go_enter Try.func5, Try.ntmps5
  have HB := Lib.hid (Below.refl w.heap.size w)
  have Gq := Lib.hid (alloc_new (w) (.cells (wcells q) 31))
  replace HB := Lib.hid (below_al HB.out (.cells (wcells q) 31))
  have cGq := cell_row Gq.out
  go_wp2_with fail
  refine (S0.out _).mono ?_
  rintro e w11 ⟨ro, rfl, hr, hb⟩
  clear cGq
  replace HB := Lib.hid (below_then HB.out hb)
  replace Gq := Lib.hid ((hb.block _ (lt_of_heap Gq.out)).trans Gq.out)
  have Ro := Lib.hid hr
  clear hr hb
  have cGq := cell_row Gq.out
  go_wp2_with fail
  refine (S1.out _).mono ?_
  rintro e w12 ⟨rfl, hb⟩
  clear cGq
  replace HB := Lib.hid (below_then HB.out hb)
  replace Gq := Lib.hid ((hb.block _ (lt_of_heap Gq.out)).trans Gq.out)
  replace Ro := Lib.hid (Ro.out.below hb)
  clear hb
  replace Gq := Lib.hid (keepAl (o' := .cells (fc q L) 42) Gq.out)
  replace Ro := Lib.hid (Ro.out.below (below_al (Below.refl (w12).heap.size (w12)) (.cells (fc q L) 42)))
  have Gs := Lib.hid (alloc_new (w12) (.cells (fc q L) 42))
  replace HB := Lib.hid (below_al HB.out (.cells (fc q L) 42))
  go_upto_region 3 with fail
  obtain ⟨wL, hw⟩ : ∃ wx, wx = (w12).alloc (.cells (fc q L) 42) := ⟨_, rfl⟩
  rw [← hw] at Gq Ro Gs HB ⊢
  clear hw
  have xGq := ext_row (B := wL.heap.size) Gq.out (lt_of_heap Gq.out)
  have xGs := ext_row (B := wL.heap.size) Gs.out (lt_of_heap Gs.out)
  apply wp_region_loose (looseR [_, _, _, _, _, _, _, _, _, _, _, _, _]) (pureL [])
  · kernel_rfl
  · kernel_rfl
  · kernel_rfl
  · exact allocs_ok [] rfl (by intro T hT; cases hT)
  · exact looseR_st _
  · change wpL _ _ _ _ _ _ _ 13 0 _ _
    refine wpL_calm wL rfl rfl rfl rfl (fun K hK K0 hK0 => ?_)
    go_simp
    first | refine hK _ _ rfl rfl ?_ | refine hK0 _ rfl ?_
    clear hK hK0 K K0
    refine wpL_calm wL rfl rfl rfl rfl (fun K hK K0 hK0 => ?_)
    go_simp
    first | refine hK _ _ rfl rfl ?_ | refine hK0 _ rfl ?_
    clear hK hK0 K K0
    refine wpL_calm wL rfl rfl rfl rfl (fun K hK K0 hK0 => ?_)
    go_simp
    first | refine hK _ _ rfl rfl ?_ | refine hK0 _ rfl ?_
    clear hK hK0 K K0
    refine wpL_calm wL rfl rfl rfl rfl (fun K hK K0 hK0 => ?_)
    go_simp
    first | refine hK _ _ rfl rfl ?_ | refine hK0 _ rfl ?_
    clear hK hK0 K K0
    refine wpL_calm wL rfl rfl rfl rfl (fun K hK K0 hK0 => ?_)
    go_simp
    first | refine hK _ _ rfl rfl ?_ | refine hK0 _ rfl ?_
    clear hK hK0 K K0
    refine wpL_calm wL rfl rfl rfl rfl (fun K hK K0 hK0 => ?_)
    go_simp
    first | refine hK _ _ rfl rfl ?_ | refine hK0 _ rfl ?_
    clear hK hK0 K K0
    refine wpL_calm wL rfl rfl rfl rfl (fun K hK K0 hK0 => ?_)
    go_simp
    first | refine hK _ _ rfl rfl ?_ | refine hK0 _ rfl ?_
    clear hK hK0 K K0
    refine wpL_calm wL rfl rfl rfl rfl (fun K hK K0 hK0 => ?_)
    go_simp
    first | refine hK _ _ rfl rfl ?_ | refine hK0 _ rfl ?_
    clear hK hK0 K K0
    refine wpL_call (Lft.big q) (big_some w _) rfl rfl rfl rfl (by first | rfl | go_simp) rfl (fun w' hC hF => ?_) (fun v8 hv8 => ?_)
    · obtain ⟨x, rfl⟩ := hC
      go_simp
      go_at_call 33
      exact gives_loose (S2.out _)
    refine wpL_calm wL rfl rfl rfl rfl (fun K hK K0 hK0 => ?_)
    go_simp
    first | refine hK _ _ rfl rfl ?_ | refine hK0 _ rfl ?_
    clear hK hK0 K K0
    refine wpL_call (Lft.val (wv L)) (val_some wL _) rfl rfl rfl rfl (by first | rfl | go_simp) rfl (fun w' hC hF => ?_) (fun v10 hv10 => ?_)
    · obtain ⟨x, rfl⟩ := hC
      go_simp
      go_at_call 30
      exact val_loose (S3.out _ _ _ (hF 8 _ 22 rfl rfl rfl rfl (by decide)) (ext_bigB Ro.out (Below.refl _ _) x))
    obtain ⟨_, rfl⟩ := hv10
    refine wpL_calm wL rfl rfl rfl rfl (fun K hK K0 hK0 => ?_)
    go_simp
    first | refine hK _ _ rfl rfl ?_ | refine hK0 _ rfl ?_
    clear hK hK0 K K0
    refine wpL_calm wL rfl rfl rfl rfl (fun K hK K0 hK0 => ?_)
    go_simp
    first | refine hK _ _ rfl rfl ?_ | refine hK0 _ rfl ?_
    clear hK hK0 K K0
    refine wpL_nil (endL [] rfl (by intro q hq; cases hq) (fun w13 hb hst hap hfin => ?_))
    replace HB := Lib.hid (below_then HB.out hb)
    replace Gq := Lib.hid ((hb.block _ (lt_of_heap Gq.out)).trans Gq.out)
    replace Ro := Lib.hid (Ro.out.below hb)
    replace Gs := Lib.hid ((hb.block _ (lt_of_heap Gs.out)).trans Gs.out)
    clear hb hst hap hfin xGq xGs
    have cGq := cell_row Gq.out
    have cGs := cell_row Gs.out
    go_wp2_with fail
    refine (S4.out _).mono ?_
    rintro e w14 ⟨rfl, hb⟩
    clear cGq cGs
    replace HB := Lib.hid (below_then HB.out hb)
    replace Gq := Lib.hid ((hb.block _ (lt_of_heap Gq.out)).trans Gq.out)
    replace Ro := Lib.hid (Ro.out.below hb)
    replace Gs := Lib.hid ((hb.block _ (lt_of_heap Gs.out)).trans Gs.out)
    clear hb
    replace Gq := Lib.hid (keepAl (o' := .cells (fc A B) 42) Gq.out)
    replace Ro := Lib.hid (Ro.out.below (below_al (Below.refl (w14).heap.size (w14)) (.cells (fc A B) 42)))
    replace Gs := Lib.hid (keepAl (o' := .cells (fc A B) 42) Gs.out)
    have Gt := Lib.hid (alloc_new (w14) (.cells (fc A B) 42))
    replace HB := Lib.hid (below_al HB.out (.cells (fc A B) 42))
    have cGq := cell_row Gq.out
    have cGs := cell_row Gs.out
    have cGt := cell_row Gt.out
    go_wp2_with fail
    refine (SI.out _).mono ?_
    rintro e w15 ⟨rfl, hb⟩
    clear cGq cGs cGt
    replace HB := Lib.hid (below_then HB.out hb)
    replace Gq := Lib.hid ((hb.block _ (lt_of_heap Gq.out)).trans Gq.out)
    replace Ro := Lib.hid (Ro.out.below hb)
    replace Gs := Lib.hid ((hb.block _ (lt_of_heap Gs.out)).trans Gs.out)
    replace Gt := Lib.hid ((hb.block _ (lt_of_heap Gt.out)).trans Gt.out)
    clear hb
    have cGq := cell_row Gq.out
    have cGs := cell_row Gs.out
    have cGt := cell_row Gt.out
    go_wp2_with fail
    refine (S2.out _).mono ?_
    rintro e w16 ⟨ra, rfl, hr, hb⟩
    clear cGq cGs cGt
    replace HB := Lib.hid (below_then HB.out hb)
    replace Gq := Lib.hid ((hb.block _ (lt_of_heap Gq.out)).trans Gq.out)
    replace Ro := Lib.hid (Ro.out.below hb)
    replace Gs := Lib.hid ((hb.block _ (lt_of_heap Gs.out)).trans Gs.out)
    replace Gt := Lib.hid ((hb.block _ (lt_of_heap Gt.out)).trans Gt.out)
    have Ra := Lib.hid hr
    clear hr hb
    have cGq := cell_row Gq.out
    have cGs := cell_row Gs.out
    have cGt := cell_row Gt.out
    go_wp2_with fail
    refine (S5.out _ _ Ra.out).mono ?_
    rintro e w17 ⟨rx, rfl, hr, hb⟩
    clear cGq cGs cGt
    replace HB := Lib.hid (below_then HB.out hb)
    replace Gq := Lib.hid ((hb.block _ (lt_of_heap Gq.out)).trans Gq.out)
    replace Ro := Lib.hid (Ro.out.below hb)
    replace Gs := Lib.hid ((hb.block _ (lt_of_heap Gs.out)).trans Gs.out)
    replace Gt := Lib.hid ((hb.block _ (lt_of_heap Gt.out)).trans Gt.out)
    replace Ra := Lib.hid (Ra.out.below hb)
    have Rx := Lib.hid hr
    clear hr hb
    replace Gq := Lib.hid (keepAl (o' := .cells #[] 109) Gq.out)
    replace Ro := Lib.hid (Ro.out.below (below_al (Below.refl (w17).heap.size (w17)) (.cells #[] 109)))
    replace Gs := Lib.hid (keepAl (o' := .cells #[] 109) Gs.out)
    replace Gt := Lib.hid (keepAl (o' := .cells #[] 109) Gt.out)
    replace Ra := Lib.hid (Ra.out.below (below_al (Below.refl (w17).heap.size (w17)) (.cells #[] 109)))
    replace Rx := Lib.hid (Rx.out.below (below_al (Below.refl (w17).heap.size (w17)) (.cells #[] 109)))
    have Ge := Lib.hid (alloc_new (w17) (.cells #[] 109))
    replace HB := Lib.hid (below_al HB.out (.cells #[] 109))
    have cGq := cell_row Gq.out
    have cGs := cell_row Gs.out
    have cGt := cell_row Gt.out
    go_wp2_with fail
    refine (S6.out _).mono ?_
    rintro e w18 ⟨rd, rfl, hr, hb⟩
    clear cGq cGs cGt
    replace HB := Lib.hid (below_then HB.out hb)
    replace Gq := Lib.hid ((hb.block _ (lt_of_heap Gq.out)).trans Gq.out)
    replace Ro := Lib.hid (Ro.out.below hb)
    replace Gs := Lib.hid ((hb.block _ (lt_of_heap Gs.out)).trans Gs.out)
    replace Gt := Lib.hid ((hb.block _ (lt_of_heap Gt.out)).trans Gt.out)
    replace Ra := Lib.hid (Ra.out.below hb)
    replace Rx := Lib.hid (Rx.out.below hb)
    have Rd := Lib.hid hr
    clear hr hb
    go_upto_region 12 with fail
    obtain ⟨wT, hw⟩ : ∃ wx, wx = w18 := ⟨_, rfl⟩
    rw [← hw] at Gq Ro Gs Gt Rx Rd HB ⊢
    clear hw
    have xGq := ext_row (B := wT.heap.size) Gq.out (lt_of_heap Gq.out)
    have xGs := ext_row (B := wT.heap.size) Gs.out (lt_of_heap Gs.out)
    have xGt := ext_row (B := wT.heap.size) Gt.out (lt_of_heap Gt.out)
    apply wp_region_loose (looseR [_, _, _, _, _, _, _, _, _, _, _, _, _, _, _, _, _, _, _, _, _, _, _]) (pureL [])
    · kernel_rfl
    · kernel_rfl
    · kernel_rfl
    · exact allocs_ok [] rfl (by intro T hT; cases hT)
    · exact looseR_st _
    · change wpL _ _ _ _ _ _ _ 23 0 _ _
      refine wpL_calm wT rfl rfl rfl rfl (fun K hK K0 hK0 => ?_)
      go_simp
      first | refine hK _ _ rfl rfl ?_ | refine hK0 _ rfl ?_
      clear hK hK0 K K0
      refine wpL_calm wT rfl rfl rfl rfl (fun K hK K0 hK0 => ?_)
      go_simp
      first | refine hK _ _ rfl rfl ?_ | refine hK0 _ rfl ?_
      clear hK hK0 K K0
      refine wpL_calm wT rfl rfl rfl rfl (fun K hK K0 hK0 => ?_)
      go_simp
      first | refine hK _ _ rfl rfl ?_ | refine hK0 _ rfl ?_
      clear hK hK0 K K0
      refine wpL_calm wT rfl rfl rfl rfl (fun K hK K0 hK0 => ?_)
      go_simp
      first | refine hK _ _ rfl rfl ?_ | refine hK0 _ rfl ?_
      clear hK hK0 K K0
      refine wpL_calm wT rfl rfl rfl rfl (fun K hK K0 hK0 => ?_)
      go_simp
      first | refine hK _ _ rfl rfl ?_ | refine hK0 _ rfl ?_
      clear hK hK0 K K0
      refine wpL_calm wT rfl rfl rfl rfl (fun K hK K0 hK0 => ?_)
      go_simp
      first | refine hK _ _ rfl rfl ?_ | refine hK0 _ rfl ?_
      clear hK hK0 K K0
      refine wpL_call (Lft.val (wv A)) (val_some wT _) rfl rfl rfl rfl (by first | rfl | go_simp) rfl (fun w' hC hF => ?_) (fun v6 hv6 => ?_)
      · obtain ⟨x, rfl⟩ := hC
        go_simp
        go_at_call 30
        exact val_loose (W1.out _ _ _ (ext_bigB Rx.out (Below.refl _ _) x) (ext_bigB Rd.out (Below.refl _ _) x))
      obtain ⟨_, rfl⟩ := hv6
      refine wpL_calm wT rfl rfl rfl rfl (fun K hK K0 hK0 => ?_)
      go_simp
      first | refine hK _ _ rfl rfl ?_ | refine hK0 _ rfl ?_
      clear hK hK0 K K0
      refine wpL_calm wT rfl rfl rfl rfl (fun K hK K0 hK0 => ?_)
      go_simp
      first | refine hK _ _ rfl rfl ?_ | refine hK0 _ rfl ?_
      clear hK hK0 K K0
      refine wpL_calm wT rfl rfl rfl rfl (fun K hK K0 hK0 => ?_)
      go_simp
      first | refine hK _ _ rfl rfl ?_ | refine hK0 _ rfl ?_
      clear hK hK0 K K0
      refine wpL_calm wT rfl rfl rfl rfl (fun K hK K0 hK0 => ?_)
      go_simp
      first | refine hK _ _ rfl rfl ?_ | refine hK0 _ rfl ?_
      clear hK hK0 K K0
      refine wpL_calm wT rfl rfl rfl rfl (fun K hK K0 hK0 => ?_)
      go_simp
      first | refine hK _ _ rfl rfl ?_ | refine hK0 _ rfl ?_
      clear hK hK0 K K0
      refine wpL_calm wT rfl rfl rfl rfl (fun K hK K0 hK0 => ?_)
      go_simp
      first | refine hK _ _ rfl rfl ?_ | refine hK0 _ rfl ?_
      clear hK hK0 K K0
      refine wpL_calm wT rfl rfl rfl rfl (fun K hK K0 hK0 => ?_)
      go_simp
      first | refine hK _ _ rfl rfl ?_ | refine hK0 _ rfl ?_
      clear hK hK0 K K0
      refine wpL_calm wT rfl rfl rfl rfl (fun K hK K0 hK0 => ?_)
      go_simp
      first | refine hK _ _ rfl rfl ?_ | refine hK0 _ rfl ?_
      clear hK hK0 K K0
      refine wpL_call (Lft.big (D + 1)) (big_some w _) rfl rfl rfl rfl (by first | rfl | go_simp) rfl (fun w' hC hF => ?_) (fun v15 hv15 => ?_)
      · obtain ⟨x, rfl⟩ := hC
        go_simp
        go_at_call 36
        exact gives_loose (S8.out _ _ _ (ext_bigB Rd.out (Below.refl _ _) x) (ext_bigB Ro.out (Below.refl _ _) x))
      refine wpL_call (Lft.val (wv B)) (val_some wT _) rfl rfl rfl rfl (by first | rfl | go_simp) rfl (fun w' hC hF => ?_) (fun v16 hv16 => ?_)
      · obtain ⟨x, rfl⟩ := hC
        go_simp
        go_at_call 30
        exact val_loose (W2.out _ _ _ (ext_bigB Rx.out (Below.refl _ _) x) (hF 15 _ 76 rfl rfl rfl rfl (by decide)))
      obtain ⟨_, rfl⟩ := hv16
      refine wpL_calm wT rfl rfl rfl rfl (fun K hK K0 hK0 => ?_)
      go_simp
      first | refine hK _ _ rfl rfl ?_ | refine hK0 _ rfl ?_
      clear hK hK0 K K0
      refine wpL_calm wT rfl rfl rfl rfl (fun K hK K0 hK0 => ?_)
      go_simp
      first | refine hK _ _ rfl rfl ?_ | refine hK0 _ rfl ?_
      clear hK hK0 K K0
      refine wpL_calm wT rfl rfl rfl rfl (fun K hK K0 hK0 => ?_)
      go_simp
      first | refine hK _ _ rfl rfl ?_ | refine hK0 _ rfl ?_
      clear hK hK0 K K0
      refine wpL_call (Lft.val (.bool true)) (val_some wT _) rfl rfl rfl rfl (by first | rfl | go_simp) rfl (fun w' hC hF => ?_) (fun v20 hv20 => ?_)
      · obtain ⟨x, rfl⟩ := hC
        go_simp
        go_at_call 26
        exact val_loose (SA.out _)
      obtain ⟨_, rfl⟩ := hv20
      refine wpL_calm wT rfl rfl rfl rfl (fun K hK K0 hK0 => ?_)
      go_simp
      first | refine hK _ _ rfl rfl ?_ | refine hK0 _ rfl ?_
      clear hK hK0 K K0
      refine wpL_calm wT rfl rfl rfl rfl (fun K hK K0 hK0 => ?_)
      go_simp
      first | refine hK _ _ rfl rfl ?_ | refine hK0 _ rfl ?_
      clear hK hK0 K K0
      refine wpL_nil (endL [] rfl (by intro q hq; cases hq) (fun w19 hb hst hap hfin => ?_))
      replace HB := Lib.hid (below_then HB.out hb)
      replace Gq := Lib.hid ((hb.block _ (lt_of_heap Gq.out)).trans Gq.out)
      replace Ro := Lib.hid (Ro.out.below hb)
      replace Gs := Lib.hid ((hb.block _ (lt_of_heap Gs.out)).trans Gs.out)
      replace Gt := Lib.hid ((hb.block _ (lt_of_heap Gt.out)).trans Gt.out)
      replace Rx := Lib.hid (Rx.out.below hb)
      replace Rd := Lib.hid (Rd.out.below hb)
      clear hb hst hap hfin xGq xGs xGt
      go_wp2
      go_ret
      exact ⟨rfl, HB.out⟩
set_option maxRecDepth 100000 in
set_option maxHeartbeats 2000000 in
theorem flyNext_out (q : Nat) (d : Int) (w : World) (hq : q < M) (hd : ¬ isDig d = true) :
    Calls Try.prog 5 #[wv q, .int .i64 d] w fun e w' => e = .returned (.bool true) ∧ Below w.heap.size w w' := by
  have SA := Lib.hid (fun w' => awake13_any w')
  have SI := Lib.hid (fun w' => is13_any d w')
  have hM1 : (1 : Nat) < M := lit_ltM _ (by decide)
  have hqB := small_M hq
  have h1B := small_M hM1
  have S0 := Lib.hid (fun w' => small_any 1 w' (by omega))
  have S1 := Lib.hid (fun w' => new_w q hq w')
  rw [toW_sub q 1 hq hM1] at S1
  have S2 := Lib.hid (fun w' => big_any q hq w')
  have S3 := Lib.hid (fun va vb w' h h' => rwide13_any va vb q 1 w' hqB h1B h h')
  obtain ⟨L, hL⟩ : ∃ x, x = toW ((q : Int) - ((1 : Nat) : Int)) := ⟨_, rfl⟩
  rw [← hL] at S1 S3
  rw [show isDig d = false by simpa using hd] at SI
  have S4 := Lib.hid (fun w' => next_no q L d (by simpa using hd) w')
  clear hd hq hM1 hqB h1B hL
  go_enter Try.func5, Try.ntmps5
  have HB := Lib.hid (Below.refl w.heap.size w)
  have Gq := Lib.hid (alloc_new (w) (.cells (wcells q) 31))
  replace HB := Lib.hid (below_al HB.out (.cells (wcells q) 31))
  have cGq := cell_row Gq.out
  go_wp2_with fail
  refine (S0.out _).mono ?_
  rintro e w20 ⟨ro, rfl, hr, hb⟩
  clear cGq
  replace HB := Lib.hid (below_then HB.out hb)
  replace Gq := Lib.hid ((hb.block _ (lt_of_heap Gq.out)).trans Gq.out)
  have Ro := Lib.hid hr
  clear hr hb
  have cGq := cell_row Gq.out
  go_wp2_with fail
  refine (S1.out _).mono ?_
  rintro e w21 ⟨rfl, hb⟩
  clear cGq
  replace HB := Lib.hid (below_then HB.out hb)
  replace Gq := Lib.hid ((hb.block _ (lt_of_heap Gq.out)).trans Gq.out)
  replace Ro := Lib.hid (Ro.out.below hb)
  clear hb
  replace Gq := Lib.hid (keepAl (o' := .cells (fc q L) 42) Gq.out)
  replace Ro := Lib.hid (Ro.out.below (below_al (Below.refl (w21).heap.size (w21)) (.cells (fc q L) 42)))
  have Gs := Lib.hid (alloc_new (w21) (.cells (fc q L) 42))
  replace HB := Lib.hid (below_al HB.out (.cells (fc q L) 42))
  go_upto_region 3 with fail
  obtain ⟨wL, hw⟩ : ∃ wx, wx = (w21).alloc (.cells (fc q L) 42) := ⟨_, rfl⟩
  rw [← hw] at Gq Ro Gs HB ⊢
  clear hw
  have xGq := ext_row (B := wL.heap.size) Gq.out (lt_of_heap Gq.out)
  have xGs := ext_row (B := wL.heap.size) Gs.out (lt_of_heap Gs.out)
  apply wp_region_loose (looseR [_, _, _, _, _, _, _, _, _, _, _, _, _]) (pureL [])
  · kernel_rfl
  · kernel_rfl
  · kernel_rfl
  · exact allocs_ok [] rfl (by intro T hT; cases hT)
  · exact looseR_st _
  · change wpL _ _ _ _ _ _ _ 13 0 _ _
    refine wpL_calm wL rfl rfl rfl rfl (fun K hK K0 hK0 => ?_)
    go_simp
    first | refine hK _ _ rfl rfl ?_ | refine hK0 _ rfl ?_
    clear hK hK0 K K0
    refine wpL_calm wL rfl rfl rfl rfl (fun K hK K0 hK0 => ?_)
    go_simp
    first | refine hK _ _ rfl rfl ?_ | refine hK0 _ rfl ?_
    clear hK hK0 K K0
    refine wpL_calm wL rfl rfl rfl rfl (fun K hK K0 hK0 => ?_)
    go_simp
    first | refine hK _ _ rfl rfl ?_ | refine hK0 _ rfl ?_
    clear hK hK0 K K0
    refine wpL_calm wL rfl rfl rfl rfl (fun K hK K0 hK0 => ?_)
    go_simp
    first | refine hK _ _ rfl rfl ?_ | refine hK0 _ rfl ?_
    clear hK hK0 K K0
    refine wpL_calm wL rfl rfl rfl rfl (fun K hK K0 hK0 => ?_)
    go_simp
    first | refine hK _ _ rfl rfl ?_ | refine hK0 _ rfl ?_
    clear hK hK0 K K0
    refine wpL_calm wL rfl rfl rfl rfl (fun K hK K0 hK0 => ?_)
    go_simp
    first | refine hK _ _ rfl rfl ?_ | refine hK0 _ rfl ?_
    clear hK hK0 K K0
    refine wpL_calm wL rfl rfl rfl rfl (fun K hK K0 hK0 => ?_)
    go_simp
    first | refine hK _ _ rfl rfl ?_ | refine hK0 _ rfl ?_
    clear hK hK0 K K0
    refine wpL_calm wL rfl rfl rfl rfl (fun K hK K0 hK0 => ?_)
    go_simp
    first | refine hK _ _ rfl rfl ?_ | refine hK0 _ rfl ?_
    clear hK hK0 K K0
    refine wpL_call (Lft.big q) (big_some w _) rfl rfl rfl rfl (by first | rfl | go_simp) rfl (fun w' hC hF => ?_) (fun v8 hv8 => ?_)
    · obtain ⟨x, rfl⟩ := hC
      go_simp
      go_at_call 33
      exact gives_loose (S2.out _)
    refine wpL_calm wL rfl rfl rfl rfl (fun K hK K0 hK0 => ?_)
    go_simp
    first | refine hK _ _ rfl rfl ?_ | refine hK0 _ rfl ?_
    clear hK hK0 K K0
    refine wpL_call (Lft.val (wv L)) (val_some wL _) rfl rfl rfl rfl (by first | rfl | go_simp) rfl (fun w' hC hF => ?_) (fun v10 hv10 => ?_)
    · obtain ⟨x, rfl⟩ := hC
      go_simp
      go_at_call 30
      exact val_loose (S3.out _ _ _ (hF 8 _ 22 rfl rfl rfl rfl (by decide)) (ext_bigB Ro.out (Below.refl _ _) x))
    obtain ⟨_, rfl⟩ := hv10
    refine wpL_calm wL rfl rfl rfl rfl (fun K hK K0 hK0 => ?_)
    go_simp
    first | refine hK _ _ rfl rfl ?_ | refine hK0 _ rfl ?_
    clear hK hK0 K K0
    refine wpL_calm wL rfl rfl rfl rfl (fun K hK K0 hK0 => ?_)
    go_simp
    first | refine hK _ _ rfl rfl ?_ | refine hK0 _ rfl ?_
    clear hK hK0 K K0
    refine wpL_nil (endL [] rfl (by intro q hq; cases hq) (fun w22 hb hst hap hfin => ?_))
    replace HB := Lib.hid (below_then HB.out hb)
    replace Gq := Lib.hid ((hb.block _ (lt_of_heap Gq.out)).trans Gq.out)
    replace Ro := Lib.hid (Ro.out.below hb)
    replace Gs := Lib.hid ((hb.block _ (lt_of_heap Gs.out)).trans Gs.out)
    clear hb hst hap hfin xGq xGs
    have cGq := cell_row Gq.out
    have cGs := cell_row Gs.out
    go_wp2_with fail
    refine (S4.out _).mono ?_
    rintro e w23 ⟨rfl, hb⟩
    clear cGq cGs
    replace HB := Lib.hid (below_then HB.out hb)
    replace Gq := Lib.hid ((hb.block _ (lt_of_heap Gq.out)).trans Gq.out)
    replace Ro := Lib.hid (Ro.out.below hb)
    replace Gs := Lib.hid ((hb.block _ (lt_of_heap Gs.out)).trans Gs.out)
    clear hb
    replace Gq := Lib.hid (keepAl (o' := .cells (fc q L) 42) Gq.out)
    replace Ro := Lib.hid (Ro.out.below (below_al (Below.refl (w23).heap.size (w23)) (.cells (fc q L) 42)))
    replace Gs := Lib.hid (keepAl (o' := .cells (fc q L) 42) Gs.out)
    have Gt := Lib.hid (alloc_new (w23) (.cells (fc q L) 42))
    replace HB := Lib.hid (below_al HB.out (.cells (fc q L) 42))
    have cGq := cell_row Gq.out
    have cGs := cell_row Gs.out
    have cGt := cell_row Gt.out
    go_wp2_with fail
    refine (SI.out _).mono ?_
    rintro e w24 ⟨rfl, hb⟩
    clear cGq cGs cGt
    replace HB := Lib.hid (below_then HB.out hb)
    replace Gq := Lib.hid ((hb.block _ (lt_of_heap Gq.out)).trans Gq.out)
    replace Ro := Lib.hid (Ro.out.below hb)
    replace Gs := Lib.hid ((hb.block _ (lt_of_heap Gs.out)).trans Gs.out)
    replace Gt := Lib.hid ((hb.block _ (lt_of_heap Gt.out)).trans Gt.out)
    clear hb
    have cGq := cell_row Gq.out
    have cGs := cell_row Gs.out
    have cGt := cell_row Gt.out
    go_wp2_with fail
    refine (SA.out _).mono ?_
    rintro e w25 ⟨rfl, hb⟩
    clear cGq cGs cGt
    replace HB := Lib.hid (below_then HB.out hb)
    replace Gq := Lib.hid ((hb.block _ (lt_of_heap Gq.out)).trans Gq.out)
    replace Gs := Lib.hid ((hb.block _ (lt_of_heap Gs.out)).trans Gs.out)
    replace Gt := Lib.hid ((hb.block _ (lt_of_heap Gt.out)).trans Gt.out)
    clear hb
    have cGq := cell_row Gq.out
    have cGs := cell_row Gs.out
    have cGt := cell_row Gt.out
    go_wp2
    go_ret
    exact ⟨rfl, HB.out⟩
theorem flyNext_any (q : Nat) (d : Int) (w : World) (hq : q < M) (_h0 : -9223372036854775808 ≤ d) (_h1 : d ≤ 9223372036854775807) :
    Calls Try.prog 5 #[wv q, .int .i64 d] w fun e w' => e = .returned (.bool true) ∧ Below w.heap.size w w' := by
  by_cases hd : isDig d = true
  · rcases (show 0 < d ∨ d ≤ 0 by omega) with h0 | h0
    · exact flyNext_pos q d w hq hd h0
    · exact flyNext_neg q d w hq hd h0
  · exact flyNext_out q d w hq hd
end Go.Proofs.Ytkkjbkadaofjpaa
