/- THE WALKS of the laws on newtonroot's guesses and reciprocals. -/
import Derived.Test.YtegmmaaapdgocaaGreatK33
import Derived.Test.YtegmmaaapdgocaaGreatK32
import Derived.Test.YtegmmaaapdgocaaGreatK31
namespace Go.Proofs.YtegmmaaapdgocaaGreat
open Go Go.RowKit

theorem rroot2_w (n : Nat) (w : World) (hn : n < P2 256) : Calls Tryz.prog 34 #[wv n, .int .i64 2] w fun e w' => e = .returned (.tuple #[wv (rtN 2 n), wv (n - rtN 2 n * rtN 2 n)]) ∧ Below w.heap.size w w' := by
  have := rroot_any n 2 w hn (Or.inl rfl)
  rw [sqr] at this
  exact this
attribute [local go_sem ↓] Go.wp_at_zero Go.wp_at_succ
theorem rounds20_any (w : World) : Calls Tryz.prog 55 #[] w fun e w' => e = .returned (.int .i64 5) ∧ w' = w := by
  go_enter Tryz.func55, Tryz.ntmps55
  go_wp2
  go_ret
  exact ⟨rfl, rfl⟩
set_option maxRecDepth 100000 in
set_option maxHeartbeats 4000000 in
theorem newtonrootGuesses_any (n : Nat) (w : World) (hn : n < M) :
    Calls Tryz.prog 6 #[wv n] w fun e w' => e = .returned (.bool true) ∧ Below w.heap.size w w' := by
  have S0 := Lib.hid (fun w' => newR_nil w')
  have S2 := Lib.hid (fun w' => rmayR_any n hn w')
  have SA := Lib.hid (fun w' => awake20_any w')
  by_cases h0 : n = 0
  · have h : n < P2 256 := by rw [h0]; exact P2_pos _
    have S1 := Lib.hid (fun (e : Nat) w' => guessQ_no (.pointer (some ⟨e, 0, none⟩)) n (rsE n) hn (Or.inr h0) (fun w' => mayQ_w e n hn w') w')
    rw [(rs_yes h).2.2] at S1
    rw [decide_eq_true h] at S2
    have hz := isZ_yes h0
    clear hn h h0
    go_enter Tryz.func6, Tryz.ntmps6
    have HB := Lib.hid (Below.refl w.heap.size w)
    have Gn := Lib.hid (alloc_new (w) (.cells (wcells n) 24))
    replace HB := Lib.hid (below_al HB.out (.cells (wcells n) 24))
    have cGn := cell_row Gn.out
    go_upto_region 1 with fail
    clear cGn
    obtain ⟨wA, hw⟩ : ∃ wx, wx = (w).alloc (.cells (wcells n) 24) := ⟨_, rfl⟩
    rw [← hw] at Gn HB ⊢
    clear hw
    have HZ := Lib.hid (lt_of_heap Gn.out)
    have cGn := cell_row Gn.out
    go_wp2_with fail
    refine (S0.out _).mono ?_
    rintro x w1 ⟨e, g, rfl, hen, hb⟩
    clear cGn
    replace HB := Lib.hid (below_then HB.out hb)
    replace Gn := Lib.hid ((hb.block _ (lt_of_heap Gn.out)).trans Gn.out)
    have Ge := Lib.hid hen.eng
    have KR := Lib.hid hen.rom
    have HNE := Lib.hid hen.ne
    have HLE := Lib.hid hen.le
    have HLG := Lib.hid hen.lg
    clear hen hb
    have cGn := cell_row Gn.out
    go_wp2_with fail
    refine (S1.out _ _).mono ?_
    rintro e w2 ⟨rfl, hb⟩
    clear cGn
    replace HB := Lib.hid (below_then HB.out hb)
    replace Gn := Lib.hid ((hb.block _ (lt_of_heap Gn.out)).trans Gn.out)
    clear hb
    replace Gn := Lib.hid (keepAl (o' := .cells (wcells 0) 24) Gn.out)
    have Gg := Lib.hid (alloc_new (w2) (.cells (wcells 0) 24))
    replace HB := Lib.hid (below_al HB.out (.cells (wcells 0) 24))
    have cGn := cell_row Gn.out
    have cGg := cell_row Gg.out
    go_wp2_with fail
    refine (S2.out _).mono ?_
    rintro e w3 ⟨rfl, hb⟩
    clear cGn cGg
    replace HB := Lib.hid (below_then HB.out hb)
    replace Gn := Lib.hid ((hb.block _ (lt_of_heap Gn.out)).trans Gn.out)
    replace Gg := Lib.hid ((hb.block _ (lt_of_heap Gg.out)).trans Gg.out)
    clear hb
    have cGn := cell_row Gn.out
    have cGg := cell_row Gg.out
    go_wp2_with fail
    refine (SA.out _).mono ?_
    rintro e w4 ⟨rfl, hb⟩
    clear cGn cGg
    replace HB := Lib.hid (below_then HB.out hb)
    replace Gn := Lib.hid ((hb.block _ (lt_of_heap Gn.out)).trans Gn.out)
    replace Gg := Lib.hid ((hb.block _ (lt_of_heap Gg.out)).trans Gg.out)
    clear hb
    have cGn := cell_row Gn.out
    have cGg := cell_row Gg.out
    go_wp2
    go_ret
    exact ⟨rfl, HB.out⟩
  by_cases h : n < P2 256
  · obtain ⟨u1, u2, u3⟩ := up_range h0 h
    obtain ⟨n1, n2⟩ := nr_guess u3 u1 u2
    have hz := isZ_no hn h0
    have hgs := near_rt u2 n1
    have h200 : P2 200 < M := by rw [M_eq]; exact P2_lt (by omega)
    have hr := rt_lt u2
    have h128 : P2 128 < M := by rw [M_eq]; exact P2_lt (by omega)
    have hUM : upN n < M := Nat.lt_trans u2 (by rw [M_eq]; exact P2_lt (by omega))
    have hy := (nr_bounds (k := 5) u3 u1 u2).1
    have hUy : upN n * nrY (upN n) 5 < P2 418 := by
      have := Nat.mul_lt_mul'' u2 hy
      rwa [← P2_add] at this
    have S1 := Lib.hid (fun e g w' hE hI hne => guessQ_yes e g n h0 h w' hE hI hne)
    rw [decide_eq_true h] at S2
    have S3 := Lib.hid (fun w' => norm16_any n h0 h w')
    have S7 := Lib.hid (fun v w' h => rrecip20_any v (upN n) 5 w' u3 u1 u2 (by decide) h)
    have S8 := Lib.hid (fun v v2 w' h h2 => mul_any v v2 (upN n) (nrY (upN n) 5) w' (small_of u2 (by decide)) (small_of hy (by decide)) h h2)
    have S9 := Lib.hid (fun v w' h => rshr_any v (upN n * nrY (upN n) 5) 288 w' (small_of hUy (by decide)) (by decide) h)
    rw [show upN n * nrY (upN n) 5 / P2 288 = nrq (upN n) from rfl] at S9
    have S10 := Lib.hid (fun v w' h => wide_small v (nrq (upN n)) w' (show nrq (upN n) < M from Nat.lt_trans hgs h200) h)
    have S10b := Lib.hid (fun v w' h => wide_small v (upN n) w' hUM h)
    have S11 := Lib.hid (fun w' => rroot2_w (upN n) w' u2)
    have S12 := Lib.hid (fun w' => big_any (nrq (upN n)) (Nat.lt_trans hgs h200) w')
    have S13 := Lib.hid (fun w' => big_any (rtN 2 (upN n)) (Nat.lt_of_le_of_lt (Nat.le_of_lt hr) h128) w')
    have S14 := Lib.hid (fun v v2 w' h h2 => raway_any v v2 (nrq (upN n)) (rtN 2 (upN n)) w' (small_of hgs (by decide)) (small_of hr (by decide)) h h2)
    have n1' : nrq (upN n) ≤ rtN 2 (upN n) + 1 := n1
    have n2' : rtN 2 (upN n) ≤ nrq (upN n) + 1 := n2
    have S15 := Lib.hid (fun v w' h => rwithin_any v ((nrq (upN n) - rtN 2 (upN n)) + (rtN 2 (upN n) - nrq (upN n))) 2 w' (small_of (show _ < P2 32 by rw [P2_eq]; omega) (by decide)) (by decide) h)
    rw [within_near n1' n2'] at S15
    obtain ⟨A, hA⟩ : ∃ A : Nat, A = (nrq (upN n) - rtN 2 (upN n)) + (rtN 2 (upN n) - nrq (upN n)) := ⟨_, rfl⟩
    rw [← hA] at S14 S15
    obtain ⟨G, hG⟩ : ∃ A, A = nrq (upN n) := ⟨_, rfl⟩
    rw [← hG] at S1 S9 S10 S12 S14
    obtain ⟨f, hf⟩ : ∃ f, f = decide (M ≤ G) := ⟨_, rfl⟩
    rw [← hf] at S10
    obtain ⟨f2, hf2⟩ : ∃ f, f = decide (M ≤ upN n) := ⟨_, rfl⟩
    rw [← hf2] at S10b
    obtain ⟨R, hR⟩ : ∃ A, A = upN n - rtN 2 (upN n) * rtN 2 (upN n) := ⟨_, rfl⟩
    rw [← hR] at S11
    obtain ⟨Q, hQ⟩ : ∃ A, A = rtN 2 (upN n) := ⟨_, rfl⟩
    rw [← hQ] at S11 S13 S14
    obtain ⟨Z, hZ⟩ : ∃ A, A = upN n * nrY (upN n) 5 := ⟨_, rfl⟩
    rw [← hZ] at S8 S9
    obtain ⟨y, hye⟩ : ∃ A, A = nrY (upN n) 5 := ⟨_, rfl⟩
    rw [← hye] at S7 S8
    obtain ⟨U, hU⟩ : ∃ A, A = upN n := ⟨_, rfl⟩
    rw [← hU] at S3 S7 S8 S10b S11
    obtain ⟨b, hb⟩ : ∃ A, A = nrmN n := ⟨_, rfl⟩
    rw [← hb] at S3
    clear hn h0 h u1 u2 u3 n1 n2 n1' n2' hgs h200 hr h128 hUM hy hUy hA hG hf hf2 hR hQ hZ hye hU hb
    go_enter Tryz.func6, Tryz.ntmps6
    have HB := Lib.hid (Below.refl w.heap.size w)
    have Gn := Lib.hid (alloc_new (w) (.cells (wcells n) 24))
    replace HB := Lib.hid (below_al HB.out (.cells (wcells n) 24))
    have cGn := cell_row Gn.out
    go_upto_region 1 with fail
    clear cGn
    obtain ⟨wA, hw⟩ : ∃ wx, wx = (w).alloc (.cells (wcells n) 24) := ⟨_, rfl⟩
    rw [← hw] at Gn HB ⊢
    clear hw
    have HZ := Lib.hid (lt_of_heap Gn.out)
    have cGn := cell_row Gn.out
    go_wp2_with fail
    refine (S0.out _).mono ?_
    rintro x w5 ⟨e, g, rfl, hen, hb⟩
    clear cGn
    replace HB := Lib.hid (below_then HB.out hb)
    replace Gn := Lib.hid ((hb.block _ (lt_of_heap Gn.out)).trans Gn.out)
    have Ge := Lib.hid hen.eng
    have KR := Lib.hid hen.rom
    have HNE := Lib.hid hen.ne
    have HLE := Lib.hid hen.le
    have HLG := Lib.hid hen.lg
    clear hen hb
    have cGn := cell_row Gn.out
    have cGe := cell_row Ge.out
    go_wp2_with fail
    refine (S1.out _ _ _ Ge.out KR.out HNE.out).mono ?_
    rintro e w6 ⟨rfl, hv⟩
    clear cGn cGe
    replace Gn := Lib.hid (hv.heap Gn.out (by have := HZ.out; have := HLG.out; have := HNE.out; omega))
    replace Ge := Lib.hid (hv.heap Ge.out (by have := HZ.out; have := HLG.out; have := HNE.out; omega))
    replace HB := Lib.hid (hv.out HB.out (by have := HZ.out; have := HLG.out; have := HNE.out; omega))
    replace KR := Lib.hid hv.rom
    clear hv
    replace Gn := Lib.hid (keepAl (o' := .cells (wcells G) 24) Gn.out)
    have Gg := Lib.hid (alloc_new (w6) (.cells (wcells G) 24))
    replace HB := Lib.hid (below_al HB.out (.cells (wcells G) 24))
    have cGn := cell_row Gn.out
    have cGg := cell_row Gg.out
    go_wp2_with fail
    refine (S2.out _).mono ?_
    rintro e w7 ⟨rfl, hb⟩
    clear cGn cGg
    replace HB := Lib.hid (below_then HB.out hb)
    replace Gn := Lib.hid ((hb.block _ (lt_of_heap Gn.out)).trans Gn.out)
    replace Gg := Lib.hid ((hb.block _ (lt_of_heap Gg.out)).trans Gg.out)
    clear hb
    have cGn := cell_row Gn.out
    have cGg := cell_row Gg.out
    go_wp2_with fail
    refine (S3.out _).mono ?_
    rintro e w8 ⟨ru, rfl, hr, hb⟩
    clear cGn cGg
    replace HB := Lib.hid (below_then HB.out hb)
    replace Gn := Lib.hid ((hb.block _ (lt_of_heap Gn.out)).trans Gn.out)
    replace Gg := Lib.hid ((hb.block _ (lt_of_heap Gg.out)).trans Gg.out)
    have Ru := Lib.hid hr
    clear hr hb
    have cGg := cell_row Gg.out
    go_wp2_with fail
    refine (S7.out _ _ Ru.out).mono ?_
    rintro e w9 ⟨ry, rfl, hr, hb⟩
    clear cGg
    replace HB := Lib.hid (below_then HB.out hb)
    replace Gg := Lib.hid ((hb.block _ (lt_of_heap Gg.out)).trans Gg.out)
    replace Ru := Lib.hid (Ru.out.below hb)
    have Ry := Lib.hid hr
    clear hr hb
    have cGg := cell_row Gg.out
    go_wp2_with fail
    refine (S8.out _ _ _ Ru.out Ry.out).mono ?_
    rintro e w10 ⟨rz, rfl, hr, hb⟩
    clear cGg
    replace HB := Lib.hid (below_then HB.out hb)
    replace Gg := Lib.hid ((hb.block _ (lt_of_heap Gg.out)).trans Gg.out)
    replace Ru := Lib.hid (Ru.out.below hb)
    replace Ry := Lib.hid (Ry.out.below hb)
    have Rz := Lib.hid hr
    clear hr hb
    have cGg := cell_row Gg.out
    go_wp2_with fail
    refine (S9.out _ _ Rz.out).mono ?_
    rintro e w11 ⟨rq, rfl, hr, hb⟩
    clear cGg
    replace HB := Lib.hid (below_then HB.out hb)
    replace Gg := Lib.hid ((hb.block _ (lt_of_heap Gg.out)).trans Gg.out)
    replace Ru := Lib.hid (Ru.out.below hb)
    replace Rz := Lib.hid (Rz.out.below hb)
    have Rq := Lib.hid hr
    clear hr hb
    have cGg := cell_row Gg.out
    go_wp2_with fail
    refine (S10.out _ _ Rq.out).mono ?_
    rintro e w12 ⟨rfl, hb⟩
    clear cGg
    replace HB := Lib.hid (below_then HB.out hb)
    replace Gg := Lib.hid ((hb.block _ (lt_of_heap Gg.out)).trans Gg.out)
    replace Ru := Lib.hid (Ru.out.below hb)
    replace Rq := Lib.hid (Rq.out.below hb)
    clear hb
    replace Gg := Lib.hid (keepAl (o' := .cells (wcells G) 24) Gg.out)
    replace Ru := Lib.hid (Ru.out.below (below_al (Below.refl (w12).heap.size (w12)) (.cells (wcells G) 24)))
    have Gx := Lib.hid (alloc_new (w12) (.cells (wcells G) 24))
    replace HB := Lib.hid (below_al HB.out (.cells (wcells G) 24))
    have cGg := cell_row Gg.out
    have cGx := cell_row Gx.out
    go_wp2_with fail
    refine (S10b.out _ _ Ru.out).mono ?_
    rintro e w13 ⟨rfl, hb⟩
    clear cGg cGx
    replace HB := Lib.hid (below_then HB.out hb)
    replace Gg := Lib.hid ((hb.block _ (lt_of_heap Gg.out)).trans Gg.out)
    replace Ru := Lib.hid (Ru.out.below hb)
    replace Gx := Lib.hid ((hb.block _ (lt_of_heap Gx.out)).trans Gx.out)
    clear hb
    replace Gg := Lib.hid (keepAl (o' := .cells (wcells U) 24) Gg.out)
    replace Gx := Lib.hid (keepAl (o' := .cells (wcells U) 24) Gx.out)
    have Gv := Lib.hid (alloc_new (w13) (.cells (wcells U) 24))
    replace HB := Lib.hid (below_al HB.out (.cells (wcells U) 24))
    have cGg := cell_row Gg.out
    have cGx := cell_row Gx.out
    have cGv := cell_row Gv.out
    go_wp2_with fail
    refine (S11.out _).mono ?_
    rintro e w14 ⟨rfl, hb⟩
    clear cGg cGx cGv
    replace HB := Lib.hid (below_then HB.out hb)
    replace Gg := Lib.hid ((hb.block _ (lt_of_heap Gg.out)).trans Gg.out)
    replace Gx := Lib.hid ((hb.block _ (lt_of_heap Gx.out)).trans Gx.out)
    replace Gv := Lib.hid ((hb.block _ (lt_of_heap Gv.out)).trans Gv.out)
    clear hb
    replace Gg := Lib.hid (keepAl (o' := .cells (wcells Q) 24) Gg.out)
    replace Gx := Lib.hid (keepAl (o' := .cells (wcells Q) 24) Gx.out)
    have Gq := Lib.hid (alloc_new (w14) (.cells (wcells Q) 24))
    replace HB := Lib.hid (below_al HB.out (.cells (wcells Q) 24))
    replace Gg := Lib.hid (keepAl (o' := .cells (wcells R) 24) Gg.out)
    replace Gx := Lib.hid (keepAl (o' := .cells (wcells R) 24) Gx.out)
    replace Gq := Lib.hid (keepAl (o' := .cells (wcells R) 24) Gq.out)
    have Gr := Lib.hid (alloc_new' (w := (w14).alloc (.cells (wcells Q) 24)) (n := w14.heap.size + 1) (.cells (wcells R) 24) (by simp))
    replace HB := Lib.hid (below_al HB.out (.cells (wcells R) 24))
    have cGg := cell_row Gg.out
    have cGx := cell_row Gx.out
    have cGq := cell_row Gq.out
    go_upto_region 13 with fail
    clear cGg cGx cGq
    obtain ⟨wT, hw⟩ : ∃ wx, wx = ((w14).alloc (.cells (wcells Q) 24)).alloc (.cells (wcells R) 24) := ⟨_, rfl⟩
    rw [← hw] at Gg Gx Gq HB ⊢
    clear hw
    have xGg := ext_row (B := wT.heap.size) Gg.out (lt_of_heap Gg.out)
    have xGx := ext_row (B := wT.heap.size) Gx.out (lt_of_heap Gx.out)
    have xGq := ext_row (B := wT.heap.size) Gq.out (lt_of_heap Gq.out)
    apply wp_region_loose (looseR [_, _, _, _, _, _, _, _, _, _, _, _, _, _, _, _, _, _, _]) (pureL [])
    · kernel_rfl
    · kernel_rfl
    · kernel_rfl
    · exact allocs_ok [] rfl (by intro T hT; cases hT)
    · exact looseR_st _
    · change wpL _ _ _ _ _ _ _ 19 0 _ _
      refine wpL_calm wT rfl rfl rfl rfl (fun K hK K0 hK0 => ?_)
      go_simp
      first | refine hK _ _ rfl rfl ?_ | refine hK0 _ rfl ?_
      clear hK hK0 K K0
      refine wpL_calm wT rfl rfl rfl rfl (fun K hK K0 hK0 => ?_)
      go_simp
      first | refine hK _ _ rfl rfl ?_ | refine hK0 _ rfl ?_
      clear hK hK0 K K0
      refine wpL_calm wT rfl rfl rfl rfl (fun K hK K0 hK0 => ?_)
      go_simp
      first | refine hK _ _ rfl rfl ?_ | refine hK0 _ rfl ?_
      clear hK hK0 K K0
      refine wpL_calm wT rfl rfl rfl rfl (fun K hK K0 hK0 => ?_)
      go_simp
      first | refine hK _ _ rfl rfl ?_ | refine hK0 _ rfl ?_
      clear hK hK0 K K0
      refine wpL_calm wT rfl rfl rfl rfl (fun K hK K0 hK0 => ?_)
      go_simp
      first | refine hK _ _ rfl rfl ?_ | refine hK0 _ rfl ?_
      clear hK hK0 K K0
      refine wpL_calm wT rfl rfl rfl rfl (fun K hK K0 hK0 => ?_)
      go_simp
      first | refine hK _ _ rfl rfl ?_ | refine hK0 _ rfl ?_
      clear hK hK0 K K0
      refine wpL_calm wT rfl rfl rfl rfl (fun K hK K0 hK0 => ?_)
      go_simp
      first | refine hK _ _ rfl rfl ?_ | refine hK0 _ rfl ?_
      clear hK hK0 K K0
      refine wpL_calm wT rfl rfl rfl rfl (fun K hK K0 hK0 => ?_)
      go_simp
      first | refine hK _ _ rfl rfl ?_ | refine hK0 _ rfl ?_
      clear hK hK0 K K0
      refine wpL_calm wT rfl rfl rfl rfl (fun K hK K0 hK0 => ?_)
      go_simp
      first | refine hK _ _ rfl rfl ?_ | refine hK0 _ rfl ?_
      clear hK hK0 K K0
      refine wpL_call (Lft.big G) (big_some w _) rfl rfl rfl rfl (by first | rfl | go_simp) rfl (fun w' hC hF => ?_) (fun v9 hv9 => ?_)
      · obtain ⟨x, rfl⟩ := hC
        go_simp
        go_at_call 37
        exact gives_loose (S12.out _)
      refine wpL_calm wT rfl rfl rfl rfl (fun K hK K0 hK0 => ?_)
      go_simp
      first | refine hK _ _ rfl rfl ?_ | refine hK0 _ rfl ?_
      clear hK hK0 K K0
      refine wpL_call (Lft.big Q) (big_some w _) rfl rfl rfl rfl (by first | rfl | go_simp) rfl (fun w' hC hF => ?_) (fun v11 hv11 => ?_)
      · obtain ⟨x, rfl⟩ := hC
        go_simp
        go_at_call 37
        exact gives_loose (S13.out _)
      refine wpL_call (Lft.big A) (big_some w _) rfl rfl rfl rfl (by first | rfl | go_simp) rfl (fun w' hC hF => ?_) (fun v12 hv12 => ?_)
      · obtain ⟨x, rfl⟩ := hC
        go_simp
        go_at_call 36
        exact gives_loose (S14.out _ _ _ (hF 9 _ 82 rfl rfl rfl rfl (by decide)) (hF 11 _ 84 rfl rfl rfl rfl (by decide)))
      refine wpL_call (Lft.val (.bool true)) (val_some wT _) rfl rfl rfl rfl (by first | rfl | go_simp) rfl (fun w' hC hF => ?_) (fun v13 hv13 => ?_)
      · obtain ⟨x, rfl⟩ := hC
        go_simp
        go_at_call 35
        exact val_loose (S15.out _ _ (hF 12 _ 85 rfl rfl rfl rfl (by decide)))
      obtain ⟨_, rfl⟩ := hv13
      refine wpL_calm wT rfl rfl rfl rfl (fun K hK K0 hK0 => ?_)
      go_simp
      first | refine hK _ _ rfl rfl ?_ | refine hK0 _ rfl ?_
      clear hK hK0 K K0
      refine wpL_calm wT rfl rfl rfl rfl (fun K hK K0 hK0 => ?_)
      go_simp
      first | refine hK _ _ rfl rfl ?_ | refine hK0 _ rfl ?_
      clear hK hK0 K K0
      refine wpL_call (Lft.val (.bool true)) (val_some wT _) rfl rfl rfl rfl (by first | rfl | go_simp) rfl (fun w' hC hF => ?_) (fun v16 hv16 => ?_)
      · obtain ⟨x, rfl⟩ := hC
        go_simp
        go_at_call 19
        exact val_loose (SA.out _)
      obtain ⟨_, rfl⟩ := hv16
      refine wpL_calm wT rfl rfl rfl rfl (fun K hK K0 hK0 => ?_)
      go_simp
      first | refine hK _ _ rfl rfl ?_ | refine hK0 _ rfl ?_
      clear hK hK0 K K0
      refine wpL_calm wT rfl rfl rfl rfl (fun K hK K0 hK0 => ?_)
      go_simp
      first | refine hK _ _ rfl rfl ?_ | refine hK0 _ rfl ?_
      clear hK hK0 K K0
      refine wpL_nil (endL [] rfl (by intro q hq; cases hq) (fun w15 hb hst hap hfin => ?_))
      replace HB := Lib.hid (below_then HB.out hb)
      replace Gg := Lib.hid ((hb.block _ (lt_of_heap Gg.out)).trans Gg.out)
      replace Gx := Lib.hid ((hb.block _ (lt_of_heap Gx.out)).trans Gx.out)
      replace Gq := Lib.hid ((hb.block _ (lt_of_heap Gq.out)).trans Gq.out)
      clear hb hst hap hfin xGg xGx xGq
      go_wp2
      go_ret
      exact ⟨rfl, HB.out⟩
  · have S1 := Lib.hid (fun (e : Nat) w' => guessQ_no (.pointer (some ⟨e, 0, none⟩)) n (rsE n) hn (Or.inl (by rw [(rs_no h).2.2]; decide)) (fun w' => mayQ_w e n hn w') w')
    rw [(rs_no h).2.2] at S1
    rw [decide_eq_false h] at S2
    clear hn h h0
    go_enter Tryz.func6, Tryz.ntmps6
    have HB := Lib.hid (Below.refl w.heap.size w)
    have Gn := Lib.hid (alloc_new (w) (.cells (wcells n) 24))
    replace HB := Lib.hid (below_al HB.out (.cells (wcells n) 24))
    have cGn := cell_row Gn.out
    go_upto_region 1 with fail
    clear cGn
    obtain ⟨wA, hw⟩ : ∃ wx, wx = (w).alloc (.cells (wcells n) 24) := ⟨_, rfl⟩
    rw [← hw] at Gn HB ⊢
    clear hw
    have HZ := Lib.hid (lt_of_heap Gn.out)
    have cGn := cell_row Gn.out
    go_wp2_with fail
    refine (S0.out _).mono ?_
    rintro x w16 ⟨e, g, rfl, hen, hb⟩
    clear cGn
    replace HB := Lib.hid (below_then HB.out hb)
    replace Gn := Lib.hid ((hb.block _ (lt_of_heap Gn.out)).trans Gn.out)
    have Ge := Lib.hid hen.eng
    have KR := Lib.hid hen.rom
    have HNE := Lib.hid hen.ne
    have HLE := Lib.hid hen.le
    have HLG := Lib.hid hen.lg
    clear hen hb
    have cGn := cell_row Gn.out
    go_wp2_with fail
    refine (S1.out _ _).mono ?_
    rintro e w17 ⟨rfl, hb⟩
    clear cGn
    replace HB := Lib.hid (below_then HB.out hb)
    replace Gn := Lib.hid ((hb.block _ (lt_of_heap Gn.out)).trans Gn.out)
    clear hb
    replace Gn := Lib.hid (keepAl (o' := .cells (wcells 0) 24) Gn.out)
    have Gg := Lib.hid (alloc_new (w17) (.cells (wcells 0) 24))
    replace HB := Lib.hid (below_al HB.out (.cells (wcells 0) 24))
    have cGn := cell_row Gn.out
    have cGg := cell_row Gg.out
    go_wp2_with fail
    refine (S2.out _).mono ?_
    rintro e w18 ⟨rfl, hb⟩
    clear cGn cGg
    replace HB := Lib.hid (below_then HB.out hb)
    replace Gn := Lib.hid ((hb.block _ (lt_of_heap Gn.out)).trans Gn.out)
    replace Gg := Lib.hid ((hb.block _ (lt_of_heap Gg.out)).trans Gg.out)
    clear hb
    have cGn := cell_row Gn.out
    have cGg := cell_row Gg.out
    go_wp2_with fail
    refine (SA.out _).mono ?_
    rintro e w19 ⟨rfl, hb⟩
    clear cGn cGg
    replace HB := Lib.hid (below_then HB.out hb)
    replace Gn := Lib.hid ((hb.block _ (lt_of_heap Gn.out)).trans Gn.out)
    replace Gg := Lib.hid ((hb.block _ (lt_of_heap Gg.out)).trans Gg.out)
    clear hb
    have cGn := cell_row Gn.out
    have cGg := cell_row Gg.out
    go_wp2
    go_ret
    exact ⟨rfl, HB.out⟩
set_option maxRecDepth 100000 in
set_option maxHeartbeats 4000000 in
theorem newtonrootReciprocals_no (n : Nat) (k E : Int) (w : World) (hn : n < M) (hE : (E = 4 ∧ (k < 0 ∨ 10 < k ∨ ¬ n < P2 256)) ∨ (E = 5 ∧ 0 ≤ k ∧ k ≤ 10 ∧ n = 0))
    (hT : ∀ (e : Nat) (w' : World), Calls Tryz.prog 56 #[.pointer (some ⟨e, 0, none⟩), wv n, .int .i64 k] w' fun x w'' => x = .returned (.tuple #[wv 0, .int .i64 E]) ∧ Below w'.heap.size w' w'') :
    Calls Tryz.prog 13 #[wv n, .int .i64 k] w fun e w' => e = .returned (.bool true) ∧ Below w.heap.size w w' := by
  have S0 := Lib.hid (fun w' => newR_nil w')
  have S1 := Lib.hid hT
  have SR := Lib.hid (fun w' => rounds20_any w')
  have S3 := Lib.hid (fun w' => rmayR_any n hn w')
  have SA := Lib.hid (fun w' => awake20_any w')
  have hz : n = 0 → isZ n = true := isZ_yes
  have hm : n = 0 → decide (n < P2 256) = true := fun h => decide_eq_true (by rw [h]; exact P2_pos _)
  have hm2 : ¬ n < P2 256 → decide (n < P2 256) = false := decide_eq_false
  obtain ⟨m, hme⟩ : ∃ m, m = decide (n < P2 256) := ⟨_, rfl⟩
  rw [← hme] at S3 hm hm2
  rcases hE with ⟨rfl, h⟩ | ⟨rfl, h0, h1, h2⟩
  · by_cases c0 : k < 0
    · have b0 : decide (k < 0) = true := decide_eq_true c0
      clear hn hz hT h c0 hm hm2 hme
      go_enter Tryz.func13, Tryz.ntmps13
      have HB := Lib.hid (Below.refl w.heap.size w)
      have Gn := Lib.hid (alloc_new (w) (.cells (wcells n) 24))
      replace HB := Lib.hid (below_al HB.out (.cells (wcells n) 24))
      have cGn := cell_row Gn.out
      go_upto_region 1 with fail
      clear cGn
      obtain ⟨wA, hw⟩ : ∃ wx, wx = (w).alloc (.cells (wcells n) 24) := ⟨_, rfl⟩
      rw [← hw] at Gn HB ⊢
      clear hw
      have HZ := Lib.hid (lt_of_heap Gn.out)
      have cGn := cell_row Gn.out
      go_wp2_with fail
      refine (S0.out _).mono ?_
      rintro x w20 ⟨e, g, rfl, hen, hb⟩
      clear cGn
      replace HB := Lib.hid (below_then HB.out hb)
      replace Gn := Lib.hid ((hb.block _ (lt_of_heap Gn.out)).trans Gn.out)
      have Ge := Lib.hid hen.eng
      have KR := Lib.hid hen.rom
      have HNE := Lib.hid hen.ne
      have HLE := Lib.hid hen.le
      have HLG := Lib.hid hen.lg
      clear hen hb
      have cGn := cell_row Gn.out
      have cGe := cell_row Ge.out
      go_wp2_with fail
      refine (SR.out _).mono ?_
      rintro e w21 ⟨rfl, rfl⟩
      clear cGn cGe
      have cGn := cell_row Gn.out
      go_wp2_with fail
      refine (S1.out _ _).mono ?_
      rintro e w22 ⟨rfl, hb⟩
      clear cGn
      replace HB := Lib.hid (below_then HB.out hb)
      replace Gn := Lib.hid ((hb.block _ (lt_of_heap Gn.out)).trans Gn.out)
      clear hb
      replace Gn := Lib.hid (keepAl (o' := .cells (wcells 0) 24) Gn.out)
      have Gg := Lib.hid (alloc_new (w22) (.cells (wcells 0) 24))
      replace HB := Lib.hid (below_al HB.out (.cells (wcells 0) 24))
      skip
      have cGn := cell_row Gn.out
      have cGg := cell_row Gg.out
      go_wp2_with fail
      refine (SA.out _).mono ?_
      rintro e w23 ⟨rfl, hb⟩
      clear cGn cGg
      replace HB := Lib.hid (below_then HB.out hb)
      replace Gn := Lib.hid ((hb.block _ (lt_of_heap Gn.out)).trans Gn.out)
      replace Gg := Lib.hid ((hb.block _ (lt_of_heap Gg.out)).trans Gg.out)
      clear hb
      have cGn := cell_row Gn.out
      have cGg := cell_row Gg.out
      go_wp2
      go_ret
      exact ⟨rfl, HB.out⟩
    · have b0 : decide (k < 0) = false := decide_eq_false c0
      by_cases c1 : 10 < k
      · have b1 : decide (10 < k) = true := decide_eq_true c1
        clear hn hz hT h c0 c1 hm hm2 hme
        go_enter Tryz.func13, Tryz.ntmps13
        have HB := Lib.hid (Below.refl w.heap.size w)
        have Gn := Lib.hid (alloc_new (w) (.cells (wcells n) 24))
        replace HB := Lib.hid (below_al HB.out (.cells (wcells n) 24))
        have cGn := cell_row Gn.out
        go_upto_region 1 with fail
        clear cGn
        obtain ⟨wA, hw⟩ : ∃ wx, wx = (w).alloc (.cells (wcells n) 24) := ⟨_, rfl⟩
        rw [← hw] at Gn HB ⊢
        clear hw
        have HZ := Lib.hid (lt_of_heap Gn.out)
        have cGn := cell_row Gn.out
        go_wp2_with fail
        refine (S0.out _).mono ?_
        rintro x w24 ⟨e, g, rfl, hen, hb⟩
        clear cGn
        replace HB := Lib.hid (below_then HB.out hb)
        replace Gn := Lib.hid ((hb.block _ (lt_of_heap Gn.out)).trans Gn.out)
        have Ge := Lib.hid hen.eng
        have KR := Lib.hid hen.rom
        have HNE := Lib.hid hen.ne
        have HLE := Lib.hid hen.le
        have HLG := Lib.hid hen.lg
        clear hen hb
        have cGn := cell_row Gn.out
        have cGe := cell_row Ge.out
        go_wp2_with fail
        refine (SR.out _).mono ?_
        rintro e w25 ⟨rfl, rfl⟩
        clear cGn cGe
        have cGn := cell_row Gn.out
        go_wp2_with fail
        refine (S1.out _ _).mono ?_
        rintro e w26 ⟨rfl, hb⟩
        clear cGn
        replace HB := Lib.hid (below_then HB.out hb)
        replace Gn := Lib.hid ((hb.block _ (lt_of_heap Gn.out)).trans Gn.out)
        clear hb
        replace Gn := Lib.hid (keepAl (o' := .cells (wcells 0) 24) Gn.out)
        have Gg := Lib.hid (alloc_new (w26) (.cells (wcells 0) 24))
        replace HB := Lib.hid (below_al HB.out (.cells (wcells 0) 24))
        skip
        have cGn := cell_row Gn.out
        have cGg := cell_row Gg.out
        go_wp2_with fail
        refine (SA.out _).mono ?_
        rintro e w27 ⟨rfl, hb⟩
        clear cGn cGg
        replace HB := Lib.hid (below_then HB.out hb)
        replace Gn := Lib.hid ((hb.block _ (lt_of_heap Gn.out)).trans Gn.out)
        replace Gg := Lib.hid ((hb.block _ (lt_of_heap Gg.out)).trans Gg.out)
        clear hb
        have cGn := cell_row Gn.out
        have cGg := cell_row Gg.out
        go_wp2
        go_ret
        exact ⟨rfl, HB.out⟩
      · have b1 : decide (10 < k) = false := decide_eq_false c1
        obtain rfl := hm2 (by rcases h with h | h | h; exact absurd h c0; exact absurd h c1; exact h)
        clear hn hz hT h c0 c1 hm hm2 hme
        go_enter Tryz.func13, Tryz.ntmps13
        have HB := Lib.hid (Below.refl w.heap.size w)
        have Gn := Lib.hid (alloc_new (w) (.cells (wcells n) 24))
        replace HB := Lib.hid (below_al HB.out (.cells (wcells n) 24))
        have cGn := cell_row Gn.out
        go_upto_region 1 with fail
        clear cGn
        obtain ⟨wA, hw⟩ : ∃ wx, wx = (w).alloc (.cells (wcells n) 24) := ⟨_, rfl⟩
        rw [← hw] at Gn HB ⊢
        clear hw
        have HZ := Lib.hid (lt_of_heap Gn.out)
        have cGn := cell_row Gn.out
        go_wp2_with fail
        refine (S0.out _).mono ?_
        rintro x w28 ⟨e, g, rfl, hen, hb⟩
        clear cGn
        replace HB := Lib.hid (below_then HB.out hb)
        replace Gn := Lib.hid ((hb.block _ (lt_of_heap Gn.out)).trans Gn.out)
        have Ge := Lib.hid hen.eng
        have KR := Lib.hid hen.rom
        have HNE := Lib.hid hen.ne
        have HLE := Lib.hid hen.le
        have HLG := Lib.hid hen.lg
        clear hen hb
        have cGn := cell_row Gn.out
        have cGe := cell_row Ge.out
        go_wp2_with fail
        refine (SR.out _).mono ?_
        rintro e w29 ⟨rfl, rfl⟩
        clear cGn cGe
        have cGn := cell_row Gn.out
        go_wp2_with fail
        refine (S1.out _ _).mono ?_
        rintro e w30 ⟨rfl, hb⟩
        clear cGn
        replace HB := Lib.hid (below_then HB.out hb)
        replace Gn := Lib.hid ((hb.block _ (lt_of_heap Gn.out)).trans Gn.out)
        clear hb
        replace Gn := Lib.hid (keepAl (o' := .cells (wcells 0) 24) Gn.out)
        have Gg := Lib.hid (alloc_new (w30) (.cells (wcells 0) 24))
        replace HB := Lib.hid (below_al HB.out (.cells (wcells 0) 24))
        have cGn := cell_row Gn.out
        have cGg := cell_row Gg.out
        go_wp2_with fail
        refine (S3.out _).mono ?_
        rintro e w31 ⟨rfl, hb⟩
        clear cGn cGg
        replace HB := Lib.hid (below_then HB.out hb)
        replace Gn := Lib.hid ((hb.block _ (lt_of_heap Gn.out)).trans Gn.out)
        replace Gg := Lib.hid ((hb.block _ (lt_of_heap Gg.out)).trans Gg.out)
        clear hb
        have cGn := cell_row Gn.out
        have cGg := cell_row Gg.out
        go_wp2_with fail
        refine (SA.out _).mono ?_
        rintro e w32 ⟨rfl, hb⟩
        clear cGn cGg
        replace HB := Lib.hid (below_then HB.out hb)
        replace Gn := Lib.hid ((hb.block _ (lt_of_heap Gn.out)).trans Gn.out)
        replace Gg := Lib.hid ((hb.block _ (lt_of_heap Gg.out)).trans Gg.out)
        clear hb
        have cGn := cell_row Gn.out
        have cGg := cell_row Gg.out
        go_wp2
        go_ret
        exact ⟨rfl, HB.out⟩
  · have b0 : decide (k < 0) = false := decide_eq_false (by omega)
    have b1 : decide (10 < k) = false := decide_eq_false (by omega)
    have hz1 := hz h2
    obtain rfl := hm h2
    clear hn hz hT h0 h1 h2 hm hm2 hme
    go_enter Tryz.func13, Tryz.ntmps13
    have HB := Lib.hid (Below.refl w.heap.size w)
    have Gn := Lib.hid (alloc_new (w) (.cells (wcells n) 24))
    replace HB := Lib.hid (below_al HB.out (.cells (wcells n) 24))
    have cGn := cell_row Gn.out
    go_upto_region 1 with fail
    clear cGn
    obtain ⟨wA, hw⟩ : ∃ wx, wx = (w).alloc (.cells (wcells n) 24) := ⟨_, rfl⟩
    rw [← hw] at Gn HB ⊢
    clear hw
    have HZ := Lib.hid (lt_of_heap Gn.out)
    have cGn := cell_row Gn.out
    go_wp2_with fail
    refine (S0.out _).mono ?_
    rintro x w33 ⟨e, g, rfl, hen, hb⟩
    clear cGn
    replace HB := Lib.hid (below_then HB.out hb)
    replace Gn := Lib.hid ((hb.block _ (lt_of_heap Gn.out)).trans Gn.out)
    have Ge := Lib.hid hen.eng
    have KR := Lib.hid hen.rom
    have HNE := Lib.hid hen.ne
    have HLE := Lib.hid hen.le
    have HLG := Lib.hid hen.lg
    clear hen hb
    have cGn := cell_row Gn.out
    have cGe := cell_row Ge.out
    go_wp2_with fail
    refine (SR.out _).mono ?_
    rintro e w34 ⟨rfl, rfl⟩
    clear cGn cGe
    have cGn := cell_row Gn.out
    go_wp2_with fail
    refine (S1.out _ _).mono ?_
    rintro e w35 ⟨rfl, hb⟩
    clear cGn
    replace HB := Lib.hid (below_then HB.out hb)
    replace Gn := Lib.hid ((hb.block _ (lt_of_heap Gn.out)).trans Gn.out)
    clear hb
    replace Gn := Lib.hid (keepAl (o' := .cells (wcells 0) 24) Gn.out)
    have Gg := Lib.hid (alloc_new (w35) (.cells (wcells 0) 24))
    replace HB := Lib.hid (below_al HB.out (.cells (wcells 0) 24))
    have cGn := cell_row Gn.out
    have cGg := cell_row Gg.out
    go_wp2_with fail
    refine (S3.out _).mono ?_
    rintro e w36 ⟨rfl, hb⟩
    clear cGn cGg
    replace HB := Lib.hid (below_then HB.out hb)
    replace Gn := Lib.hid ((hb.block _ (lt_of_heap Gn.out)).trans Gn.out)
    replace Gg := Lib.hid ((hb.block _ (lt_of_heap Gg.out)).trans Gg.out)
    clear hb
    have cGn := cell_row Gn.out
    have cGg := cell_row Gg.out
    go_wp2_with fail
    refine (SA.out _).mono ?_
    rintro e w37 ⟨rfl, hb⟩
    clear cGn cGg
    replace HB := Lib.hid (below_then HB.out hb)
    replace Gn := Lib.hid ((hb.block _ (lt_of_heap Gn.out)).trans Gn.out)
    replace Gg := Lib.hid ((hb.block _ (lt_of_heap Gg.out)).trans Gg.out)
    clear hb
    have cGn := cell_row Gn.out
    have cGg := cell_row Gg.out
    go_wp2
    go_ret
    exact ⟨rfl, HB.out⟩
set_option maxRecDepth 100000 in
set_option maxHeartbeats 4000000 in
theorem newtonrootReciprocals_yes (n k : Nat) (w : World) (hk : k ≤ 10) (h0 : n ≠ 0) (h : n < P2 256) :
    Calls Tryz.prog 13 #[wv n, .int .i64 (k : Int)] w fun e w' => e = .returned (.bool true) ∧ Below w.heap.size w w' := by
  obtain ⟨u1, u2, u3⟩ := up_range h0 h
  have hn : n < M := Nat.lt_trans h (by rw [M_eq]; exact P2_lt (by omega))
  have hy := (nr_bounds (k := k) u3 u1 u2).1
  have h162 : P2 162 < M := by rw [M_eq]; exact P2_lt (by omega)
  have S0 := Lib.hid (fun w' => newR_nil w')
  have SR := Lib.hid (fun w' => rounds20_any w')
  have S1 := Lib.hid (fun e g w' hE hI hne => recQ_yes e g n k hk h0 h w' hE hI hne)
  have S3 := Lib.hid (fun w' => rmayR_any n hn w')
  rw [decide_eq_true h] at S3
  have S4 := Lib.hid (fun w' => norm16_any n h0 h w')
  have S5 := Lib.hid (fun v w' h => rrecip20_any v (upN n) k w' u3 u1 u2 hk h)
  have S6 := Lib.hid (fun v w' h => wide_small v (nrY (upN n) k) w' (by omega) h)
  have SA := Lib.hid (fun w' => awake20_any w')
  have b0 : decide ((k : Int) < 0) = false := decide_eq_false (by omega)
  have b1 : decide ((10 : Int) < (k : Int)) = false := decide_eq_false (by omega)
  have hz := isZ_no hn h0
  obtain ⟨y, hye⟩ : ∃ A, A = nrY (upN n) k := ⟨_, rfl⟩
  rw [← hye] at S1 S5 S6
  obtain ⟨f, hf⟩ : ∃ f, f = decide (M ≤ y) := ⟨_, rfl⟩
  rw [← hf] at S6
  obtain ⟨U, hU⟩ : ∃ A, A = upN n := ⟨_, rfl⟩
  rw [← hU] at S4 S5
  obtain ⟨b, hb⟩ : ∃ A, A = nrmN n := ⟨_, rfl⟩
  rw [← hb] at S4
  clear hk h0 h u1 u2 u3 hn hy h162 hye hf hU hb
  go_enter Tryz.func13, Tryz.ntmps13
  have HB := Lib.hid (Below.refl w.heap.size w)
  have Gn := Lib.hid (alloc_new (w) (.cells (wcells n) 24))
  replace HB := Lib.hid (below_al HB.out (.cells (wcells n) 24))
  have cGn := cell_row Gn.out
  go_upto_region 1 with fail
  clear cGn
  obtain ⟨wA, hw⟩ : ∃ wx, wx = (w).alloc (.cells (wcells n) 24) := ⟨_, rfl⟩
  rw [← hw] at Gn HB ⊢
  clear hw
  have HZ := Lib.hid (lt_of_heap Gn.out)
  have cGn := cell_row Gn.out
  go_wp2_with fail
  refine (S0.out _).mono ?_
  rintro x w38 ⟨e, g, rfl, hen, hb⟩
  clear cGn
  replace HB := Lib.hid (below_then HB.out hb)
  replace Gn := Lib.hid ((hb.block _ (lt_of_heap Gn.out)).trans Gn.out)
  have Ge := Lib.hid hen.eng
  have KR := Lib.hid hen.rom
  have HNE := Lib.hid hen.ne
  have HLE := Lib.hid hen.le
  have HLG := Lib.hid hen.lg
  clear hen hb
  have cGn := cell_row Gn.out
  have cGe := cell_row Ge.out
  go_wp2_with fail
  refine (SR.out _).mono ?_
  rintro e w39 ⟨rfl, rfl⟩
  clear cGn cGe
  have cGn := cell_row Gn.out
  have cGe := cell_row Ge.out
  go_wp2_with fail
  refine (S1.out _ _ _ Ge.out KR.out HNE.out).mono ?_
  rintro e w40 ⟨rfl, hv⟩
  clear cGn cGe
  replace Gn := Lib.hid (hv.heap Gn.out (by have := HZ.out; have := HLG.out; have := HNE.out; omega))
  replace Ge := Lib.hid (hv.heap Ge.out (by have := HZ.out; have := HLG.out; have := HNE.out; omega))
  replace HB := Lib.hid (hv.out HB.out (by have := HZ.out; have := HLG.out; have := HNE.out; omega))
  replace KR := Lib.hid hv.rom
  clear hv
  replace Gn := Lib.hid (keepAl (o' := .cells (wcells y) 24) Gn.out)
  have Gg := Lib.hid (alloc_new (w40) (.cells (wcells y) 24))
  replace HB := Lib.hid (below_al HB.out (.cells (wcells y) 24))
  have cGn := cell_row Gn.out
  have cGg := cell_row Gg.out
  go_wp2_with fail
  refine (S3.out _).mono ?_
  rintro e w41 ⟨rfl, hb⟩
  clear cGn cGg
  replace HB := Lib.hid (below_then HB.out hb)
  replace Gn := Lib.hid ((hb.block _ (lt_of_heap Gn.out)).trans Gn.out)
  replace Gg := Lib.hid ((hb.block _ (lt_of_heap Gg.out)).trans Gg.out)
  clear hb
  have cGn := cell_row Gn.out
  have cGg := cell_row Gg.out
  go_wp2_with fail
  refine (S4.out _).mono ?_
  rintro e w42 ⟨ru, rfl, hr, hb⟩
  clear cGn cGg
  replace HB := Lib.hid (below_then HB.out hb)
  replace Gn := Lib.hid ((hb.block _ (lt_of_heap Gn.out)).trans Gn.out)
  replace Gg := Lib.hid ((hb.block _ (lt_of_heap Gg.out)).trans Gg.out)
  have Ru := Lib.hid hr
  clear hr hb
  have cGg := cell_row Gg.out
  go_wp2_with fail
  refine (S5.out _ _ Ru.out).mono ?_
  rintro e w43 ⟨rr, rfl, hr, hb⟩
  clear cGg
  replace HB := Lib.hid (below_then HB.out hb)
  replace Gg := Lib.hid ((hb.block _ (lt_of_heap Gg.out)).trans Gg.out)
  replace Ru := Lib.hid (Ru.out.below hb)
  have Rr := Lib.hid hr
  clear hr hb
  have cGg := cell_row Gg.out
  go_wp2_with fail
  refine (S6.out _ _ Rr.out).mono ?_
  rintro e w44 ⟨rfl, hb⟩
  clear cGg
  replace HB := Lib.hid (below_then HB.out hb)
  replace Gg := Lib.hid ((hb.block _ (lt_of_heap Gg.out)).trans Gg.out)
  replace Rr := Lib.hid (Rr.out.below hb)
  clear hb
  replace Gg := Lib.hid (keepAl (o' := .cells (wcells y) 24) Gg.out)
  have Gx := Lib.hid (alloc_new (w44) (.cells (wcells y) 24))
  replace HB := Lib.hid (below_al HB.out (.cells (wcells y) 24))
  have cGg := cell_row Gg.out
  have cGx := cell_row Gx.out
  go_wp2_with fail
  refine (SA.out _).mono ?_
  rintro e w45 ⟨rfl, hb⟩
  clear cGg cGx
  replace HB := Lib.hid (below_then HB.out hb)
  replace Gg := Lib.hid ((hb.block _ (lt_of_heap Gg.out)).trans Gg.out)
  replace Gx := Lib.hid ((hb.block _ (lt_of_heap Gx.out)).trans Gx.out)
  clear hb
  have cGg := cell_row Gg.out
  have cGx := cell_row Gx.out
  go_wp2
  go_ret
  exact ⟨rfl, HB.out⟩
theorem newtonrootReciprocals_any (n : Nat) (k : Int) (w : World) (hn : n < M) (_h1 : -9223372036854775808 ≤ k) (_h2 : k ≤ 9223372036854775807) :
    Calls Tryz.prog 13 #[wv n, .int .i64 k] w fun e w' => e = .returned (.bool true) ∧ Below w.heap.size w w' := by
  by_cases hc : k < 0 ∨ 10 < k ∨ ¬ n < P2 256
  · exact newtonrootReciprocals_no n k 4 w hn (Or.inl ⟨rfl, hc⟩) (fun e w' => recQ_range e n k hn hc w')
  · have c0 : 0 ≤ k := Int.not_lt.1 fun h => hc (Or.inl h)
    have c1 : k ≤ 10 := Int.not_lt.1 fun h => hc (Or.inr (Or.inl h))
    by_cases h0 : n = 0
    · subst h0
      exact newtonrootReciprocals_no 0 k 5 w hn (Or.inr ⟨rfl, c0, c1, rfl⟩) (fun e w' => recQ_zero e k c0 c1 w')
    · obtain ⟨j, rfl⟩ := Int.eq_ofNat_of_zero_le c0
      exact newtonrootReciprocals_yes n j w (by omega) h0 (Decidable.byContradiction fun h => hc (Or.inr (Or.inr h)))
end Go.Proofs.YtegmmaaapdgocaaGreat
