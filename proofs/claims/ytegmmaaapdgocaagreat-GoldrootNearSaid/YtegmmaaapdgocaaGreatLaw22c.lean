/- THE WALK of the law on how near goldroot's pairs come. -/
import Derived.Test.YtegmmaaapdgocaaGreatLaw22b
namespace Go.Proofs.YtegmmaaapdgocaaGreat
open Go Go.RowKit

attribute [local go_sem ↓] Go.wp_at_zero Go.wp_at_succ
set_option maxRecDepth 100000 in
set_option maxHeartbeats 4000000 in
theorem goldrootNear_any (n : Nat) (w : World) (hn : n < M) :
    Calls Tryz.prog 8 #[wv n] w fun e w' => e = .returned (.bool true) ∧ Below w.heap.size w w' := by
  have S0 := Lib.hid (fun w' => newB_nil w')
  have SR := Lib.hid (fun w' => rounds22_b w')
  have S2 := Lib.hid (fun w' => rmayR_any n hn w')
  have SA := Lib.hid (fun w' => awake22_any w')
  by_cases hE : grE n 5 = 0
  · have hk : ¬ ((5 : Int) < 0 ∨ (10 : Int) < 5 ∨ ¬ n < P2 256) := fun h => by unfold grE at hE; rw [if_pos h] at hE; cases hE
    have h0 : n ≠ 0 := fun h => by unfold grE at hE; rw [if_neg hk, if_pos h] at hE; cases hE
    have h : n < P2 256 := Decidable.byContradiction fun h => hk (Or.inr (Or.inr h))
    obtain ⟨u1, u2, u3⟩ := up_range h0 h
    obtain ⟨g1, g2, _⟩ := gr_step u3 u1 u2 (show 5 ≤ 10 by decide)
    obtain ⟨n1, n2⟩ := gr_guess u3 u1 u2
    have hgs := near_rt u2 n1
    have hr := rt_lt u2
    have h128 : P2 128 < M := by rw [M_eq]; exact P2_lt (by omega)
    have h164 : P2 164 < M := by rw [M_eq]; exact P2_lt (by omega)
    have h162 : P2 162 < M := by rw [M_eq]; exact P2_lt (by omega)
    have hUM : upN n < M := Nat.lt_trans u2 (by rw [M_eq]; exact P2_lt (by omega))
    have hGH : grG (upN n) 5 * grH (upN n) 5 < P2 326 := by
      have := Nat.mul_lt_mul'' g1 g2
      rwa [← P2_add] at this
    have hGH2 : grG (upN n) 5 * grH (upN n) 5 * P2 1 < P2 327 := by
      have := Nat.mul_lt_mul_of_pos_right hGH (P2_pos 1)
      rwa [← P2_add] at this
    have h320 : P2 320 < P2 327 := P2_lt (by omega)
    have hfar : (grG (upN n) 5 * grH (upN n) 5 * P2 1 - P2 320) + (P2 320 - grG (upN n) 5 * grH (upN n) 5 * P2 1) < P2 327 := by omega
    have S1 : Hid (∀ (e g : Nat) (w' : World), w'.heap[e]? = some (.cells #[.pointer (some ⟨g, 0, none⟩)] 115 (0, 0)) → IsRom w' g → e ≠ g → Calls Tryz.prog 39 #[.pointer (some ⟨e, 0, none⟩), wv n, .int .i64 5] w' fun x w'' => x = .returned (.tuple #[wv (grG (upN n) 5), wv (grH (upN n) 5), .int .i64 0]) ∧ VG g w' w'') := Lib.hid fun e g w' hE hI hne => pairB_yes e g n 5 h0 h (by decide) w' hE hI hne
    rw [decide_eq_true h] at S2
    have S3 := Lib.hid (fun w' => norm16_any n h0 h w')
    have S4 := Lib.hid (fun v w' h => wide_small v (upN n) w' hUM h)
    have S5 := Lib.hid (fun w' => rroot22_w (upN n) w' u2)
    have S6 := Lib.hid (fun w' => big_any (grG (upN n) 5) (by omega) w')
    have S7 := Lib.hid (fun w' => big_any (grH (upN n) 5) (by omega) w')
    have S8 := Lib.hid (fun v v2 w' h h2 => mul_any v v2 (grG (upN n) 5) (grH (upN n) 5) w' (small_of g1 (by decide)) (small_of g2 (by decide)) h h2)
    have S9 := Lib.hid (fun v w' h => rshl_any v (grG (upN n) 5 * grH (upN n) 5) 1 w' (small_of hGH (by decide)) (by decide) h)
    have S10 := Lib.hid (fun w' => power_any 320 (by decide) w')
    have S11 := Lib.hid (fun v v2 w' h h2 => raway_any v v2 (grG (upN n) 5 * grH (upN n) 5 * P2 1) (P2 320) w' (small_of hGH2 (by decide)) (small_of h320 (by decide)) h h2)
    have S12 := Lib.hid (fun w' => power_any 190 (by decide) w')
    have S13 := Lib.hid (fun v v2 w' h h2 => cmp_any v v2 ((grG (upN n) 5 * grH (upN n) 5 * P2 1 - P2 320) + (P2 320 - grG (upN n) 5 * grH (upN n) 5 * P2 1)) (P2 190) w' (small_of hfar (by decide)) (small_of (P2_lt (show 190 < 191 by omega)) (by decide)) h h2)
    have hc : cmpN ((grG (upN n) 5 * grH (upN n) 5 * P2 1 - P2 320) + (P2 320 - grG (upN n) 5 * grH (upN n) 5 * P2 1)) (P2 190) ≤ 0 := gr_cmp u3 u1 u2
    have S14 := Lib.hid (fun v w' h => rshr_any v (grG (upN n) 5) 32 w' (small_of g1 (by decide)) (by decide) h)
    have S15 := Lib.hid (fun w' => big_any (rtN 2 (upN n)) (by omega) w')
    have S16 := Lib.hid (fun v v2 w' h h2 => raway_any v v2 (grG (upN n) 5 / P2 32) (rtN 2 (upN n)) w' (small_of hgs (by decide)) (small_of hr (by decide)) h h2)
    have S17 := Lib.hid (fun v w' h => rwithin_any v ((grG (upN n) 5 / P2 32 - rtN 2 (upN n)) + (rtN 2 (upN n) - grG (upN n) 5 / P2 32)) 2 w' (small_of (show _ < P2 32 by have := n1; have := n2; generalize grG (upN n) 5 / P2 32 = a at *; generalize rtN 2 (upN n) = b at *; rw [P2_eq]; omega) (by decide)) (by decide) h)
    rw [within_near n1 n2] at S17
    have hz := isZ_no hn h0
    obtain ⟨V, hV⟩ : ∃ A : Nat, A = (grG (upN n) 5 / P2 32 - rtN 2 (upN n)) + (rtN 2 (upN n) - grG (upN n) 5 / P2 32) := ⟨_, rfl⟩
    rw [← hV] at S16 S17
    obtain ⟨Z, hZe⟩ : ∃ A, A = grG (upN n) 5 / P2 32 := ⟨_, rfl⟩
    rw [← hZe] at S14 S16
    obtain ⟨F, hF⟩ : ∃ A : Nat, A = (grG (upN n) 5 * grH (upN n) 5 * P2 1 - P2 320) + (P2 320 - grG (upN n) 5 * grH (upN n) 5 * P2 1) := ⟨_, rfl⟩
    rw [← hF] at S11 S13 hc
    obtain ⟨c, hce⟩ : ∃ c, c = cmpN F (P2 190) := ⟨_, rfl⟩
    rw [← hce] at S13 hc
    have b1 : decide (c ≤ 0) = true := decide_eq_true hc
    obtain ⟨T, hT⟩ : ∃ A, A = P2 190 := ⟨_, rfl⟩
    rw [← hT] at S12 S13
    obtain ⟨K, hK⟩ : ∃ A, A = P2 320 := ⟨_, rfl⟩
    rw [← hK] at S10 S11
    obtain ⟨Pt, hPt⟩ : ∃ A, A = grG (upN n) 5 * grH (upN n) 5 * P2 1 := ⟨_, rfl⟩
    rw [← hPt] at S9 S11
    obtain ⟨Pz, hPz⟩ : ∃ A, A = grG (upN n) 5 * grH (upN n) 5 := ⟨_, rfl⟩
    rw [← hPz] at S8 S9
    obtain ⟨X, hX⟩ : ∃ A, A = grG (upN n) 5 := ⟨_, rfl⟩
    rw [← hX] at S1 S6 S8 S14
    obtain ⟨Y, hY⟩ : ∃ A, A = grH (upN n) 5 := ⟨_, rfl⟩
    rw [← hY] at S1 S7 S8
    obtain ⟨R, hR⟩ : ∃ A, A = upN n - rtN 2 (upN n) * rtN 2 (upN n) := ⟨_, rfl⟩
    rw [← hR] at S5
    obtain ⟨Q, hQ⟩ : ∃ A, A = rtN 2 (upN n) := ⟨_, rfl⟩
    rw [← hQ] at S5 S15 S16
    obtain ⟨f, hf⟩ : ∃ f, f = decide (M ≤ upN n) := ⟨_, rfl⟩
    rw [← hf] at S4
    obtain ⟨U, hU⟩ : ∃ y, y = upN n := ⟨_, rfl⟩
    rw [← hU] at S3 S4 S5
    obtain ⟨b, hb⟩ : ∃ y, y = nrmN n := ⟨_, rfl⟩
    rw [← hb] at S3
    clear hn hE hk h0 h u1 u2 u3 g1 g2 n1 n2 hgs hr h128 h164 h162 hUM hGH hGH2 h320 hfar hc hV hZe hF hce hT hK hPt hPz hX hY hR hQ hf hU hb
    go_enter Tryz.func8, Tryz.ntmps8
    have HB := Lib.hid (Below.refl w.heap.size w)
    have Gn := Lib.hid (alloc_new (w) (.cells (wcells n) 24))
    replace HB := Lib.hid (below_al HB.out (.cells (wcells n) 24))
    have cGn := cell_row Gn.out
    go_upto_region 1 with fail
    clear cGn
    obtain ⟨wA, hw⟩ : ∃ wx, wx = (w).alloc (.cells (wcells n) 24) := ⟨_, rfl⟩
    rw [← hw] at Gn HB ⊢
    clear hw
    have HZ := Lib.hid (lt_of_heap Gn.out)
    have cGn := cell_row Gn.out
    go_wp2_with fail
    refine (S0.out _).mono ?_
    rintro x w1 ⟨e, g, rfl, hen, hb⟩
    clear cGn
    replace HB := Lib.hid (below_then HB.out hb)
    replace Gn := Lib.hid ((hb.block _ (lt_of_heap Gn.out)).trans Gn.out)
    have Ge := Lib.hid hen.eng
    have KR := Lib.hid hen.rom
    have HNE := Lib.hid hen.ne
    have HLE := Lib.hid hen.le
    have HLG := Lib.hid hen.lg
    clear hen hb
    have cGn := cell_row Gn.out
    have cGe := cell_row Ge.out
    go_upto_region 4 with fail
    clear cGn cGe
    obtain ⟨wB, hw⟩ : ∃ wx, wx = w1 := ⟨_, rfl⟩
    rw [← hw] at Gn Ge KR HB ⊢
    clear hw
    have VB := Lib.hid (VG.refl KR.out)
    have HBO := Lib.hid HB.out
    clear HB KR
    have xGn := extg_row (g := g) (B := wB.heap.size) Gn.out (lt_of_heap Gn.out) (by have := VB.out.lt; (try have := HNE.out); (try have := HZ.out); (try have := HLG.out); omega)
    have xGe := extg_row (g := g) (B := wB.heap.size) Ge.out (lt_of_heap Ge.out) (by have := VB.out.lt; (try have := HNE.out); (try have := HZ.out); (try have := HLG.out); omega)
    have hnx : Nonempty (ExtG g wB.heap.size wB) := ⟨⟨wB, BelowG.refl VB.out.rom _⟩⟩
    apply wp_region_looseG VB.out.rom (looseRV [_, _, _, _, _, _, _, _, undef, undef, undef, undef, _]) (pureL [0, 4, 5, 6, 7, 12])
    · kernel_rfl
    · kernel_rfl
    · kernel_rfl
    · exact allocs_ok [24, 24] rfl (by intro T hT; simp only [List.mem_cons, List.not_mem_nil, or_false, or_self] at hT; subst hT; exact makes_wide)
    · exact looseRV_st _ _
    · change wpLG _ _ _ _ _ _ _ _ 13 0 _ _
      refine wpL_pureG wB rfl rfl rfl rfl (fun K hK K0 hK0 => ?_)
      go_simp
      first | refine hK _ _ rfl rfl ?_ | refine hK0 _ rfl ?_
      clear hK hK0 K K0
      refine wpL_calmG wB rfl rfl rfl rfl (fun K hK K0 hK0 => ?_)
      go_simp
      first | refine hK _ _ rfl rfl ?_ | refine hK0 _ rfl ?_
      clear hK hK0 K K0
      refine wpL_calmG wB rfl rfl rfl rfl (fun K hK K0 hK0 => ?_)
      go_simp
      apply Exists.intro
      apply And.intro
      · intro x
        go_at_call 38
        with_reducible exact Calls.stepG _ (SR.out _)
      refine hK _ _ rfl rfl ?_
      clear hK hK0 K K0
      refine wpL_calmG wB rfl rfl rfl rfl (fun K hK K0 hK0 => ?_)
      go_simp
      apply Exists.intro
      apply And.intro
      · intro x
        go_at_call 39
        with_reducible exact Calls.stepV (S1.out _ _ _ (extg_block Ge.out (lt_of_heap Ge.out) HNE.out _) (extg_rom _) HNE.out)
      refine hK _ _ rfl rfl ?_
      clear hK hK0 K K0
      refine wpL_pureG wB rfl rfl rfl rfl (fun K hK K0 hK0 => ?_)
      go_simp
      first | refine hK _ _ rfl rfl ?_ | refine hK0 _ rfl ?_
      clear hK hK0 K K0
      refine wpL_pureG wB rfl rfl rfl rfl (fun K hK K0 hK0 => ?_)
      go_simp
      first | refine hK _ _ rfl rfl ?_ | refine hK0 _ rfl ?_
      clear hK hK0 K K0
      refine wpL_pureG wB rfl rfl rfl rfl (fun K hK K0 hK0 => ?_)
      go_simp
      first | refine hK _ _ rfl rfl ?_ | refine hK0 _ rfl ?_
      clear hK hK0 K K0
      refine wpL_pureG wB rfl rfl rfl rfl (fun K hK K0 hK0 => ?_)
      go_simp
      first | refine hK _ _ rfl rfl ?_ | refine hK0 _ rfl ?_
      clear hK hK0 K K0
      refine wpL_allocG rfl rfl rfl rfl (fun g8 hg8 => ?_)
      refine wpL_allocG rfl rfl rfl rfl (fun g9 hg9 => ?_)
      refine wpL_storeG rfl rfl ?_
      refine wpL_storeG rfl rfl ?_
      refine wpL_pureG wB rfl rfl rfl rfl (fun K hK K0 hK0 => ?_)
      go_simp
      first | refine hK _ _ rfl rfl ?_ | refine hK0 _ rfl ?_
      clear hK hK0 K K0
      refine wpL_nilG (endLG [(24, .tmp 4, .tmp 22), (24, .tmp 5, .tmp 23)] rfl (by intro q hq; simp only [List.mem_cons, List.not_mem_nil, or_false] at hq; rcases hq with rfl | rfl <;> exact fits_wv (by kernel_rfl) _) (fun w2 hv hst hap hfin => ?_))
      have Ga : Hid (w2.heap[g8]? = some (.cells (wcells (X)) 24 (0, 0))) := Lib.hid (hst 10 _ _ _ _ g8 rfl rfl rfl)
      have Gb : Hid (w2.heap[g9]? = some (.cells (wcells (Y)) 24 (0, 0))) := Lib.hid (hst 11 _ _ _ _ g9 rfl rfl rfl)
      have hne8_9 : g8 ≠ g9 := fun h => hap 8 _ _ _ 9 _ _ _ rfl rfl rfl rfl rfl rfl (by decide) (by subst h; rfl)
      replace Gn := Lib.hid ((hv.block _ (lt_of_heap Gn.out) (by have := VB.out.lt; (try have := HNE.out); (try have := HZ.out); (try have := HLG.out); omega)).trans Gn.out)
      replace Ge := Lib.hid ((hv.block _ (lt_of_heap Ge.out) (by have := VB.out.lt; (try have := HNE.out); (try have := HZ.out); (try have := HLG.out); omega)).trans Ge.out)
      have HG8 := Lib.hid hg8
      have HG9 := Lib.hid hg9
      replace VB := Lib.hid (VB.out.trans' hv)
      clear hv hst hap hfin xGn xGe hnx
      have HB := Lib.hid (VB.out.out HBO.out (by have := HLG.out; have := HZ.out; omega))
      clear VB HBO Ge HG8 HG9 hg8 hg9 hne8_9
      have cGn := cell_row Gn.out
      have cGa := cell_row Ga.out
      have cGb := cell_row Gb.out
      go_wp2_with fail
      refine (S2.out _).mono ?_
      rintro e w3 ⟨rfl, hb⟩
      clear cGn cGa cGb
      replace HB := Lib.hid (below_then HB.out hb)
      replace Gn := Lib.hid ((hb.block _ (lt_of_heap Gn.out)).trans Gn.out)
      replace Ga := Lib.hid ((hb.block _ (lt_of_heap Ga.out)).trans Ga.out)
      replace Gb := Lib.hid ((hb.block _ (lt_of_heap Gb.out)).trans Gb.out)
      clear hb
      have cGn := cell_row Gn.out
      have cGa := cell_row Ga.out
      have cGb := cell_row Gb.out
      go_wp2_with fail
      refine (S3.out _).mono ?_
      rintro e w4 ⟨ru, rfl, hr, hb⟩
      clear cGn cGa cGb
      replace HB := Lib.hid (below_then HB.out hb)
      replace Gn := Lib.hid ((hb.block _ (lt_of_heap Gn.out)).trans Gn.out)
      replace Ga := Lib.hid ((hb.block _ (lt_of_heap Ga.out)).trans Ga.out)
      replace Gb := Lib.hid ((hb.block _ (lt_of_heap Gb.out)).trans Gb.out)
      have Ru := Lib.hid hr
      clear hr hb
      have cGa := cell_row Ga.out
      have cGb := cell_row Gb.out
      go_wp2_with fail
      refine (S4.out _ _ Ru.out).mono ?_
      rintro e w5 ⟨rfl, hb⟩
      clear cGa cGb
      replace HB := Lib.hid (below_then HB.out hb)
      replace Ga := Lib.hid ((hb.block _ (lt_of_heap Ga.out)).trans Ga.out)
      replace Gb := Lib.hid ((hb.block _ (lt_of_heap Gb.out)).trans Gb.out)
      replace Ru := Lib.hid (Ru.out.below hb)
      clear hb
      replace Ga := Lib.hid (keepAl (o' := .cells (wcells U) 24) Ga.out)
      replace Gb := Lib.hid (keepAl (o' := .cells (wcells U) 24) Gb.out)
      have Gv := Lib.hid (alloc_new (w5) (.cells (wcells U) 24))
      replace HB := Lib.hid (below_al HB.out (.cells (wcells U) 24))
      have cGa := cell_row Ga.out
      have cGb := cell_row Gb.out
      have cGv := cell_row Gv.out
      go_wp2_with fail
      refine (S5.out _).mono ?_
      rintro e w6 ⟨rfl, hb⟩
      clear cGa cGb cGv
      replace HB := Lib.hid (below_then HB.out hb)
      replace Ga := Lib.hid ((hb.block _ (lt_of_heap Ga.out)).trans Ga.out)
      replace Gb := Lib.hid ((hb.block _ (lt_of_heap Gb.out)).trans Gb.out)
      replace Gv := Lib.hid ((hb.block _ (lt_of_heap Gv.out)).trans Gv.out)
      clear hb
      replace Ga := Lib.hid (keepAl (o' := .cells (wcells Q) 24) Ga.out)
      replace Gb := Lib.hid (keepAl (o' := .cells (wcells Q) 24) Gb.out)
      have Gq := Lib.hid (alloc_new (w6) (.cells (wcells Q) 24))
      replace HB := Lib.hid (below_al HB.out (.cells (wcells Q) 24))
      replace Ga := Lib.hid (keepAl (o' := .cells (wcells R) 24) Ga.out)
      replace Gb := Lib.hid (keepAl (o' := .cells (wcells R) 24) Gb.out)
      replace Gq := Lib.hid (keepAl (o' := .cells (wcells R) 24) Gq.out)
      have Gr := Lib.hid (alloc_new' (w := (w6).alloc (.cells (wcells Q) 24)) (n := w6.heap.size + 1) (.cells (wcells R) 24) (by simp))
      replace HB := Lib.hid (below_al HB.out (.cells (wcells R) 24))
      have cGa := cell_row Ga.out
      have cGb := cell_row Gb.out
      have cGq := cell_row Gq.out
      go_upto_region 10 with fail
      clear cGa cGb cGq
      obtain ⟨wS, hw⟩ : ∃ wx, wx = ((w6).alloc (.cells (wcells Q) 24)).alloc (.cells (wcells R) 24) := ⟨_, rfl⟩
      rw [← hw] at Ga Gb Gq HB ⊢
      clear hw
      have xGa := ext_row (B := wS.heap.size) Ga.out (lt_of_heap Ga.out)
      have xGb := ext_row (B := wS.heap.size) Gb.out (lt_of_heap Gb.out)
      have xGq := ext_row (B := wS.heap.size) Gq.out (lt_of_heap Gq.out)
      apply wp_region_loose (looseR [_, _, _, _, _, _, _, _, _]) (pureL [])
      · kernel_rfl
      · kernel_rfl
      · kernel_rfl
      · exact allocs_ok [] rfl (by intro T hT; cases hT)
      · exact looseR_st _
      · change wpL _ _ _ _ _ _ _ 9 0 _ _
        refine wpL_calm wS rfl rfl rfl rfl (fun K hK K0 hK0 => ?_)
        go_simp
        first | refine hK _ _ rfl rfl ?_ | refine hK0 _ rfl ?_
        clear hK hK0 K K0
        refine wpL_call (Lft.big X) (big_some w _) rfl rfl rfl rfl (by first | rfl | go_simp) rfl (fun w' hC hF => ?_) (fun v1 hv1 => ?_)
        · obtain ⟨x, rfl⟩ := hC
          go_simp
          go_at_call 37
          exact gives_loose (S6.out _)
        refine wpL_calm wS rfl rfl rfl rfl (fun K hK K0 hK0 => ?_)
        go_simp
        first | refine hK _ _ rfl rfl ?_ | refine hK0 _ rfl ?_
        clear hK hK0 K K0
        refine wpL_call (Lft.big Y) (big_some w _) rfl rfl rfl rfl (by first | rfl | go_simp) rfl (fun w' hC hF => ?_) (fun v3 hv3 => ?_)
        · obtain ⟨x, rfl⟩ := hC
          go_simp
          go_at_call 37
          exact gives_loose (S7.out _)
        refine wpL_call (Lft.big Pz) (big_some w _) rfl rfl rfl rfl (by first | rfl | go_simp) rfl (fun w' hC hF => ?_) (fun v4 hv4 => ?_)
        · obtain ⟨x, rfl⟩ := hC
          go_simp
          go_at_call 32
          exact gives_loose (S8.out _ _ _ (hF 1 _ 54 rfl rfl rfl rfl (by decide)) (hF 3 _ 56 rfl rfl rfl rfl (by decide)))
        refine wpL_call (Lft.big Pt) (big_some w _) rfl rfl rfl rfl (by first | rfl | go_simp) rfl (fun w' hC hF => ?_) (fun v5 hv5 => ?_)
        · obtain ⟨x, rfl⟩ := hC
          go_simp
          go_at_call 42
          exact gives_loose (S9.out _ _ (hF 4 _ 57 rfl rfl rfl rfl (by decide)))
        refine wpL_call (Lft.big K) (big_some w _) rfl rfl rfl rfl (by first | rfl | go_simp) rfl (fun w' hC hF => ?_) (fun v6 hv6 => ?_)
        · obtain ⟨x, rfl⟩ := hC
          go_simp
          go_at_call 43
          exact gives_loose (S10.out _)
        refine wpL_call (Lft.big F) (big_some w _) rfl rfl rfl rfl (by first | rfl | go_simp) rfl (fun w' hC hF => ?_) (fun v7 hv7 => ?_)
        · obtain ⟨x, rfl⟩ := hC
          go_simp
          go_at_call 36
          exact gives_loose (S11.out _ _ _ (hF 5 _ 58 rfl rfl rfl rfl (by decide)) (hF 6 _ 59 rfl rfl rfl rfl (by decide)))
        refine wpL_call (Lft.big F) (big_some wS _) rfl rfl rfl rfl rfl rfl (fun w' hC hF => ?_) (fun v8 hv8 => ?_)
        · obtain ⟨x, rfl⟩ := hC
          have hf := hF 7 _ 60 rfl rfl rfl rfl (by decide)
          go_simp
          exact ⟨Below.refl _ _, hf⟩
        refine wpL_nil (endL [] rfl (by intro q hq; cases hq) (fun w7 hb hst hap hfin => ?_))
        have Rf : Hid (IsBig w7 v8 F) := Lib.hid (hfin rfl 8 _ 13 rfl rfl rfl rfl)
        replace HB := Lib.hid (below_then HB.out hb)
        replace Ga := Lib.hid ((hb.block _ (lt_of_heap Ga.out)).trans Ga.out)
        replace Gb := Lib.hid ((hb.block _ (lt_of_heap Gb.out)).trans Gb.out)
        replace Gq := Lib.hid ((hb.block _ (lt_of_heap Gq.out)).trans Gq.out)
        clear hb hst hap hfin xGa xGb xGq
        have cGa := cell_row Ga.out
        have cGq := cell_row Gq.out
        go_upto_region 11 with fail
        clear cGa cGq
        obtain ⟨wT, hw⟩ : ∃ wx, wx = w7 := ⟨_, rfl⟩
        rw [← hw] at Ga Gq Rf HB ⊢
        clear hw
        have B2 := Lib.hid (Below.refl wT.heap.size wT)
        have xGa := ext_row (B := wT.heap.size) Ga.out (lt_of_heap Ga.out)
        have xGq := ext_row (B := wT.heap.size) Gq.out (lt_of_heap Gq.out)
        apply wp_region_loose (looseR [_, _, _, _, _, _, _, _, _, _, _, _, _, _, _, _, _, _, _, _, _]) (pureL [])
        · kernel_rfl
        · kernel_rfl
        · kernel_rfl
        · exact allocs_ok [] rfl (by intro T hT; cases hT)
        · exact looseR_st _
        · change wpL _ _ _ _ _ _ _ 21 0 _ _
          refine wpL_calm wT rfl rfl rfl rfl (fun K hK K0 hK0 => ?_)
          go_simp
          first | refine hK _ _ rfl rfl ?_ | refine hK0 _ rfl ?_
          clear hK hK0 K K0
          refine wpL_calm wT rfl rfl rfl rfl (fun K hK K0 hK0 => ?_)
          go_simp
          first | refine hK _ _ rfl rfl ?_ | refine hK0 _ rfl ?_
          clear hK hK0 K K0
          refine wpL_calm wT rfl rfl rfl rfl (fun K hK K0 hK0 => ?_)
          go_simp
          first | refine hK _ _ rfl rfl ?_ | refine hK0 _ rfl ?_
          clear hK hK0 K K0
          refine wpL_calm wT rfl rfl rfl rfl (fun K hK K0 hK0 => ?_)
          go_simp
          first | refine hK _ _ rfl rfl ?_ | refine hK0 _ rfl ?_
          clear hK hK0 K K0
          refine wpL_call (Lft.big T) (big_some w _) rfl rfl rfl rfl (by first | rfl | go_simp) rfl (fun w' hC hF => ?_) (fun v4 hv4 => ?_)
          · obtain ⟨x, rfl⟩ := hC
            go_simp
            go_at_call 43
            exact gives_loose (S12.out _)
          refine wpL_call (Lft.val (.int .i64 c)) (val_some wT _) rfl rfl rfl rfl (by first | rfl | go_simp) rfl (fun w' hC hF => ?_) (fun v5 hv5 => ?_)
          · obtain ⟨x, rfl⟩ := hC
            go_simp
            go_at_call 41
            exact val_loose (S13.out _ _ _ (ext_bigB Rf.out (Below.refl _ _) x) (hF 4 _ 65 rfl rfl rfl rfl (by decide)))
          obtain ⟨_, rfl⟩ := hv5
          refine wpL_calm wT rfl rfl rfl rfl (fun K hK K0 hK0 => ?_)
          go_simp
          first | refine hK _ _ rfl rfl ?_ | refine hK0 _ rfl ?_
          clear hK hK0 K K0
          refine wpL_calm wT rfl rfl rfl rfl (fun K hK K0 hK0 => ?_)
          go_simp
          first | refine hK _ _ rfl rfl ?_ | refine hK0 _ rfl ?_
          clear hK hK0 K K0
          refine wpL_calm wT rfl rfl rfl rfl (fun K hK K0 hK0 => ?_)
          go_simp
          first | refine hK _ _ rfl rfl ?_ | refine hK0 _ rfl ?_
          clear hK hK0 K K0
          refine wpL_calm wT rfl rfl rfl rfl (fun K hK K0 hK0 => ?_)
          go_simp
          first | refine hK _ _ rfl rfl ?_ | refine hK0 _ rfl ?_
          clear hK hK0 K K0
          refine wpL_call (Lft.big X) (big_some w _) rfl rfl rfl rfl (by first | rfl | go_simp) rfl (fun w' hC hF => ?_) (fun v10 hv10 => ?_)
          · obtain ⟨x, rfl⟩ := hC
            go_simp
            go_at_call 37
            exact gives_loose (S6.out _)
          refine wpL_call (Lft.big Z) (big_some w _) rfl rfl rfl rfl (by first | rfl | go_simp) rfl (fun w' hC hF => ?_) (fun v11 hv11 => ?_)
          · obtain ⟨x, rfl⟩ := hC
            go_simp
            go_at_call 31
            exact gives_loose (S14.out _ _ (hF 10 _ 71 rfl rfl rfl rfl (by decide)))
          refine wpL_calm wT rfl rfl rfl rfl (fun K hK K0 hK0 => ?_)
          go_simp
          first | refine hK _ _ rfl rfl ?_ | refine hK0 _ rfl ?_
          clear hK hK0 K K0
          refine wpL_call (Lft.big Q) (big_some w _) rfl rfl rfl rfl (by first | rfl | go_simp) rfl (fun w' hC hF => ?_) (fun v13 hv13 => ?_)
          · obtain ⟨x, rfl⟩ := hC
            go_simp
            go_at_call 37
            exact gives_loose (S15.out _)
          refine wpL_call (Lft.big V) (big_some w _) rfl rfl rfl rfl (by first | rfl | go_simp) rfl (fun w' hC hF => ?_) (fun v14 hv14 => ?_)
          · obtain ⟨x, rfl⟩ := hC
            go_simp
            go_at_call 36
            exact gives_loose (S16.out _ _ _ (hF 11 _ 72 rfl rfl rfl rfl (by decide)) (hF 13 _ 74 rfl rfl rfl rfl (by decide)))
          refine wpL_call (Lft.val (.bool true)) (val_some wT _) rfl rfl rfl rfl (by first | rfl | go_simp) rfl (fun w' hC hF => ?_) (fun v15 hv15 => ?_)
          · obtain ⟨x, rfl⟩ := hC
            go_simp
            go_at_call 35
            exact val_loose (S17.out _ _ (hF 14 _ 75 rfl rfl rfl rfl (by decide)))
          obtain ⟨_, rfl⟩ := hv15
          refine wpL_calm wT rfl rfl rfl rfl (fun K hK K0 hK0 => ?_)
          go_simp
          first | refine hK _ _ rfl rfl ?_ | refine hK0 _ rfl ?_
          clear hK hK0 K K0
          refine wpL_calm wT rfl rfl rfl rfl (fun K hK K0 hK0 => ?_)
          go_simp
          first | refine hK _ _ rfl rfl ?_ | refine hK0 _ rfl ?_
          clear hK hK0 K K0
          refine wpL_call (Lft.val (.bool true)) (val_some wT _) rfl rfl rfl rfl (by first | rfl | go_simp) rfl (fun w' hC hF => ?_) (fun v18 hv18 => ?_)
          · obtain ⟨x, rfl⟩ := hC
            go_simp
            go_at_call 26
            exact val_loose (SA.out _)
          obtain ⟨_, rfl⟩ := hv18
          refine wpL_calm wT rfl rfl rfl rfl (fun K hK K0 hK0 => ?_)
          go_simp
          first | refine hK _ _ rfl rfl ?_ | refine hK0 _ rfl ?_
          clear hK hK0 K K0
          refine wpL_calm wT rfl rfl rfl rfl (fun K hK K0 hK0 => ?_)
          go_simp
          first | refine hK _ _ rfl rfl ?_ | refine hK0 _ rfl ?_
          clear hK hK0 K K0
          refine wpL_nil (endL [] rfl (by intro q hq; cases hq) (fun w8 hb hst hap hfin => ?_))
          replace HB := Lib.hid (below_then HB.out hb)
          replace Ga := Lib.hid ((hb.block _ (lt_of_heap Ga.out)).trans Ga.out)
          replace Gq := Lib.hid ((hb.block _ (lt_of_heap Gq.out)).trans Gq.out)
          replace Rf := Lib.hid (Rf.out.below hb)
          clear hb hst hap hfin xGa xGq
          go_wp2
          go_ret
          exact ⟨rfl, HB.out⟩
  · have S1 : Hid (∀ (e g : Nat) (w' : World), w'.heap[e]? = some (.cells #[.pointer (some ⟨g, 0, none⟩)] 115 (0, 0)) → IsRom w' g → e ≠ g → Calls Tryz.prog 39 #[.pointer (some ⟨e, 0, none⟩), wv n, .int .i64 5] w' fun x w'' => x = .returned (.tuple #[wv 0, wv 0, .int .i64 (grE n 5)]) ∧ VG g w' w'') := Lib.hid fun e g w' _ hI _ =>
      (pairB_no e n 5 hn hE w').mono fun _ _ ⟨h1, h2⟩ => ⟨h1, (VG.refl hI).below h2⟩
    have hm : n = 0 ∨ ¬ n < P2 256 := by
      by_cases h0 : n = 0
      · exact Or.inl h0
      · refine Or.inr fun h => hE ?_
        unfold grE
        rw [if_neg (by omega), if_neg h0]
    obtain ⟨E, hEe⟩ : ∃ x, x = grE n 5 := ⟨_, rfl⟩
    rw [← hEe] at S1 hE
    have hb : (E != 0) = true := by simp [hE]
    by_cases h0 : n = 0
    · have hz := isZ_yes h0
      clear hn hE hEe hm h0 S2
      go_enter Tryz.func8, Tryz.ntmps8
      have HB := Lib.hid (Below.refl w.heap.size w)
      have Gn := Lib.hid (alloc_new (w) (.cells (wcells n) 24))
      replace HB := Lib.hid (below_al HB.out (.cells (wcells n) 24))
      have cGn := cell_row Gn.out
      go_upto_region 1 with fail
      clear cGn
      obtain ⟨wA, hw⟩ : ∃ wx, wx = (w).alloc (.cells (wcells n) 24) := ⟨_, rfl⟩
      rw [← hw] at Gn HB ⊢
      clear hw
      have HZ := Lib.hid (lt_of_heap Gn.out)
      have cGn := cell_row Gn.out
      go_wp2_with fail
      refine (S0.out _).mono ?_
      rintro x w9 ⟨e, g, rfl, hen, hb⟩
      clear cGn
      replace HB := Lib.hid (below_then HB.out hb)
      replace Gn := Lib.hid ((hb.block _ (lt_of_heap Gn.out)).trans Gn.out)
      have Ge := Lib.hid hen.eng
      have KR := Lib.hid hen.rom
      have HNE := Lib.hid hen.ne
      have HLE := Lib.hid hen.le
      have HLG := Lib.hid hen.lg
      clear hen hb
      have cGn := cell_row Gn.out
      have cGe := cell_row Ge.out
      go_upto_region 4 with fail
      clear cGn cGe
      obtain ⟨wB, hw⟩ : ∃ wx, wx = w9 := ⟨_, rfl⟩
      rw [← hw] at Gn Ge KR HB ⊢
      clear hw
      have VB := Lib.hid (VG.refl KR.out)
      have HBO := Lib.hid HB.out
      clear HB KR
      have xGn := extg_row (g := g) (B := wB.heap.size) Gn.out (lt_of_heap Gn.out) (by have := VB.out.lt; (try have := HNE.out); (try have := HZ.out); (try have := HLG.out); omega)
      have xGe := extg_row (g := g) (B := wB.heap.size) Ge.out (lt_of_heap Ge.out) (by have := VB.out.lt; (try have := HNE.out); (try have := HZ.out); (try have := HLG.out); omega)
      have hnx : Nonempty (ExtG g wB.heap.size wB) := ⟨⟨wB, BelowG.refl VB.out.rom _⟩⟩
      apply wp_region_looseG VB.out.rom (looseRV [_, _, _, _, _, _, _, _, undef, undef, undef, undef, _]) (pureL [0, 4, 5, 6, 7, 12])
      · kernel_rfl
      · kernel_rfl
      · kernel_rfl
      · exact allocs_ok [24, 24] rfl (by intro T hT; simp only [List.mem_cons, List.not_mem_nil, or_false, or_self] at hT; subst hT; exact makes_wide)
      · exact looseRV_st _ _
      · change wpLG _ _ _ _ _ _ _ _ 13 0 _ _
        refine wpL_pureG wB rfl rfl rfl rfl (fun K hK K0 hK0 => ?_)
        go_simp
        first | refine hK _ _ rfl rfl ?_ | refine hK0 _ rfl ?_
        clear hK hK0 K K0
        refine wpL_calmG wB rfl rfl rfl rfl (fun K hK K0 hK0 => ?_)
        go_simp
        first | refine hK _ _ rfl rfl ?_ | refine hK0 _ rfl ?_
        clear hK hK0 K K0
        refine wpL_calmG wB rfl rfl rfl rfl (fun K hK K0 hK0 => ?_)
        go_simp
        apply Exists.intro
        apply And.intro
        · intro x
          go_at_call 38
          with_reducible exact Calls.stepG _ (SR.out _)
        refine hK _ _ rfl rfl ?_
        clear hK hK0 K K0
        refine wpL_calmG wB rfl rfl rfl rfl (fun K hK K0 hK0 => ?_)
        go_simp
        apply Exists.intro
        apply And.intro
        · intro x
          go_at_call 39
          with_reducible exact Calls.stepV (S1.out _ _ _ (extg_block Ge.out (lt_of_heap Ge.out) HNE.out _) (extg_rom _) HNE.out)
        refine hK _ _ rfl rfl ?_
        clear hK hK0 K K0
        refine wpL_pureG wB rfl rfl rfl rfl (fun K hK K0 hK0 => ?_)
        go_simp
        first | refine hK _ _ rfl rfl ?_ | refine hK0 _ rfl ?_
        clear hK hK0 K K0
        refine wpL_pureG wB rfl rfl rfl rfl (fun K hK K0 hK0 => ?_)
        go_simp
        first | refine hK _ _ rfl rfl ?_ | refine hK0 _ rfl ?_
        clear hK hK0 K K0
        refine wpL_pureG wB rfl rfl rfl rfl (fun K hK K0 hK0 => ?_)
        go_simp
        first | refine hK _ _ rfl rfl ?_ | refine hK0 _ rfl ?_
        clear hK hK0 K K0
        refine wpL_pureG wB rfl rfl rfl rfl (fun K hK K0 hK0 => ?_)
        go_simp
        first | refine hK _ _ rfl rfl ?_ | refine hK0 _ rfl ?_
        clear hK hK0 K K0
        refine wpL_allocG rfl rfl rfl rfl (fun g8 hg8 => ?_)
        refine wpL_allocG rfl rfl rfl rfl (fun g9 hg9 => ?_)
        refine wpL_storeG rfl rfl ?_
        refine wpL_storeG rfl rfl ?_
        refine wpL_pureG wB rfl rfl rfl rfl (fun K hK K0 hK0 => ?_)
        go_simp
        first | refine hK _ _ rfl rfl ?_ | refine hK0 _ rfl ?_
        clear hK hK0 K K0
        refine wpL_nilG (endLG [(24, .tmp 4, .tmp 22), (24, .tmp 5, .tmp 23)] rfl (by intro q hq; simp only [List.mem_cons, List.not_mem_nil, or_false] at hq; rcases hq with rfl | rfl <;> exact fits_wv (by kernel_rfl) _) (fun w10 hv hst hap hfin => ?_))
        have Ga : Hid (w10.heap[g8]? = some (.cells (wcells (0)) 24 (0, 0))) := Lib.hid (hst 10 _ _ _ _ g8 rfl rfl rfl)
        have Gb : Hid (w10.heap[g9]? = some (.cells (wcells (0)) 24 (0, 0))) := Lib.hid (hst 11 _ _ _ _ g9 rfl rfl rfl)
        have hne8_9 : g8 ≠ g9 := fun h => hap 8 _ _ _ 9 _ _ _ rfl rfl rfl rfl rfl rfl (by decide) (by subst h; rfl)
        replace Gn := Lib.hid ((hv.block _ (lt_of_heap Gn.out) (by have := VB.out.lt; (try have := HNE.out); (try have := HZ.out); (try have := HLG.out); omega)).trans Gn.out)
        replace Ge := Lib.hid ((hv.block _ (lt_of_heap Ge.out) (by have := VB.out.lt; (try have := HNE.out); (try have := HZ.out); (try have := HLG.out); omega)).trans Ge.out)
        have HG8 := Lib.hid hg8
        have HG9 := Lib.hid hg9
        replace VB := Lib.hid (VB.out.trans' hv)
        clear hv hst hap hfin xGn xGe hnx
        have HB := Lib.hid (VB.out.out HBO.out (by have := HLG.out; have := HZ.out; omega))
        clear VB HBO Ge HG8 HG9 hg8 hg9 hne8_9
        have cGn := cell_row Gn.out
        have cGa := cell_row Ga.out
        have cGb := cell_row Gb.out
        go_wp2_with fail
        refine (SA.out _).mono ?_
        rintro e w11 ⟨rfl, hb⟩
        clear cGn cGa cGb
        replace HB := Lib.hid (below_then HB.out hb)
        replace Gn := Lib.hid ((hb.block _ (lt_of_heap Gn.out)).trans Gn.out)
        replace Ga := Lib.hid ((hb.block _ (lt_of_heap Ga.out)).trans Ga.out)
        replace Gb := Lib.hid ((hb.block _ (lt_of_heap Gb.out)).trans Gb.out)
        clear hb
        have cGn := cell_row Gn.out
        have cGa := cell_row Ga.out
        have cGb := cell_row Gb.out
        go_wp2
        go_ret
        exact ⟨rfl, HB.out⟩
    · have hz := isZ_no hn h0
      rw [decide_eq_false (by rcases hm with h | h; exact absurd h h0; exact h)] at S2
      clear hn hE hEe hm h0
      go_enter Tryz.func8, Tryz.ntmps8
      have HB := Lib.hid (Below.refl w.heap.size w)
      have Gn := Lib.hid (alloc_new (w) (.cells (wcells n) 24))
      replace HB := Lib.hid (below_al HB.out (.cells (wcells n) 24))
      have cGn := cell_row Gn.out
      go_upto_region 1 with fail
      clear cGn
      obtain ⟨wA, hw⟩ : ∃ wx, wx = (w).alloc (.cells (wcells n) 24) := ⟨_, rfl⟩
      rw [← hw] at Gn HB ⊢
      clear hw
      have HZ := Lib.hid (lt_of_heap Gn.out)
      have cGn := cell_row Gn.out
      go_wp2_with fail
      refine (S0.out _).mono ?_
      rintro x w12 ⟨e, g, rfl, hen, hb⟩
      clear cGn
      replace HB := Lib.hid (below_then HB.out hb)
      replace Gn := Lib.hid ((hb.block _ (lt_of_heap Gn.out)).trans Gn.out)
      have Ge := Lib.hid hen.eng
      have KR := Lib.hid hen.rom
      have HNE := Lib.hid hen.ne
      have HLE := Lib.hid hen.le
      have HLG := Lib.hid hen.lg
      clear hen hb
      have cGn := cell_row Gn.out
      have cGe := cell_row Ge.out
      go_upto_region 4 with fail
      clear cGn cGe
      obtain ⟨wB, hw⟩ : ∃ wx, wx = w12 := ⟨_, rfl⟩
      rw [← hw] at Gn Ge KR HB ⊢
      clear hw
      have VB := Lib.hid (VG.refl KR.out)
      have HBO := Lib.hid HB.out
      clear HB KR
      have xGn := extg_row (g := g) (B := wB.heap.size) Gn.out (lt_of_heap Gn.out) (by have := VB.out.lt; (try have := HNE.out); (try have := HZ.out); (try have := HLG.out); omega)
      have xGe := extg_row (g := g) (B := wB.heap.size) Ge.out (lt_of_heap Ge.out) (by have := VB.out.lt; (try have := HNE.out); (try have := HZ.out); (try have := HLG.out); omega)
      have hnx : Nonempty (ExtG g wB.heap.size wB) := ⟨⟨wB, BelowG.refl VB.out.rom _⟩⟩
      apply wp_region_looseG VB.out.rom (looseRV [_, _, _, _, _, _, _, _, undef, undef, undef, undef, _]) (pureL [0, 4, 5, 6, 7, 12])
      · kernel_rfl
      · kernel_rfl
      · kernel_rfl
      · exact allocs_ok [24, 24] rfl (by intro T hT; simp only [List.mem_cons, List.not_mem_nil, or_false, or_self] at hT; subst hT; exact makes_wide)
      · exact looseRV_st _ _
      · change wpLG _ _ _ _ _ _ _ _ 13 0 _ _
        refine wpL_pureG wB rfl rfl rfl rfl (fun K hK K0 hK0 => ?_)
        go_simp
        first | refine hK _ _ rfl rfl ?_ | refine hK0 _ rfl ?_
        clear hK hK0 K K0
        refine wpL_calmG wB rfl rfl rfl rfl (fun K hK K0 hK0 => ?_)
        go_simp
        first | refine hK _ _ rfl rfl ?_ | refine hK0 _ rfl ?_
        clear hK hK0 K K0
        refine wpL_calmG wB rfl rfl rfl rfl (fun K hK K0 hK0 => ?_)
        go_simp
        apply Exists.intro
        apply And.intro
        · intro x
          go_at_call 38
          with_reducible exact Calls.stepG _ (SR.out _)
        refine hK _ _ rfl rfl ?_
        clear hK hK0 K K0
        refine wpL_calmG wB rfl rfl rfl rfl (fun K hK K0 hK0 => ?_)
        go_simp
        apply Exists.intro
        apply And.intro
        · intro x
          go_at_call 39
          with_reducible exact Calls.stepV (S1.out _ _ _ (extg_block Ge.out (lt_of_heap Ge.out) HNE.out _) (extg_rom _) HNE.out)
        refine hK _ _ rfl rfl ?_
        clear hK hK0 K K0
        refine wpL_pureG wB rfl rfl rfl rfl (fun K hK K0 hK0 => ?_)
        go_simp
        first | refine hK _ _ rfl rfl ?_ | refine hK0 _ rfl ?_
        clear hK hK0 K K0
        refine wpL_pureG wB rfl rfl rfl rfl (fun K hK K0 hK0 => ?_)
        go_simp
        first | refine hK _ _ rfl rfl ?_ | refine hK0 _ rfl ?_
        clear hK hK0 K K0
        refine wpL_pureG wB rfl rfl rfl rfl (fun K hK K0 hK0 => ?_)
        go_simp
        first | refine hK _ _ rfl rfl ?_ | refine hK0 _ rfl ?_
        clear hK hK0 K K0
        refine wpL_pureG wB rfl rfl rfl rfl (fun K hK K0 hK0 => ?_)
        go_simp
        first | refine hK _ _ rfl rfl ?_ | refine hK0 _ rfl ?_
        clear hK hK0 K K0
        refine wpL_allocG rfl rfl rfl rfl (fun g8 hg8 => ?_)
        refine wpL_allocG rfl rfl rfl rfl (fun g9 hg9 => ?_)
        refine wpL_storeG rfl rfl ?_
        refine wpL_storeG rfl rfl ?_
        refine wpL_pureG wB rfl rfl rfl rfl (fun K hK K0 hK0 => ?_)
        go_simp
        first | refine hK _ _ rfl rfl ?_ | refine hK0 _ rfl ?_
        clear hK hK0 K K0
        refine wpL_nilG (endLG [(24, .tmp 4, .tmp 22), (24, .tmp 5, .tmp 23)] rfl (by intro q hq; simp only [List.mem_cons, List.not_mem_nil, or_false] at hq; rcases hq with rfl | rfl <;> exact fits_wv (by kernel_rfl) _) (fun w13 hv hst hap hfin => ?_))
        have Ga : Hid (w13.heap[g8]? = some (.cells (wcells (0)) 24 (0, 0))) := Lib.hid (hst 10 _ _ _ _ g8 rfl rfl rfl)
        have Gb : Hid (w13.heap[g9]? = some (.cells (wcells (0)) 24 (0, 0))) := Lib.hid (hst 11 _ _ _ _ g9 rfl rfl rfl)
        have hne8_9 : g8 ≠ g9 := fun h => hap 8 _ _ _ 9 _ _ _ rfl rfl rfl rfl rfl rfl (by decide) (by subst h; rfl)
        replace Gn := Lib.hid ((hv.block _ (lt_of_heap Gn.out) (by have := VB.out.lt; (try have := HNE.out); (try have := HZ.out); (try have := HLG.out); omega)).trans Gn.out)
        replace Ge := Lib.hid ((hv.block _ (lt_of_heap Ge.out) (by have := VB.out.lt; (try have := HNE.out); (try have := HZ.out); (try have := HLG.out); omega)).trans Ge.out)
        have HG8 := Lib.hid hg8
        have HG9 := Lib.hid hg9
        replace VB := Lib.hid (VB.out.trans' hv)
        clear hv hst hap hfin xGn xGe hnx
        have HB := Lib.hid (VB.out.out HBO.out (by have := HLG.out; have := HZ.out; omega))
        clear VB HBO Ge HG8 HG9 hg8 hg9 hne8_9
        have cGn := cell_row Gn.out
        have cGa := cell_row Ga.out
        have cGb := cell_row Gb.out
        go_wp2_with fail
        refine (S2.out _).mono ?_
        rintro e w14 ⟨rfl, hb⟩
        clear cGn cGa cGb
        replace HB := Lib.hid (below_then HB.out hb)
        replace Gn := Lib.hid ((hb.block _ (lt_of_heap Gn.out)).trans Gn.out)
        replace Ga := Lib.hid ((hb.block _ (lt_of_heap Ga.out)).trans Ga.out)
        replace Gb := Lib.hid ((hb.block _ (lt_of_heap Gb.out)).trans Gb.out)
        clear hb
        have cGn := cell_row Gn.out
        have cGa := cell_row Ga.out
        have cGb := cell_row Gb.out
        go_wp2_with fail
        refine (SA.out _).mono ?_
        rintro e w15 ⟨rfl, hb⟩
        clear cGn cGa cGb
        replace HB := Lib.hid (below_then HB.out hb)
        replace Gn := Lib.hid ((hb.block _ (lt_of_heap Gn.out)).trans Gn.out)
        replace Ga := Lib.hid ((hb.block _ (lt_of_heap Ga.out)).trans Ga.out)
        replace Gb := Lib.hid ((hb.block _ (lt_of_heap Gb.out)).trans Gb.out)
        clear hb
        have cGn := cell_row Gn.out
        have cGa := cell_row Ga.out
        have cGb := cell_row Gb.out
        go_wp2
        go_ret
        exact ⟨rfl, HB.out⟩
end Go.Proofs.YtegmmaaapdgocaaGreat
