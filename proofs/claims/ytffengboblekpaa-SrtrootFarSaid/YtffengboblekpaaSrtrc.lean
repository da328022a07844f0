/- THE WALK of srtroot's steps, with any function that takes them. -/
import Derived.Test.YtffengboblekpaaK20
import Derived.Test.YtffengboblekpaaK18
namespace Go.Proofs.Ytffengboblekpaa
open Go Go.RowKit

attribute [local go_sem ↓] Go.wp_at_zero Go.wp_at_succ
set_option maxRecDepth 100000 in
set_option maxHeartbeats 4000000 in
theorem runS_any (f : FuncId) (caps : Array Value) (U K : Nat) (c : Nat → Bool) (Inv : Nat → Nat → World → Prop) (w : World)
    (hU1 : P2 254 ≤ U) (hU2 : U < P2 256) (hK : K ≤ 64) (hK0 : 0 < K) (hcall : Enters Try.prog f)
    (hc : ∀ i, i + 1 < K → c i = true) (hcK : K = 64 ∨ c (K - 1) = false)
    (hst : ∀ g i w1 w2, w.heap.size < g → Inv g i w1 → But (· = g) w1 w2 → Inv g i w2)
    (hdo : ∀ g i w', i < K → w.heap.size < g → g < w'.heap.size → Inv g i w' → Calls Try.prog f (#[.int .i64 (i : Int), .int .i64 (rDig U i), .agg (fc (toW (rP U (i + 1))) (toW (rL U (i + 1))))] ++ caps) w' fun e w'' => e = .returned (.bool (c i)) ∧ Inv g (i + 1) w'' ∧ But (fun k => ¬ (k = w.heap.size ∨ k = g)) w' w'')
    (h0 : ∀ g w', w.heap.size < g → Below w.heap.size w w' → w'.heap.size ≤ g → Inv g 0 w') :
    Calls Try.prog 43 #[wv U, .func (.func f) #[] caps] w fun e w' => e = .returned (.tuple #[]) ∧ ∃ g, w.heap.size < g ∧ Inv g K w' ∧ w.heap.size ≤ w'.heap.size := by
  unfold Enters at hcall
  have SB := Lib.hid (fun w' => beginS_w U hU2 w')
  have HU1 := Lib.hid hU1; have HU2 := Lib.hid hU2; have HK := Lib.hid hK; have HK0 := Lib.hid hK0
  have HC := Lib.hid hc; have HCK := Lib.hid hcK; have HST := Lib.hid hst; have HDO := Lib.hid hdo; have H0 := Lib.hid h0
  clear hU1 hU2 hK hK0 hc hcK hst hdo h0
  obtain ⟨P0, hP0⟩ : ∃ P, P = toW (rP U 0) := ⟨_, rfl⟩
  obtain ⟨L0, hL0⟩ : ∃ P, P = toW (rL U 0) := ⟨_, rfl⟩
  rw [← hP0, ← hL0] at SB
  have HP0 := Lib.hid hP0; have HL0 := Lib.hid hL0
  clear hP0 hL0
  go_enter Try.func43, Try.ntmps43
  have HB := Lib.hid (Below.refl w.heap.size w)
  have Gn := Lib.hid (alloc_new (w) (.cells (wcells U) 24))
  replace HB := Lib.hid (below_al HB.out (.cells (wcells U) 24))
  go_wp2
  go_step3
  have cGn := cell_row Gn.out
  go_wp2_with fail
  refine (SB.out _).mono ?_
  rintro e w1 ⟨rfl, hb⟩
  clear cGn
  replace HB := Lib.hid (below_then HB.out hb)
  replace Gn := Lib.hid ((hb.block _ (lt_of_heap Gn.out)).trans Gn.out)
  clear hb
  have HZ := Lib.hid (lt_of_heap Gn.out)
  have HI0 := Lib.hid (H0.out w1.heap.size w1 HZ.out HB.out (Nat.le_refl _))
  replace Gn := Lib.hid (keepAl (o' := .cells (fc P0 L0) 65) Gn.out)
  have Gf := Lib.hid (alloc_new (w1) (.cells (fc P0 L0) 65))
  replace HB := Lib.hid (below_al HB.out (.cells (fc P0 L0) 65))
  go_wp2
  go_step3
  go_wp2
  obtain ⟨g, hg⟩ : ∃ g, g = w1.heap.size := ⟨_, rfl⟩
  replace HI0 := Lib.hid (HST.out _ 0 _ ((w1).alloc (.cells (fc P0 L0) 65)) HZ.out HI0.out (But.of_below (below_al (Below.refl _ _) _)))
  rw [← hg] at HI0 Gf HZ ⊢
  obtain ⟨wS, hw⟩ : ∃ wx, wx = (w1).alloc (.cells (fc P0 L0) 65) := ⟨_, rfl⟩
  rw [← hw] at HI0 Gn Gf HB ⊢
  clear hw
  have HGs := Lib.hid (lt_of_heap Gf.out)
  clear hg SB
  go_loopw [12] (fun s12 wr => ∃ i : Nat, s12 = .int .i64 (i : Int) ∧ i ≤ K ∧ Hid (i = K → K = 64) ∧ Hid (Inv g i wr) ∧ Hid (wr.heap[w.heap.size]? = some (.cells (wcells U) 24 (0, 0))) ∧ Hid (wr.heap[g]? = some (.cells (fc (toW (rP U i)) (toW (rL U i))) 65 (0, 0)))) (fun s12 _ => 64 - (intOf s12).toNat)
  case atStart =>
    refine ⟨0, rfl, by omega, Lib.hid (fun h => by have := HK0.out; omega), HI0, Gn, ?_⟩
    rw [← HP0.out, ← HL0.out]
    exact Gf
  case round =>
    clear HB Gn Gf HI0 HGs
    obtain ⟨i, rfl, hi, HE, HI, Gn, Gf⟩ := hrel
    by_cases hlt : i < K
    · have hK := HK.out
      obtain ⟨p, s, y, hs⟩ := rstep_of (U := U) (j := i) (by omega) HU1.out HU2.out
      have hpM : p < M := Nat.lt_trans hs.pl (by rw [M_eq]; exact P2_lt (by omega))
      have ep : toW (rP U i) = p := by rw [hs.hp]; exact toW_nat hpM
      have ed := rDig_of hs
      have S1 := Lib.hid (fun w' => shr_any p hpM ((122 : Nat) : Int) w' (by decide) (by decide))
      rw [clampN_at (show 122 ≤ 512 by decide), hs.hs] at S1
      obtain ⟨fl, hfl⟩ : ∃ f, f = decide (p % P2 122 ≠ 0) := ⟨_, rfl⟩
      rw [← hfl] at S1
      have s1 := hs.s1; have s2 := hs.s2; have y1 := hs.y1; have y2 := hs.y2
      have S2 := Lib.hid (fun w' => smallS_w s w')
      rw [show IntKind.i64.wrap ((limb s 0 : Nat) : Int) = (s : Int) by
        have := small_toW (z := (s : Int)) (by omega) (by omega)
        rwa [toW_nat (lit_ltM s (by omega))] at this] at S2
      have S3 : Hid (∀ w' : World, Calls Try.prog 85 #[wv (toW (rL U i)), .int .i64 (248 - 2 * (i : Int))] w' fun e w'' => e = .returned (wv (toW y)) ∧ Below w'.heap.size w' w'') := Lib.hid fun w' => by
        have := sar_w (toW (rL U i)) (toW_lt _) ((248 - 2 * i : Nat) : Int) w' (by omega) (by omega)
        rw [clampN_at (by omega), sar_toW hs.l1 hs.l2 (by omega), hs.hy, show ((248 - 2 * i : Nat) : Int) = 248 - 2 * (i : Int) by omega] at this
        exact this
      have S4 := Lib.hid (fun w' => smallS_w (toW y) w')
      rw [small_toW (by omega) (by omega)] at S4
      have S5 := Lib.hid (fun w' => rootDigit_in (i : Int) (s : Int) y w' (by omega) (by omega) (by omega))
      rw [show rdgAt (i : Int) (s : Int) y = rDig U i from ed.symm] at S5
      have hd := rDig_range U i
      have S6 : Hid (∀ w' : World, Calls Try.prog 86 #[.agg (fc p (toW (rL U i))), .int .i64 (rDig U i), .int .i64 (2 * (63 - (i : Int)))] w' fun e w'' => e = .returned (.agg (fc (toW (rP U (i + 1))) (toW (rL U (i + 1))))) ∧ Below w'.heap.size w' w'') := Lib.hid fun w' => by
        have := nextS_w (rP U i) (rL U i) (rDig U i) (2 * (63 - i)) (by omega) hd.1 hd.2 w'
        rw [← rP_succ, ← rL_succ, ep, show ((2 * (63 - i) : Nat) : Int) = 2 * (63 - (i : Int)) by omega] at this
        exact this
      have HDi := Lib.hid (fun g' w' => HDO.out g' i w' hlt)
      rw [ep] at Gf
      obtain ⟨L, hL⟩ : ∃ L, L = toW (rL U i) := ⟨_, rfl⟩
      rw [← hL] at S3 S6 Gf
      obtain ⟨Y, hY⟩ : ∃ L, L = toW y := ⟨_, rfl⟩
      rw [← hY] at S3 S4
      obtain ⟨d, hde⟩ : ∃ d, d = rDig U i := ⟨_, rfl⟩
      rw [← hde] at S5 S6 HDi
      obtain ⟨P', hP'⟩ : ∃ L, L = toW (rP U (i + 1)) := ⟨_, rfl⟩
      obtain ⟨L', hL'⟩ : ∃ L, L = toW (rL U (i + 1)) := ⟨_, rfl⟩
      rw [← hP', ← hL'] at S6 HDi
      have HP' := Lib.hid hP'; have HL' := Lib.hid hL'
      obtain ⟨C, hC⟩ : ∃ C, C = c i := ⟨_, rfl⟩
      rw [← hC] at HDi
      have HCi := Lib.hid hC
      have HLT := Lib.hid hlt
      have e1 : (i : Int) ≤ 63 := by omega
      have e0 : (0 : Int) ≤ (i : Int) := Int.natCast_nonneg _
      have hw1 : IntKind.i64.wrap (2 * (i : Int)) = 2 * (i : Int) := IntWalk.i64_in _ (by omega)
      have hw2 : IntKind.i64.wrap (248 - 2 * (i : Int)) = 248 - 2 * (i : Int) := IntWalk.i64_in _ (by omega)
      have hw3 : IntKind.i64.wrap (63 - (i : Int)) = 63 - (i : Int) := IntWalk.i64_in _ (by omega)
      have hw4 : IntKind.i64.wrap (2 * (63 - (i : Int))) = 2 * (63 - (i : Int)) := IntWalk.i64_in _ (by omega)
      have UB := Lib.hid (But.refl (fun k => k = g) wr)
      clear hK hs hpM ep ed hfl s1 s2 y1 y2 hd hL hY hde hP' hL' hC hlt hi
      have cGn := cell_row Gn.out
      have cGf := cell_row Gf.out
      go_wp2_with fail
      refine (S1.out _).mono ?_
      rintro e w2 ⟨rfl, hb⟩
      clear cGn cGf
      replace UB := Lib.hid (UB.out.trans (But.of_below hb))
      replace Gn := Lib.hid ((hb.block _ (lt_of_heap Gn.out)).trans Gn.out)
      replace Gf := Lib.hid ((hb.block _ (lt_of_heap Gf.out)).trans Gf.out)
      clear hb
      have HZ2 := Lib.hid (lt_of_heap Gf.out)
      replace Gn := Lib.hid (keepAl (o' := .cells (wcells s) 24) Gn.out)
      replace Gf := Lib.hid (keepAl (o' := .cells (wcells s) 24) Gf.out)
      have Gh := Lib.hid (alloc_new (w2) (.cells (wcells s) 24))
      replace UB := Lib.hid (UB.out.al (.cells (wcells s) 24))
      have cGn := cell_row Gn.out
      have cGf := cell_row Gf.out
      have cGh := cell_row Gh.out
      go_upto_region 6 with fail
      clear cGn cGf cGh
      obtain ⟨w3, hw⟩ : ∃ wx, wx = (w2).alloc (.cells (wcells s) 24) := ⟨_, rfl⟩
      rw [← hw] at Gn Gf Gh UB ⊢
      clear hw
      have xGn := ext_row (B := w3.heap.size) Gn.out (lt_of_heap Gn.out)
      have xGf := ext_row (B := w3.heap.size) Gf.out (lt_of_heap Gf.out)
      have xGh := ext_row (B := w3.heap.size) Gh.out (lt_of_heap Gh.out)
      refine wp_region_ext w3.heap.size (by kernel_rfl) (by kernel_rfl) ?_
      repeat (go_big_quiet_step (first | (go_at_call 84; with_reducible exact Calls.quiet_ext (Nat.le_refl _) (S2.out _)) | (go_at_call 84; with_reducible exact Calls.quiet_ext (Nat.le_refl _) (S4.out _)) | (go_at_call 85; with_reducible exact Calls.quiet_ext (Nat.le_refl _) (S3.out _)) | (go_at_call 83; with_reducible exact Calls.quiet_ext (Nat.le_refl _) (S5.out _))))
      refine wpQuiet_nil ?_
      intro w4 hb
      clear xGn xGf xGh
      replace UB := Lib.hid (UB.out.trans (But.of_below hb))
      replace Gn := Lib.hid ((hb.block _ (lt_of_heap Gn.out)).trans Gn.out)
      replace Gf := Lib.hid ((hb.block _ (lt_of_heap Gf.out)).trans Gf.out)
      replace Gh := Lib.hid ((hb.block _ (lt_of_heap Gh.out)).trans Gh.out)
      clear hb
      have cGn := cell_row Gn.out
      have cGf := cell_row Gf.out
      have cGh := cell_row Gh.out
      go_wp2_with fail
      refine (S6.out _).mono ?_
      rintro e w5 ⟨rfl, hb⟩
      clear cGn cGf cGh
      replace UB := Lib.hid (UB.out.trans (But.of_below hb))
      replace Gn := Lib.hid ((hb.block _ (lt_of_heap Gn.out)).trans Gn.out)
      replace Gf := Lib.hid ((hb.block _ (lt_of_heap Gf.out)).trans Gf.out)
      replace Gh := Lib.hid ((hb.block _ (lt_of_heap Gh.out)).trans Gh.out)
      clear hb
      have hz := HZ.out
      have hz2 := HZ2.out
      have stf := st_16 (P := Try.prog) Gf.out rfl (P') (L')
      replace Gn := Lib.hid ((setRow_other (w5) (g) _ (fc (P') (L')) (by (omega))).trans Gn.out)
      replace Gf := Lib.hid (setRow_heap (w5) (g) _ (fc (P') (L')) _ _ Gf.out)
      replace UB := Lib.hid (But.row UB.out (by first | exact Or.inl rfl | exact Or.inr rfl | exact rfl) (fc (P') (L')))
      have HIN : Hid (Inv g i ((w5).setRow (g) (fc (P') (L')))) := Lib.hid (HST.out g i wr _ HZ.out HI.out UB.out)
      have SI := Lib.hid (HDi.out g ((w5).setRow (g) (fc (P') (L'))) HZ.out (lt_of_heap Gf.out) HIN.out)
      have cs := cell_row Gf.out
      go_wp2_with fail
      refine SI.out.mono ?_
      rintro e w9 ⟨rfl, hI, hb⟩
      clear cs
      have HI4 := Lib.hid hI
      have Gn4 := Lib.hid (hb.heap Gn.out (fun h => h (Or.inl rfl)))
      have Gf4 := Lib.hid (hb.heap Gf.out (fun h => h (Or.inr rfl)))
      rw [HP'.out, HL'.out] at Gf4
      have hk1 := HK.out
      clear hb hI
      cases C
      · have hK1 : i + 1 = K := by
          have h1 := HLT.out
          have h2 := HC.out i
          have h3 := HCi.out
          rcases Nat.lt_or_ge (i + 1) K with h | h
          · rw [h2 h] at h3; cases h3
          · omega
        have HIK : Hid (Inv g K w9) := Lib.hid (by rw [← hK1]; exact HI4.out)
        have HSZ := Lib.hid (show w.heap.size ≤ w9.heap.size by have := lt_of_heap Gn4.out; omega)
        clear hK1 hk1 hz hz2
        go_wp2
        try rw [Exit.noGoto_normal]
        exact bodyPost_end (v := .tuple #[]) (by simp [results, Try.results43, go_sem]) rfl ⟨rfl, g, HZ.out, HIK.out, HSZ.out⟩
      · have HE1 : Hid (i + 1 = K → K = 64) := Lib.hid fun h => by
          rcases HCK.out with h1 | h1
          · exact h1
          · have h3 := HCi.out
            rw [show K - 1 = i by omega] at h1
            rw [h1] at h3
            cases h3
        clear hk1 hz hz2
        have hw5 : IntKind.i64.wrap ((i : Int) + 1) = (i : Int) + 1 := IntWalk.i64_in _ (by omega)
        go_wp2
        go_roundw
        case rel => exact ⟨i + 1, by congr 1, HLT.out, HE1, HI4, Gn4, Gf4⟩
        case measure => have := HLT.out; have := HK.out; simp [intOf]; (try omega)
    · have hiK : i = K := by omega
      subst hiK
      have h64 := HE.out rfl
      subst h64
      have HSZ := Lib.hid (show w.heap.size ≤ wr.heap.size by have := lt_of_heap Gn.out; omega)
      clear hi hlt HE Gn Gf
      go_wp2
      try rw [Exit.noGoto_normal]
      exact bodyPost_end (v := .tuple #[]) (by simp [results, Try.results43, go_sem]) rfl ⟨rfl, g, HZ.out, HI.out, HSZ.out⟩
end Go.Proofs.Ytffengboblekpaa
