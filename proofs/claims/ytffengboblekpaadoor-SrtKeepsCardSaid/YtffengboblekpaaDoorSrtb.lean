/- THE WALK of srt's steps, with any function that takes them. -/
import Derived.Test.YtffengboblekpaaDoorSrt
import Derived.Test.YtffengboblekpaaDoorLaid
namespace Go.Proofs.YtffengboblekpaaDoor
open Go Go.RowKit

attribute [local go_sem ↓] Go.wp_at_zero Go.wp_at_succ
set_option maxRecDepth 100000 in
set_option maxHeartbeats 4000000 in
theorem runT_any (f : FuncId) (caps : Array Value) (N D K : Nat) (c : Nat → Bool) (Inv : Nat → World → Prop) (w : World)
    (hD1 : P2 127 ≤ D) (hD2 : D < P2 128) (hND : N < D * P2 128) (hK : K ≤ 65) (hK0 : 0 < K) (hcall : Enters Tryd.prog f)
    (hc : ∀ i, i + 1 < K → c i = true) (hcK : K = 65 ∨ c (K - 1) = false)
    (hld : ∀ i w1, Inv i w1 → Laid w1)
    (hst : ∀ i w1 w2, Inv i w1 → But (· = w.heap.size + 2) w1 w2 → Inv i w2)
    (hdo : ∀ i w', i < K → w.heap.size + 3 ≤ w'.heap.size → Inv i w' → Calls Tryd.prog f (#[.agg (tcells (64 - (i : Int)) (sDig N D ((rowT D : Nat) : Int) i) (toW (sLeft N D ((rowT D : Nat) : Int) (i + 1))))] ++ caps) w' fun e w'' => e = .returned (.bool (c i)) ∧ Inv (i + 1) w'' ∧ But (fun k => ¬ (k = w.heap.size ∨ k = w.heap.size + 1 ∨ k = w.heap.size + 2)) w' w'')
    (h0 : Inv 0 w) :
    Calls Tryd.prog 50 #[wv N, wv D, .func (.func f) #[] caps] w fun e w' => e = .returned (.tuple #[]) ∧ Inv K w' ∧ w.heap.size ≤ w'.heap.size := by
  unfold Enters at hcall
  obtain ⟨hfit, _⟩ := fit_of hD1 hD2
  have hDM : D < M := Nat.lt_trans hD2 (by rw [M_eq]; exact P2_lt (by omega))
  have hNM : N < M := Nat.lt_trans hND (by
    have : D * P2 128 < P2 128 * P2 128 := Nat.mul_lt_mul_of_pos_right hD2 (P2_pos _)
    rw [← P2_add] at this
    have : P2 (128 + 128) < M := by rw [M_eq]; exact P2_lt (by omega)
    omega)
  have SROW := Lib.hid (fun w' => row_yes D hDM (by have := P2_pos 127; omega) w')
  obtain ⟨r, hr⟩ : ∃ r, r = ((rowT D : Nat) : Int) := ⟨_, rfl⟩
  rw [← hr] at SROW hfit hdo
  have e00 : N = toW (sLeft N D r 0) := (toW_nat hNM).symm
  have HE0 := Lib.hid e00
  have HFIT := Lib.hid hfit; have HD2 := Lib.hid hD2; have HND := Lib.hid hND; have HK := Lib.hid hK; have HK0 := Lib.hid hK0; have HDM := Lib.hid hDM
  have HC := Lib.hid hc; have HCK := Lib.hid hcK; have HLD := Lib.hid hld; have HST := Lib.hid hst; have HDO := Lib.hid hdo; have H0 := Lib.hid h0
  clear hD1 hD2 hND hK hK0 hc hcK hld hst hdo h0 hfit hDM hNM hr e00
  go_enter Tryd.func50, Tryd.ntmps50
  have UB := Lib.hid (But.refl (fun k => k = w.heap.size + 1 + 1) w)
  have Gn := Lib.hid (alloc_new (w) (.cells (wcells N) 24))
  replace UB := Lib.hid (UB.out.al (.cells (wcells N) 24))
  replace Gn := Lib.hid (keepAl (o' := .cells (wcells D) 24) Gn.out)
  have Gd := Lib.hid (alloc_new' (w := (w).alloc (.cells (wcells N) 24)) (n := w.heap.size + 1) (.cells (wcells D) 24) (by simp))
  replace UB := Lib.hid (UB.out.al (.cells (wcells D) 24))
  go_wp2
  go_step3
  have q1 := cell_row Gn.out
  replace Gn := Lib.hid (keepAl (o' := .cells (wcells 0) 24) Gn.out)
  replace Gd := Lib.hid (keepAl (o' := .cells (wcells 0) 24) Gd.out)
  have Gl := Lib.hid (alloc_new' (w := ((w).alloc (.cells (wcells N) 24)).alloc (.cells (wcells D) 24)) (n := w.heap.size + 1 + 1) (.cells (wcells 0) 24) (by simp))
  replace UB := Lib.hid (UB.out.al (.cells (wcells 0) 24))
  have stl := st_row (P := Tryd.prog) Gl.out rfl (N)
  replace Gn := Lib.hid ((setRow_other ((((w).alloc (.cells (wcells N) 24)).alloc (.cells (wcells D) 24)).alloc (.cells (wcells 0) 24)) (w.heap.size + 1 + 1) _ (wcells (N)) (by (omega))).trans Gn.out)
  replace Gd := Lib.hid ((setRow_other ((((w).alloc (.cells (wcells N) 24)).alloc (.cells (wcells D) 24)).alloc (.cells (wcells 0) 24)) (w.heap.size + 1 + 1) _ (wcells (N)) (by (omega))).trans Gd.out)
  replace Gl := Lib.hid (setRow_heap ((((w).alloc (.cells (wcells N) 24)).alloc (.cells (wcells D) 24)).alloc (.cells (wcells 0) 24)) (w.heap.size + 1 + 1) _ (wcells (N)) _ _ Gl.out)
  replace UB := Lib.hid (But.row UB.out (by first | exact Or.inl rfl | exact Or.inr rfl | exact rfl) (wcells (N)))
  have cGn := cell_row Gn.out
  have cGd := cell_row Gd.out
  have cGl := cell_row Gl.out
  go_wp2_with fail
  refine (SROW.out _).mono ?_
  rintro e w1 ⟨rfl, hb⟩
  clear cGn cGd cGl stl
  replace UB := Lib.hid (UB.out.trans (But.of_below hb))
  replace Gn := Lib.hid ((hb.block _ (lt_of_heap Gn.out)).trans Gn.out)
  replace Gd := Lib.hid ((hb.block _ (lt_of_heap Gd.out)).trans Gd.out)
  replace Gl := Lib.hid ((hb.block _ (lt_of_heap Gl.out)).trans Gl.out)
  clear hb
  clear q1
  go_wp2
  go_step3
  go_wp2
  have HI0 := Lib.hid (HST.out 0 w _ H0.out UB.out)
  clear UB SROW
  go_loopw [9] (fun s9 wr => ∃ i : Nat, s9 = .int .i64 (64 - (i : Int)) ∧ i ≤ K ∧ Hid (i = K → K = 65) ∧ Hid (Inv i wr) ∧ Hid (wr.heap[w.heap.size]? = some (.cells (wcells N) 24 (0, 0))) ∧ Hid (wr.heap[w.heap.size + 1]? = some (.cells (wcells D) 24 (0, 0))) ∧ Hid (wr.heap[w.heap.size + 1 + 1]? = some (.cells (wcells (toW (sLeft N D r i))) 24 (0, 0)))) (fun s9 _ => (intOf s9 + 1).toNat)
  case atStart =>
    refine ⟨0, rfl, by omega, Lib.hid (fun h => by have := HK0.out; omega), HI0, Gn, Gd, ?_⟩
    rw [← HE0.out]
    exact Gl
  case round =>
    clear Gn Gd Gl HI0
    obtain ⟨i, rfl, hi, HE, HI, Gn, Gd, Gl⟩ := hrel
    by_cases hlt : i < K
    · have hK := HK.out
      obtain ⟨y, hs⟩ := tstep_of HFIT.out HND.out HD2.out (i := i) (by omega)
      have y1 := hs.y1; have y2 := hs.y2
      have S1 : Hid (∀ w' : World, Calls Tryd.prog 84 #[wv (toW (sLeft N D r i)), .int .i64 (124 + 2 * (64 - (i : Int)))] w' fun e w'' => e = .returned (wv (toW y)) ∧ Below w'.heap.size w' w'') := Lib.hid fun w' => by
        have := sar_w (toW (sLeft N D r i)) (toW_lt _) ((124 + 2 * (64 - i) : Nat) : Int) w' (by omega) (by omega)
        rw [clampN_at (by omega), sar_toW hs.l1 hs.l2 (by omega), hs.hy, show ((124 + 2 * (64 - i) : Nat) : Int) = 124 + 2 * (64 - (i : Int)) by omega] at this
        exact this
      have S2 := Lib.hid (fun w' => smallT_w (toW y) w')
      rw [small_toW (by omega) (by omega)] at S2
      have ed : dgAt r y = sDig N D r i := by unfold sDig; rw [hs.hy]; rfl
      have S3 := Lib.hid (fun w' => digit_in r y w' HFIT.out.lo HFIT.out.hi)
      rw [ed] at S3
      have hd := sDig_range N D r i
      have S4 : Hid (∀ w' : World, Calls Tryd.prog 40 #[wv D, .int .i64 (2 * (64 - (i : Int)))] w' fun e w'' => e = .returned (wv (toW ((D * P2 (2 * (64 - i)) : Nat) : Int))) ∧ Below w'.heap.size w' w'') := Lib.hid fun w' => by
        have := shlT_w (D : Int) (2 * (64 - i)) (by omega) w'
        rw [toW_nat HDM.out, ← Int.natCast_mul, show ((2 * (64 - i) : Nat) : Int) = 2 * (64 - (i : Int)) by omega] at this
        exact this
      have S5 := Lib.hid (fun w' => timesT_w ((D * P2 (2 * (64 - i)) : Nat) : Int) (sDig N D r i) (by omega) (by omega) w')
      obtain ⟨b6, hb6⟩ := subT_w (sLeft N D r i) (((D * P2 (2 * (64 - i)) : Nat) : Int) * sDig N D r i)
      rw [Int.mul_comm _ (sDig N D r i), ← sLeft_succ] at hb6
      rw [Int.mul_comm _ (sDig N D r i)] at S5
      have S6 := Lib.hid hb6
      have HDi := Lib.hid (fun w' => HDO.out i w' hlt)
      obtain ⟨L, hL⟩ : ∃ L, L = toW (sLeft N D r i) := ⟨_, rfl⟩
      rw [← hL] at S1 S6 Gl
      obtain ⟨L', hL'⟩ : ∃ L, L = toW (sLeft N D r (i + 1)) := ⟨_, rfl⟩
      rw [← hL'] at S6 HDi
      obtain ⟨Y, hY⟩ : ∃ L, L = toW y := ⟨_, rfl⟩
      rw [← hY] at S1 S2
      obtain ⟨T, hT⟩ : ∃ L, L = toW (sDig N D r i * ((D * P2 (2 * (64 - i)) : Nat) : Int)) := ⟨_, rfl⟩
      rw [← hT] at S5 S6
      obtain ⟨E, hE⟩ : ∃ L, L = toW ((D * P2 (2 * (64 - i)) : Nat) : Int) := ⟨_, rfl⟩
      rw [← hE] at S4 S5
      obtain ⟨d, hde⟩ : ∃ d, d = sDig N D r i := ⟨_, rfl⟩
      rw [← hde] at S3 S5 HDi
      have HL' := Lib.hid hL'
      obtain ⟨C, hC⟩ : ∃ C, C = c i := ⟨_, rfl⟩
      rw [← hC] at HDi
      have HCi := Lib.hid hC
      have HLT := Lib.hid hlt
      obtain ⟨p, hp⟩ : ∃ p, p = 64 - (i : Int) := ⟨_, rfl⟩
      rw [← hp] at S1 S4 HDi ⊢
      have e1 : (0 : Int) ≤ p := by omega
      have e2 : p ≤ 64 := by omega
      have HPI := Lib.hid (show p - 1 = 64 - ((i + 1 : Nat) : Int) by omega)
      have hw1 : IntKind.i64.wrap (2 * p) = 2 * p := IntWalk.i64_in _ (by omega)
      have hw2 : IntKind.i64.wrap (124 + 2 * p) = 124 + 2 * p := IntWalk.i64_in _ (by omega)
      have hw3 : IntKind.i64.wrap (p - 1) = p - 1 := IntWalk.i64_in _ (by omega)
      have KL := Lib.hid (HLD.out i wr HI.out)
      have UB := Lib.hid (But.refl (fun k => k = w.heap.size + 1 + 1) wr)
      clear hK hs y1 y2 ed hd hb6 hL hL' hY hT hE hde hC hlt hi hp
      have cGn := cell_row Gn.out
      have cGd := cell_row Gd.out
      have cGl := cell_row Gl.out
      go_wp2_with fail
      refine (S1.out _).mono ?_
      rintro e w2 ⟨rfl, hb⟩
      clear cGn cGd cGl
      replace UB := Lib.hid (UB.out.trans (But.of_below hb))
      replace Gn := Lib.hid ((hb.block _ (lt_of_heap Gn.out)).trans Gn.out)
      replace Gd := Lib.hid ((hb.block _ (lt_of_heap Gd.out)).trans Gd.out)
      replace Gl := Lib.hid ((hb.block _ (lt_of_heap Gl.out)).trans Gl.out)
      replace KL := Lib.hid (KL.out.older hb)
      clear hb
      have cGn := cell_row Gn.out
      have cGd := cell_row Gd.out
      have cGl := cell_row Gl.out
      go_wp2_with fail
      refine (S2.out _).mono ?_
      rintro e w3 ⟨rfl, hb⟩
      clear cGn cGd cGl
      replace UB := Lib.hid (UB.out.trans (But.of_below hb))
      replace Gn := Lib.hid ((hb.block _ (lt_of_heap Gn.out)).trans Gn.out)
      replace Gd := Lib.hid ((hb.block _ (lt_of_heap Gd.out)).trans Gd.out)
      replace Gl := Lib.hid ((hb.block _ (lt_of_heap Gl.out)).trans Gl.out)
      replace KL := Lib.hid (KL.out.older hb)
      clear hb
      have cGn := cell_row Gn.out
      have cGd := cell_row Gd.out
      have cGl := cell_row Gl.out
      go_wp2_with fail
      refine (S3.out _ KL.out).mono ?_
      rintro e w4 ⟨rfl, hb⟩
      clear cGn cGd cGl
      replace UB := Lib.hid (UB.out.trans (But.of_below hb))
      replace Gn := Lib.hid ((hb.block _ (lt_of_heap Gn.out)).trans Gn.out)
      replace Gd := Lib.hid ((hb.block _ (lt_of_heap Gd.out)).trans Gd.out)
      replace Gl := Lib.hid ((hb.block _ (lt_of_heap Gl.out)).trans Gl.out)
      replace KL := Lib.hid (KL.out.older hb)
      clear hb
      have cGn := cell_row Gn.out
      have cGd := cell_row Gd.out
      have cGl := cell_row Gl.out
      go_upto_region 8 with fail
      clear cGn cGd cGl
      have kGn := cell_row (w := w4.drew) Gn.out
      have kGd := cell_row (w := w4.drew) Gd.out
      have kGl := cell_row (w := w4.drew) Gl.out
      go_cut [] (fun wx => wx.heap[w.heap.size + 1 + 1]? = some (.cells (wcells (L')) 24 (0, 0)) ∧ But (fun k => k = w.heap.size + 1 + 1) w4 wx)
      case first =>
        have UL := Lib.hid (But.refl (fun k => k = w.heap.size + 1 + 1) w4).drew
        have AGn := Lib.hid (show w4.drew.heap[_]? = some _ from Gn.out)
        have AGd := Lib.hid (show w4.drew.heap[_]? = some _ from Gd.out)
        have AGl := Lib.hid (show w4.drew.heap[_]? = some _ from Gl.out)
        have st := st_row (P := Tryd.prog) AGl.out rfl (L')
        go_region_with
          (first
            | (go_at_call 40
               refine (S4.out _).mono ?_
               rintro e wA ⟨rfl, hb⟩
               have AGn := Lib.hid ((hb.block _ (lt_of_heap AGn.out)).trans AGn.out)
               have kGn := cell_row AGn.out
               have AGd := Lib.hid ((hb.block _ (lt_of_heap AGd.out)).trans AGd.out)
               have kGd := cell_row AGd.out
               have AGl := Lib.hid ((hb.block _ (lt_of_heap AGl.out)).trans AGl.out)
               have kGl := cell_row AGl.out
               have UL := Lib.hid (UL.out.trans (But.of_below hb))
               have st := st_row (P := Tryd.prog) AGl.out rfl (L')
               clear hb)
            | (go_at_call 85
               refine (S5.out _).mono ?_
               rintro e wA ⟨rfl, hb⟩
               have AGn := Lib.hid ((hb.block _ (lt_of_heap AGn.out)).trans AGn.out)
               have kGn := cell_row AGn.out
               have AGd := Lib.hid ((hb.block _ (lt_of_heap AGd.out)).trans AGd.out)
               have kGd := cell_row AGd.out
               have AGl := Lib.hid ((hb.block _ (lt_of_heap AGl.out)).trans AGl.out)
               have kGl := cell_row AGl.out
               have UL := Lib.hid (UL.out.trans (But.of_below hb))
               have st := st_row (P := Tryd.prog) AGl.out rfl (L')
               clear hb)
            | (go_at_call 37
               refine (S6.out _).mono ?_
               rintro e wA ⟨rfl, hb⟩
               have AGn := Lib.hid ((hb.block _ (lt_of_heap AGn.out)).trans AGn.out)
               have kGn := cell_row AGn.out
               have AGd := Lib.hid ((hb.block _ (lt_of_heap AGd.out)).trans AGd.out)
               have kGd := cell_row AGd.out
               have AGl := Lib.hid ((hb.block _ (lt_of_heap AGl.out)).trans AGl.out)
               have kGl := cell_row AGl.out
               have UL := Lib.hid (UL.out.trans (But.of_below hb))
               have st := st_row (P := Tryd.prog) AGl.out rfl (L')
               clear hb))
        all_goals
          go_wp2
          go_meet
          exact ⟨setRow_heap _ _ _ _ _ _ AGl.out, But.row UL.out rfl _⟩
      case rest =>
      obtain ⟨hgx, hbx⟩ := hcut
      clear kGn kGd kGl
      replace UB := Lib.hid (But.trans UB.out (hbx.mono (fun k _ hk => by subst hk; first | exact rfl | exact Or.inl rfl | exact Or.inr rfl)))
      replace Gn := Lib.hid (hbx.heap Gn.out (by (omega)))
      replace Gd := Lib.hid (hbx.heap Gd.out (by (omega)))
      replace Gl := Lib.hid hgx
      clear hgx hbx
      obtain ⟨w5, hw⟩ : ∃ wx, wx = wc := ⟨_, rfl⟩
      rw [← hw] at Gn Gd Gl UB ⊢
      clear hw
      have HIN : Hid (Inv i (w5)) := Lib.hid (HST.out i wr _ HI.out UB.out)
      have SI := Lib.hid (HDi.out (w5) (lt_of_heap Gl.out) HIN.out)
      have cs := cell_row Gl.out
      go_wp2_with fail
      refine SI.out.mono ?_
      rintro e w9 ⟨rfl, hI, hb⟩
      clear cs
      have HI4 := Lib.hid hI
      have Gn4 := Lib.hid (hb.heap Gn.out (fun h => h (Or.inl rfl)))
      have Gd4 := Lib.hid (hb.heap Gd.out (fun h => h (Or.inr (Or.inl rfl))))
      have Gl4 := Lib.hid (hb.heap Gl.out (fun h => h (Or.inr (Or.inr rfl))))
      rw [HL'.out] at Gl4
      have hk1 := HK.out
      clear hb hI
      cases C
      · have hK1 : i + 1 = K := by
          have h1 := HLT.out
          have h2 := HC.out i
          have h3 := HCi.out
          rcases Nat.lt_or_ge (i + 1) K with h | h
          · rw [h2 h] at h3; cases h3
          · omega
        have HIK : Hid (Inv K w9) := Lib.hid (by rw [← hK1]; exact HI4.out)
        have HSZ := Lib.hid (show w.heap.size ≤ w9.heap.size by have := lt_of_heap Gn4.out; omega)
        clear hK1 hk1
        go_wp2
        try rw [Exit.noGoto_normal]
        exact bodyPost_end (v := .tuple #[]) (by simp [results, Tryd.results50, go_sem]) rfl ⟨rfl, HIK.out, HSZ.out⟩
      · have HE1 : Hid (i + 1 = K → K = 65) := Lib.hid fun h => by
          rcases HCK.out with h1 | h1
          · exact h1
          · have h3 := HCi.out
            rw [show K - 1 = i by omega] at h1
            rw [h1] at h3
            cases h3
        clear hk1
        go_wp2
        go_roundw
        case rel => exact ⟨i + 1, by rw [HPI.out], HLT.out, HE1, HI4, Gn4, Gd4, Gl4⟩
        case measure => have := e1; simp [intOf]; (try omega)
    · have hiK : i = K := by omega
      subst hiK
      have h65 := HE.out rfl
      subst h65
      have HSZ := Lib.hid (show w.heap.size ≤ wr.heap.size by have := lt_of_heap Gn.out; omega)
      clear hi hlt HE Gn Gd Gl
      go_wp2
      try rw [Exit.noGoto_normal]
      exact bodyPost_end (v := .tuple #[]) (by simp [results, Tryd.results50, go_sem]) rfl ⟨rfl, HI.out, HSZ.out⟩
end Go.Proofs.YtffengboblekpaaDoor
