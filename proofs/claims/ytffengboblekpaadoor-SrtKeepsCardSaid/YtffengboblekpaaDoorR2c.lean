/- THE WALK of radix2's steps, with any function that takes them; the division. -/
import Derived.Test.YtffengboblekpaaDoorLaw11N
import Derived.Test.YtffengboblekpaaDoorK22
import Derived.WalkMore
namespace Go.Proofs.YtffengboblekpaaDoor
open Go Go.RowKit

theorem But.row {S : Nat → Prop} {w w' : World} (h : But S w w') {g : Nat} (hg : S g) (cs : Array Value) : But S w (w'.setRow g cs) :=
  h.trans ⟨rfl, rfl, rfl, by simp [World.setRow], fun i _ hs => setRow_other _ _ _ _ (fun e => hs (by rw [e]; exact hg))⟩

attribute [local go_sem ↓] Go.wp_at_zero Go.wp_at_succ
set_option maxRecDepth 100000 in
set_option maxHeartbeats 2000000 in
theorem run2_any (f : FuncId) (caps : Array Value) (n d K : Nat) (c : Nat → Bool) (Inv : Nat → World → Prop) (w : World)
    (hn : n < M) (hd0 : 0 < d) (hd : d < P2 120) (hnd : n < d * P2 128) (hK : K ≤ 128) (hK0 : 0 < K) (hcall : Enters Tryd.prog f)
    (hc : ∀ i, i + 1 < K → c i = true) (hcK : K = 128 ∨ c (K - 1) = false)
    (hst : ∀ i w1 w2, Inv i w1 → But (· = w.heap.size + 2) w1 w2 → Inv i w2)
    (hdo : ∀ i w', i < K → w.heap.size + 3 ≤ w'.heap.size → Inv i w' → Calls Tryd.prog f (#[.agg (scells (digN n d i : Nat) (lftN n d (i + 1)))] ++ caps) w' fun e w'' => e = .returned (.bool (c i)) ∧ Inv (i + 1) w'' ∧ But (fun k => ¬ (k = w.heap.size ∨ k = w.heap.size + 1 ∨ k = w.heap.size + 2)) w' w'')
    (h0 : Inv 0 w) :
    Calls Tryd.prog 64 #[wv n, wv d, .func (.func f) #[] caps] w fun e w' => e = .returned (.tuple #[]) ∧ Inv K w' ∧ w.heap.size ≤ w'.heap.size := by
  unfold Enters at hcall
  have HN := Lib.hid hn; have HD0 := Lib.hid hd0; have HD := Lib.hid hd; have HND := Lib.hid hnd; have HK := Lib.hid hK; have HK0 := Lib.hid hK0
  have HC := Lib.hid hc; have HCK := Lib.hid hcK; have HST := Lib.hid hst; have HDO := Lib.hid hdo; have H0 := Lib.hid h0
  clear hn hd0 hd hnd hK hK0 hc hcK hst hdo h0
  go_enter Tryd.func64, Tryd.ntmps64
  have HB := Lib.hid (Below.refl w.heap.size w)
  have Gn := Lib.hid (alloc_new (w) (.cells (wcells n) 24))
  replace HB := Lib.hid (below_al HB.out (.cells (wcells n) 24))
  replace Gn := Lib.hid (keepAl (o' := .cells (wcells d) 24) Gn.out)
  have Gd := Lib.hid (alloc_new' (w := (w).alloc (.cells (wcells n) 24)) (n := w.heap.size + 1) (.cells (wcells d) 24) (by simp))
  replace HB := Lib.hid (below_al HB.out (.cells (wcells d) 24))
  go_wp2
  go_step3
  have q1 := cell_row Gn.out
  replace Gn := Lib.hid (keepAl (o' := .cells (wcells 0) 24) Gn.out)
  replace Gd := Lib.hid (keepAl (o' := .cells (wcells 0) 24) Gd.out)
  have Gl := Lib.hid (alloc_new' (w := ((w).alloc (.cells (wcells n) 24)).alloc (.cells (wcells d) 24)) (n := w.heap.size + 1 + 1) (.cells (wcells 0) 24) (by simp))
  replace HB := Lib.hid (below_al HB.out (.cells (wcells 0) 24))
  have stl := st_row (P := Tryd.prog) Gl.out rfl (n)
  replace Gn := Lib.hid ((setRow_other ((((w).alloc (.cells (wcells n) 24)).alloc (.cells (wcells d) 24)).alloc (.cells (wcells 0) 24)) (w.heap.size + 1 + 1) _ (wcells (n)) (by (omega))).trans Gn.out)
  replace Gd := Lib.hid ((setRow_other ((((w).alloc (.cells (wcells n) 24)).alloc (.cells (wcells d) 24)).alloc (.cells (wcells 0) 24)) (w.heap.size + 1 + 1) _ (wcells (n)) (by (omega))).trans Gd.out)
  replace Gl := Lib.hid (setRow_heap ((((w).alloc (.cells (wcells n) 24)).alloc (.cells (wcells d) 24)).alloc (.cells (wcells 0) 24)) (w.heap.size + 1 + 1) _ (wcells (n)) _ _ Gl.out)
  replace HB := Lib.hid (below_setRow' HB.out (show _ ≤ w.heap.size + 1 + 1 by (omega)) (wcells (n)))
  go_wp2
  clear q1
  have HBut : Hid (But (· = w.heap.size + 2) w ((((w.alloc (.cells (wcells n) 24)).alloc (.cells (wcells d) 24)).alloc (.cells (wcells 0) 24)).setRow (w.heap.size + 1 + 1) (wcells n))) := Lib.hid (But.row (S := (· = w.heap.size + 2)) (((((But.refl _ w).al _).al _).al _)) (g := w.heap.size + 1 + 1) rfl _)
  obtain ⟨w0, hw⟩ : ∃ wx, wx = ((((w.alloc (.cells (wcells n) 24)).alloc (.cells (wcells d) 24)).alloc (.cells (wcells 0) 24)).setRow (w.heap.size + 1 + 1) (wcells n)) := ⟨_, rfl⟩
  rw [← hw] at Gn Gd Gl HB HBut ⊢
  clear hw
  go_step3
  go_wp2
  go_loopw [7] (fun s7 wr => ∃ i : Nat, s7 = .int .i64 (127 - (i : Int)) ∧ i ≤ K ∧ Hid (i = K → K = 128) ∧ Hid (Inv i wr) ∧ Hid (wr.heap[w.heap.size]? = some (.cells (wcells n) 24 (0, 0))) ∧ Hid (wr.heap[w.heap.size + 1]? = some (.cells (wcells d) 24 (0, 0))) ∧ Hid (wr.heap[w.heap.size + 1 + 1]? = some (.cells (wcells (lftN n d i)) 24 (0, 0)))) (fun s7 _ => (intOf s7 + 1).toNat)
  case atStart =>
    refine ⟨0, rfl, by omega, Lib.hid (fun h => by have := HK0.out; omega), Lib.hid (HST.out 0 w _ H0.out HBut.out), Gn, Gd, ?_⟩
    rw [lft_start HND.out]
    exact Gl
  case round =>
    clear HB Gn Gd Gl
    obtain ⟨i, rfl, hi, HE, HI, Gn, Gd, Gl⟩ := hrel
    by_cases hlt : i < K
    · have hK := HK.out
      have e1 : ¬ (127 - (i : Int)) < 0 := by omega
      obtain ⟨T, hT⟩ : ∃ T : Nat, T = 127 - i := ⟨_, rfl⟩
      have eT : 127 - (i : Int) = (T : Int) := by omega
      obtain ⟨st1, st2⟩ := lft_step n d i HD0.out (by omega)
      have hDM : d * P2 (127 - i) < M := by
        rw [← shl_small (c := 127 - i) HD.out (by omega)]; exact Nat.mod_lt _ M_pos
      have hlM : lftN n d i < M := Nat.lt_of_le_of_lt (lft_le n d i) HN.out
      have S1 : Hid (∀ w' : World, Calls Tryd.prog 40 #[wv d, .int .i64 (T : Int)] w' fun e w'' => e = .returned (wv (d * P2 (127 - i))) ∧ Below w'.heap.size w' w'') := Lib.hid fun w' => by
        have := shl_any d (T : Nat) w' (by omega) (by omega)
        rw [clampN_at (by omega), shl_small HD.out (by omega)] at this
        rw [← hT]
        exact this
      have S2 := Lib.hid (fun w' => sub_w (lftN n d i) (d * P2 (127 - i)) hlM hDM w')
      have hsub : d * P2 (127 - i) ≤ lftN n d i → subN (lftN n d i) (d * P2 (127 - i)) = lftN n d i - d * P2 (127 - i) := fun h => by
        unfold subN
        rw [show lftN n d i + M - d * P2 (127 - i) = (lftN n d i - d * P2 (127 - i)) + M by omega, Nat.add_mod_right, Nat.mod_eq_of_lt (by omega)]
      rw [eT]
      have eT0 : (0 : Int) ≤ (T : Int) := Int.natCast_nonneg _
      obtain ⟨L, hL⟩ : ∃ L, L = lftN n d i := ⟨_, rfl⟩
      obtain ⟨D, hD⟩ : ∃ D, D = d * P2 (127 - i) := ⟨_, rfl⟩
      rw [← hD] at S1 S2 hsub st1 st2
      rw [← hL] at S2 hsub st1 st2 Gl
      have HSUB := Lib.hid hsub; have HS1 := Lib.hid st1; have HS2 := Lib.hid st2; have HLT := Lib.hid hlt
      have HTI := Lib.hid (show (T : Int) = 127 - (i : Int) by omega)
      have HBe := Lib.hid (Below.refl wr.heap.size wr)
      clear hK e1 hT eT st1 st2 hDM hlM hsub hL hD hlt hi
      have HZ := Lib.hid (lt_of_heap Gl.out)
      obtain ⟨V, hV⟩ : ∃ V, V = subN L D := ⟨_, rfl⟩
      obtain ⟨F, hF⟩ : ∃ F, F = decide (L < D) := ⟨_, rfl⟩
      rw [← hV, ← hF] at S2
      have HV := Lib.hid hV; have HF := Lib.hid hF
      clear hV hF
      have cGn := cell_row Gn.out
      have cGd := cell_row Gd.out
      have cGl := cell_row Gl.out
      go_upto_region 6 with fail
      clear cGn cGd cGl
      replace Gn := Lib.hid (keepAl (o' := .cells (scells 0 L) 103) Gn.out)
      replace Gd := Lib.hid (keepAl (o' := .cells (scells 0 L) 103) Gd.out)
      replace Gl := Lib.hid (keepAl (o' := .cells (scells 0 L) 103) Gl.out)
      have Gs := Lib.hid (alloc_new (wr) (.cells (scells 0 L) 103))
      replace HBe := Lib.hid (below_al HBe.out (.cells (scells 0 L) 103))
      obtain ⟨wL, hw⟩ : ∃ wx, wx = (wr).alloc (.cells (scells 0 L) 103) := ⟨_, rfl⟩
      rw [← hw] at Gn Gd Gl Gs HBe ⊢
      clear hw
      go_cut [9, 10] (fun s9 s10 wx => (∃ g, s9 = .pointer (some ⟨g, 0, none⟩) ∧ wx.heap[g]? = some (.cells (wcells V) 24 (0, 0))) ∧ s10 = .bool F ∧ wx.heap[w.heap.size]? = some (.cells (wcells n) 24 (0, 0)) ∧ wx.heap[w.heap.size + 1]? = some (.cells (wcells d) 24 (0, 0)) ∧ wx.heap[w.heap.size + 1 + 1]? = some (.cells (wcells L) 24 (0, 0)) ∧ wx.heap[wr.heap.size]? = some (.cells (scells 0 L) 103 (0, 0)) ∧ Below wr.heap.size wr wx)
      case first =>
        have k0 : ∀ j, wL.drew.cell? ⟨w.heap.size + 1 + 1, j, none⟩ = (wcells L)[j]? := cell_row Gl.out
        have k1 : ∀ j, (wL.alloc (.cells (wcells 0) 24)).drew.cell? ⟨w.heap.size + 1 + 1, j, none⟩ = (wcells L)[j]? := cell_row (w := (wL.alloc (.cells (wcells 0) 24)).drew) (keepAl Gl.out)
        have m0 : ∀ j, wL.drew.cell? ⟨w.heap.size + 1, j, none⟩ = (wcells d)[j]? := cell_row Gd.out
        have m1 : ∀ j, (wL.alloc (.cells (wcells 0) 24)).drew.cell? ⟨w.heap.size + 1, j, none⟩ = (wcells d)[j]? := cell_row (w := (wL.alloc (.cells (wcells 0) 24)).drew) (keepAl Gd.out)
        have HL0 := Lib.hid (Below.refl wL.heap.size wL).drew
        have HA0 := Lib.hid (below_al (Below.refl wL.heap.size wL) (.cells (wcells 0) 24)).drew
        go_region_with
          (first
            | (go_at_call 40
               refine (S1.out _).mono ?_
               rintro e wA ⟨rfl, hb⟩
               first
                 | have HL := Lib.hid (below_then HL0.out hb)
                 | (have HL := Lib.hid (below_then HA0.out hb)
                    have GN : Hid (wA.heap[wL.heap.size]? = some (.cells (wcells 0) 24 (0, 0))) := Lib.hid ((hb.block _ (show wL.heap.size < _ by simp)).trans (alloc_new wL _)))
               have cA : ∀ j, wA.cell? ⟨w.heap.size + 1 + 1, j, none⟩ = (wcells L)[j]? := cell_row ((HL.out.block _ (lt_of_heap Gl.out)).trans Gl.out)
               have cB : ∀ j, (wA.alloc (.cells (wcells 0) 24)).cell? ⟨w.heap.size + 1 + 1, j, none⟩ = (wcells L)[j]? := cell_row (keepAl ((HL.out.block _ (lt_of_heap Gl.out)).trans Gl.out))
               clear hb)
            | (go_at_call 37
               refine (S2.out _).mono ?_
               rintro e wB ⟨rfl, hb⟩
               first
                 | (have HL2 := Lib.hid (below_then HL.out hb)
                    (try (have GN2 := Lib.hid ((hb.block _ (lt_of_heap GN.out)).trans GN.out); have st := st_row (P := Tryd.prog) GN2.out rfl V)))
                 | (have HL2 := Lib.hid (below_then (below_al HL.out (.cells (wcells 0) 24)) hb)
                    have GN2 := Lib.hid ((hb.block _ (lt_of_heap (alloc_new _ _))).trans (alloc_new _ (.cells (wcells 0) 24)))
                    have st := st_row (P := Tryd.prog) GN2.out rfl V)
               clear hb))
        all_goals
          go_wp2
          go_meet
          have l0 := HBe.out.size
          have l1 := lt_of_heap Gn.out
          have l2 := lt_of_heap Gd.out
          have l3 := lt_of_heap Gl.out
          have l4 := lt_of_heap Gs.out
          have l5 := HL.out.size
          first
            | exact ⟨⟨_, rfl, alloc_new _ _⟩, rfl, keepAl ((HL2.out.block _ l1).trans Gn.out), keepAl ((HL2.out.block _ l2).trans Gd.out), keepAl ((HL2.out.block _ l3).trans Gl.out), keepAl ((HL2.out.block _ l4).trans Gs.out), below_al (below_then HBe.out HL2.out) _⟩
            | exact ⟨⟨_, rfl, setRow_heap _ _ _ _ _ _ GN2.out⟩, rfl, (setRow_other _ _ _ _ (by omega)).trans ((HL2.out.block _ l1).trans Gn.out), (setRow_other _ _ _ _ (by omega)).trans ((HL2.out.block _ l2).trans Gd.out), (setRow_other _ _ _ _ (by omega)).trans ((HL2.out.block _ l3).trans Gl.out), (setRow_other _ _ _ _ (by omega)).trans ((HL2.out.block _ l4).trans Gs.out), below_setRow' (below_then HBe.out HL2.out) (by omega) _⟩
      case rest =>
        obtain ⟨⟨g, rfl, hgg⟩, rfl, hg1, hg2, hg3, hg4, hbw⟩ := hcut
        replace Gn := Lib.hid hg1; replace Gd := Lib.hid hg2; replace Gl := Lib.hid hg3; replace Gs := Lib.hid hg4; replace HBe := Lib.hid hbw
        have Gg := Lib.hid hgg
        clear hgg hg1 hg2 hg3 hg4 hbw S1 S2
        have hz := HZ.out
        cases F
        · have hle : D ≤ L := by have := HF.out; simpa using this
          have hv : V = L - D := by rw [HV.out, HSUB.out hle]
          replace HS1 := Lib.hid (HS1.out.trans (if_pos hle))
          replace HS2 := Lib.hid (HS2.out.trans (if_pos hle))
          rw [← hv] at HS1
          clear hle hv HV HF HSUB
          have sts := st_s (P := Tryd.prog) Gs.out rfl 1 V
          have cg := cell_row Gg.out
          have Gs2 : Hid ((wc.setRow wr.heap.size (scells 1 V)).heap[wr.heap.size]? = some (.cells (scells 1 V) 103 (0, 0))) := Lib.hid (setRow_heap _ _ _ _ _ _ Gs.out)
          have Gl2 : Hid ((wc.setRow wr.heap.size (scells 1 V)).heap[w.heap.size + 1 + 1]? = some (.cells (wcells L) 24 (0, 0))) := Lib.hid ((setRow_other _ _ _ _ (by omega)).trans Gl.out)
          have Gn2 : Hid ((wc.setRow wr.heap.size (scells 1 V)).heap[w.heap.size]? = some (.cells (wcells n) 24 (0, 0))) := Lib.hid ((setRow_other _ _ _ _ (by omega)).trans Gn.out)
          have Gd2 : Hid ((wc.setRow wr.heap.size (scells 1 V)).heap[w.heap.size + 1]? = some (.cells (wcells d) 24 (0, 0))) := Lib.hid ((setRow_other _ _ _ _ (by omega)).trans Gd.out)
          have HB2 := Lib.hid (below_setRow' HBe.out (Nat.le_refl wr.heap.size) (scells 1 V))
          have Gs3 : Hid (((wc.setRow wr.heap.size (scells 1 V)).setRow (w.heap.size + 1 + 1) (wcells V)).heap[wr.heap.size]? = some (.cells (scells 1 V) 103 (0, 0))) := Lib.hid ((setRow_other _ _ _ _ (by omega)).trans Gs2.out)
          have Gl3 : Hid (((wc.setRow wr.heap.size (scells 1 V)).setRow (w.heap.size + 1 + 1) (wcells V)).heap[w.heap.size + 1 + 1]? = some (.cells (wcells V) 24 (0, 0))) := Lib.hid (setRow_heap _ _ _ _ _ _ Gl2.out)
          have Gn3 : Hid (((wc.setRow wr.heap.size (scells 1 V)).setRow (w.heap.size + 1 + 1) (wcells V)).heap[w.heap.size]? = some (.cells (wcells n) 24 (0, 0))) := Lib.hid ((setRow_other _ _ _ _ (by omega)).trans Gn2.out)
          have Gd3 : Hid (((wc.setRow wr.heap.size (scells 1 V)).setRow (w.heap.size + 1 + 1) (wcells V)).heap[w.heap.size + 1]? = some (.cells (wcells d) 24 (0, 0))) := Lib.hid ((setRow_other _ _ _ _ (by omega)).trans Gd2.out)
          have HI3 := Lib.hid (HST.out i wr ((wc.setRow wr.heap.size (scells 1 V)).setRow (w.heap.size + 1 + 1) (wcells V)) HI.out (But.row (S := (· = w.heap.size + 2)) (But.of_below HB2.out) (g := w.heap.size + 1 + 1) rfl _))
          have SI : Hid (Calls Tryd.prog f (#[.agg (scells 1 V)] ++ caps) ((wc.setRow wr.heap.size (scells 1 V)).setRow (w.heap.size + 1 + 1) (wcells V)) fun e w'' => e = .returned (.bool (c i)) ∧ Inv (i + 1) w'' ∧ But (fun k => ¬ (k = w.heap.size ∨ k = w.heap.size + 1 ∨ k = w.heap.size + 2)) ((wc.setRow wr.heap.size (scells 1 V)).setRow (w.heap.size + 1 + 1) (wcells V)) w'') := Lib.hid (by
            have h3 := lt_of_heap Gl3.out
            have := HDO.out i ((wc.setRow wr.heap.size (scells 1 V)).setRow (w.heap.size + 1 + 1) (wcells V)) HLT.out (by omega) HI3.out
            rw [HS1.out, HS2.out] at this
            exact this)
          have cS2 := cell_row Gs2.out
          have stl := st_row (P := Tryd.prog) Gl2.out rfl V
          have cS3 := cell_row Gs3.out
          obtain ⟨C, hC⟩ : ∃ C, C = c i := ⟨_, rfl⟩
          rw [← hC] at SI
          have HCi := Lib.hid hC
          clear hC hz
          go_wp2_with fail
          refine SI.out.mono ?_
          rintro e w4 ⟨rfl, hI, hb⟩
          clear cS2 cS3 stl
          have HI4 := Lib.hid hI
          have Gn4 := Lib.hid (hb.heap Gn3.out (fun h => h (Or.inl rfl)))
          have Gd4 := Lib.hid (hb.heap Gd3.out (fun h => h (Or.inr (Or.inl rfl))))
          have Gl4 := Lib.hid (hb.heap Gl3.out (fun h => h (Or.inr (Or.inr rfl))))
          rw [← HS1.out] at Gl4
          have hk1 := HK.out
          cases C
          · have hK1 : i + 1 = K := by
              have h1 := HLT.out
              have h2 := HC.out i
              have h3 := HCi.out
              rcases Nat.lt_or_ge (i + 1) K with h | h
              · rw [h2 h] at h3; cases h3
              · omega
            have HIK : Hid (Inv K w4) := Lib.hid (by rw [← hK1]; exact HI4.out)
            have HSZ := Lib.hid (show w.heap.size ≤ w4.heap.size by have := lt_of_heap Gl4.out; omega)
            clear hb hI hK1 hk1
            go_wp2
            try rw [Exit.noGoto_normal]
            exact bodyPost_end (v := .tuple #[]) (by simp [results, Tryd.results64, go_sem]) rfl ⟨rfl, HIK.out, HSZ.out⟩
          · have HE1 : Hid (i + 1 = K → K = 128) := Lib.hid fun h => by
              rcases HCK.out with h1 | h1
              · exact h1
              · have h3 := HCi.out
                rw [show K - 1 = i by omega] at h1
                rw [h1] at h3
                cases h3
            clear hb hI hk1
            have hw1 : IntKind.i64.wrap ((T : Int) - 1) = (T : Int) - 1 := IntWalk.i64_in _ (by have := HTI.out; omega)
            go_wp2
            go_roundw
            case rel => exact ⟨i + 1, by congr 1; have := HTI.out; omega, HLT.out, HE1, HI4, Gn4, Gd4, Gl4⟩
            case measure => have := HTI.out; have := HLT.out; have := HK.out; simp [intOf]; (try omega)
        · have hle : ¬ D ≤ L := by
            have h1 : L < D := of_decide_eq_true HF.out.symm
            omega
          replace HS1 := Lib.hid (HS1.out.trans (if_neg hle))
          replace HS2 := Lib.hid (HS2.out.trans (if_neg hle))
          clear hle HV HF HSUB Gg
          have Gs2 := Gs; have Gl2 := Gl; have Gn2 := Gn; have Gd2 := Gd; have HB2 := HBe
          have Gs3 : Hid (((wc).setRow (w.heap.size + 1 + 1) (wcells L)).heap[wr.heap.size]? = some (.cells (scells 0 L) 103 (0, 0))) := Lib.hid ((setRow_other _ _ _ _ (by omega)).trans Gs2.out)
          have Gl3 : Hid (((wc).setRow (w.heap.size + 1 + 1) (wcells L)).heap[w.heap.size + 1 + 1]? = some (.cells (wcells L) 24 (0, 0))) := Lib.hid (setRow_heap _ _ _ _ _ _ Gl2.out)
          have Gn3 : Hid (((wc).setRow (w.heap.size + 1 + 1) (wcells L)).heap[w.heap.size]? = some (.cells (wcells n) 24 (0, 0))) := Lib.hid ((setRow_other _ _ _ _ (by omega)).trans Gn2.out)
          have Gd3 : Hid (((wc).setRow (w.heap.size + 1 + 1) (wcells L)).heap[w.heap.size + 1]? = some (.cells (wcells d) 24 (0, 0))) := Lib.hid ((setRow_other _ _ _ _ (by omega)).trans Gd2.out)
          have HI3 := Lib.hid (HST.out i wr ((wc).setRow (w.heap.size + 1 + 1) (wcells L)) HI.out (But.row (S := (· = w.heap.size + 2)) (But.of_below HB2.out) (g := w.heap.size + 1 + 1) rfl _))
          have SI : Hid (Calls Tryd.prog f (#[.agg (scells 0 L)] ++ caps) ((wc).setRow (w.heap.size + 1 + 1) (wcells L)) fun e w'' => e = .returned (.bool (c i)) ∧ Inv (i + 1) w'' ∧ But (fun k => ¬ (k = w.heap.size ∨ k = w.heap.size + 1 ∨ k = w.heap.size + 2)) ((wc).setRow (w.heap.size + 1 + 1) (wcells L)) w'') := Lib.hid (by
            have h3 := lt_of_heap Gl3.out
            have := HDO.out i ((wc).setRow (w.heap.size + 1 + 1) (wcells L)) HLT.out (by omega) HI3.out
            rw [HS1.out, HS2.out] at this
            exact this)
          have cS2 := cell_row Gs2.out
          have stl := st_row (P := Tryd.prog) Gl2.out rfl L
          have cS3 := cell_row Gs3.out
          obtain ⟨C, hC⟩ : ∃ C, C = c i := ⟨_, rfl⟩
          rw [← hC] at SI
          have HCi := Lib.hid hC
          clear hC hz
          go_wp2_with fail
          refine SI.out.mono ?_
          rintro e w4 ⟨rfl, hI, hb⟩
          clear cS2 cS3 stl
          have HI4 := Lib.hid hI
          have Gn4 := Lib.hid (hb.heap Gn3.out (fun h => h (Or.inl rfl)))
          have Gd4 := Lib.hid (hb.heap Gd3.out (fun h => h (Or.inr (Or.inl rfl))))
          have Gl4 := Lib.hid (hb.heap Gl3.out (fun h => h (Or.inr (Or.inr rfl))))
          rw [← HS1.out] at Gl4
          have hk1 := HK.out
          cases C
          · have hK1 : i + 1 = K := by
              have h1 := HLT.out
              have h2 := HC.out i
              have h3 := HCi.out
              rcases Nat.lt_or_ge (i + 1) K with h | h
              · rw [h2 h] at h3; cases h3
              · omega
            have HIK : Hid (Inv K w4) := Lib.hid (by rw [← hK1]; exact HI4.out)
            have HSZ := Lib.hid (show w.heap.size ≤ w4.heap.size by have := lt_of_heap Gl4.out; omega)
            clear hb hI hK1 hk1
            go_wp2
            try rw [Exit.noGoto_normal]
            exact bodyPost_end (v := .tuple #[]) (by simp [results, Tryd.results64, go_sem]) rfl ⟨rfl, HIK.out, HSZ.out⟩
          · have HE1 : Hid (i + 1 = K → K = 128) := Lib.hid fun h => by
              rcases HCK.out with h1 | h1
              · exact h1
              · have h3 := HCi.out
                rw [show K - 1 = i by omega] at h1
                rw [h1] at h3
                cases h3
            clear hb hI hk1
            have hw1 : IntKind.i64.wrap ((T : Int) - 1) = (T : Int) - 1 := IntWalk.i64_in _ (by have := HTI.out; omega)
            go_wp2
            go_roundw
            case rel => exact ⟨i + 1, by congr 1; have := HTI.out; omega, HLT.out, HE1, HI4, Gn4, Gd4, Gl4⟩
            case measure => have := HTI.out; have := HLT.out; have := HK.out; simp [intOf]; (try omega)
    · have hiK : i = K := by omega
      subst hiK
      have h128 := HE.out rfl
      subst h128
      have HSZ := Lib.hid (show w.heap.size ≤ wr.heap.size by have := lt_of_heap Gl.out; omega)
      clear hi hlt HE Gn Gd Gl
      go_wp2
      try rw [Exit.noGoto_normal]
      exact bodyPost_end (v := .tuple #[]) (by simp [results, Tryd.results64, go_sem]) rfl ⟨rfl, HI.out, HSZ.out⟩
end Go.Proofs.YtffengboblekpaaDoor
