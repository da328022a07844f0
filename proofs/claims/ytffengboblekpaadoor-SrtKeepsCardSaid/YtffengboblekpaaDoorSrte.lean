/- THE WALK of srt: quotient and remainder. -/
import Derived.Test.YtffengboblekpaaDoorSrtb
import Derived.Test.YtffengboblekpaaDoorFlyb
import Derived.Test.YtffengboblekpaaDoorLaw11N
namespace Go.Proofs.YtffengboblekpaaDoor
open Go Go.RowKit

attribute [local go_sem ↓] Go.wp_at_zero Go.wp_at_succ
set_option maxRecDepth 100000 in
set_option maxHeartbeats 1000000 in
theorem divFunT_any (Qb Lb o L : Nat) (z p d : Int) (w : World) (hd : isDig d = true) (hq : w.heap[Qb]? = some (.cells (fc (toW z) (toW (z - 1))) 86 (0, 0))) (hl : w.heap[Lb]? = some (.cells (wcells o) 24 (0, 0))) (hne : Qb ≠ Lb) :
    Calls Tryd.prog 51 #[.agg (tcells p d L), .pointer (some ⟨Qb, 0, none⟩), .pointer (some ⟨Lb, 0, none⟩)] w fun e w' => e = .returned (.bool true) ∧ w'.heap[Qb]? = some (.cells (fc (toW (4 * z + d)) (toW (4 * z + d - 1))) 86 (0, 0)) ∧ w'.heap[Lb]? = some (.cells (wcells L) 24 (0, 0)) ∧ But (fun k => k = Qb ∨ k = Lb) w w' := by
  have S1 := Lib.hid (fun w' => next_w z d hd w')
  obtain ⟨A, hA⟩ : ∃ x, x = toW z := ⟨_, rfl⟩
  obtain ⟨B, hB⟩ : ∃ x, x = toW (z - 1) := ⟨_, rfl⟩
  rw [← hA, ← hB] at S1 hq
  obtain ⟨A2, hA2⟩ : ∃ x, x = toW (4 * z + d) := ⟨_, rfl⟩
  obtain ⟨B2, hB2⟩ : ∃ x, x = toW (4 * z + d - 1) := ⟨_, rfl⟩
  rw [← hA2, ← hB2] at S1 ⊢
  have Gq := Lib.hid hq
  have Gl := Lib.hid hl
  have HQ := Lib.hid (lt_of_heap hq)
  have HL := Lib.hid (lt_of_heap hl)
  have HNE := Lib.hid hne
  clear hq hl hne hA hB hA2 hB2 hd
  go_enter Tryd.func51, Tryd.ntmps51
  have UB := Lib.hid (But.refl (fun k => k = Qb ∨ k = Lb) w)
  replace Gq := Lib.hid (keepAl (o' := .cells (tcells p d L) 90) Gq.out)
  replace Gl := Lib.hid (keepAl (o' := .cells (tcells p d L) 90) Gl.out)
  have Gs := Lib.hid (alloc_new (w) (.cells (tcells p d L) 90))
  replace UB := Lib.hid (UB.out.al (.cells (tcells p d L) 90))
  have cGq := cell_row Gq.out
  have cGl := cell_row Gl.out
  have cGs := cell_row Gs.out
  go_wp2_with fail
  refine (S1.out _).mono ?_
  rintro e w1 ⟨rfl, hb⟩
  clear cGq cGl cGs
  replace UB := Lib.hid (UB.out.trans (But.of_below hb))
  replace Gq := Lib.hid ((hb.block _ (lt_of_heap Gq.out)).trans Gq.out)
  replace Gl := Lib.hid ((hb.block _ (lt_of_heap Gl.out)).trans Gl.out)
  replace Gs := Lib.hid ((hb.block _ (lt_of_heap Gs.out)).trans Gs.out)
  clear hb
  have cs := cell_row Gs.out
  have stq := st_16 (P := Tryd.prog) Gq.out rfl (A2) (B2)
  replace Gl := Lib.hid ((setRow_other (w1) (Qb) _ (fc (A2) (B2)) (by (have := HQ.out; have := HL.out; have := HNE.out; omega))).trans Gl.out)
  replace Gs := Lib.hid ((setRow_other (w1) (Qb) _ (fc (A2) (B2)) (by (have := HQ.out; have := HL.out; have := HNE.out; omega))).trans Gs.out)
  replace Gq := Lib.hid (setRow_heap (w1) (Qb) _ (fc (A2) (B2)) _ _ Gq.out)
  replace UB := Lib.hid (But.row (g := Qb) UB.out (by first | exact Or.inl rfl | exact Or.inr rfl | exact rfl) (fc (A2) (B2)))
  have q1 := stq
  have cs2 := cell_row Gs.out
  clear stq
  have stl := st_row (P := Tryd.prog) Gl.out rfl (L)
  replace Gq := Lib.hid ((setRow_other ((w1).setRow (Qb) (fc (A2) (B2))) (Lb) _ (wcells (L)) (by (have := HQ.out; have := HL.out; have := HNE.out; omega))).trans Gq.out)
  replace Gs := Lib.hid ((setRow_other ((w1).setRow (Qb) (fc (A2) (B2))) (Lb) _ (wcells (L)) (by (have := HQ.out; have := HL.out; have := HNE.out; omega))).trans Gs.out)
  replace Gl := Lib.hid (setRow_heap ((w1).setRow (Qb) (fc (A2) (B2))) (Lb) _ (wcells (L)) _ _ Gl.out)
  replace UB := Lib.hid (But.row (g := Lb) UB.out (by first | exact Or.inl rfl | exact Or.inr rfl | exact rfl) (wcells (L)))
  go_wp2
  go_ret
  exact ⟨rfl, Gq.out, Gl.out, UB.out⟩
theorem enters_divT : Enters Tryd.prog 51 := fun args w => by simp [go_sem]
structure DivInT (N D Qb Lb : Nat) (r : Int) (wq : World) (i : Nat) (w' : World) : Prop where
  q : w'.heap[Qb]? = some (.cells (fc (toW (digitsZ (sDigs N D r i))) (toW (digitsZ (sDigs N D r i) - 1))) 86 (0, 0))
  l : ∃ o, w'.heap[Lb]? = some (.cells (wcells o) 24 (0, 0)) ∧ (0 < i → o = toW (sLeft N D r i))
  but : But (fun k => (k = Qb ∨ k = Lb) ∨ wq.heap.size ≤ k) wq w'
set_option maxRecDepth 100000 in
set_option maxHeartbeats 1000000 in
theorem divRunT_any (N D Qb Lb : Nat) (w : World) (hD1 : P2 127 ≤ D) (hD2 : D < P2 128) (hND : N < D * P2 128) (hL : Laid w) (hgq : 1 < Qb) (hne : Qb < Lb) (hLb : Lb < w.heap.size) (hq : w.heap[Qb]? = some (.cells (fc 0 (subN 0 1)) 86 (0, 0))) (hl : w.heap[Lb]? = some (.cells (wcells 0) 24 (0, 0))) :
    Calls Tryd.prog 50 #[wv N, wv D, .func (.func 51) #[] #[.pointer (some ⟨Qb, 0, none⟩), .pointer (some ⟨Lb, 0, none⟩)]] w fun e w' => e = .returned (.tuple #[]) ∧ w'.heap[Qb]? = some (.cells (fc (toW (digitsZ (sDigs N D ((rowT D : Nat) : Int) 65))) (toW (digitsZ (sDigs N D ((rowT D : Nat) : Int) 65) - 1))) 86 (0, 0)) ∧ w'.heap[Lb]? = some (.cells (wcells (toW (sLeft N D ((rowT D : Nat) : Int) 65))) 24 (0, 0)) ∧ But (fun k => (k = Qb ∨ k = Lb) ∨ w.heap.size ≤ k) w w' := by
  have hlt := hL.lt
  refine (runT_any 51 #[.pointer (some ⟨Qb, 0, none⟩), .pointer (some ⟨Lb, 0, none⟩)] N D 65 (fun _ => true) (DivInT N D Qb Lb ((rowT D : Nat) : Int) w) w hD1 hD2 hND (Nat.le_refl _) (by decide) enters_divT (fun _ _ => rfl) (Or.inl rfl) ?_ ?_ ?_ ?_).mono ?_
  · intro i w1 h
    exact hL.but h.but (by omega)
  · intro i w1 w2 h hb
    obtain ⟨o, h1, h2⟩ := h.l
    exact ⟨hb.heap h.q (by omega), ⟨o, hb.heap h1 (by omega), h2⟩, h.but.trans (hb.mono fun k _ hk => Or.inr (by omega))⟩
  · intro i w' hi hsz h
    obtain ⟨o, h1, h2⟩ := h.l
    have hdr := sDig_range N D ((rowT D : Nat) : Int) i
    have := divFunT_any Qb Lb o (toW (sLeft N D ((rowT D : Nat) : Int) (i + 1))) (digitsZ (sDigs N D ((rowT D : Nat) : Int) i)) (64 - (i : Int)) (sDig N D ((rowT D : Nat) : Int) i) w' (isDig_yes (by omega) (by omega)) h.q h1 (by omega)
    refine (show Calls Tryd.prog 51 (#[.agg (tcells (64 - (i : Int)) (sDig N D ((rowT D : Nat) : Int) i) (toW (sLeft N D ((rowT D : Nat) : Int) (i + 1))))] ++ #[.pointer (some ⟨Qb, 0, none⟩), .pointer (some ⟨Lb, 0, none⟩)]) w' _ from this).mono ?_
    rintro e w'' ⟨rfl, g1, g2, g3⟩
    refine ⟨rfl, ⟨by rw [sDigs_succ, digitsZ_snoc]; exact g1, ⟨_, g2, fun _ => rfl⟩, h.but.trans (g3.mono fun k _ hk => Or.inl hk)⟩, g3.mono fun k _ hk => ?_⟩
    rcases hk with hk | hk <;> omega
  · refine ⟨?_, ⟨_, hl, fun h => absurd h (by decide)⟩, But.refl _ _⟩
    have e0 : toW (digitsZ (sDigs N D ((rowT D : Nat) : Int) 0)) = 0 := toW_unique M_pos (by rfl)
    have e1 : toW (digitsZ (sDigs N D ((rowT D : Nat) : Int) 0) - 1) = subN 0 1 := by
      have := sub_toW (0 : Int) 1
      rw [show toW (0 : Int) = 0 from toW_nat (n := 0) M_pos, show toW (1 : Int) = 1 from toW_nat (n := 1) (lit_ltM _ (by decide))] at this
      exact this.symm
    rw [e0, e1]
    exact hq
  · rintro e w' ⟨rfl, h, hsz⟩
    obtain ⟨o, h1, h2⟩ := h.l
    obtain rfl := h2 (by decide)
    exact ⟨rfl, h.q, h1, h.but⟩
set_option maxRecDepth 100000 in
set_option maxHeartbeats 4000000 in
theorem divideT_w (n d : Nat) (hn : n < M) (hd : d < M) (w : World) (hL : Laid w) :
    Calls Tryd.prog 23 #[wv n, wv d] w fun e w' => e = .returned (.tuple #[wv (dvQ n d), wv (dvR n d), .int .i64 (mayN n d)]) ∧ Below w.heap.size w w' := by
  have S1 := Lib.hid (fun w' => may_w n d hn hd w')
  by_cases hm : mayN n d = 0
  · obtain ⟨e1, e2⟩ := dv_yes hm
    have S3 := Lib.hid (fun w' => shiftedT_w n d hm w')
    obtain ⟨r1, r2, r3, r4, r5⟩ := shift_range hm
    obtain ⟨hf, _⟩ := fit_of r1 r2
    have hend := srt_end hf r3 (by have := P2_pos 127; omega)
    have hs := sLeft_small hf r3 r2 65 (Nat.le_refl _)
    have hc : 128 - blen d ≤ 512 := by omega
    have hRM : n * P2 (128 - blen d) % (d * P2 (128 - blen d)) < M := Nat.lt_trans (Nat.mod_lt _ (by have := P2_pos 127; omega)) (Nat.lt_trans r2 (by rw [M_eq]; exact P2_lt (by omega)))
    have hDM : d * P2 (128 - blen d) < M := Nat.lt_trans r2 (by rw [M_eq]; exact P2_lt (by omega))
    have hqM : n / d < M := Nat.lt_of_le_of_lt (Nat.div_le_self _ _) hn
    rw [r4] at hend
    have S6 := Lib.hid (fun w' => shr_any (n * P2 (128 - blen d) % (d * P2 (128 - blen d))) hRM ((128 - blen d : Nat) : Int) w' (by omega) (by omega))
    rw [clampN_at hc, r5] at S6
    rw [e1, e2, hm]
    rw [hm] at S1
    obtain ⟨D, hD⟩ : ∃ X, X = d * P2 (128 - blen d) := ⟨_, rfl⟩
    rw [← hD] at S3 S6 r1 r2 r3 hend hs hDM hRM
    obtain ⟨N, hN⟩ : ∃ X, X = n * P2 (128 - blen d) := ⟨_, rfl⟩
    rw [← hN] at S3 S6 r3 hend hs hRM
    obtain ⟨k, hke⟩ : ∃ X, X = 128 - blen d := ⟨_, rfl⟩
    rw [← hke] at S3 S6
    have S2 := Lib.hid (fun Qb Lb w' hL hgq hne hLb hq hl => divRunT_any N D Qb Lb w' r1 r2 r3 hL hgq hne hLb hq hl)
    obtain ⟨z, hz⟩ : ∃ z, z = digitsZ (sDigs N D ((rowT D : Nat) : Int) 65) := ⟨_, rfl⟩
    obtain ⟨L, hLe⟩ : ∃ z, z = sLeft N D ((rowT D : Nat) : Int) 65 := ⟨_, rfl⟩
    rw [← hz, ← hLe] at S2 hend
    rw [← hLe] at hs
    have h511 : P2 260 ≤ P2 511 := P2_le (by omega)
    have S4 := Lib.hid (fun w' => minus_w (toW L) (toW_lt _) w')
    rw [minus_toW (by omega) (by omega)] at S4
    have S5 := Lib.hid (fun w' => add_w (toW L) (toW (D : Int)) (toW_lt _) (toW_lt _) w')
    rw [add_toW, toW_nat hDM] at S5
    have SN := Lib.hid (fun w' => new_w 0 M_pos w')
    obtain ⟨b6, hb6⟩ : ∃ b, b = decide (N % D % P2 k ≠ 0) := ⟨_, rfl⟩
    rw [← hb6] at S6
    obtain ⟨b5, hb5⟩ : ∃ b, b = decide (M ≤ toW L + D) := ⟨_, rfl⟩
    rw [← hb5] at S5
    have hpos : ¬ L < 0 → toW z = n / d ∧ toW L = N % D := fun h => by
      obtain ⟨g1, g2⟩ := hend.1 (by omega)
      rw [g1, g2, toW_nat hqM, toW_nat hRM]
      exact ⟨rfl, rfl⟩
    have hneg : L < 0 → toW (z - 1) = n / d ∧ toW (L + (D : Int)) = N % D := fun h => by
      obtain ⟨g1, g2⟩ := hend.2 (by omega)
      rw [g1, g2, Int.add_sub_cancel, toW_nat hqM, toW_nat hRM]
      exact ⟨rfl, rfl⟩
    obtain ⟨b, hb⟩ : ∃ b, b = decide (L < 0) := ⟨_, rfl⟩
    rw [← hb] at S4
    replace hpos : b = false → toW z = n / d ∧ toW L = N % D := fun h => hpos (by rw [h] at hb; exact of_decide_eq_false hb.symm)
    replace hneg : b = true → toW (z - 1) = n / d ∧ toW (L + (D : Int)) = N % D := fun h => hneg (by rw [h] at hb; exact of_decide_eq_true hb.symm)
    obtain ⟨R, hR⟩ : ∃ x, x = n % d := ⟨_, rfl⟩
    rw [← hR] at S6 ⊢
    obtain ⟨R0, hR0⟩ : ∃ x, x = N % D := ⟨_, rfl⟩
    rw [← hR0] at S6 hpos hneg
    obtain ⟨Q, hQ⟩ : ∃ x, x = n / d := ⟨_, rfl⟩
    rw [← hQ] at hpos hneg ⊢
    obtain ⟨Z, hZ⟩ : ∃ x, x = toW z := ⟨_, rfl⟩
    obtain ⟨Z1, hZ1⟩ : ∃ x, x = toW (z - 1) := ⟨_, rfl⟩
    obtain ⟨L0, hL0⟩ : ∃ x, x = toW L := ⟨_, rfl⟩
    obtain ⟨L1, hL1⟩ : ∃ x, x = toW (L + (D : Int)) := ⟨_, rfl⟩
    obtain ⟨N1, hN1⟩ : ∃ x, x = subN 0 1 := ⟨_, rfl⟩
    rw [← hN1] at SN S2
    rw [← hZ, ← hZ1, ← hL0] at S2
    rw [← hL0] at S4 S5
    rw [← hL1] at S5
    rw [← hZ, ← hL0] at hpos
    rw [← hZ1, ← hL1] at hneg
    have HP := hpos
    have HN := hneg
    have HG := Lib.hid hL.lt
    have KL := Lib.hid hL
    clear hn hd hm e1 e2 r1 r2 r3 r4 r5 hend hs hc hRM hDM hqM hD hN hke hz hLe h511 hb6 hb5 hpos hneg hb hR hR0 hQ hZ hZ1 hL0 hL1 hN1 hf hL
    cases b
    · obtain ⟨rfl, rfl⟩ := HP rfl
      clear HP HN
      go_enter Tryd.func23, Tryd.ntmps23
      have HB := Lib.hid (Below.refl w.heap.size w)
      have Gn := Lib.hid (alloc_new (w) (.cells (wcells n) 24))
      replace HB := Lib.hid (below_al HB.out (.cells (wcells n) 24))
      replace Gn := Lib.hid (keepAl (o' := .cells (wcells d) 24) Gn.out)
      have Gd := Lib.hid (alloc_new' (w := (w).alloc (.cells (wcells n) 24)) (n := w.heap.size + 1) (.cells (wcells d) 24) (by simp))
      replace HB := Lib.hid (below_al HB.out (.cells (wcells d) 24))
      replace Gn := Lib.hid (keepAl (o' := .cells (wcells 0) 24) Gn.out)
      replace Gd := Lib.hid (keepAl (o' := .cells (wcells 0) 24) Gd.out)
      have Gx := Lib.hid (alloc_new' (w := ((w).alloc (.cells (wcells n) 24)).alloc (.cells (wcells d) 24)) (n := w.heap.size + 1 + 1) (.cells (wcells 0) 24) (by simp))
      replace HB := Lib.hid (below_al HB.out (.cells (wcells 0) 24))
      replace Gn := Lib.hid (keepAl (o' := .cells (wcells 0) 24) Gn.out)
      replace Gd := Lib.hid (keepAl (o' := .cells (wcells 0) 24) Gd.out)
      replace Gx := Lib.hid (keepAl (o' := .cells (wcells 0) 24) Gx.out)
      have Gy := Lib.hid (alloc_new' (w := (((w).alloc (.cells (wcells n) 24)).alloc (.cells (wcells d) 24)).alloc (.cells (wcells 0) 24)) (n := w.heap.size + 1 + 1 + 1) (.cells (wcells 0) 24) (by simp))
      replace HB := Lib.hid (below_al HB.out (.cells (wcells 0) 24))
      have cGn := cell_row Gn.out
      have cGd := cell_row Gd.out
      have cGx := cell_row Gx.out
      have cGy := cell_row Gy.out
      go_wp2_with fail
      refine (S1.out _).mono ?_
      rintro e w2 ⟨rfl, hb⟩
      clear cGn cGd cGx cGy
      replace HB := Lib.hid (below_then HB.out hb)
      replace Gn := Lib.hid ((hb.block _ (lt_of_heap Gn.out)).trans Gn.out)
      replace Gd := Lib.hid ((hb.block _ (lt_of_heap Gd.out)).trans Gd.out)
      replace Gx := Lib.hid ((hb.block _ (lt_of_heap Gx.out)).trans Gx.out)
      replace Gy := Lib.hid ((hb.block _ (lt_of_heap Gy.out)).trans Gy.out)
      clear hb
      have HZ := Lib.hid (lt_of_heap Gy.out)
      have cGn := cell_row Gn.out
      have cGd := cell_row Gd.out
      have cGx := cell_row Gx.out
      have cGy := cell_row Gy.out
      go_wp2_with fail
      refine (S3.out _).mono ?_
      rintro e w3 ⟨rfl, hb⟩
      clear cGn cGd cGx cGy
      replace HB := Lib.hid (below_then HB.out hb)
      replace Gn := Lib.hid ((hb.block _ (lt_of_heap Gn.out)).trans Gn.out)
      replace Gd := Lib.hid ((hb.block _ (lt_of_heap Gd.out)).trans Gd.out)
      replace Gx := Lib.hid ((hb.block _ (lt_of_heap Gx.out)).trans Gx.out)
      replace Gy := Lib.hid ((hb.block _ (lt_of_heap Gy.out)).trans Gy.out)
      clear hb
      have stn := st_row (P := Tryd.prog) Gn.out rfl (N)
      replace Gd := Lib.hid ((setRow_other (w3) (w.heap.size) _ (wcells (N)) (by (have := HZ.out; omega))).trans Gd.out)
      replace Gx := Lib.hid ((setRow_other (w3) (w.heap.size) _ (wcells (N)) (by (have := HZ.out; omega))).trans Gx.out)
      replace Gy := Lib.hid ((setRow_other (w3) (w.heap.size) _ (wcells (N)) (by (have := HZ.out; omega))).trans Gy.out)
      replace Gn := Lib.hid (setRow_heap (w3) (w.heap.size) _ (wcells (N)) _ _ Gn.out)
      replace HB := Lib.hid (below_setRow' HB.out (show _ ≤ w.heap.size by (have := HZ.out; omega)) (wcells (N)))
      have q1 := stn
      clear stn
      have std := st_row (P := Tryd.prog) Gd.out rfl (D)
      replace Gn := Lib.hid ((setRow_other ((w3).setRow (w.heap.size) (wcells (N))) (w.heap.size + 1) _ (wcells (D)) (by (have := HZ.out; omega))).trans Gn.out)
      replace Gx := Lib.hid ((setRow_other ((w3).setRow (w.heap.size) (wcells (N))) (w.heap.size + 1) _ (wcells (D)) (by (have := HZ.out; omega))).trans Gx.out)
      replace Gy := Lib.hid ((setRow_other ((w3).setRow (w.heap.size) (wcells (N))) (w.heap.size + 1) _ (wcells (D)) (by (have := HZ.out; omega))).trans Gy.out)
      replace Gd := Lib.hid (setRow_heap ((w3).setRow (w.heap.size) (wcells (N))) (w.heap.size + 1) _ (wcells (D)) _ _ Gd.out)
      replace HB := Lib.hid (below_setRow' HB.out (show _ ≤ w.heap.size + 1 by (have := HZ.out; omega)) (wcells (D)))
      have cGn := cell_row Gn.out
      have cGd := cell_row Gd.out
      have cGx := cell_row Gx.out
      have cGy := cell_row Gy.out
      go_upto_region 5 with fail
      clear cGn cGd cGx cGy std
      obtain ⟨wu, hw⟩ : ∃ wx, wx = ((w3).setRow (w.heap.size) (wcells (N))).setRow (w.heap.size + 1) (wcells (D)) := ⟨_, rfl⟩
      rw [← hw] at Gn Gd Gx Gy HB ⊢
      clear hw
      have HZ2 := Lib.hid (lt_of_heap Gy.out)
      have cGn := cell_row Gn.out
      have cGd := cell_row Gd.out
      have cGx := cell_row Gx.out
      have cGy := cell_row Gy.out
      go_wp2_with fail
      refine (SN.out _).mono ?_
      rintro e w4 ⟨rfl, hb⟩
      clear cGn cGd cGx cGy
      replace HB := Lib.hid (below_then HB.out hb)
      replace Gn := Lib.hid ((hb.block _ (lt_of_heap Gn.out)).trans Gn.out)
      replace Gd := Lib.hid ((hb.block _ (lt_of_heap Gd.out)).trans Gd.out)
      replace Gx := Lib.hid ((hb.block _ (lt_of_heap Gx.out)).trans Gx.out)
      replace Gy := Lib.hid ((hb.block _ (lt_of_heap Gy.out)).trans Gy.out)
      clear hb
      have HZ3 := Lib.hid (lt_of_heap Gy.out)
      replace Gn := Lib.hid (keepAl (o' := .cells (fc 0 N1) 86) Gn.out)
      replace Gd := Lib.hid (keepAl (o' := .cells (fc 0 N1) 86) Gd.out)
      replace Gx := Lib.hid (keepAl (o' := .cells (fc 0 N1) 86) Gx.out)
      replace Gy := Lib.hid (keepAl (o' := .cells (fc 0 N1) 86) Gy.out)
      have Gq := Lib.hid (alloc_new (w4) (.cells (fc 0 N1) 86))
      replace HB := Lib.hid (below_al HB.out (.cells (fc 0 N1) 86))
      replace Gn := Lib.hid (keepAl (o' := .cells (wcells 0) 24) Gn.out)
      replace Gd := Lib.hid (keepAl (o' := .cells (wcells 0) 24) Gd.out)
      replace Gx := Lib.hid (keepAl (o' := .cells (wcells 0) 24) Gx.out)
      replace Gy := Lib.hid (keepAl (o' := .cells (wcells 0) 24) Gy.out)
      replace Gq := Lib.hid (keepAl (o' := .cells (wcells 0) 24) Gq.out)
      have Gl := Lib.hid (alloc_new' (w := (w4).alloc (.cells (fc 0 N1) 86)) (n := w4.heap.size + 1) (.cells (wcells 0) 24) (by simp))
      replace HB := Lib.hid (below_al HB.out (.cells (wcells 0) 24))
      have cGn := cell_row Gn.out
      have cGd := cell_row Gd.out
      have cGx := cell_row Gx.out
      have cGy := cell_row Gy.out
      have cGq := cell_row Gq.out
      have cGl := cell_row Gl.out
      go_wp2_with fail
      clear cGn cGd cGx cGy cGq cGl
      obtain ⟨Qb, hQb⟩ : ∃ E, E = w4.heap.size := ⟨_, rfl⟩
      have HQb := Lib.hid (show w.heap.size + 1 + 1 + 1 < Qb by have := lt_of_heap Gy.out; have := HZ3.out; omega)
      obtain ⟨Lb, hLb⟩ : ∃ E, E = w4.heap.size + 1 := ⟨_, rfl⟩
      have HLb := Lib.hid (show Qb < Lb by omega)
      rw [← hLb] at Gl ⊢
      rw [← hQb] at Gq ⊢
      clear hQb hLb
      obtain ⟨wq, hw⟩ : ∃ wx, wx = ((w4).alloc (.cells (fc 0 N1) 86)).alloc (.cells (wcells 0) 24) := ⟨_, rfl⟩
      rw [← hw] at Gn Gd Gx Gy Gq Gl HB ⊢
      clear hw
      refine (S2.out Qb Lb _ (KL.out.older HB.out) (by have := HQb.out; have := HG.out; omega) HLb.out (lt_of_heap Gl.out) Gq.out Gl.out).mono ?_
      rintro e wE ⟨rfl, hq, hl, hbut⟩
      have hz3 := lt_of_heap Gl.out
      have hz4 := HQb.out
      have hz5 := HLb.out
      replace HB := Lib.hid (But.below HB.out hbut HB.out.size (fun i hi => by omega))
      replace Gx := Lib.hid (hbut.heap Gx.out (by omega))
      replace Gy := Lib.hid (hbut.heap Gy.out (by omega))
      replace Gd := Lib.hid (hbut.heap Gd.out (by omega))
      replace Gq := Lib.hid hq
      replace Gl := Lib.hid hl
      clear hbut hq hl hz3 hz4 hz5 Gn
      have HOb := Lib.hid (show Lb < wE.heap.size from lt_of_heap Gl.out)
      have cq := cell_row Gq.out
      replace Gx := Lib.hid (keepAl (o' := .cells (wcells Z) 24) Gx.out)
      replace Gy := Lib.hid (keepAl (o' := .cells (wcells Z) 24) Gy.out)
      replace Gd := Lib.hid (keepAl (o' := .cells (wcells Z) 24) Gd.out)
      replace Gq := Lib.hid (keepAl (o' := .cells (wcells Z) 24) Gq.out)
      replace Gl := Lib.hid (keepAl (o' := .cells (wcells Z) 24) Gl.out)
      have Go := Lib.hid (alloc_new (wE) (.cells (wcells Z) 24))
      replace HB := Lib.hid (below_al HB.out (.cells (wcells Z) 24))
      have cGx := cell_row Gx.out
      have cGy := cell_row Gy.out
      have cGd := cell_row Gd.out
      have cGq := cell_row Gq.out
      have cGl := cell_row Gl.out
      have cGo := cell_row Go.out
      go_wp2_with fail
      refine (S4.out _).mono ?_
      rintro e w5 ⟨rfl, hb⟩
      clear cGx cGy cGd cGq cGl cGo
      replace HB := Lib.hid (below_then HB.out hb)
      replace Gx := Lib.hid ((hb.block _ (lt_of_heap Gx.out)).trans Gx.out)
      replace Gy := Lib.hid ((hb.block _ (lt_of_heap Gy.out)).trans Gy.out)
      replace Gd := Lib.hid ((hb.block _ (lt_of_heap Gd.out)).trans Gd.out)
      replace Gq := Lib.hid ((hb.block _ (lt_of_heap Gq.out)).trans Gq.out)
      replace Gl := Lib.hid ((hb.block _ (lt_of_heap Gl.out)).trans Gl.out)
      replace Go := Lib.hid ((hb.block _ (lt_of_heap Go.out)).trans Go.out)
      clear hb
      clear cq
      have cGx := cell_row Gx.out
      have cGy := cell_row Gy.out
      have cGd := cell_row Gd.out
      have cGq := cell_row Gq.out
      have cGl := cell_row Gl.out
      have cGo := cell_row Go.out
      go_wp2_with fail
      refine (S6.out _).mono ?_
      rintro e w6 ⟨rfl, hb⟩
      clear cGx cGy cGd cGq cGl cGo
      replace HB := Lib.hid (below_then HB.out hb)
      replace Gx := Lib.hid ((hb.block _ (lt_of_heap Gx.out)).trans Gx.out)
      replace Gy := Lib.hid ((hb.block _ (lt_of_heap Gy.out)).trans Gy.out)
      replace Gd := Lib.hid ((hb.block _ (lt_of_heap Gd.out)).trans Gd.out)
      replace Gq := Lib.hid ((hb.block _ (lt_of_heap Gq.out)).trans Gq.out)
      replace Gl := Lib.hid ((hb.block _ (lt_of_heap Gl.out)).trans Gl.out)
      replace Go := Lib.hid ((hb.block _ (lt_of_heap Go.out)).trans Go.out)
      clear hb
      have stl := st_row (P := Tryd.prog) Gl.out rfl (R)
      replace Gx := Lib.hid ((setRow_other (w6) (Lb) _ (wcells (R)) (by (have := HQb.out; have := HLb.out; have := HOb.out; omega))).trans Gx.out)
      replace Gy := Lib.hid ((setRow_other (w6) (Lb) _ (wcells (R)) (by (have := HQb.out; have := HLb.out; have := HOb.out; omega))).trans Gy.out)
      replace Gd := Lib.hid ((setRow_other (w6) (Lb) _ (wcells (R)) (by (have := HQb.out; have := HLb.out; have := HOb.out; omega))).trans Gd.out)
      replace Gq := Lib.hid ((setRow_other (w6) (Lb) _ (wcells (R)) (by (have := HQb.out; have := HLb.out; have := HOb.out; omega))).trans Gq.out)
      replace Go := Lib.hid ((setRow_other (w6) (Lb) _ (wcells (R)) (by (have := HQb.out; have := HLb.out; have := HOb.out; omega))).trans Go.out)
      replace Gl := Lib.hid (setRow_heap (w6) (Lb) _ (wcells (R)) _ _ Gl.out)
      replace HB := Lib.hid (below_setRow' HB.out (show _ ≤ Lb by (have := HQb.out; have := HLb.out; have := HOb.out; omega)) (wcells (R)))
      have cGx := cell_row Gx.out
      have cGy := cell_row Gy.out
      have cGd := cell_row Gd.out
      have cGq := cell_row Gq.out
      have cGl := cell_row Gl.out
      have cGo := cell_row Go.out
      go_upto_region 13 with fail
      clear cGx cGy cGd cGq cGl cGo stl
      obtain ⟨w7, hw⟩ : ∃ wx, wx = (w6).setRow (Lb) (wcells (R)) := ⟨_, rfl⟩
      rw [← hw] at Gx Gy Gd Gq Gl Go HB ⊢
      clear hw
      refine wp_region_store [⟨w.heap.size + 1 + 1, 24, .tmp 51⟩, ⟨w.heap.size + 1 + 1 + 1, 24, .tmp 52⟩] (by kernel_rfl) (by kernel_rfl) (by kernel_rfl) rfl (List.Pairwise.cons (by intro r hr; simp only [List.mem_cons, List.not_mem_nil, or_false] at hr; subst hr <;> dsimp only <;> (have := HQb.out; have := HLb.out; have := HOb.out; omega)) (List.pairwise_singleton _ _)) ?_ ?_
      · intro r hr
        simp only [List.mem_cons, List.not_mem_nil, or_false] at hr
        rcases hr with rfl | rfl
        · exact ⟨_, Gx.out, by kernel_rfl⟩
        · exact ⟨_, Gy.out, by kernel_rfl⟩
      have xGd := extR_row (B := w7.heap.size) (R := [⟨w.heap.size + 1 + 1, 24, .tmp 51⟩, ⟨w.heap.size + 1 + 1 + 1, 24, .tmp 52⟩]) Gd.out (lt_of_heap Gd.out) (by intro r hr; simp only [List.mem_cons, List.not_mem_nil, or_false] at hr; rcases hr with rfl | rfl <;> dsimp only <;> (have := HQb.out; have := HLb.out; have := HOb.out; omega))
      have xGq := extR_row (B := w7.heap.size) (R := [⟨w.heap.size + 1 + 1, 24, .tmp 51⟩, ⟨w.heap.size + 1 + 1 + 1, 24, .tmp 52⟩]) Gq.out (lt_of_heap Gq.out) (by intro r hr; simp only [List.mem_cons, List.not_mem_nil, or_false] at hr; rcases hr with rfl | rfl <;> dsimp only <;> (have := HQb.out; have := HLb.out; have := HOb.out; omega))
      have xGl := extR_row (B := w7.heap.size) (R := [⟨w.heap.size + 1 + 1, 24, .tmp 51⟩, ⟨w.heap.size + 1 + 1 + 1, 24, .tmp 52⟩]) Gl.out (lt_of_heap Gl.out) (by intro r hr; simp only [List.mem_cons, List.not_mem_nil, or_false] at hr; rcases hr with rfl | rfl <;> dsimp only <;> (have := HQb.out; have := HLb.out; have := HOb.out; omega))
      have xGo := extR_row (B := w7.heap.size) (R := [⟨w.heap.size + 1 + 1, 24, .tmp 51⟩, ⟨w.heap.size + 1 + 1 + 1, 24, .tmp 52⟩]) Go.out (lt_of_heap Go.out) (by intro r hr; simp only [List.mem_cons, List.not_mem_nil, or_false] at hr; rcases hr with rfl | rfl <;> dsimp only <;> (have := HQb.out; have := HLb.out; have := HOb.out; omega))
      repeat (refine wpCalm_step (fun K hK => ?_); go_simp; first | (refine hK _ ?_; clear hK K) | (apply Exists.intro; refine ⟨fun _ => ?_, hK _ ?_⟩; (first | fail); clear hK K))
      refine wpCalm_nil ⟨?_, fun x hx => ?_⟩
      · intro r hr
        simp only [List.mem_cons, List.not_mem_nil, or_false] at hr
        rcases hr with rfl | rfl <;> exact fits_wv (by kernel_rfl) _
      replace Gx : Hid (x.val.heap[w.heap.size + 1 + 1]? = some (.cells (wcells (Z)) 24 (0, 0))) := Lib.hid (hx ⟨w.heap.size + 1 + 1, 24, .tmp 51⟩ (by simp))
      replace Gy : Hid (x.val.heap[w.heap.size + 1 + 1 + 1]? = some (.cells (wcells (R)) 24 (0, 0))) := Lib.hid (hx ⟨w.heap.size + 1 + 1 + 1, 24, .tmp 52⟩ (by simp))
      replace Gd := Lib.hid (extR_block x Gd.out (lt_of_heap Gd.out) (by intro r hr; simp only [List.mem_cons, List.not_mem_nil, or_false] at hr; rcases hr with rfl | rfl <;> dsimp only <;> (have := HQb.out; have := HLb.out; have := HOb.out; omega)))
      replace Gq := Lib.hid (extR_block x Gq.out (lt_of_heap Gq.out) (by intro r hr; simp only [List.mem_cons, List.not_mem_nil, or_false] at hr; rcases hr with rfl | rfl <;> dsimp only <;> (have := HQb.out; have := HLb.out; have := HOb.out; omega)))
      replace Gl := Lib.hid (extR_block x Gl.out (lt_of_heap Gl.out) (by intro r hr; simp only [List.mem_cons, List.not_mem_nil, or_false] at hr; rcases hr with rfl | rfl <;> dsimp only <;> (have := HQb.out; have := HLb.out; have := HOb.out; omega)))
      replace Go := Lib.hid (extR_block x Go.out (lt_of_heap Go.out) (by intro r hr; simp only [List.mem_cons, List.not_mem_nil, or_false] at hr; rcases hr with rfl | rfl <;> dsimp only <;> (have := HQb.out; have := HLb.out; have := HOb.out; omega)))
      replace HB := Lib.hid (extR_below x HB.out HB.out.size (by intro r hr; simp only [List.mem_cons, List.not_mem_nil, or_false] at hr; rcases hr with rfl | rfl <;> dsimp only <;> (have := HQb.out; have := HLb.out; have := HOb.out; omega)))
      clear hx xGd xGq xGl xGo
      obtain ⟨w8, hw⟩ : ∃ wx, wx = x.val := ⟨_, rfl⟩
      rw [← hw] at Gx Gy Gd Gq Gl Go HB ⊢
      clear hw x
      have cGx := cell_row Gx.out
      have cGy := cell_row Gy.out
      have cGd := cell_row Gd.out
      have cGq := cell_row Gq.out
      have cGl := cell_row Gl.out
      have cGo := cell_row Go.out
      go_wp2
      exact bodyPost_ret (v := .tuple #[wv Z, wv R, .int .i64 0]) (res_cct Tryd.results23 _ _ _ _ _ _ _ _ _ _ _ rfl rfl rfl Gx.out Gy.out aggW aggW) rfl ⟨rfl, HB.out⟩
    · obtain ⟨rfl, rfl⟩ := HN rfl
      clear HP HN
      go_enter Tryd.func23, Tryd.ntmps23
      have HB := Lib.hid (Below.refl w.heap.size w)
      have Gn := Lib.hid (alloc_new (w) (.cells (wcells n) 24))
      replace HB := Lib.hid (below_al HB.out (.cells (wcells n) 24))
      replace Gn := Lib.hid (keepAl (o' := .cells (wcells d) 24) Gn.out)
      have Gd := Lib.hid (alloc_new' (w := (w).alloc (.cells (wcells n) 24)) (n := w.heap.size + 1) (.cells (wcells d) 24) (by simp))
      replace HB := Lib.hid (below_al HB.out (.cells (wcells d) 24))
      replace Gn := Lib.hid (keepAl (o' := .cells (wcells 0) 24) Gn.out)
      replace Gd := Lib.hid (keepAl (o' := .cells (wcells 0) 24) Gd.out)
      have Gx := Lib.hid (alloc_new' (w := ((w).alloc (.cells (wcells n) 24)).alloc (.cells (wcells d) 24)) (n := w.heap.size + 1 + 1) (.cells (wcells 0) 24) (by simp))
      replace HB := Lib.hid (below_al HB.out (.cells (wcells 0) 24))
      replace Gn := Lib.hid (keepAl (o' := .cells (wcells 0) 24) Gn.out)
      replace Gd := Lib.hid (keepAl (o' := .cells (wcells 0) 24) Gd.out)
      replace Gx := Lib.hid (keepAl (o' := .cells (wcells 0) 24) Gx.out)
      have Gy := Lib.hid (alloc_new' (w := (((w).alloc (.cells (wcells n) 24)).alloc (.cells (wcells d) 24)).alloc (.cells (wcells 0) 24)) (n := w.heap.size + 1 + 1 + 1) (.cells (wcells 0) 24) (by simp))
      replace HB := Lib.hid (below_al HB.out (.cells (wcells 0) 24))
      have cGn := cell_row Gn.out
      have cGd := cell_row Gd.out
      have cGx := cell_row Gx.out
      have cGy := cell_row Gy.out
      go_wp2_with fail
      refine (S1.out _).mono ?_
      rintro e w9 ⟨rfl, hb⟩
      clear cGn cGd cGx cGy
      replace HB := Lib.hid (below_then HB.out hb)
      replace Gn := Lib.hid ((hb.block _ (lt_of_heap Gn.out)).trans Gn.out)
      replace Gd := Lib.hid ((hb.block _ (lt_of_heap Gd.out)).trans Gd.out)
      replace Gx := Lib.hid ((hb.block _ (lt_of_heap Gx.out)).trans Gx.out)
      replace Gy := Lib.hid ((hb.block _ (lt_of_heap Gy.out)).trans Gy.out)
      clear hb
      have HZ := Lib.hid (lt_of_heap Gy.out)
      have cGn := cell_row Gn.out
      have cGd := cell_row Gd.out
      have cGx := cell_row Gx.out
      have cGy := cell_row Gy.out
      go_wp2_with fail
      refine (S3.out _).mono ?_
      rintro e w10 ⟨rfl, hb⟩
      clear cGn cGd cGx cGy
      replace HB := Lib.hid (below_then HB.out hb)
      replace Gn := Lib.hid ((hb.block _ (lt_of_heap Gn.out)).trans Gn.out)
      replace Gd := Lib.hid ((hb.block _ (lt_of_heap Gd.out)).trans Gd.out)
      replace Gx := Lib.hid ((hb.block _ (lt_of_heap Gx.out)).trans Gx.out)
      replace Gy := Lib.hid ((hb.block _ (lt_of_heap Gy.out)).trans Gy.out)
      clear hb
      have stn := st_row (P := Tryd.prog) Gn.out rfl (N)
      replace Gd := Lib.hid ((setRow_other (w10) (w.heap.size) _ (wcells (N)) (by (have := HZ.out; omega))).trans Gd.out)
      replace Gx := Lib.hid ((setRow_other (w10) (w.heap.size) _ (wcells (N)) (by (have := HZ.out; omega))).trans Gx.out)
      replace Gy := Lib.hid ((setRow_other (w10) (w.heap.size) _ (wcells (N)) (by (have := HZ.out; omega))).trans Gy.out)
      replace Gn := Lib.hid (setRow_heap (w10) (w.heap.size) _ (wcells (N)) _ _ Gn.out)
      replace HB := Lib.hid (below_setRow' HB.out (show _ ≤ w.heap.size by (have := HZ.out; omega)) (wcells (N)))
      have q1 := stn
      clear stn
      have std := st_row (P := Tryd.prog) Gd.out rfl (D)
      replace Gn := Lib.hid ((setRow_other ((w10).setRow (w.heap.size) (wcells (N))) (w.heap.size + 1) _ (wcells (D)) (by (have := HZ.out; omega))).trans Gn.out)
      replace Gx := Lib.hid ((setRow_other ((w10).setRow (w.heap.size) (wcells (N))) (w.heap.size + 1) _ (wcells (D)) (by (have := HZ.out; omega))).trans Gx.out)
      replace Gy := Lib.hid ((setRow_other ((w10).setRow (w.heap.size) (wcells (N))) (w.heap.size + 1) _ (wcells (D)) (by (have := HZ.out; omega))).trans Gy.out)
      replace Gd := Lib.hid (setRow_heap ((w10).setRow (w.heap.size) (wcells (N))) (w.heap.size + 1) _ (wcells (D)) _ _ Gd.out)
      replace HB := Lib.hid (below_setRow' HB.out (show _ ≤ w.heap.size + 1 by (have := HZ.out; omega)) (wcells (D)))
      have cGn := cell_row Gn.out
      have cGd := cell_row Gd.out
      have cGx := cell_row Gx.out
      have cGy := cell_row Gy.out
      go_upto_region 5 with fail
      clear cGn cGd cGx cGy std
      obtain ⟨wu, hw⟩ : ∃ wx, wx = ((w10).setRow (w.heap.size) (wcells (N))).setRow (w.heap.size + 1) (wcells (D)) := ⟨_, rfl⟩
      rw [← hw] at Gn Gd Gx Gy HB ⊢
      clear hw
      have HZ2 := Lib.hid (lt_of_heap Gy.out)
      have cGn := cell_row Gn.out
      have cGd := cell_row Gd.out
      have cGx := cell_row Gx.out
      have cGy := cell_row Gy.out
      go_wp2_with fail
      refine (SN.out _).mono ?_
      rintro e w11 ⟨rfl, hb⟩
      clear cGn cGd cGx cGy
      replace HB := Lib.hid (below_then HB.out hb)
      replace Gn := Lib.hid ((hb.block _ (lt_of_heap Gn.out)).trans Gn.out)
      replace Gd := Lib.hid ((hb.block _ (lt_of_heap Gd.out)).trans Gd.out)
      replace Gx := Lib.hid ((hb.block _ (lt_of_heap Gx.out)).trans Gx.out)
      replace Gy := Lib.hid ((hb.block _ (lt_of_heap Gy.out)).trans Gy.out)
      clear hb
      have HZ3 := Lib.hid (lt_of_heap Gy.out)
      replace Gn := Lib.hid (keepAl (o' := .cells (fc 0 N1) 86) Gn.out)
      replace Gd := Lib.hid (keepAl (o' := .cells (fc 0 N1) 86) Gd.out)
      replace Gx := Lib.hid (keepAl (o' := .cells (fc 0 N1) 86) Gx.out)
      replace Gy := Lib.hid (keepAl (o' := .cells (fc 0 N1) 86) Gy.out)
      have Gq := Lib.hid (alloc_new (w11) (.cells (fc 0 N1) 86))
      replace HB := Lib.hid (below_al HB.out (.cells (fc 0 N1) 86))
      replace Gn := Lib.hid (keepAl (o' := .cells (wcells 0) 24) Gn.out)
      replace Gd := Lib.hid (keepAl (o' := .cells (wcells 0) 24) Gd.out)
      replace Gx := Lib.hid (keepAl (o' := .cells (wcells 0) 24) Gx.out)
      replace Gy := Lib.hid (keepAl (o' := .cells (wcells 0) 24) Gy.out)
      replace Gq := Lib.hid (keepAl (o' := .cells (wcells 0) 24) Gq.out)
      have Gl := Lib.hid (alloc_new' (w := (w11).alloc (.cells (fc 0 N1) 86)) (n := w11.heap.size + 1) (.cells (wcells 0) 24) (by simp))
      replace HB := Lib.hid (below_al HB.out (.cells (wcells 0) 24))
      have cGn := cell_row Gn.out
      have cGd := cell_row Gd.out
      have cGx := cell_row Gx.out
      have cGy := cell_row Gy.out
      have cGq := cell_row Gq.out
      have cGl := cell_row Gl.out
      go_wp2_with fail
      clear cGn cGd cGx cGy cGq cGl
      obtain ⟨Qb, hQb⟩ : ∃ E, E = w11.heap.size := ⟨_, rfl⟩
      have HQb := Lib.hid (show w.heap.size + 1 + 1 + 1 < Qb by have := lt_of_heap Gy.out; have := HZ3.out; omega)
      obtain ⟨Lb, hLb⟩ : ∃ E, E = w11.heap.size + 1 := ⟨_, rfl⟩
      have HLb := Lib.hid (show Qb < Lb by omega)
      rw [← hLb] at Gl ⊢
      rw [← hQb] at Gq ⊢
      clear hQb hLb
      obtain ⟨wq, hw⟩ : ∃ wx, wx = ((w11).alloc (.cells (fc 0 N1) 86)).alloc (.cells (wcells 0) 24) := ⟨_, rfl⟩
      rw [← hw] at Gn Gd Gx Gy Gq Gl HB ⊢
      clear hw
      refine (S2.out Qb Lb _ (KL.out.older HB.out) (by have := HQb.out; have := HG.out; omega) HLb.out (lt_of_heap Gl.out) Gq.out Gl.out).mono ?_
      rintro e wE ⟨rfl, hq, hl, hbut⟩
      have hz3 := lt_of_heap Gl.out
      have hz4 := HQb.out
      have hz5 := HLb.out
      replace HB := Lib.hid (But.below HB.out hbut HB.out.size (fun i hi => by omega))
      replace Gx := Lib.hid (hbut.heap Gx.out (by omega))
      replace Gy := Lib.hid (hbut.heap Gy.out (by omega))
      replace Gd := Lib.hid (hbut.heap Gd.out (by omega))
      replace Gq := Lib.hid hq
      replace Gl := Lib.hid hl
      clear hbut hq hl hz3 hz4 hz5 Gn
      have HOb := Lib.hid (show Lb < wE.heap.size from lt_of_heap Gl.out)
      have cq := cell_row Gq.out
      replace Gx := Lib.hid (keepAl (o' := .cells (wcells Z) 24) Gx.out)
      replace Gy := Lib.hid (keepAl (o' := .cells (wcells Z) 24) Gy.out)
      replace Gd := Lib.hid (keepAl (o' := .cells (wcells Z) 24) Gd.out)
      replace Gq := Lib.hid (keepAl (o' := .cells (wcells Z) 24) Gq.out)
      replace Gl := Lib.hid (keepAl (o' := .cells (wcells Z) 24) Gl.out)
      have Go := Lib.hid (alloc_new (wE) (.cells (wcells Z) 24))
      replace HB := Lib.hid (below_al HB.out (.cells (wcells Z) 24))
      have cGx := cell_row Gx.out
      have cGy := cell_row Gy.out
      have cGd := cell_row Gd.out
      have cGq := cell_row Gq.out
      have cGl := cell_row Gl.out
      have cGo := cell_row Go.out
      go_wp2_with fail
      refine (S4.out _).mono ?_
      rintro e w12 ⟨rfl, hb⟩
      clear cGx cGy cGd cGq cGl cGo
      replace HB := Lib.hid (below_then HB.out hb)
      replace Gx := Lib.hid ((hb.block _ (lt_of_heap Gx.out)).trans Gx.out)
      replace Gy := Lib.hid ((hb.block _ (lt_of_heap Gy.out)).trans Gy.out)
      replace Gd := Lib.hid ((hb.block _ (lt_of_heap Gd.out)).trans Gd.out)
      replace Gq := Lib.hid ((hb.block _ (lt_of_heap Gq.out)).trans Gq.out)
      replace Gl := Lib.hid ((hb.block _ (lt_of_heap Gl.out)).trans Gl.out)
      replace Go := Lib.hid ((hb.block _ (lt_of_heap Go.out)).trans Go.out)
      clear hb
      clear cq
      have HZo := Lib.hid (show wE.heap.size < w12.heap.size from lt_of_heap Go.out)
      have cq := cell_row Gq.out
      have sto := st_row (P := Tryd.prog) Go.out rfl (Z1)
      replace Gx := Lib.hid ((setRow_other (w12) (wE.heap.size) _ (wcells (Z1)) (by (have := HQb.out; have := HLb.out; have := HOb.out; omega))).trans Gx.out)
      replace Gy := Lib.hid ((setRow_other (w12) (wE.heap.size) _ (wcells (Z1)) (by (have := HQb.out; have := HLb.out; have := HOb.out; omega))).trans Gy.out)
      replace Gd := Lib.hid ((setRow_other (w12) (wE.heap.size) _ (wcells (Z1)) (by (have := HQb.out; have := HLb.out; have := HOb.out; omega))).trans Gd.out)
      replace Gq := Lib.hid ((setRow_other (w12) (wE.heap.size) _ (wcells (Z1)) (by (have := HQb.out; have := HLb.out; have := HOb.out; omega))).trans Gq.out)
      replace Gl := Lib.hid ((setRow_other (w12) (wE.heap.size) _ (wcells (Z1)) (by (have := HQb.out; have := HLb.out; have := HOb.out; omega))).trans Gl.out)
      replace Go := Lib.hid (setRow_heap (w12) (wE.heap.size) _ (wcells (Z1)) _ _ Go.out)
      replace HB := Lib.hid (below_setRow' HB.out (show _ ≤ wE.heap.size by (have := HQb.out; have := HLb.out; have := HOb.out; omega)) (wcells (Z1)))
      have cGx := cell_row Gx.out
      have cGy := cell_row Gy.out
      have cGd := cell_row Gd.out
      have cGq := cell_row Gq.out
      have cGl := cell_row Gl.out
      have cGo := cell_row Go.out
      go_wp2_with fail
      refine (S5.out _).mono ?_
      rintro e w13 ⟨rfl, hb⟩
      clear cGx cGy cGd cGq cGl cGo sto
      replace HB := Lib.hid (below_then HB.out hb)
      replace Gx := Lib.hid ((hb.block _ (lt_of_heap Gx.out)).trans Gx.out)
      replace Gy := Lib.hid ((hb.block _ (lt_of_heap Gy.out)).trans Gy.out)
      replace Gd := Lib.hid ((hb.block _ (lt_of_heap Gd.out)).trans Gd.out)
      replace Gq := Lib.hid ((hb.block _ (lt_of_heap Gq.out)).trans Gq.out)
      replace Gl := Lib.hid ((hb.block _ (lt_of_heap Gl.out)).trans Gl.out)
      replace Go := Lib.hid ((hb.block _ (lt_of_heap Go.out)).trans Go.out)
      clear hb
      clear cq
      have stl := st_row (P := Tryd.prog) Gl.out rfl (L1)
      replace Gx := Lib.hid ((setRow_other (w13) (Lb) _ (wcells (L1)) (by (have := HQb.out; have := HLb.out; have := HOb.out; omega))).trans Gx.out)
      replace Gy := Lib.hid ((setRow_other (w13) (Lb) _ (wcells (L1)) (by (have := HQb.out; have := HLb.out; have := HOb.out; omega))).trans Gy.out)
      replace Gd := Lib.hid ((setRow_other (w13) (Lb) _ (wcells (L1)) (by (have := HQb.out; have := HLb.out; have := HOb.out; omega))).trans Gd.out)
      replace Gq := Lib.hid ((setRow_other (w13) (Lb) _ (wcells (L1)) (by (have := HQb.out; have := HLb.out; have := HOb.out; omega))).trans Gq.out)
      replace Go := Lib.hid ((setRow_other (w13) (Lb) _ (wcells (L1)) (by (have := HQb.out; have := HLb.out; have := HOb.out; omega))).trans Go.out)
      replace Gl := Lib.hid (setRow_heap (w13) (Lb) _ (wcells (L1)) _ _ Gl.out)
      replace HB := Lib.hid (below_setRow' HB.out (show _ ≤ Lb by (have := HQb.out; have := HLb.out; have := HOb.out; omega)) (wcells (L1)))
      have cGx := cell_row Gx.out
      have cGy := cell_row Gy.out
      have cGd := cell_row Gd.out
      have cGq := cell_row Gq.out
      have cGl := cell_row Gl.out
      have cGo := cell_row Go.out
      go_wp2_with fail
      refine (S6.out _).mono ?_
      rintro e w14 ⟨rfl, hb⟩
      clear cGx cGy cGd cGq cGl cGo stl
      replace HB := Lib.hid (below_then HB.out hb)
      replace Gx := Lib.hid ((hb.block _ (lt_of_heap Gx.out)).trans Gx.out)
      replace Gy := Lib.hid ((hb.block _ (lt_of_heap Gy.out)).trans Gy.out)
      replace Gd := Lib.hid ((hb.block _ (lt_of_heap Gd.out)).trans Gd.out)
      replace Gq := Lib.hid ((hb.block _ (lt_of_heap Gq.out)).trans Gq.out)
      replace Gl := Lib.hid ((hb.block _ (lt_of_heap Gl.out)).trans Gl.out)
      replace Go := Lib.hid ((hb.block _ (lt_of_heap Go.out)).trans Go.out)
      clear hb
      have stl := st_row (P := Tryd.prog) Gl.out rfl (R)
      replace Gx := Lib.hid ((setRow_other (w14) (Lb) _ (wcells (R)) (by (have := HQb.out; have := HLb.out; have := HOb.out; omega))).trans Gx.out)
      replace Gy := Lib.hid ((setRow_other (w14) (Lb) _ (wcells (R)) (by (have := HQb.out; have := HLb.out; have := HOb.out; omega))).trans Gy.out)
      replace Gd := Lib.hid ((setRow_other (w14) (Lb) _ (wcells (R)) (by (have := HQb.out; have := HLb.out; have := HOb.out; omega))).trans Gd.out)
      replace Gq := Lib.hid ((setRow_other (w14) (Lb) _ (wcells (R)) (by (have := HQb.out; have := HLb.out; have := HOb.out; omega))).trans Gq.out)
      replace Go := Lib.hid ((setRow_other (w14) (Lb) _ (wcells (R)) (by (have := HQb.out; have := HLb.out; have := HOb.out; omega))).trans Go.out)
      replace Gl := Lib.hid (setRow_heap (w14) (Lb) _ (wcells (R)) _ _ Gl.out)
      replace HB := Lib.hid (below_setRow' HB.out (show _ ≤ Lb by (have := HQb.out; have := HLb.out; have := HOb.out; omega)) (wcells (R)))
      have cGx := cell_row Gx.out
      have cGy := cell_row Gy.out
      have cGd := cell_row Gd.out
      have cGq := cell_row Gq.out
      have cGl := cell_row Gl.out
      have cGo := cell_row Go.out
      go_upto_region 13 with fail
      clear cGx cGy cGd cGq cGl cGo stl
      obtain ⟨w15, hw⟩ : ∃ wx, wx = (w14).setRow (Lb) (wcells (R)) := ⟨_, rfl⟩
      rw [← hw] at Gx Gy Gd Gq Gl Go HB ⊢
      clear hw
      refine wp_region_store [⟨w.heap.size + 1 + 1, 24, .tmp 51⟩, ⟨w.heap.size + 1 + 1 + 1, 24, .tmp 52⟩] (by kernel_rfl) (by kernel_rfl) (by kernel_rfl) rfl (List.Pairwise.cons (by intro r hr; simp only [List.mem_cons, List.not_mem_nil, or_false] at hr; subst hr <;> dsimp only <;> (have := HQb.out; have := HLb.out; have := HOb.out; omega)) (List.pairwise_singleton _ _)) ?_ ?_
      · intro r hr
        simp only [List.mem_cons, List.not_mem_nil, or_false] at hr
        rcases hr with rfl | rfl
        · exact ⟨_, Gx.out, by kernel_rfl⟩
        · exact ⟨_, Gy.out, by kernel_rfl⟩
      have xGd := extR_row (B := w15.heap.size) (R := [⟨w.heap.size + 1 + 1, 24, .tmp 51⟩, ⟨w.heap.size + 1 + 1 + 1, 24, .tmp 52⟩]) Gd.out (lt_of_heap Gd.out) (by intro r hr; simp only [List.mem_cons, List.not_mem_nil, or_false] at hr; rcases hr with rfl | rfl <;> dsimp only <;> (have := HQb.out; have := HLb.out; have := HOb.out; omega))
      have xGq := extR_row (B := w15.heap.size) (R := [⟨w.heap.size + 1 + 1, 24, .tmp 51⟩, ⟨w.heap.size + 1 + 1 + 1, 24, .tmp 52⟩]) Gq.out (lt_of_heap Gq.out) (by intro r hr; simp only [List.mem_cons, List.not_mem_nil, or_false] at hr; rcases hr with rfl | rfl <;> dsimp only <;> (have := HQb.out; have := HLb.out; have := HOb.out; omega))
      have xGl := extR_row (B := w15.heap.size) (R := [⟨w.heap.size + 1 + 1, 24, .tmp 51⟩, ⟨w.heap.size + 1 + 1 + 1, 24, .tmp 52⟩]) Gl.out (lt_of_heap Gl.out) (by intro r hr; simp only [List.mem_cons, List.not_mem_nil, or_false] at hr; rcases hr with rfl | rfl <;> dsimp only <;> (have := HQb.out; have := HLb.out; have := HOb.out; omega))
      have xGo := extR_row (B := w15.heap.size) (R := [⟨w.heap.size + 1 + 1, 24, .tmp 51⟩, ⟨w.heap.size + 1 + 1 + 1, 24, .tmp 52⟩]) Go.out (lt_of_heap Go.out) (by intro r hr; simp only [List.mem_cons, List.not_mem_nil, or_false] at hr; rcases hr with rfl | rfl <;> dsimp only <;> (have := HQb.out; have := HLb.out; have := HOb.out; omega))
      repeat (refine wpCalm_step (fun K hK => ?_); go_simp; first | (refine hK _ ?_; clear hK K) | (apply Exists.intro; refine ⟨fun _ => ?_, hK _ ?_⟩; (first | fail); clear hK K))
      refine wpCalm_nil ⟨?_, fun x hx => ?_⟩
      · intro r hr
        simp only [List.mem_cons, List.not_mem_nil, or_false] at hr
        rcases hr with rfl | rfl <;> exact fits_wv (by kernel_rfl) _
      replace Gx : Hid (x.val.heap[w.heap.size + 1 + 1]? = some (.cells (wcells (Z1)) 24 (0, 0))) := Lib.hid (hx ⟨w.heap.size + 1 + 1, 24, .tmp 51⟩ (by simp))
      replace Gy : Hid (x.val.heap[w.heap.size + 1 + 1 + 1]? = some (.cells (wcells (R)) 24 (0, 0))) := Lib.hid (hx ⟨w.heap.size + 1 + 1 + 1, 24, .tmp 52⟩ (by simp))
      replace Gd := Lib.hid (extR_block x Gd.out (lt_of_heap Gd.out) (by intro r hr; simp only [List.mem_cons, List.not_mem_nil, or_false] at hr; rcases hr with rfl | rfl <;> dsimp only <;> (have := HQb.out; have := HLb.out; have := HOb.out; omega)))
      replace Gq := Lib.hid (extR_block x Gq.out (lt_of_heap Gq.out) (by intro r hr; simp only [List.mem_cons, List.not_mem_nil, or_false] at hr; rcases hr with rfl | rfl <;> dsimp only <;> (have := HQb.out; have := HLb.out; have := HOb.out; omega)))
      replace Gl := Lib.hid (extR_block x Gl.out (lt_of_heap Gl.out) (by intro r hr; simp only [List.mem_cons, List.not_mem_nil, or_false] at hr; rcases hr with rfl | rfl <;> dsimp only <;> (have := HQb.out; have := HLb.out; have := HOb.out; omega)))
      replace Go := Lib.hid (extR_block x Go.out (lt_of_heap Go.out) (by intro r hr; simp only [List.mem_cons, List.not_mem_nil, or_false] at hr; rcases hr with rfl | rfl <;> dsimp only <;> (have := HQb.out; have := HLb.out; have := HOb.out; omega)))
      replace HB := Lib.hid (extR_below x HB.out HB.out.size (by intro r hr; simp only [List.mem_cons, List.not_mem_nil, or_false] at hr; rcases hr with rfl | rfl <;> dsimp only <;> (have := HQb.out; have := HLb.out; have := HOb.out; omega)))
      clear hx xGd xGq xGl xGo
      obtain ⟨w16, hw⟩ : ∃ wx, wx = x.val := ⟨_, rfl⟩
      rw [← hw] at Gx Gy Gd Gq Gl Go HB ⊢
      clear hw x
      have cGx := cell_row Gx.out
      have cGy := cell_row Gy.out
      have cGd := cell_row Gd.out
      have cGq := cell_row Gq.out
      have cGl := cell_row Gl.out
      have cGo := cell_row Go.out
      go_wp2
      exact bodyPost_ret (v := .tuple #[wv Z1, wv R, .int .i64 0]) (res_cct Tryd.results23 _ _ _ _ _ _ _ _ _ _ _ rfl rfl rfl Gx.out Gy.out aggW aggW) rfl ⟨rfl, HB.out⟩
  · obtain ⟨e1, e2⟩ := dv_no hm
    rw [e1, e2]
    obtain ⟨E, hE⟩ : ∃ E, E = mayN n d := ⟨_, rfl⟩
    rw [← hE] at S1 hm ⊢
    have hb : (E == 0) = false := by simp [hm]
    clear hn hd e1 e2 hE hL
    go_enter Tryd.func23, Tryd.ntmps23
    have HB := Lib.hid (Below.refl w.heap.size w)
    have Gn := Lib.hid (alloc_new (w) (.cells (wcells n) 24))
    replace HB := Lib.hid (below_al HB.out (.cells (wcells n) 24))
    replace Gn := Lib.hid (keepAl (o' := .cells (wcells d) 24) Gn.out)
    have Gd := Lib.hid (alloc_new' (w := (w).alloc (.cells (wcells n) 24)) (n := w.heap.size + 1) (.cells (wcells d) 24) (by simp))
    replace HB := Lib.hid (below_al HB.out (.cells (wcells d) 24))
    replace Gn := Lib.hid (keepAl (o' := .cells (wcells 0) 24) Gn.out)
    replace Gd := Lib.hid (keepAl (o' := .cells (wcells 0) 24) Gd.out)
    have Gx := Lib.hid (alloc_new' (w := ((w).alloc (.cells (wcells n) 24)).alloc (.cells (wcells d) 24)) (n := w.heap.size + 1 + 1) (.cells (wcells 0) 24) (by simp))
    replace HB := Lib.hid (below_al HB.out (.cells (wcells 0) 24))
    replace Gn := Lib.hid (keepAl (o' := .cells (wcells 0) 24) Gn.out)
    replace Gd := Lib.hid (keepAl (o' := .cells (wcells 0) 24) Gd.out)
    replace Gx := Lib.hid (keepAl (o' := .cells (wcells 0) 24) Gx.out)
    have Gy := Lib.hid (alloc_new' (w := (((w).alloc (.cells (wcells n) 24)).alloc (.cells (wcells d) 24)).alloc (.cells (wcells 0) 24)) (n := w.heap.size + 1 + 1 + 1) (.cells (wcells 0) 24) (by simp))
    replace HB := Lib.hid (below_al HB.out (.cells (wcells 0) 24))
    have cGn := cell_row Gn.out
    have cGd := cell_row Gd.out
    have cGx := cell_row Gx.out
    have cGy := cell_row Gy.out
    go_wp2_with fail
    refine (S1.out _).mono ?_
    rintro e w17 ⟨rfl, hb⟩
    clear cGn cGd cGx cGy
    replace HB := Lib.hid (below_then HB.out hb)
    replace Gn := Lib.hid ((hb.block _ (lt_of_heap Gn.out)).trans Gn.out)
    replace Gd := Lib.hid ((hb.block _ (lt_of_heap Gd.out)).trans Gd.out)
    replace Gx := Lib.hid ((hb.block _ (lt_of_heap Gx.out)).trans Gx.out)
    replace Gy := Lib.hid ((hb.block _ (lt_of_heap Gy.out)).trans Gy.out)
    clear hb
    have HZ := Lib.hid (lt_of_heap Gy.out)
    have stx := st_row (P := Tryd.prog) Gx.out rfl (0)
    replace Gn := Lib.hid ((setRow_other (w17) (w.heap.size + 1 + 1) _ (wcells (0)) (by (have := HZ.out; omega))).trans Gn.out)
    replace Gd := Lib.hid ((setRow_other (w17) (w.heap.size + 1 + 1) _ (wcells (0)) (by (have := HZ.out; omega))).trans Gd.out)
    replace Gy := Lib.hid ((setRow_other (w17) (w.heap.size + 1 + 1) _ (wcells (0)) (by (have := HZ.out; omega))).trans Gy.out)
    replace Gx := Lib.hid (setRow_heap (w17) (w.heap.size + 1 + 1) _ (wcells (0)) _ _ Gx.out)
    replace HB := Lib.hid (below_setRow' HB.out (show _ ≤ w.heap.size + 1 + 1 by (have := HZ.out; omega)) (wcells (0)))
    have q1 := stx
    clear stx
    have sty := st_row (P := Tryd.prog) Gy.out rfl (0)
    replace Gn := Lib.hid ((setRow_other ((w17).setRow (w.heap.size + 1 + 1) (wcells (0))) (w.heap.size + 1 + 1 + 1) _ (wcells (0)) (by (have := HZ.out; omega))).trans Gn.out)
    replace Gd := Lib.hid ((setRow_other ((w17).setRow (w.heap.size + 1 + 1) (wcells (0))) (w.heap.size + 1 + 1 + 1) _ (wcells (0)) (by (have := HZ.out; omega))).trans Gd.out)
    replace Gx := Lib.hid ((setRow_other ((w17).setRow (w.heap.size + 1 + 1) (wcells (0))) (w.heap.size + 1 + 1 + 1) _ (wcells (0)) (by (have := HZ.out; omega))).trans Gx.out)
    replace Gy := Lib.hid (setRow_heap ((w17).setRow (w.heap.size + 1 + 1) (wcells (0))) (w.heap.size + 1 + 1 + 1) _ (wcells (0)) _ _ Gy.out)
    replace HB := Lib.hid (below_setRow' HB.out (show _ ≤ w.heap.size + 1 + 1 + 1 by (have := HZ.out; omega)) (wcells (0)))
    have cGn := cell_row Gn.out
    have cGd := cell_row Gd.out
    have cGx := cell_row Gx.out
    have cGy := cell_row Gy.out
    go_wp2
    exact bodyPost_ret (v := .tuple #[wv 0, wv 0, .int .i64 E]) (res_cct Tryd.results23 _ _ _ _ _ _ _ _ _ _ _ rfl rfl rfl Gx.out Gy.out aggW aggW) rfl ⟨rfl, HB.out⟩
end Go.Proofs.YtffengboblekpaaDoor
