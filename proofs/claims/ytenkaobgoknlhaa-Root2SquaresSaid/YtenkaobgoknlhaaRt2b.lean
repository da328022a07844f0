/- THE WALKS of root2: what the root does with each step; roots, and whether a number is a square. -/
import Derived.Test.YtenkaobgoknlhaaRt2
namespace Go.Proofs.Ytenkaobgoknlhaa
open Go Go.RowKit

/-- A root, its remainder, and why there is none. -/
def rsS (n : Nat) : Nat := if n < P2 256 then rtN 2 n else 0
def rsR (n : Nat) : Nat := if n < P2 256 then n - rtN 2 n * rtN 2 n else 0
def rsE (n : Nat) : Int := if n < P2 256 then 0 else 4
theorem rs_yes {n : Nat} (h : n < P2 256) : rsS n = rtN 2 n ∧ rsR n = n - rtN 2 n * rtN 2 n ∧ rsE n = 0 := by unfold rsS rsR rsE; rw [if_pos h, if_pos h, if_pos h]; exact ⟨rfl, rfl, rfl⟩
theorem rs_no {n : Nat} (h : ¬ n < P2 256) : rsS n = 0 ∧ rsR n = 0 ∧ rsE n = 4 := by unfold rsS rsR rsE; rw [if_neg h, if_neg h, if_neg h]; exact ⟨rfl, rfl, rfl⟩
theorem blen_256 {n : Nat} : blen n ≤ 256 ↔ n < P2 256 := ⟨lt_of_blen, blen_le_of⟩

attribute [local go_sem ↓] Go.wp_at_zero Go.wp_at_succ
set_option maxHeartbeats 1000000 in
theorem mayR_w (n : Nat) (hn : n < M) (w : World) : Calls Try.prog 139 #[wv n] w fun e w' => e = .returned (.int .i64 (rsE n)) ∧ Below w.heap.size w w' := by
  have S1 := Lib.hid (fun w' => len_w n hn w')
  have hb := blen_256 (n := n)
  by_cases h : n < P2 256
  · rw [(rs_yes h).2.2]
    have h1 : ¬ (256 : Int) < (blen n : Nat) := by have := hb.2 h; omega
    obtain ⟨l, hl⟩ : ∃ l, l = blen n := ⟨_, rfl⟩
    rw [← hl] at S1 h1
    clear hn hb h hl
    go_enter Try.func139, Try.ntmps139
    have HB := Lib.hid (Below.refl w.heap.size w)
    have Gn := Lib.hid (alloc_new (w) (.cells (wcells n) 26))
    replace HB := Lib.hid (below_al HB.out (.cells (wcells n) 26))
    have cGn := cell_row Gn.out
    go_wp2_with fail
    refine (S1.out _).mono ?_
    rintro e w1 ⟨rfl, hb⟩
    clear cGn
    replace HB := Lib.hid (below_then HB.out hb)
    replace Gn := Lib.hid ((hb.block _ (lt_of_heap Gn.out)).trans Gn.out)
    clear hb
    have cGn := cell_row Gn.out
    go_wp2
    go_ret
    exact ⟨rfl, HB.out⟩
  · rw [(rs_no h).2.2]
    have h1 : (256 : Int) < (blen n : Nat) := by
      have : ¬ blen n ≤ 256 := fun hh => h (hb.1 hh)
      omega
    obtain ⟨l, hl⟩ : ∃ l, l = blen n := ⟨_, rfl⟩
    rw [← hl] at S1 h1
    clear hn hb h hl
    go_enter Try.func139, Try.ntmps139
    have HB := Lib.hid (Below.refl w.heap.size w)
    have Gn := Lib.hid (alloc_new (w) (.cells (wcells n) 26))
    replace HB := Lib.hid (below_al HB.out (.cells (wcells n) 26))
    have cGn := cell_row Gn.out
    go_wp2_with fail
    refine (S1.out _).mono ?_
    rintro e w2 ⟨rfl, hb⟩
    clear cGn
    replace HB := Lib.hid (below_then HB.out hb)
    replace Gn := Lib.hid ((hb.block _ (lt_of_heap Gn.out)).trans Gn.out)
    clear hb
    have cGn := cell_row Gn.out
    go_wp2
    go_ret
    exact ⟨rfl, HB.out⟩
set_option maxRecDepth 100000 in
set_option maxHeartbeats 2000000 in
theorem rootFun_any (Qb Rb q l r0 dg : Nat) (w : World) (hq : w.heap[Qb]? = some (.cells (wcells q) 26 (0, 0))) (hr : w.heap[Rb]? = some (.cells (wcells r0) 26 (0, 0))) (hne : Qb ≠ Rb) (hM : q + q + dg < M) (hdg : dg ≤ 1) :
    Calls Try.prog 143 #[.int .i64 (dg : Int), wv l, .pointer (some ⟨Qb, 0, none⟩), .pointer (some ⟨Rb, 0, none⟩)] w fun e w' => e = .returned (.tuple #[]) ∧ w'.heap[Qb]? = some (.cells (wcells (q + q + dg)) 26 (0, 0)) ∧ w'.heap[Rb]? = some (.cells (wcells l) 26 (0, 0)) ∧ But (fun k => k = Qb ∨ k = Rb) w w' := by
  have SO := Lib.hid (fun w' p h => of_one dg (by omega) w' p h)
  have SS : Hid (∀ (v : Value) (w' : World), IsWides w' v [q, q, dg] → Calls Try.prog 95 #[v] w' fun e w'' => e = .returned (wv (q + q + dg)) ∧ Below w'.heap.size w' w'') := Lib.hid fun v w' h => by
    have hdM : dg < M := by omega
    have := psum_any v [q, q, dg] w' (fun x hx => by simp at hx; rcases hx with rfl | rfl | rfl <;> omega) (by simp) h
    rw [show [q, q, dg].sum = q + q + dg by simp; omega, Nat.mod_eq_of_lt hM] at this
    exact this
  have hcv : IntKind.u64.wrap (dg : Int) = (dg : Int) := by rw [u64wrap]; omega
  obtain ⟨Q2, hQ2⟩ : ∃ Q2, Q2 = q + q + dg := ⟨_, rfl⟩
  rw [← hQ2] at SS ⊢
  have Gq := Lib.hid hq; have Gr := Lib.hid hr
  have hq1 := lt_of_heap hq; have hr1 := lt_of_heap hr
  clear hq hr hM hQ2 hdg
  go_enter Try.func143, Try.ntmps143
  have HB := Lib.hid (Below.refl w.heap.size w)
  replace Gq := Lib.hid (keepAl (o' := .cells (wcells l) 26) Gq.out)
  replace Gr := Lib.hid (keepAl (o' := .cells (wcells l) 26) Gr.out)
  have Gs := Lib.hid (alloc_new (w) (.cells (wcells l) 26))
  replace HB := Lib.hid (below_al HB.out (.cells (wcells l) 26))
  go_upto_region 1 with fail
  obtain ⟨w0, hw⟩ : ∃ wx, wx = (w).alloc (.cells (wcells l) 26) := ⟨_, rfl⟩
  rw [← hw] at Gq Gr Gs HB ⊢
  clear hw
  go_cut [] (fun wx => wx.heap[Qb]? = some (.cells (wcells Q2) 26 (0, 0)) ∧ wx.heap[Rb]? = some (.cells (wcells r0) 26 (0, 0)) ∧ wx.heap[w.heap.size]? = some (.cells (wcells l) 26 (0, 0)) ∧ But (fun k => k = Qb ∨ k = Rb) w wx)
  case first =>
    have k0 : ∀ j, w0.drew.cell? ⟨Qb, j, none⟩ = (wcells q)[j]? := cell_row Gq.out
    have k1 : ∀ j, (w0.alloc (.cells #[.int .u64 (dg : Int)] 24)).drew.cell? ⟨Qb, j, none⟩ = (wcells q)[j]? := keepRowAl (w := w0) k0
    have kn := Lib.hid (show (w0.alloc (.cells #[.int .u64 (dg : Int)] 24)).drew.heap[w0.heap.size]? = some (.cells #[.int .u64 (dg : Int)] 24 (0, 0)) from alloc_new w0 _)
    go_region_with
      (first
        | (go_at_call 31
           refine (SO.out _ _ kn.out).mono ?_
           rintro e wA ⟨rfl, hb⟩
           have HA0 := Lib.hid ((hb.block _ (lt_of_heap (keepAl (o' := .cells #[.int .u64 (dg : Int)] 24 (0, 0)) Gq.out))).trans (keepAl (o' := .cells #[.int .u64 (dg : Int)] 24 (0, 0)) Gq.out))
           have HA1 := Lib.hid ((hb.block _ (lt_of_heap (keepAl (o' := .cells #[.int .u64 (dg : Int)] 24 (0, 0)) Gr.out))).trans (keepAl (o' := .cells #[.int .u64 (dg : Int)] 24 (0, 0)) Gr.out))
           have HA2 := Lib.hid ((hb.block _ (lt_of_heap (keepAl (o' := .cells #[.int .u64 (dg : Int)] 24 (0, 0)) Gs.out))).trans (keepAl (o' := .cells #[.int .u64 (dg : Int)] 24 (0, 0)) Gs.out))
           have HL := Lib.hid (below_then (below_al HB.out (.cells #[.int .u64 (dg : Int)] 24)).drew hb)
           have cA := cell_row HA0.out
           clear hb)
        | (go_at_call 95
           refine (SS.out _ _ (isWides3 (alloc_new _ _))).mono ?_
           rintro e wB ⟨rfl, hb⟩
           have HA0 := Lib.hid ((hb.block _ (lt_of_heap (keepAl (o' := .cells (w24 q q dg) 26 (0, 0)) HA0.out))).trans (keepAl (o' := .cells (w24 q q dg) 26 (0, 0)) HA0.out))
           have HA1 := Lib.hid ((hb.block _ (lt_of_heap (keepAl (o' := .cells (w24 q q dg) 26 (0, 0)) HA1.out))).trans (keepAl (o' := .cells (w24 q q dg) 26 (0, 0)) HA1.out))
           have HA2 := Lib.hid ((hb.block _ (lt_of_heap (keepAl (o' := .cells (w24 q q dg) 26 (0, 0)) HA2.out))).trans (keepAl (o' := .cells (w24 q q dg) 26 (0, 0)) HA2.out))
           have HL := Lib.hid (below_then (below_al HL.out (.cells (w24 q q dg) 26 (0, 0))) hb)
           have st := st_row (P := Try.prog) HA0.out rfl Q2
           clear hb))
    all_goals
      go_wp2
      go_meet
      exact ⟨setRow_heap _ _ _ _ _ _ HA0.out, (setRow_other _ _ _ _ (fun e => hne e.symm)).trans HA1.out, (setRow_other _ _ _ _ (by omega)).trans HA2.out, But.row (S := fun k => k = Qb ∨ k = Rb) (But.of_below HL.out) (Or.inl rfl) _⟩
  case rest =>
    obtain ⟨hg1, hg2, hg3, hbut⟩ := hcut
    replace Gq := Lib.hid hg1; replace Gr := Lib.hid hg2; replace Gs := Lib.hid hg3
    have HBu := Lib.hid hbut
    clear hg1 hg2 hg3 hbut
    have c0 := cell_row Gs.out
    have st := st_row (P := Try.prog) Gr.out rfl l
    have Gq2 := Lib.hid ((setRow_other wc Rb Qb (wcells l) hne).trans Gq.out)
    have Gr2 := Lib.hid (setRow_heap wc Rb _ (wcells l) _ _ Gr.out)
    have HBu2 := Lib.hid (But.row (S := fun k => k = Qb ∨ k = Rb) HBu.out (g := Rb) (Or.inr rfl) (wcells l))
    clear hne hq1 hr1
    go_wp2
    exact bodyPost_end (v := .tuple #[]) (by simp [results, Try.results143, go_sem]) rfl ⟨rfl, Gq2.out, Gr2.out, HBu2.out⟩

theorem enters_root : Enters Try.prog 143 := fun args w => by simp [go_sem]
/-- What the root has in hand behind i steps. -/
structure RootIn (n Qb Rb : Nat) (wq : World) (i : Nat) (w' : World) : Prop where
  q : w'.heap[Qb]? = some (.cells (wcells (rtN 2 n / P2 (128 - i))) 26 (0, 0))
  r : ∃ r0, w'.heap[Rb]? = some (.cells (wcells r0) 26 (0, 0)) ∧ (0 < i → r0 = rlfN n i)
  but : But (fun k => k = Qb ∨ k = Rb ∨ wq.heap.size ≤ k) wq w'

attribute [local go_sem ↓] Go.wp_at_zero Go.wp_at_succ
set_option maxRecDepth 100000 in
set_option maxHeartbeats 1000000 in
theorem rootRun_any (n Qb Rb : Nat) (w : World) (hn : n < P2 256) (hQ : Qb < w.heap.size) (hR : Rb < w.heap.size) (hne : Qb ≠ Rb)
    (hq : w.heap[Qb]? = some (.cells (wcells 0) 26 (0, 0))) (hr : w.heap[Rb]? = some (.cells (wcells 0) 26 (0, 0))) :
    Calls Try.prog 142 #[wv n, .func (.func 143) #[] #[.pointer (some ⟨Qb, 0, none⟩), .pointer (some ⟨Rb, 0, none⟩)]] w fun e w' => e = .returned (.tuple #[]) ∧ w'.heap[Qb]? = some (.cells (wcells (rtN 2 n)) 26 (0, 0)) ∧ w'.heap[Rb]? = some (.cells (wcells (n - rtN 2 n * rtN 2 n)) 26 (0, 0)) ∧ But (fun k => k = Qb ∨ k = Rb ∨ w.heap.size ≤ k) w w' := by
  have hS := rt_lt hn
  have h128 : P2 128 < M := by rw [M_eq]; exact P2_lt (by omega)
  have hqM : ∀ i, rtN 2 n / P2 (128 - i) < M := fun i => Nat.lt_of_le_of_lt (Nat.div_le_self _ _) (by omega)
  refine (runR_any 143 #[.pointer (some ⟨Qb, 0, none⟩), .pointer (some ⟨Rb, 0, none⟩)] n (RootIn n Qb Rb w) w hn enters_root ?_ ?_ ?_).mono ?_
  · intro i w1 w2 h hb
    obtain ⟨r0, hr0, hr1⟩ := h.r
    exact ⟨hb.heap h.q (by omega), ⟨r0, hb.heap hr0 (by omega), hr1⟩, h.but.trans (hb.mono fun k _ hk => Or.inr (Or.inr (by omega)))⟩
  · intro i w' hi hsz h
    obtain ⟨r0, hr0, hr1⟩ := h.r
    have hs := rt_quo (rtN 2 n) i hi
    have := rootFun_any Qb Rb (rtN 2 n / P2 (128 - i)) (rlfN n (i + 1)) r0 (rdgN n i) w' h.q hr0 hne (by have := hqM (i + 1); rw [hs] at this; exact this) (rdg_le1 n i)
    refine (show Calls Try.prog 143 (#[.int .i64 (rdgN n i : Nat), wv (rlfN n (i + 1))] ++ #[.pointer (some ⟨Qb, 0, none⟩), .pointer (some ⟨Rb, 0, none⟩)]) w' _ from this).mono ?_
    rintro e w'' ⟨rfl, h1, h2, h3⟩
    refine ⟨rfl, ⟨by rw [hs]; exact h1, ⟨_, h2, fun _ => rfl⟩, h.but.trans (h3.mono fun k _ hk => ?_)⟩, h3.mono fun k _ hk => ?_⟩
    · rcases hk with hk | hk
      · exact Or.inl hk
      · exact Or.inr (Or.inl hk)
    · rcases hk with hk | hk <;> omega
  · exact ⟨by rw [show 128 - 0 = 128 from rfl, Nat.div_eq_of_lt hS]; exact hq, ⟨0, hr, fun h => absurd h (by decide)⟩, But.refl _ _⟩
  · rintro e w' ⟨rfl, h, _⟩
    obtain ⟨r0, hr0, hr1⟩ := h.r
    refine ⟨rfl, ?_, ?_, h.but⟩
    · have := h.q
      rw [show 128 - 128 = 0 from rfl, P2_0, Nat.div_one] at this
      exact this
    · rw [← rlf_end n, ← hr1 (by decide)]
      exact hr0

set_option maxRecDepth 100000 in
set_option maxHeartbeats 2000000 in
theorem root_w (n : Nat) (hn : n < M) (w : World) :
    Calls Try.prog 100 #[wv n] w fun e w' => e = .returned (.tuple #[wv (rsS n), wv (rsR n), .int .i64 (rsE n)]) ∧ Below w.heap.size w w' := by
  have S1 := Lib.hid (fun w' => mayR_w n hn w')
  by_cases hm : n < P2 256
  · obtain ⟨e1, e2, e3⟩ := rs_yes hm
    have S2 := Lib.hid (fun Qb Rb w' hQ hR hne hq hr => rootRun_any n Qb Rb w' hm hQ hR hne hq hr)
    rw [e1, e2, e3]
    rw [e3] at S1
    obtain ⟨Q, hQ⟩ : ∃ x, x = rtN 2 n := ⟨_, rfl⟩
    obtain ⟨R, hR⟩ : ∃ x, x = n - rtN 2 n * rtN 2 n := ⟨_, rfl⟩
    rw [← hQ] at hR
    rw [← hQ, ← hR] at S2 ⊢
    clear hn hm e1 e2 e3 hQ hR
    go_enter Try.func100, Try.ntmps100
    have HB := Lib.hid (Below.refl w.heap.size w)
    have Gn := Lib.hid (alloc_new (w) (.cells (wcells n) 26))
    replace HB := Lib.hid (below_al HB.out (.cells (wcells n) 26))
    replace Gn := Lib.hid (keepAl (o' := .cells (wcells 0) 26) Gn.out)
    have Gx := Lib.hid (alloc_new' (w := (w).alloc (.cells (wcells n) 26)) (n := w.heap.size + 1) (.cells (wcells 0) 26) (by simp))
    replace HB := Lib.hid (below_al HB.out (.cells (wcells 0) 26))
    replace Gn := Lib.hid (keepAl (o' := .cells (wcells 0) 26) Gn.out)
    replace Gx := Lib.hid (keepAl (o' := .cells (wcells 0) 26) Gx.out)
    have Gy := Lib.hid (alloc_new' (w := ((w).alloc (.cells (wcells n) 26)).alloc (.cells (wcells 0) 26)) (n := w.heap.size + 1 + 1) (.cells (wcells 0) 26) (by simp))
    replace HB := Lib.hid (below_al HB.out (.cells (wcells 0) 26))
    have cGn := cell_row Gn.out
    have cGx := cell_row Gx.out
    have cGy := cell_row Gy.out
    go_wp2_with fail
    refine (S1.out _).mono ?_
    rintro e w3 ⟨rfl, hb⟩
    clear cGn cGx cGy
    replace HB := Lib.hid (below_then HB.out hb)
    replace Gn := Lib.hid ((hb.block _ (lt_of_heap Gn.out)).trans Gn.out)
    replace Gx := Lib.hid ((hb.block _ (lt_of_heap Gx.out)).trans Gx.out)
    replace Gy := Lib.hid ((hb.block _ (lt_of_heap Gy.out)).trans Gy.out)
    clear hb
    have HZ := Lib.hid (lt_of_heap Gy.out)
    replace Gn := Lib.hid (keepAl (o' := .cells (wcells 0) 26) Gn.out)
    replace Gx := Lib.hid (keepAl (o' := .cells (wcells 0) 26) Gx.out)
    replace Gy := Lib.hid (keepAl (o' := .cells (wcells 0) 26) Gy.out)
    have Gq := Lib.hid (alloc_new (w3) (.cells (wcells 0) 26))
    replace HB := Lib.hid (below_al HB.out (.cells (wcells 0) 26))
    replace Gn := Lib.hid (keepAl (o' := .cells (wcells 0) 26) Gn.out)
    replace Gx := Lib.hid (keepAl (o' := .cells (wcells 0) 26) Gx.out)
    replace Gy := Lib.hid (keepAl (o' := .cells (wcells 0) 26) Gy.out)
    replace Gq := Lib.hid (keepAl (o' := .cells (wcells 0) 26) Gq.out)
    have Gr := Lib.hid (alloc_new' (w := (w3).alloc (.cells (wcells 0) 26)) (n := w3.heap.size + 1) (.cells (wcells 0) 26) (by simp))
    replace HB := Lib.hid (below_al HB.out (.cells (wcells 0) 26))
    have cGn := cell_row Gn.out
    have cGx := cell_row Gx.out
    have cGy := cell_row Gy.out
    have cGq := cell_row Gq.out
    have cGr := cell_row Gr.out
    go_wp2_with fail
    clear cGn cGx cGy cGq cGr
    obtain ⟨wq, hw⟩ : ∃ wx, wx = ((w3).alloc (.cells (wcells 0) 26)).alloc (.cells (wcells 0) 26) := ⟨_, rfl⟩
    rw [← hw] at Gn Gx Gy Gq Gr HB ⊢
    clear hw
    refine (S2.out (w3.heap.size) (w3.heap.size + 1) _ ?_ ?_ (by omega) Gq.out Gr.out).mono ?_
    · exact lt_of_heap Gq.out
    · exact lt_of_heap Gr.out
    rintro e w2 ⟨rfl, hq, hr, hbut⟩
    have hz := HZ.out
    have hwq := lt_of_heap Gr.out
    replace HB := Lib.hid (But.below HB.out hbut (by omega) (fun i hi => by omega))
    replace Gx := Lib.hid (hbut.heap Gx.out (by omega))
    replace Gy := Lib.hid (hbut.heap Gy.out (by omega))
    replace Gq := Lib.hid hq; replace Gr := Lib.hid hr
    clear hq hr hbut Gn
    have cGx := cell_row Gx.out
    have cGy := cell_row Gy.out
    have cGq := cell_row Gq.out
    have cGr := cell_row Gr.out
    go_upto_region 6 with fail
    clear cGx cGy cGq cGr
    refine wp_region_store [⟨w.heap.size + 1, 26, .tmp 18⟩, ⟨w.heap.size + 1 + 1, 26, .tmp 19⟩] (by kernel_rfl) (by kernel_rfl) (by kernel_rfl) rfl (List.Pairwise.cons (by intro r hr; simp only [List.mem_cons, List.not_mem_nil, or_false] at hr; subst hr <;> dsimp only <;> (omega)) (List.pairwise_singleton _ _)) ?_ ?_
    · intro r hr
      simp only [List.mem_cons, List.not_mem_nil, or_false] at hr
      rcases hr with rfl | rfl
      · exact ⟨_, Gx.out, by kernel_rfl⟩
      · exact ⟨_, Gy.out, by kernel_rfl⟩
    have xGq := extR_row (B := w2.heap.size) (R := [⟨w.heap.size + 1, 26, .tmp 18⟩, ⟨w.heap.size + 1 + 1, 26, .tmp 19⟩]) Gq.out (lt_of_heap Gq.out) (by intro r hr; simp only [List.mem_cons, List.not_mem_nil, or_false] at hr; rcases hr with rfl | rfl <;> dsimp only <;> (omega))
    have xGr := extR_row (B := w2.heap.size) (R := [⟨w.heap.size + 1, 26, .tmp 18⟩, ⟨w.heap.size + 1 + 1, 26, .tmp 19⟩]) Gr.out (lt_of_heap Gr.out) (by intro r hr; simp only [List.mem_cons, List.not_mem_nil, or_false] at hr; rcases hr with rfl | rfl <;> dsimp only <;> (omega))
    repeat (refine wpCalm_step (fun K hK => ?_); go_simp; first | (refine hK _ ?_; clear hK K) | (apply Exists.intro; refine ⟨fun _ => ?_, hK _ ?_⟩; (first | fail); clear hK K))
    refine wpCalm_nil ⟨?_, fun x hx => ?_⟩
    · intro r hr
      simp only [List.mem_cons, List.not_mem_nil, or_false] at hr
      rcases hr with rfl | rfl <;> exact fits_wv (by kernel_rfl) _
    replace Gx : Hid (x.val.heap[w.heap.size + 1]? = some (.cells (wcells (Q)) 26 (0, 0))) := Lib.hid (hx ⟨w.heap.size + 1, 26, .tmp 18⟩ (by simp))
    replace Gy : Hid (x.val.heap[w.heap.size + 1 + 1]? = some (.cells (wcells (R)) 26 (0, 0))) := Lib.hid (hx ⟨w.heap.size + 1 + 1, 26, .tmp 19⟩ (by simp))
    replace Gq := Lib.hid (extR_block x Gq.out (lt_of_heap Gq.out) (by intro r hr; simp only [List.mem_cons, List.not_mem_nil, or_false] at hr; rcases hr with rfl | rfl <;> dsimp only <;> (omega)))
    replace Gr := Lib.hid (extR_block x Gr.out (lt_of_heap Gr.out) (by intro r hr; simp only [List.mem_cons, List.not_mem_nil, or_false] at hr; rcases hr with rfl | rfl <;> dsimp only <;> (omega)))
    replace HB := Lib.hid (extR_below x HB.out HB.out.size (by intro r hr; simp only [List.mem_cons, List.not_mem_nil, or_false] at hr; rcases hr with rfl | rfl <;> dsimp only <;> (omega)))
    clear hx xGq xGr
    obtain ⟨w4, hw⟩ : ∃ wx, wx = x.val := ⟨_, rfl⟩
    rw [← hw] at Gx Gy Gq Gr HB ⊢
    clear hw x
    have c1 := cell_row Gx.out
    have c2 := cell_row Gy.out
    go_wp2
    exact bodyPost_ret (v := .tuple #[wv Q, wv R, .int .i64 0]) (by simp [results, Try.results100, go_sem, c1, c2]) rfl ⟨rfl, HB.out⟩
  · obtain ⟨e1, e2, e3⟩ := rs_no hm
    rw [e1, e2, e3]
    rw [e3] at S1
    clear hn hm e1 e2 e3
    go_enter Try.func100, Try.ntmps100
    have HB := Lib.hid (Below.refl w.heap.size w)
    have Gn := Lib.hid (alloc_new (w) (.cells (wcells n) 26))
    replace HB := Lib.hid (below_al HB.out (.cells (wcells n) 26))
    replace Gn := Lib.hid (keepAl (o' := .cells (wcells 0) 26) Gn.out)
    have Gx := Lib.hid (alloc_new' (w := (w).alloc (.cells (wcells n) 26)) (n := w.heap.size + 1) (.cells (wcells 0) 26) (by simp))
    replace HB := Lib.hid (below_al HB.out (.cells (wcells 0) 26))
    replace Gn := Lib.hid (keepAl (o' := .cells (wcells 0) 26) Gn.out)
    replace Gx := Lib.hid (keepAl (o' := .cells (wcells 0) 26) Gx.out)
    have Gy := Lib.hid (alloc_new' (w := ((w).alloc (.cells (wcells n) 26)).alloc (.cells (wcells 0) 26)) (n := w.heap.size + 1 + 1) (.cells (wcells 0) 26) (by simp))
    replace HB := Lib.hid (below_al HB.out (.cells (wcells 0) 26))
    have cGn := cell_row Gn.out
    have cGx := cell_row Gx.out
    have cGy := cell_row Gy.out
    go_wp2_with fail
    refine (S1.out _).mono ?_
    rintro e w5 ⟨rfl, hb⟩
    clear cGn cGx cGy
    replace HB := Lib.hid (below_then HB.out hb)
    replace Gn := Lib.hid ((hb.block _ (lt_of_heap Gn.out)).trans Gn.out)
    replace Gx := Lib.hid ((hb.block _ (lt_of_heap Gx.out)).trans Gx.out)
    replace Gy := Lib.hid ((hb.block _ (lt_of_heap Gy.out)).trans Gy.out)
    clear hb
    have HZ := Lib.hid (lt_of_heap Gy.out)
    have stx := st_row (P := Try.prog) Gx.out rfl (0)
    replace Gn := Lib.hid ((setRow_other (w5) (w.heap.size + 1) _ (wcells (0)) (by (have := HZ.out; omega))).trans Gn.out)
    replace Gy := Lib.hid ((setRow_other (w5) (w.heap.size + 1) _ (wcells (0)) (by (have := HZ.out; omega))).trans Gy.out)
    replace Gx := Lib.hid (setRow_heap (w5) (w.heap.size + 1) _ (wcells (0)) _ _ Gx.out)
    replace HB := Lib.hid (below_setRow' HB.out (show _ ≤ w.heap.size + 1 by (have := HZ.out; omega)) (wcells (0)))
    have q1 := stx
    clear stx
    have sty := st_row (P := Try.prog) Gy.out rfl (0)
    replace Gn := Lib.hid ((setRow_other ((w5).setRow (w.heap.size + 1) (wcells (0))) (w.heap.size + 1 + 1) _ (wcells (0)) (by (have := HZ.out; omega))).trans Gn.out)
    replace Gx := Lib.hid ((setRow_other ((w5).setRow (w.heap.size + 1) (wcells (0))) (w.heap.size + 1 + 1) _ (wcells (0)) (by (have := HZ.out; omega))).trans Gx.out)
    replace Gy := Lib.hid (setRow_heap ((w5).setRow (w.heap.size + 1) (wcells (0))) (w.heap.size + 1 + 1) _ (wcells (0)) _ _ Gy.out)
    replace HB := Lib.hid (below_setRow' HB.out (show _ ≤ w.heap.size + 1 + 1 by (have := HZ.out; omega)) (wcells (0)))
    have c1 := cell_row Gx.out
    have c2 := cell_row Gy.out
    go_wp2
    exact bodyPost_ret (v := .tuple #[wv 0, wv 0, .int .i64 4]) (by simp [results, Try.results100, go_sem, c1, c2]) rfl ⟨rfl, HB.out⟩
end Go.Proofs.Ytenkaobgoknlhaa
