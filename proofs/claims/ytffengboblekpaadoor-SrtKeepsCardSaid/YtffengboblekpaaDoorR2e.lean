/- THE WALK of radix2's division. -/
import Derived.Test.YtffengboblekpaaDoorR2d
namespace Go.Proofs.YtffengboblekpaaDoor
open Go Go.RowKit

theorem enters_div : Enters Tryd.prog 65 := fun args w => by simp [go_sem]
/-- What the division has in hand behind i steps. -/
structure DivIn (n d Qb Rb : Nat) (wq : World) (i : Nat) (w' : World) : Prop where
  q : w'.heap[Qb]? = some (.cells (wcells (quoN n d i)) 24 (0, 0))
  r : ∃ r0, w'.heap[Rb]? = some (.cells (wcells r0) 24 (0, 0)) ∧ (0 < i → r0 = lftN n d i)
  but : But (fun k => k = Qb ∨ k = Rb ∨ wq.heap.size ≤ k) wq w'

attribute [local go_sem ↓] Go.wp_at_zero Go.wp_at_succ
set_option maxRecDepth 100000 in
set_option maxHeartbeats 1000000 in
theorem divRun_any (n d Qb Rb : Nat) (w : World) (hn : n < M) (hd0 : 0 < d) (hd : d < P2 120) (hnd : n < d * P2 128) (hQ : Qb < w.heap.size) (hR : Rb < w.heap.size) (hne : Qb ≠ Rb)
    (hq : w.heap[Qb]? = some (.cells (wcells 0) 24 (0, 0))) (hr : w.heap[Rb]? = some (.cells (wcells 0) 24 (0, 0))) :
    Calls Tryd.prog 64 #[wv n, wv d, .func (.func 65) #[] #[.pointer (some ⟨Qb, 0, none⟩), .pointer (some ⟨Rb, 0, none⟩)]] w fun e w' => e = .returned (.tuple #[]) ∧ w'.heap[Qb]? = some (.cells (wcells (n / d)) 24 (0, 0)) ∧ w'.heap[Rb]? = some (.cells (wcells (n % d)) 24 (0, 0)) ∧ But (fun k => k = Qb ∨ k = Rb ∨ w.heap.size ≤ k) w w' := by
  have hqM : ∀ i, quoN n d i < M := fun i => by
    unfold quoN
    exact Nat.lt_of_le_of_lt (Nat.div_le_self _ _) (Nat.lt_of_le_of_lt (Nat.div_le_self _ _) hn)
  refine (run2_any 65 #[.pointer (some ⟨Qb, 0, none⟩), .pointer (some ⟨Rb, 0, none⟩)] n d 128 (fun _ => true) (DivIn n d Qb Rb w) w hn hd0 hd hnd (Nat.le_refl _) (by decide) enters_div (fun _ _ => rfl) (Or.inl rfl) ?_ ?_ ?_).mono ?_
  · intro i w1 w2 h hb
    obtain ⟨r0, hr0, hr1⟩ := h.r
    exact ⟨hb.heap h.q (by omega), ⟨r0, hb.heap hr0 (by omega), hr1⟩, h.but.trans (hb.mono fun k _ hk => Or.inr (Or.inr (by omega)))⟩
  · intro i w' hi hsz h
    obtain ⟨r0, hr0, hr1⟩ := h.r
    have hs := quo_step n d i hi
    have := divFun_any Qb Rb (quoN n d i) (lftN n d (i + 1)) r0 (digN n d i) w' h.q hr0 hne (by rw [← hs]; exact hqM _) (dig_le1 n d i)
    refine (show Calls Tryd.prog 65 (#[.agg (scells (digN n d i : Nat) (lftN n d (i + 1)))] ++ #[.pointer (some ⟨Qb, 0, none⟩), .pointer (some ⟨Rb, 0, none⟩)]) w' _ from this).mono ?_
    rintro e w'' ⟨rfl, h1, h2, h3⟩
    refine ⟨rfl, ⟨by rw [hs]; exact h1, ⟨_, h2, fun _ => rfl⟩, h.but.trans (h3.mono fun k _ hk => ?_)⟩, h3.mono fun k _ hk => ?_⟩
    · rcases hk with hk | hk
      · exact Or.inl hk
      · exact Or.inr (Or.inl hk)
    · rcases hk with hk | hk <;> omega
  · exact ⟨by rw [quo_start hnd]; exact hq, ⟨0, hr, fun h => absurd h (by decide)⟩, But.refl _ _⟩
  · rintro e w' ⟨rfl, h, _⟩
    obtain ⟨r0, hr0, hr1⟩ := h.r
    refine ⟨rfl, by rw [← quo_end n d]; exact h.q, ?_, h.but⟩
    rw [← lft_end n d, ← hr1 (by decide)]
    exact hr0

set_option maxRecDepth 100000 in
set_option maxHeartbeats 2000000 in
theorem divide_w (n d : Nat) (hn : n < M) (hd : d < M) (w : World) :
    Calls Tryd.prog 35 #[wv n, wv d] w fun e w' => e = .returned (.tuple #[wv (dvQ n d), wv (dvR n d), .int .i64 (mayN n d)]) ∧ Below w.heap.size w w' := by
  have S1 := Lib.hid (fun w' => may_w n d hn hd w')
  by_cases hm : mayN n d = 0
  · obtain ⟨h1, h2, h3⟩ := may_ok hm
    obtain ⟨e1, e2⟩ := dv_yes hm
    have S2 := Lib.hid (fun Qb Rb w' hQ hR hne hq hr => divRun_any n d Qb Rb w' hn h1 h2 h3 hQ hR hne hq hr)
    rw [e1, e2, hm]
    rw [hm] at S1
    obtain ⟨Q, hQ⟩ : ∃ x, x = n / d := ⟨_, rfl⟩
    obtain ⟨R, hR⟩ : ∃ x, x = n % d := ⟨_, rfl⟩
    rw [← hQ, ← hR] at S2 ⊢
    clear hn hd hm h1 h2 h3 e1 e2 hQ hR
    go_enter Tryd.func35, Tryd.ntmps35
    have HB := Lib.hid (Below.refl w.heap.size w)
    have Gn := Lib.hid (alloc_new (w) (.cells (wcells n) 24))
    replace HB := Lib.hid (below_al HB.out (.cells (wcells n) 24))
    replace Gn := Lib.hid (keepAl (o' := .cells (wcells d) 24) Gn.out)
    have Gd := Lib.hid (alloc_new' (w := (w).alloc (.cells (wcells n) 24)) (n := w.heap.size + 1) (.cells (wcells d) 24) (by simp))
    replace HB := Lib.hid (below_al HB.out (.cells (wcells d) 24))
    replace Gn := Lib.hid (keepAl (o' := .cells (wcells 0) 24) Gn.out)
    replace Gd := Lib.hid (keepAl (o' := .cells (wcells 0) 24) Gd.out)
    have Gx := Lib.hid (alloc_new' (w := ((w).alloc (.cells (wcells n) 24)).alloc (.cells (wcells d) 24)) (n := w.heap.size + 1 + 1) (.cells (wcells 0) 24) (by simp))
    replace HB := Lib.hid (below_al HB.out (.cells (wcells 0) 24))
    replace Gn := Lib.hid (keepAl (o' := .cells (wcells 0) 24) Gn.out)
    replace Gd := Lib.hid (keepAl (o' := .cells (wcells 0) 24) Gd.out)
    replace Gx := Lib.hid (keepAl (o' := .cells (wcells 0) 24) Gx.out)
    have Gy := Lib.hid (alloc_new' (w := (((w).alloc (.cells (wcells n) 24)).alloc (.cells (wcells d) 24)).alloc (.cells (wcells 0) 24)) (n := w.heap.size + 1 + 1 + 1) (.cells (wcells 0) 24) (by simp))
    replace HB := Lib.hid (below_al HB.out (.cells (wcells 0) 24))
    have cGn := cell_row Gn.out
    have cGd := cell_row Gd.out
    have cGx := cell_row Gx.out
    have cGy := cell_row Gy.out
    go_wp2_with fail
    refine (S1.out _).mono ?_
    rintro e w1 ⟨rfl, hb⟩
    clear cGn cGd cGx cGy
    replace HB := Lib.hid (below_then HB.out hb)
    replace Gn := Lib.hid ((hb.block _ (lt_of_heap Gn.out)).trans Gn.out)
    replace Gd := Lib.hid ((hb.block _ (lt_of_heap Gd.out)).trans Gd.out)
    replace Gx := Lib.hid ((hb.block _ (lt_of_heap Gx.out)).trans Gx.out)
    replace Gy := Lib.hid ((hb.block _ (lt_of_heap Gy.out)).trans Gy.out)
    clear hb
    have HZ := Lib.hid (lt_of_heap Gy.out)
    replace Gn := Lib.hid (keepAl (o' := .cells (wcells 0) 24) Gn.out)
    replace Gd := Lib.hid (keepAl (o' := .cells (wcells 0) 24) Gd.out)
    replace Gx := Lib.hid (keepAl (o' := .cells (wcells 0) 24) Gx.out)
    replace Gy := Lib.hid (keepAl (o' := .cells (wcells 0) 24) Gy.out)
    have Gq := Lib.hid (alloc_new (w1) (.cells (wcells 0) 24))
    replace HB := Lib.hid (below_al HB.out (.cells (wcells 0) 24))
    replace Gn := Lib.hid (keepAl (o' := .cells (wcells 0) 24) Gn.out)
    replace Gd := Lib.hid (keepAl (o' := .cells (wcells 0) 24) Gd.out)
    replace Gx := Lib.hid (keepAl (o' := .cells (wcells 0) 24) Gx.out)
    replace Gy := Lib.hid (keepAl (o' := .cells (wcells 0) 24) Gy.out)
    replace Gq := Lib.hid (keepAl (o' := .cells (wcells 0) 24) Gq.out)
    have Gr := Lib.hid (alloc_new' (w := (w1).alloc (.cells (wcells 0) 24)) (n := w1.heap.size + 1) (.cells (wcells 0) 24) (by simp))
    replace HB := Lib.hid (below_al HB.out (.cells (wcells 0) 24))
    have cGn := cell_row Gn.out
    have cGd := cell_row Gd.out
    have cGx := cell_row Gx.out
    have cGy := cell_row Gy.out
    have cGq := cell_row Gq.out
    have cGr := cell_row Gr.out
    go_wp2_with fail
    clear cGn cGd cGx cGy cGq cGr
    obtain ⟨wq, hw⟩ : ∃ wx, wx = ((w1).alloc (.cells (wcells 0) 24)).alloc (.cells (wcells 0) 24) := ⟨_, rfl⟩
    rw [← hw] at Gn Gd Gx Gy Gq Gr HB ⊢
    clear hw
    refine (S2.out w1.heap.size (w1.heap.size + 1) _ ?_ ?_ (by omega) Gq.out Gr.out).mono ?_
    · exact lt_of_heap Gq.out
    · exact lt_of_heap Gr.out
    rintro e w2 ⟨rfl, hq, hr, hbut⟩
    have hz := HZ.out
    have hwq := lt_of_heap Gr.out
    replace HB := Lib.hid (But.below HB.out hbut (by omega) (fun i hi => by omega))
    replace Gx := Lib.hid (hbut.heap Gx.out (by omega))
    replace Gy := Lib.hid (hbut.heap Gy.out (by omega))
    replace Gq := Lib.hid hq; replace Gr := Lib.hid hr
    clear hq hr hbut Gn Gd
    have cGx := cell_row Gx.out
    have cGy := cell_row Gy.out
    have cGq := cell_row Gq.out
    have cGr := cell_row Gr.out
    go_upto_region 6 with fail
    clear cGx cGy cGq cGr
    refine wp_region_store [⟨w.heap.size + 1 + 1, 24, .tmp 22⟩, ⟨w.heap.size + 1 + 1 + 1, 24, .tmp 23⟩] (by kernel_rfl) (by kernel_rfl) (by kernel_rfl) rfl (List.Pairwise.cons (by intro r hr; simp only [List.mem_cons, List.not_mem_nil, or_false] at hr; subst hr <;> dsimp only <;> (omega)) (List.pairwise_singleton _ _)) ?_ ?_
    · intro r hr
      simp only [List.mem_cons, List.not_mem_nil, or_false] at hr
      rcases hr with rfl | rfl
      · exact ⟨_, Gx.out, by kernel_rfl⟩
      · exact ⟨_, Gy.out, by kernel_rfl⟩
    have xGq := extR_row (B := w2.heap.size) (R := [⟨w.heap.size + 1 + 1, 24, .tmp 22⟩, ⟨w.heap.size + 1 + 1 + 1, 24, .tmp 23⟩]) Gq.out (lt_of_heap Gq.out) (by intro r hr; simp only [List.mem_cons, List.not_mem_nil, or_false] at hr; rcases hr with rfl | rfl <;> dsimp only <;> (omega))
    have xGr := extR_row (B := w2.heap.size) (R := [⟨w.heap.size + 1 + 1, 24, .tmp 22⟩, ⟨w.heap.size + 1 + 1 + 1, 24, .tmp 23⟩]) Gr.out (lt_of_heap Gr.out) (by intro r hr; simp only [List.mem_cons, List.not_mem_nil, or_false] at hr; rcases hr with rfl | rfl <;> dsimp only <;> (omega))
    repeat (refine wpCalm_step (fun K hK => ?_); go_simp; first | (refine hK _ ?_; clear hK K) | (apply Exists.intro; refine ⟨fun _ => ?_, hK _ ?_⟩; (first | fail); clear hK K))
    refine wpCalm_nil ⟨?_, fun x hx => ?_⟩
    · intro r hr
      simp only [List.mem_cons, List.not_mem_nil, or_false] at hr
      rcases hr with rfl | rfl <;> exact fits_wv (by kernel_rfl) _
    replace Gx : Hid (x.val.heap[w.heap.size + 1 + 1]? = some (.cells (wcells (Q)) 24 (0, 0))) := Lib.hid (hx ⟨w.heap.size + 1 + 1, 24, .tmp 22⟩ (by simp))
    replace Gy : Hid (x.val.heap[w.heap.size + 1 + 1 + 1]? = some (.cells (wcells (R)) 24 (0, 0))) := Lib.hid (hx ⟨w.heap.size + 1 + 1 + 1, 24, .tmp 23⟩ (by simp))
    replace Gq := Lib.hid (extR_block x Gq.out (lt_of_heap Gq.out) (by intro r hr; simp only [List.mem_cons, List.not_mem_nil, or_false] at hr; rcases hr with rfl | rfl <;> dsimp only <;> (omega)))
    replace Gr := Lib.hid (extR_block x Gr.out (lt_of_heap Gr.out) (by intro r hr; simp only [List.mem_cons, List.not_mem_nil, or_false] at hr; rcases hr with rfl | rfl <;> dsimp only <;> (omega)))
    replace HB := Lib.hid (extR_below x HB.out HB.out.size (by intro r hr; simp only [List.mem_cons, List.not_mem_nil, or_false] at hr; rcases hr with rfl | rfl <;> dsimp only <;> (omega)))
    clear hx xGq xGr
    obtain ⟨w2, hw⟩ : ∃ wx, wx = x.val := ⟨_, rfl⟩
    rw [← hw] at Gx Gy Gq Gr HB ⊢
    clear hw x
    have c1 := cell_row Gx.out
    have c2 := cell_row Gy.out
    go_wp2
    exact bodyPost_ret (v := .tuple #[wv Q, wv R, .int .i64 0]) (by simp [results, Tryd.results35, go_sem, c1, c2]) rfl ⟨rfl, HB.out⟩
  · obtain ⟨e1, e2⟩ := dv_no hm
    rw [e1, e2]
    obtain ⟨E, hE⟩ : ∃ x, x = mayN n d := ⟨_, rfl⟩
    rw [← hE] at S1 hm ⊢
    have hb : (E == 0) = false := by simp [hm]
    clear hn hd e1 e2 hE
    go_enter Tryd.func35, Tryd.ntmps35
    have HB := Lib.hid (Below.refl w.heap.size w)
    have Gn := Lib.hid (alloc_new (w) (.cells (wcells n) 24))
    replace HB := Lib.hid (below_al HB.out (.cells (wcells n) 24))
    replace Gn := Lib.hid (keepAl (o' := .cells (wcells d) 24) Gn.out)
    have Gd := Lib.hid (alloc_new' (w := (w).alloc (.cells (wcells n) 24)) (n := w.heap.size + 1) (.cells (wcells d) 24) (by simp))
    replace HB := Lib.hid (below_al HB.out (.cells (wcells d) 24))
    replace Gn := Lib.hid (keepAl (o' := .cells (wcells 0) 24) Gn.out)
    replace Gd := Lib.hid (keepAl (o' := .cells (wcells 0) 24) Gd.out)
    have Gx := Lib.hid (alloc_new' (w := ((w).alloc (.cells (wcells n) 24)).alloc (.cells (wcells d) 24)) (n := w.heap.size + 1 + 1) (.cells (wcells 0) 24) (by simp))
    replace HB := Lib.hid (below_al HB.out (.cells (wcells 0) 24))
    replace Gn := Lib.hid (keepAl (o' := .cells (wcells 0) 24) Gn.out)
    replace Gd := Lib.hid (keepAl (o' := .cells (wcells 0) 24) Gd.out)
    replace Gx := Lib.hid (keepAl (o' := .cells (wcells 0) 24) Gx.out)
    have Gy := Lib.hid (alloc_new' (w := (((w).alloc (.cells (wcells n) 24)).alloc (.cells (wcells d) 24)).alloc (.cells (wcells 0) 24)) (n := w.heap.size + 1 + 1 + 1) (.cells (wcells 0) 24) (by simp))
    replace HB := Lib.hid (below_al HB.out (.cells (wcells 0) 24))
    have cGn := cell_row Gn.out
    have cGd := cell_row Gd.out
    have cGx := cell_row Gx.out
    have cGy := cell_row Gy.out
    go_wp2_with fail
    refine (S1.out _).mono ?_
    rintro e w3 ⟨rfl, hb⟩
    clear cGn cGd cGx cGy
    replace HB := Lib.hid (below_then HB.out hb)
    replace Gn := Lib.hid ((hb.block _ (lt_of_heap Gn.out)).trans Gn.out)
    replace Gd := Lib.hid ((hb.block _ (lt_of_heap Gd.out)).trans Gd.out)
    replace Gx := Lib.hid ((hb.block _ (lt_of_heap Gx.out)).trans Gx.out)
    replace Gy := Lib.hid ((hb.block _ (lt_of_heap Gy.out)).trans Gy.out)
    clear hb
    have HZ := Lib.hid (lt_of_heap Gy.out)
    have stx := st_row (P := Tryd.prog) Gx.out rfl (0)
    replace Gn := Lib.hid ((setRow_other (w3) (w.heap.size + 1 + 1) _ (wcells (0)) (by (have := HZ.out; omega))).trans Gn.out)
    replace Gd := Lib.hid ((setRow_other (w3) (w.heap.size + 1 + 1) _ (wcells (0)) (by (have := HZ.out; omega))).trans Gd.out)
    replace Gy := Lib.hid ((setRow_other (w3) (w.heap.size + 1 + 1) _ (wcells (0)) (by (have := HZ.out; omega))).trans Gy.out)
    replace Gx := Lib.hid (setRow_heap (w3) (w.heap.size + 1 + 1) _ (wcells (0)) _ _ Gx.out)
    replace HB := Lib.hid (below_setRow' HB.out (show _ ≤ w.heap.size + 1 + 1 by (have := HZ.out; omega)) (wcells (0)))
    have q1 := stx
    clear stx
    have sty := st_row (P := Tryd.prog) Gy.out rfl (0)
    replace Gn := Lib.hid ((setRow_other ((w3).setRow (w.heap.size + 1 + 1) (wcells (0))) (w.heap.size + 1 + 1 + 1) _ (wcells (0)) (by (have := HZ.out; omega))).trans Gn.out)
    replace Gd := Lib.hid ((setRow_other ((w3).setRow (w.heap.size + 1 + 1) (wcells (0))) (w.heap.size + 1 + 1 + 1) _ (wcells (0)) (by (have := HZ.out; omega))).trans Gd.out)
    replace Gx := Lib.hid ((setRow_other ((w3).setRow (w.heap.size + 1 + 1) (wcells (0))) (w.heap.size + 1 + 1 + 1) _ (wcells (0)) (by (have := HZ.out; omega))).trans Gx.out)
    replace Gy := Lib.hid (setRow_heap ((w3).setRow (w.heap.size + 1 + 1) (wcells (0))) (w.heap.size + 1 + 1 + 1) _ (wcells (0)) _ _ Gy.out)
    replace HB := Lib.hid (below_setRow' HB.out (show _ ≤ w.heap.size + 1 + 1 + 1 by (have := HZ.out; omega)) (wcells (0)))
    have c1 := cell_row Gx.out
    have c2 := cell_row Gy.out
    go_wp2
    exact bodyPost_ret (v := .tuple #[wv 0, wv 0, .int .i64 E]) (by simp [results, Tryd.results35, go_sem, c1, c2]) rfl ⟨rfl, HB.out⟩
end Go.Proofs.YtffengboblekpaaDoor
