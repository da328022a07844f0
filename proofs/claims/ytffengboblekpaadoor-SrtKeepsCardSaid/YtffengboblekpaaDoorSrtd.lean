/- THE WALK of srt: what is left behind some steps. -/
import Derived.Test.YtffengboblekpaaDoorSrtb
namespace Go.Proofs.YtffengboblekpaaDoor
open Go Go.RowKit

attribute [local go_sem ↓] Go.wp_at_zero Go.wp_at_succ
set_option maxRecDepth 100000 in
set_option maxHeartbeats 1000000 in
theorem leftFunT_any (Mb Ob o L : Nat) (p m d : Int) (w : World) (hw : IntKind.i64.wrap (65 - m) = 65 - m) (hm : w.heap[Mb]? = some (.cells #[.int .i64 m] 3 (0, 0))) (ho : w.heap[Ob]? = some (.cells (wcells o) 24 (0, 0))) :
    Calls Tryd.prog 61 #[.agg (tcells p d L), .pointer (some ⟨Mb, 0, none⟩), .pointer (some ⟨Ob, 0, none⟩)] w fun e w' => e = .returned (.bool (decide (¬ p < 65 - m))) ∧ w'.heap[Ob]? = some (.cells (wcells (if p < 65 - m then o else L)) 24 (0, 0)) ∧ But (fun k => k = Ob) w w' := by
  have Gm := Lib.hid hm
  have Go := Lib.hid ho
  have hlt := lt_of_heap ho
  have hlm := lt_of_heap hm
  clear hm ho
  by_cases h : p < 65 - m
  · rw [decide_eq_false (not_not_intro h), if_pos h]
    have h2 := decide_eq_true h
    clear h
    go_enter Tryd.func61, Tryd.ntmps61
    have UB := Lib.hid (But.refl (fun k => k = Ob) w)
    replace Gm := Lib.hid (keepAl (o' := .cells (tcells p d L) 90) Gm.out)
    replace Go := Lib.hid (keepAl (o' := .cells (tcells p d L) 90) Go.out)
    have Gs := Lib.hid (alloc_new (w) (.cells (tcells p d L) 90))
    replace UB := Lib.hid (UB.out.al (.cells (tcells p d L) 90))
    have cGm := cell_row Gm.out
    have cGo := cell_row Go.out
    have cGs := cell_row Gs.out
    go_wp2
    go_ret
    exact ⟨rfl, Go.out, UB.out⟩
  · rw [decide_eq_true h, if_neg h]
    have h2 := decide_eq_false h
    clear h
    go_enter Tryd.func61, Tryd.ntmps61
    have UB := Lib.hid (But.refl (fun k => k = Ob) w)
    replace Gm := Lib.hid (keepAl (o' := .cells (tcells p d L) 90) Gm.out)
    replace Go := Lib.hid (keepAl (o' := .cells (tcells p d L) 90) Go.out)
    have Gs := Lib.hid (alloc_new (w) (.cells (tcells p d L) 90))
    replace UB := Lib.hid (UB.out.al (.cells (tcells p d L) 90))
    have cm := cell_row Gm.out
    have cs := cell_row Gs.out
    have sto := st_row (P := Tryd.prog) Go.out rfl (L)
    replace Gs := Lib.hid ((setRow_other ((w).alloc (.cells (tcells p d L) 90)) (Ob) _ (wcells (L)) (by (omega))).trans Gs.out)
    replace Go := Lib.hid (setRow_heap ((w).alloc (.cells (tcells p d L) 90)) (Ob) _ (wcells (L)) _ _ Go.out)
    replace UB := Lib.hid (But.row UB.out (by first | exact Or.inl rfl | exact Or.inr rfl | exact rfl) (wcells (L)))
    go_wp2
    go_ret
    exact ⟨rfl, Go.out, UB.out⟩
theorem enters_leftT : Enters Tryd.prog 61 := fun args w => by simp [go_sem]
structure LeftInT (N D Mb Ob m : Nat) (r : Int) (wq : World) (i : Nat) (w' : World) : Prop where
  hm : w'.heap[Mb]? = some (.cells #[.int .i64 (m : Int)] 3 (0, 0))
  ho : w'.heap[Ob]? = some (.cells (wcells (toW (sLeft N D r (min i m)))) 24 (0, 0))
  but : But (fun k => k = Ob ∨ wq.heap.size ≤ k) wq w'
set_option maxRecDepth 100000 in
set_option maxHeartbeats 1000000 in
theorem leftRunT_any (N D Mb Ob m : Nat) (w : World) (hm65 : m ≤ 65) (hD1 : P2 127 ≤ D) (hD2 : D < P2 128) (hND : N < D * P2 128) (hL : Laid w) (hg : 1 < Ob) (hne : Mb ≠ Ob) (hMb : Mb < w.heap.size) (hOb : Ob < w.heap.size) (hM : w.heap[Mb]? = some (.cells #[.int .i64 (m : Int)] 3 (0, 0))) (hO : w.heap[Ob]? = some (.cells (wcells N) 24 (0, 0))) :
    Calls Tryd.prog 50 #[wv N, wv D, .func (.func 61) #[] #[.pointer (some ⟨Mb, 0, none⟩), .pointer (some ⟨Ob, 0, none⟩)]] w fun e w' => e = .returned (.tuple #[]) ∧ w'.heap[Ob]? = some (.cells (wcells (toW (sLeft N D ((rowT D : Nat) : Int) m))) 24 (0, 0)) ∧ But (fun k => k = Ob ∨ w.heap.size ≤ k) w w' := by
  have hlt := hL.lt
  have hNM : N < M := Nat.lt_trans hND (by
    have : D * P2 128 < P2 128 * P2 128 := Nat.mul_lt_mul_of_pos_right hD2 (P2_pos _)
    rw [← P2_add] at this
    have : P2 (128 + 128) < M := by rw [M_eq]; exact P2_lt (by omega)
    omega)
  refine (runT_any 61 #[.pointer (some ⟨Mb, 0, none⟩), .pointer (some ⟨Ob, 0, none⟩)] N D (if m < 65 then m + 1 else 65) (fun i => decide (¬ (64 - (i : Int)) < 65 - (m : Int))) (LeftInT N D Mb Ob m ((rowT D : Nat) : Int) w) w hD1 hD2 hND (by split <;> omega) (by split <;> omega) enters_leftT ?_ ?_ ?_ ?_ ?_ ?_).mono ?_
  · intro i hi
    exact decide_eq_true (by split at hi <;> omega)
  · split
    · right
      exact decide_eq_false (by omega)
    · exact Or.inl rfl
  · intro i w1 h
    exact hL.but h.but (by omega)
  · intro i w1 w2 h hb
    exact ⟨hb.heap h.hm (by omega), hb.heap h.ho (by omega), h.but.trans (hb.mono fun k _ hk => Or.inr (by omega))⟩
  · intro i w' hi hsz h
    have := leftFunT_any Mb Ob (toW (sLeft N D ((rowT D : Nat) : Int) (min i m))) (toW (sLeft N D ((rowT D : Nat) : Int) (i + 1))) (64 - (i : Int)) (m : Int) (sDig N D ((rowT D : Nat) : Int) i) w' (IntWalk.i64_in _ (by omega)) h.hm h.ho
    refine (show Calls Tryd.prog 61 (#[.agg (tcells (64 - (i : Int)) (sDig N D ((rowT D : Nat) : Int) i) (toW (sLeft N D ((rowT D : Nat) : Int) (i + 1))))] ++ #[.pointer (some ⟨Mb, 0, none⟩), .pointer (some ⟨Ob, 0, none⟩)]) w' _ from this).mono ?_
    rintro e w'' ⟨rfl, g1, g2⟩
    refine ⟨rfl, ⟨g2.heap h.hm hne, ?_, h.but.trans (g2.mono fun k _ hk => Or.inl hk)⟩, g2.mono fun k _ hk => ?_⟩
    · rw [g1]
      split
      · rw [show min (i + 1) m = min i m by omega]
      · rw [show min (i + 1) m = i + 1 by omega]
    · subst hk
      omega
  · refine ⟨hM, ?_, But.refl _ _⟩
    rw [Nat.zero_min]
    rwa [show toW (sLeft N D ((rowT D : Nat) : Int) 0) = N from toW_nat hNM]
  · rintro e w' ⟨rfl, h, hsz⟩
    refine ⟨rfl, ?_, h.but⟩
    have := h.ho
    rwa [show min (if m < 65 then m + 1 else 65) m = m by split <;> omega] at this
set_option maxRecDepth 100000 in
set_option maxHeartbeats 2000000 in
theorem leftT_out (n d : Nat) (m : Int) (h : m < 0 ∨ 65 < m) (w : World) :
    Calls Tryd.prog 30 #[wv n, wv d, .int .i64 m] w fun e w' => e = .returned (.tuple #[wv 0, .bool false, .int .i64 4]) ∧ Below w.heap.size w w' := by
  by_cases hr : m < 0
  · have h1 : decide (m < 0) = true := decide_eq_true hr
    clear h hr
    go_enter Tryd.func30, Tryd.ntmps30
    have HB := Lib.hid (Below.refl w.heap.size w)
    have Gn := Lib.hid (alloc_new (w) (.cells (wcells n) 24))
    replace HB := Lib.hid (below_al HB.out (.cells (wcells n) 24))
    replace Gn := Lib.hid (keepAl (o' := .cells (wcells d) 24) Gn.out)
    have Gd := Lib.hid (alloc_new' (w := (w).alloc (.cells (wcells n) 24)) (n := w.heap.size + 1) (.cells (wcells d) 24) (by simp))
    replace HB := Lib.hid (below_al HB.out (.cells (wcells d) 24))
    replace Gn := Lib.hid (keepAl (o' := .cells #[.int .i64 m] 3) Gn.out)
    replace Gd := Lib.hid (keepAl (o' := .cells #[.int .i64 m] 3) Gd.out)
    have Gm := Lib.hid (alloc_new' (w := ((w).alloc (.cells (wcells n) 24)).alloc (.cells (wcells d) 24)) (n := w.heap.size + 1 + 1) (.cells #[.int .i64 m] 3) (by simp))
    replace HB := Lib.hid (below_al HB.out (.cells #[.int .i64 m] 3))
    replace Gn := Lib.hid (keepAl (o' := .cells (wcells 0) 24) Gn.out)
    replace Gd := Lib.hid (keepAl (o' := .cells (wcells 0) 24) Gd.out)
    replace Gm := Lib.hid (keepAl (o' := .cells (wcells 0) 24) Gm.out)
    have Go := Lib.hid (alloc_new' (w := (((w).alloc (.cells (wcells n) 24)).alloc (.cells (wcells d) 24)).alloc (.cells #[.int .i64 m] 3)) (n := w.heap.size + 1 + 1 + 1) (.cells (wcells 0) 24) (by simp))
    replace HB := Lib.hid (below_al HB.out (.cells (wcells 0) 24))
    have cGn := cell_row Gn.out
    have cGd := cell_row Gd.out
    have cGm := cell_row Gm.out
    have cGo := cell_row Go.out
    clear cGn cGd cGm cGo
    have sto := st_row (P := Tryd.prog) Go.out rfl (0)
    replace Gn := Lib.hid ((setRow_other (((((w).alloc (.cells (wcells n) 24)).alloc (.cells (wcells d) 24)).alloc (.cells #[.int .i64 m] 3)).alloc (.cells (wcells 0) 24)) (w.heap.size + 1 + 1 + 1) _ (wcells (0)) (by (omega))).trans Gn.out)
    replace Gd := Lib.hid ((setRow_other (((((w).alloc (.cells (wcells n) 24)).alloc (.cells (wcells d) 24)).alloc (.cells #[.int .i64 m] 3)).alloc (.cells (wcells 0) 24)) (w.heap.size + 1 + 1 + 1) _ (wcells (0)) (by (omega))).trans Gd.out)
    replace Gm := Lib.hid ((setRow_other (((((w).alloc (.cells (wcells n) 24)).alloc (.cells (wcells d) 24)).alloc (.cells #[.int .i64 m] 3)).alloc (.cells (wcells 0) 24)) (w.heap.size + 1 + 1 + 1) _ (wcells (0)) (by (omega))).trans Gm.out)
    replace Go := Lib.hid (setRow_heap (((((w).alloc (.cells (wcells n) 24)).alloc (.cells (wcells d) 24)).alloc (.cells #[.int .i64 m] 3)).alloc (.cells (wcells 0) 24)) (w.heap.size + 1 + 1 + 1) _ (wcells (0)) _ _ Go.out)
    replace HB := Lib.hid (below_setRow' HB.out (show _ ≤ w.heap.size + 1 + 1 + 1 by (omega)) (wcells (0)))
    have cGn := cell_row Gn.out
    have cGd := cell_row Gd.out
    have cGm := cell_row Gm.out
    have cGo := cell_row Go.out
    go_wp2
    exact bodyPost_ret (v := .tuple #[wv 0, .bool false, .int .i64 4]) (res_ctt Tryd.results30 _ _ _ _ _ _ _ _ rfl rfl rfl Go.out aggW) rfl ⟨rfl, HB.out⟩
  · have hr2 : 65 < m := by omega
    have h1 : decide (m < 0) = false := decide_eq_false hr
    have h2 : decide (65 < m) = true := decide_eq_true hr2
    clear h hr hr2
    go_enter Tryd.func30, Tryd.ntmps30
    have HB := Lib.hid (Below.refl w.heap.size w)
    have Gn := Lib.hid (alloc_new (w) (.cells (wcells n) 24))
    replace HB := Lib.hid (below_al HB.out (.cells (wcells n) 24))
    replace Gn := Lib.hid (keepAl (o' := .cells (wcells d) 24) Gn.out)
    have Gd := Lib.hid (alloc_new' (w := (w).alloc (.cells (wcells n) 24)) (n := w.heap.size + 1) (.cells (wcells d) 24) (by simp))
    replace HB := Lib.hid (below_al HB.out (.cells (wcells d) 24))
    replace Gn := Lib.hid (keepAl (o' := .cells #[.int .i64 m] 3) Gn.out)
    replace Gd := Lib.hid (keepAl (o' := .cells #[.int .i64 m] 3) Gd.out)
    have Gm := Lib.hid (alloc_new' (w := ((w).alloc (.cells (wcells n) 24)).alloc (.cells (wcells d) 24)) (n := w.heap.size + 1 + 1) (.cells #[.int .i64 m] 3) (by simp))
    replace HB := Lib.hid (below_al HB.out (.cells #[.int .i64 m] 3))
    replace Gn := Lib.hid (keepAl (o' := .cells (wcells 0) 24) Gn.out)
    replace Gd := Lib.hid (keepAl (o' := .cells (wcells 0) 24) Gd.out)
    replace Gm := Lib.hid (keepAl (o' := .cells (wcells 0) 24) Gm.out)
    have Go := Lib.hid (alloc_new' (w := (((w).alloc (.cells (wcells n) 24)).alloc (.cells (wcells d) 24)).alloc (.cells #[.int .i64 m] 3)) (n := w.heap.size + 1 + 1 + 1) (.cells (wcells 0) 24) (by simp))
    replace HB := Lib.hid (below_al HB.out (.cells (wcells 0) 24))
    have cGn := cell_row Gn.out
    have cGd := cell_row Gd.out
    have cGm := cell_row Gm.out
    have cGo := cell_row Go.out
    clear cGn cGd cGm cGo
    have sto := st_row (P := Tryd.prog) Go.out rfl (0)
    replace Gn := Lib.hid ((setRow_other (((((w).alloc (.cells (wcells n) 24)).alloc (.cells (wcells d) 24)).alloc (.cells #[.int .i64 m] 3)).alloc (.cells (wcells 0) 24)) (w.heap.size + 1 + 1 + 1) _ (wcells (0)) (by (omega))).trans Gn.out)
    replace Gd := Lib.hid ((setRow_other (((((w).alloc (.cells (wcells n) 24)).alloc (.cells (wcells d) 24)).alloc (.cells #[.int .i64 m] 3)).alloc (.cells (wcells 0) 24)) (w.heap.size + 1 + 1 + 1) _ (wcells (0)) (by (omega))).trans Gd.out)
    replace Gm := Lib.hid ((setRow_other (((((w).alloc (.cells (wcells n) 24)).alloc (.cells (wcells d) 24)).alloc (.cells #[.int .i64 m] 3)).alloc (.cells (wcells 0) 24)) (w.heap.size + 1 + 1 + 1) _ (wcells (0)) (by (omega))).trans Gm.out)
    replace Go := Lib.hid (setRow_heap (((((w).alloc (.cells (wcells n) 24)).alloc (.cells (wcells d) 24)).alloc (.cells #[.int .i64 m] 3)).alloc (.cells (wcells 0) 24)) (w.heap.size + 1 + 1 + 1) _ (wcells (0)) _ _ Go.out)
    replace HB := Lib.hid (below_setRow' HB.out (show _ ≤ w.heap.size + 1 + 1 + 1 by (omega)) (wcells (0)))
    have cGn := cell_row Gn.out
    have cGd := cell_row Gd.out
    have cGm := cell_row Gm.out
    have cGo := cell_row Go.out
    go_wp2
    exact bodyPost_ret (v := .tuple #[wv 0, .bool false, .int .i64 4]) (res_ctt Tryd.results30 _ _ _ _ _ _ _ _ rfl rfl rfl Go.out aggW) rfl ⟨rfl, HB.out⟩
set_option maxRecDepth 100000 in
set_option maxHeartbeats 2000000 in
theorem leftT_no (n d : Nat) (m : Int) (hn : n < M) (hd : d < M) (hm : mayN n d ≠ 0) (hr1 : ¬ m < 0) (hr2 : ¬ 65 < m) (w : World) :
    Calls Tryd.prog 30 #[wv n, wv d, .int .i64 m] w fun e w' => e = .returned (.tuple #[wv 0, .bool false, .int .i64 (mayN n d)]) ∧ Below w.heap.size w w' := by
  have S1 := Lib.hid (fun w' => may_w n d hn hd w')
  obtain ⟨E, hE⟩ : ∃ x, x = mayN n d := ⟨_, rfl⟩
  rw [← hE] at S1 hm ⊢
  have hb : (E == 0) = false := by simp [hm]
  have h1 : decide (m < 0) = false := decide_eq_false hr1
  have h2 : decide (65 < m) = false := decide_eq_false hr2
  clear hn hd hE hr1 hr2
  go_enter Tryd.func30, Tryd.ntmps30
  have HB := Lib.hid (Below.refl w.heap.size w)
  have Gn := Lib.hid (alloc_new (w) (.cells (wcells n) 24))
  replace HB := Lib.hid (below_al HB.out (.cells (wcells n) 24))
  replace Gn := Lib.hid (keepAl (o' := .cells (wcells d) 24) Gn.out)
  have Gd := Lib.hid (alloc_new' (w := (w).alloc (.cells (wcells n) 24)) (n := w.heap.size + 1) (.cells (wcells d) 24) (by simp))
  replace HB := Lib.hid (below_al HB.out (.cells (wcells d) 24))
  replace Gn := Lib.hid (keepAl (o' := .cells #[.int .i64 m] 3) Gn.out)
  replace Gd := Lib.hid (keepAl (o' := .cells #[.int .i64 m] 3) Gd.out)
  have Gm := Lib.hid (alloc_new' (w := ((w).alloc (.cells (wcells n) 24)).alloc (.cells (wcells d) 24)) (n := w.heap.size + 1 + 1) (.cells #[.int .i64 m] 3) (by simp))
  replace HB := Lib.hid (below_al HB.out (.cells #[.int .i64 m] 3))
  replace Gn := Lib.hid (keepAl (o' := .cells (wcells 0) 24) Gn.out)
  replace Gd := Lib.hid (keepAl (o' := .cells (wcells 0) 24) Gd.out)
  replace Gm := Lib.hid (keepAl (o' := .cells (wcells 0) 24) Gm.out)
  have Go := Lib.hid (alloc_new' (w := (((w).alloc (.cells (wcells n) 24)).alloc (.cells (wcells d) 24)).alloc (.cells #[.int .i64 m] 3)) (n := w.heap.size + 1 + 1 + 1) (.cells (wcells 0) 24) (by simp))
  replace HB := Lib.hid (below_al HB.out (.cells (wcells 0) 24))
  have cGn := cell_row Gn.out
  have cGd := cell_row Gd.out
  have cGm := cell_row Gm.out
  have cGo := cell_row Go.out
  go_wp2_with fail
  refine (S1.out _).mono ?_
  rintro e w1 ⟨rfl, hb⟩
  clear cGn cGd cGm cGo
  replace HB := Lib.hid (below_then HB.out hb)
  replace Gn := Lib.hid ((hb.block _ (lt_of_heap Gn.out)).trans Gn.out)
  replace Gd := Lib.hid ((hb.block _ (lt_of_heap Gd.out)).trans Gd.out)
  replace Gm := Lib.hid ((hb.block _ (lt_of_heap Gm.out)).trans Gm.out)
  replace Go := Lib.hid ((hb.block _ (lt_of_heap Go.out)).trans Go.out)
  clear hb
  have HZ := Lib.hid (lt_of_heap Go.out)
  have sto := st_row (P := Tryd.prog) Go.out rfl (0)
  replace Gn := Lib.hid ((setRow_other (w1) (w.heap.size + 1 + 1 + 1) _ (wcells (0)) (by (have := HZ.out; omega))).trans Gn.out)
  replace Gd := Lib.hid ((setRow_other (w1) (w.heap.size + 1 + 1 + 1) _ (wcells (0)) (by (have := HZ.out; omega))).trans Gd.out)
  replace Gm := Lib.hid ((setRow_other (w1) (w.heap.size + 1 + 1 + 1) _ (wcells (0)) (by (have := HZ.out; omega))).trans Gm.out)
  replace Go := Lib.hid (setRow_heap (w1) (w.heap.size + 1 + 1 + 1) _ (wcells (0)) _ _ Go.out)
  replace HB := Lib.hid (below_setRow' HB.out (show _ ≤ w.heap.size + 1 + 1 + 1 by (have := HZ.out; omega)) (wcells (0)))
  have cGn := cell_row Gn.out
  have cGd := cell_row Gd.out
  have cGm := cell_row Gm.out
  have cGo := cell_row Go.out
  go_wp2
  exact bodyPost_ret (v := .tuple #[wv 0, .bool false, .int .i64 E]) (res_ctt Tryd.results30 _ _ _ _ _ _ _ _ rfl rfl rfl Go.out aggW) rfl ⟨rfl, HB.out⟩
set_option maxRecDepth 100000 in
set_option maxHeartbeats 4000000 in
theorem leftT_yes (n d m : Nat) (hn : n < M) (hd : d < M) (hm : mayN n d = 0) (h65 : m ≤ 65) (w : World) (hL : Laid w) :
    ∃ z, z = sLeft (n * P2 (128 - blen d)) (d * P2 (128 - blen d)) ((rowT (d * P2 (128 - blen d)) : Nat) : Int) m ∧
    Calls Tryd.prog 30 #[wv n, wv d, .int .i64 (m : Int)] w fun e w' => e = .returned (.tuple #[wv z.natAbs, .bool (decide (z < 0)), .int .i64 0]) ∧ Below w.heap.size w w' := by
  refine ⟨_, rfl, ?_⟩
  have S1 := Lib.hid (fun w' => may_w n d hn hd w')
  rw [hm] at S1
  have S3 := Lib.hid (fun w' => shiftedT_w n d hm w')
  obtain ⟨r1, r2, r3, _, _⟩ := shift_range hm
  obtain ⟨D, hD⟩ : ∃ X, X = d * P2 (128 - blen d) := ⟨_, rfl⟩
  rw [← hD] at S3 r1 r2 r3 ⊢
  obtain ⟨N, hN⟩ : ∃ X, X = n * P2 (128 - blen d) := ⟨_, rfl⟩
  rw [← hN] at S3 r3 ⊢
  obtain ⟨k, hke⟩ : ∃ X, X = 128 - blen d := ⟨_, rfl⟩
  rw [← hke] at S3
  have S2 := Lib.hid (fun Mb Ob w' hL hg hne hMb hOb hM hO => leftRunT_any N D Mb Ob m w' h65 r1 r2 r3 hL hg hne hMb hOb hM hO)
  obtain ⟨hf, _⟩ := fit_of r1 r2
  have hs := sLeft_small hf r3 r2 m h65
  obtain ⟨z, hz⟩ : ∃ z, z = sLeft N D ((rowT D : Nat) : Int) m := ⟨_, rfl⟩
  rw [← hz] at S2 hs ⊢
  have h511 : P2 260 ≤ P2 511 := P2_le (by omega)
  have S4 := Lib.hid (fun w' => minus_w (toW z) (toW_lt _) w')
  rw [minus_toW (by omega) (by omega)] at S4
  have S5 := Lib.hid (fun w' => neg_w (toW z) (toW_lt _) w')
  rw [neg_toW] at S5
  have h1 : decide ((m : Int) < 0) = false := decide_eq_false (by omega)
  have h2 : decide (65 < (m : Int)) = false := decide_eq_false (by omega)
  have hzM : z.natAbs < M := by rw [M_eq]; have : P2 511 < P2 512 := P2_lt (by omega); omega
  have hpos : ¬ z < 0 → toW z = z.natAbs := fun h => by
    have := toW_nat hzM
    rwa [show ((z.natAbs : Nat) : Int) = z by omega] at this
  have hneg : z < 0 → toW (-z) = z.natAbs := fun h => by
    have := toW_nat hzM
    rwa [show ((z.natAbs : Nat) : Int) = -z by omega] at this
  obtain ⟨Z, hZ⟩ : ∃ Z, Z = toW z := ⟨_, rfl⟩
  rw [← hZ] at S2 S4 S5 hpos
  obtain ⟨Y, hY⟩ : ∃ Z, Z = toW (-z) := ⟨_, rfl⟩
  rw [← hY] at S5 hneg
  have HG := Lib.hid hL.lt
  have KL := Lib.hid hL
  obtain ⟨b, hb⟩ : ∃ b, b = decide (z < 0) := ⟨_, rfl⟩
  rw [← hb] at S4 ⊢
  have HP : Hid (b = false → Z = z.natAbs) := Lib.hid fun h => hpos (by rw [h] at hb; exact of_decide_eq_false hb.symm)
  have HN : Hid (b = true → Y = z.natAbs) := Lib.hid fun h => hneg (by rw [h] at hb; exact of_decide_eq_true hb.symm)
  obtain ⟨V, hV⟩ : ∃ V, V = z.natAbs := ⟨_, rfl⟩
  rw [← hV] at HP HN ⊢
  clear hn hd hm r1 r2 r3 hD hN hke hL hs hz h511 hzM hpos hneg hZ hY hb hV hf h65
  cases b
  · obtain rfl := HP.out rfl
    go_enter Tryd.func30, Tryd.ntmps30
    have HB := Lib.hid (Below.refl w.heap.size w)
    have Gn := Lib.hid (alloc_new (w) (.cells (wcells n) 24))
    replace HB := Lib.hid (below_al HB.out (.cells (wcells n) 24))
    replace Gn := Lib.hid (keepAl (o' := .cells (wcells d) 24) Gn.out)
    have Gd := Lib.hid (alloc_new' (w := (w).alloc (.cells (wcells n) 24)) (n := w.heap.size + 1) (.cells (wcells d) 24) (by simp))
    replace HB := Lib.hid (below_al HB.out (.cells (wcells d) 24))
    replace Gn := Lib.hid (keepAl (o' := .cells #[.int .i64 (m : Int)] 3) Gn.out)
    replace Gd := Lib.hid (keepAl (o' := .cells #[.int .i64 (m : Int)] 3) Gd.out)
    have Gm := Lib.hid (alloc_new' (w := ((w).alloc (.cells (wcells n) 24)).alloc (.cells (wcells d) 24)) (n := w.heap.size + 1 + 1) (.cells #[.int .i64 (m : Int)] 3) (by simp))
    replace HB := Lib.hid (below_al HB.out (.cells #[.int .i64 (m : Int)] 3))
    replace Gn := Lib.hid (keepAl (o' := .cells (wcells 0) 24) Gn.out)
    replace Gd := Lib.hid (keepAl (o' := .cells (wcells 0) 24) Gd.out)
    replace Gm := Lib.hid (keepAl (o' := .cells (wcells 0) 24) Gm.out)
    have Go := Lib.hid (alloc_new' (w := (((w).alloc (.cells (wcells n) 24)).alloc (.cells (wcells d) 24)).alloc (.cells #[.int .i64 (m : Int)] 3)) (n := w.heap.size + 1 + 1 + 1) (.cells (wcells 0) 24) (by simp))
    replace HB := Lib.hid (below_al HB.out (.cells (wcells 0) 24))
    have cGn := cell_row Gn.out
    have cGd := cell_row Gd.out
    have cGm := cell_row Gm.out
    have cGo := cell_row Go.out
    go_wp2_with fail
    refine (S1.out _).mono ?_
    rintro e w2 ⟨rfl, hb⟩
    clear cGn cGd cGm cGo
    replace HB := Lib.hid (below_then HB.out hb)
    replace Gn := Lib.hid ((hb.block _ (lt_of_heap Gn.out)).trans Gn.out)
    replace Gd := Lib.hid ((hb.block _ (lt_of_heap Gd.out)).trans Gd.out)
    replace Gm := Lib.hid ((hb.block _ (lt_of_heap Gm.out)).trans Gm.out)
    replace Go := Lib.hid ((hb.block _ (lt_of_heap Go.out)).trans Go.out)
    clear hb
    have cGn := cell_row Gn.out
    have cGd := cell_row Gd.out
    have cGm := cell_row Gm.out
    have cGo := cell_row Go.out
    go_wp2_with fail
    refine (S3.out _).mono ?_
    rintro e w3 ⟨rfl, hb⟩
    clear cGn cGd cGm cGo
    replace HB := Lib.hid (below_then HB.out hb)
    replace Gn := Lib.hid ((hb.block _ (lt_of_heap Gn.out)).trans Gn.out)
    replace Gd := Lib.hid ((hb.block _ (lt_of_heap Gd.out)).trans Gd.out)
    replace Gm := Lib.hid ((hb.block _ (lt_of_heap Gm.out)).trans Gm.out)
    replace Go := Lib.hid ((hb.block _ (lt_of_heap Go.out)).trans Go.out)
    clear hb
    have HZ := Lib.hid (lt_of_heap Go.out)
    have stn := st_row (P := Tryd.prog) Gn.out rfl (N)
    replace Gd := Lib.hid ((setRow_other (w3) (w.heap.size) _ (wcells (N)) (by (have := HZ.out; omega))).trans Gd.out)
    replace Gm := Lib.hid ((setRow_other (w3) (w.heap.size) _ (wcells (N)) (by (have := HZ.out; omega))).trans Gm.out)
    replace Go := Lib.hid ((setRow_other (w3) (w.heap.size) _ (wcells (N)) (by (have := HZ.out; omega))).trans Go.out)
    replace Gn := Lib.hid (setRow_heap (w3) (w.heap.size) _ (wcells (N)) _ _ Gn.out)
    replace HB := Lib.hid (below_setRow' HB.out (show _ ≤ w.heap.size by (have := HZ.out; omega)) (wcells (N)))
    have q1 := stn
    clear stn
    have std := st_row (P := Tryd.prog) Gd.out rfl (D)
    replace Gn := Lib.hid ((setRow_other ((w3).setRow (w.heap.size) (wcells (N))) (w.heap.size + 1) _ (wcells (D)) (by (have := HZ.out; omega))).trans Gn.out)
    replace Gm := Lib.hid ((setRow_other ((w3).setRow (w.heap.size) (wcells (N))) (w.heap.size + 1) _ (wcells (D)) (by (have := HZ.out; omega))).trans Gm.out)
    replace Go := Lib.hid ((setRow_other ((w3).setRow (w.heap.size) (wcells (N))) (w.heap.size + 1) _ (wcells (D)) (by (have := HZ.out; omega))).trans Go.out)
    replace Gd := Lib.hid (setRow_heap ((w3).setRow (w.heap.size) (wcells (N))) (w.heap.size + 1) _ (wcells (D)) _ _ Gd.out)
    replace HB := Lib.hid (below_setRow' HB.out (show _ ≤ w.heap.size + 1 by (have := HZ.out; omega)) (wcells (D)))
    have cGn := cell_row Gn.out
    have cGd := cell_row Gd.out
    have cGm := cell_row Gm.out
    have cGo := cell_row Go.out
    go_upto_region 7 with fail
    clear cGn cGd cGm cGo std
    obtain ⟨wu, hw⟩ : ∃ wx, wx = ((w3).setRow (w.heap.size) (wcells (N))).setRow (w.heap.size + 1) (wcells (D)) := ⟨_, rfl⟩
    rw [← hw] at Gn Gd Gm Go HB ⊢
    clear hw
    have HZ2 := Lib.hid (lt_of_heap Go.out)
    have q2 := cell_row Gn.out
    replace Gn := Lib.hid (keepAl (o' := .cells (wcells N) 24) Gn.out)
    replace Gd := Lib.hid (keepAl (o' := .cells (wcells N) 24) Gd.out)
    replace Gm := Lib.hid (keepAl (o' := .cells (wcells N) 24) Gm.out)
    replace Go := Lib.hid (keepAl (o' := .cells (wcells N) 24) Go.out)
    have Gl := Lib.hid (alloc_new (wu) (.cells (wcells N) 24))
    replace HB := Lib.hid (below_al HB.out (.cells (wcells N) 24))
    have cGn := cell_row Gn.out
    have cGd := cell_row Gd.out
    have cGm := cell_row Gm.out
    have cGo := cell_row Go.out
    have cGl := cell_row Gl.out
    go_wp2_with fail
    clear cGn cGd cGm cGo cGl
    obtain ⟨E, hE⟩ : ∃ E, E = wu.heap.size := ⟨_, rfl⟩
    have HE := Lib.hid (show w.heap.size + 1 + 1 + 1 < E by have := HZ2.out; omega)
    rw [← hE] at Gl ⊢
    clear hE q2
    obtain ⟨wq, hw⟩ : ∃ wx, wx = (wu).alloc (.cells (wcells N) 24) := ⟨_, rfl⟩
    rw [← hw] at Gn Gd Gm Go Gl HB ⊢
    clear hw
    refine (S2.out _ E _ (KL.out.older HB.out) (by have := HE.out; have := HG.out; omega) (by have := HE.out; omega) (lt_of_heap Gm.out) (lt_of_heap Gl.out) Gm.out Gl.out).mono ?_
    rintro e wE ⟨rfl, hp, hbut⟩
    have hz3 := lt_of_heap Gl.out
    have hz4 := HE.out
    have hz5 := lt_of_heap Go.out
    replace HB := Lib.hid (But.below HB.out hbut HB.out.size (fun i hi => by omega))
    replace Go := Lib.hid (hbut.heap Go.out (by omega))
    replace Gl := Lib.hid hp
    clear hbut hp hz3 hz4 hz5 Gn Gm Gd
    have cGo := cell_row Go.out
    have cGl := cell_row Gl.out
    go_wp2_with fail
    refine (S4.out _).mono ?_
    rintro e w4 ⟨rfl, hb⟩
    clear cGo cGl
    replace HB := Lib.hid (below_then HB.out hb)
    replace Go := Lib.hid ((hb.block _ (lt_of_heap Go.out)).trans Go.out)
    replace Gl := Lib.hid ((hb.block _ (lt_of_heap Gl.out)).trans Gl.out)
    clear hb
    have cl := cell_row Gl.out
    have sto := st_row (P := Tryd.prog) Go.out rfl (Z)
    replace Gl := Lib.hid ((setRow_other (w4) (w.heap.size + 1 + 1 + 1) _ (wcells (Z)) (by (have := HE.out; omega))).trans Gl.out)
    replace Go := Lib.hid (setRow_heap (w4) (w.heap.size + 1 + 1 + 1) _ (wcells (Z)) _ _ Go.out)
    replace HB := Lib.hid (below_setRow' HB.out (show _ ≤ w.heap.size + 1 + 1 + 1 by (have := HE.out; omega)) (wcells (Z)))
    have cGo := cell_row Go.out
    have cGl := cell_row Gl.out
    go_wp2
    exact bodyPost_ret (v := .tuple #[wv Z, .bool false, .int .i64 0]) (res_ctt Tryd.results30 _ _ _ _ _ _ _ _ rfl rfl rfl Go.out aggW) rfl ⟨rfl, HB.out⟩
  · obtain rfl := HN.out rfl
    go_enter Tryd.func30, Tryd.ntmps30
    have HB := Lib.hid (Below.refl w.heap.size w)
    have Gn := Lib.hid (alloc_new (w) (.cells (wcells n) 24))
    replace HB := Lib.hid (below_al HB.out (.cells (wcells n) 24))
    replace Gn := Lib.hid (keepAl (o' := .cells (wcells d) 24) Gn.out)
    have Gd := Lib.hid (alloc_new' (w := (w).alloc (.cells (wcells n) 24)) (n := w.heap.size + 1) (.cells (wcells d) 24) (by simp))
    replace HB := Lib.hid (below_al HB.out (.cells (wcells d) 24))
    replace Gn := Lib.hid (keepAl (o' := .cells #[.int .i64 (m : Int)] 3) Gn.out)
    replace Gd := Lib.hid (keepAl (o' := .cells #[.int .i64 (m : Int)] 3) Gd.out)
    have Gm := Lib.hid (alloc_new' (w := ((w).alloc (.cells (wcells n) 24)).alloc (.cells (wcells d) 24)) (n := w.heap.size + 1 + 1) (.cells #[.int .i64 (m : Int)] 3) (by simp))
    replace HB := Lib.hid (below_al HB.out (.cells #[.int .i64 (m : Int)] 3))
    replace Gn := Lib.hid (keepAl (o' := .cells (wcells 0) 24) Gn.out)
    replace Gd := Lib.hid (keepAl (o' := .cells (wcells 0) 24) Gd.out)
    replace Gm := Lib.hid (keepAl (o' := .cells (wcells 0) 24) Gm.out)
    have Go := Lib.hid (alloc_new' (w := (((w).alloc (.cells (wcells n) 24)).alloc (.cells (wcells d) 24)).alloc (.cells #[.int .i64 (m : Int)] 3)) (n := w.heap.size + 1 + 1 + 1) (.cells (wcells 0) 24) (by simp))
    replace HB := Lib.hid (below_al HB.out (.cells (wcells 0) 24))
    have cGn := cell_row Gn.out
    have cGd := cell_row Gd.out
    have cGm := cell_row Gm.out
    have cGo := cell_row Go.out
    go_wp2_with fail
    refine (S1.out _).mono ?_
    rintro e w5 ⟨rfl, hb⟩
    clear cGn cGd cGm cGo
    replace HB := Lib.hid (below_then HB.out hb)
    replace Gn := Lib.hid ((hb.block _ (lt_of_heap Gn.out)).trans Gn.out)
    replace Gd := Lib.hid ((hb.block _ (lt_of_heap Gd.out)).trans Gd.out)
    replace Gm := Lib.hid ((hb.block _ (lt_of_heap Gm.out)).trans Gm.out)
    replace Go := Lib.hid ((hb.block _ (lt_of_heap Go.out)).trans Go.out)
    clear hb
    have cGn := cell_row Gn.out
    have cGd := cell_row Gd.out
    have cGm := cell_row Gm.out
    have cGo := cell_row Go.out
    go_wp2_with fail
    refine (S3.out _).mono ?_
    rintro e w6 ⟨rfl, hb⟩
    clear cGn cGd cGm cGo
    replace HB := Lib.hid (below_then HB.out hb)
    replace Gn := Lib.hid ((hb.block _ (lt_of_heap Gn.out)).trans Gn.out)
    replace Gd := Lib.hid ((hb.block _ (lt_of_heap Gd.out)).trans Gd.out)
    replace Gm := Lib.hid ((hb.block _ (lt_of_heap Gm.out)).trans Gm.out)
    replace Go := Lib.hid ((hb.block _ (lt_of_heap Go.out)).trans Go.out)
    clear hb
    have HZ := Lib.hid (lt_of_heap Go.out)
    have stn := st_row (P := Tryd.prog) Gn.out rfl (N)
    replace Gd := Lib.hid ((setRow_other (w6) (w.heap.size) _ (wcells (N)) (by (have := HZ.out; omega))).trans Gd.out)
    replace Gm := Lib.hid ((setRow_other (w6) (w.heap.size) _ (wcells (N)) (by (have := HZ.out; omega))).trans Gm.out)
    replace Go := Lib.hid ((setRow_other (w6) (w.heap.size) _ (wcells (N)) (by (have := HZ.out; omega))).trans Go.out)
    replace Gn := Lib.hid (setRow_heap (w6) (w.heap.size) _ (wcells (N)) _ _ Gn.out)
    replace HB := Lib.hid (below_setRow' HB.out (show _ ≤ w.heap.size by (have := HZ.out; omega)) (wcells (N)))
    have q1 := stn
    clear stn
    have std := st_row (P := Tryd.prog) Gd.out rfl (D)
    replace Gn := Lib.hid ((setRow_other ((w6).setRow (w.heap.size) (wcells (N))) (w.heap.size + 1) _ (wcells (D)) (by (have := HZ.out; omega))).trans Gn.out)
    replace Gm := Lib.hid ((setRow_other ((w6).setRow (w.heap.size) (wcells (N))) (w.heap.size + 1) _ (wcells (D)) (by (have := HZ.out; omega))).trans Gm.out)
    replace Go := Lib.hid ((setRow_other ((w6).setRow (w.heap.size) (wcells (N))) (w.heap.size + 1) _ (wcells (D)) (by (have := HZ.out; omega))).trans Go.out)
    replace Gd := Lib.hid (setRow_heap ((w6).setRow (w.heap.size) (wcells (N))) (w.heap.size + 1) _ (wcells (D)) _ _ Gd.out)
    replace HB := Lib.hid (below_setRow' HB.out (show _ ≤ w.heap.size + 1 by (have := HZ.out; omega)) (wcells (D)))
    have cGn := cell_row Gn.out
    have cGd := cell_row Gd.out
    have cGm := cell_row Gm.out
    have cGo := cell_row Go.out
    go_upto_region 7 with fail
    clear cGn cGd cGm cGo std
    obtain ⟨wu, hw⟩ : ∃ wx, wx = ((w6).setRow (w.heap.size) (wcells (N))).setRow (w.heap.size + 1) (wcells (D)) := ⟨_, rfl⟩
    rw [← hw] at Gn Gd Gm Go HB ⊢
    clear hw
    have HZ2 := Lib.hid (lt_of_heap Go.out)
    have q2 := cell_row Gn.out
    replace Gn := Lib.hid (keepAl (o' := .cells (wcells N) 24) Gn.out)
    replace Gd := Lib.hid (keepAl (o' := .cells (wcells N) 24) Gd.out)
    replace Gm := Lib.hid (keepAl (o' := .cells (wcells N) 24) Gm.out)
    replace Go := Lib.hid (keepAl (o' := .cells (wcells N) 24) Go.out)
    have Gl := Lib.hid (alloc_new (wu) (.cells (wcells N) 24))
    replace HB := Lib.hid (below_al HB.out (.cells (wcells N) 24))
    have cGn := cell_row Gn.out
    have cGd := cell_row Gd.out
    have cGm := cell_row Gm.out
    have cGo := cell_row Go.out
    have cGl := cell_row Gl.out
    go_wp2_with fail
    clear cGn cGd cGm cGo cGl
    obtain ⟨E, hE⟩ : ∃ E, E = wu.heap.size := ⟨_, rfl⟩
    have HE := Lib.hid (show w.heap.size + 1 + 1 + 1 < E by have := HZ2.out; omega)
    rw [← hE] at Gl ⊢
    clear hE q2
    obtain ⟨wq, hw⟩ : ∃ wx, wx = (wu).alloc (.cells (wcells N) 24) := ⟨_, rfl⟩
    rw [← hw] at Gn Gd Gm Go Gl HB ⊢
    clear hw
    refine (S2.out _ E _ (KL.out.older HB.out) (by have := HE.out; have := HG.out; omega) (by have := HE.out; omega) (lt_of_heap Gm.out) (lt_of_heap Gl.out) Gm.out Gl.out).mono ?_
    rintro e wE ⟨rfl, hp, hbut⟩
    have hz3 := lt_of_heap Gl.out
    have hz4 := HE.out
    have hz5 := lt_of_heap Go.out
    replace HB := Lib.hid (But.below HB.out hbut HB.out.size (fun i hi => by omega))
    replace Go := Lib.hid (hbut.heap Go.out (by omega))
    replace Gl := Lib.hid hp
    clear hbut hp hz3 hz4 hz5 Gn Gm Gd
    have cGo := cell_row Go.out
    have cGl := cell_row Gl.out
    go_wp2_with fail
    refine (S4.out _).mono ?_
    rintro e w7 ⟨rfl, hb⟩
    clear cGo cGl
    replace HB := Lib.hid (below_then HB.out hb)
    replace Go := Lib.hid ((hb.block _ (lt_of_heap Go.out)).trans Go.out)
    replace Gl := Lib.hid ((hb.block _ (lt_of_heap Gl.out)).trans Gl.out)
    clear hb
    have cGo := cell_row Go.out
    have cGl := cell_row Gl.out
    go_wp2_with fail
    refine (S5.out _).mono ?_
    rintro e w8 ⟨rfl, hb⟩
    clear cGo cGl
    replace HB := Lib.hid (below_then HB.out hb)
    replace Go := Lib.hid ((hb.block _ (lt_of_heap Go.out)).trans Go.out)
    replace Gl := Lib.hid ((hb.block _ (lt_of_heap Gl.out)).trans Gl.out)
    clear hb
    have sto := st_row (P := Tryd.prog) Go.out rfl (Y)
    replace Gl := Lib.hid ((setRow_other (w8) (w.heap.size + 1 + 1 + 1) _ (wcells (Y)) (by (have := HE.out; omega))).trans Gl.out)
    replace Go := Lib.hid (setRow_heap (w8) (w.heap.size + 1 + 1 + 1) _ (wcells (Y)) _ _ Go.out)
    replace HB := Lib.hid (below_setRow' HB.out (show _ ≤ w.heap.size + 1 + 1 + 1 by (have := HE.out; omega)) (wcells (Y)))
    have cGo := cell_row Go.out
    have cGl := cell_row Gl.out
    go_wp2
    exact bodyPost_ret (v := .tuple #[wv Y, .bool true, .int .i64 0]) (res_ctt Tryd.results30 _ _ _ _ _ _ _ _ rfl rfl rfl Go.out aggW) rfl ⟨rfl, HB.out⟩
end Go.Proofs.YtffengboblekpaaDoor
