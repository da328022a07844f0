/- THE WALKS of newton, going on: reciprocals, or why there is none; an engine made. -/
import Derived.Test.YtegmmaaapdgocaaNewt3
namespace Go.Proofs.Ytegmmaaapdgocaa
open Go Go.RowKit

theorem normT_some (d : Nat) (hd : d < M) : ∃ (U : Nat) (b : Int), ∀ w : World, Calls Try.prog 40 #[wv d] w fun e w' => e = .returned (.tuple #[wv U, .int .i64 b, .bool (decide (d ≠ 0 ∧ d < P2 120))]) ∧ Below w.heap.size w w' := by
  by_cases h : d ≠ 0 ∧ d < P2 120
  · refine ⟨d * P2 (128 - blen d), ((128 - blen d : Nat) : Int), fun w => ?_⟩
    rw [decide_eq_true h]
    exact normT_yes d h.1 h.2 w
  · refine ⟨0, 0, fun w => ?_⟩
    rw [decide_eq_false h]
    exact normT_no d hd (by by_cases h0 : d = 0; exact Or.inl h0; exact Or.inr fun h1 => h ⟨h0, h1⟩) w
attribute [local go_sem ↓] Go.wp_at_zero Go.wp_at_succ
set_option maxRecDepth 100000 in
set_option maxHeartbeats 2000000 in
theorem recE_nil (d : Nat) (k : Int) (hd : d < M) (w : World) :
    Calls Try.prog 18 #[.pointer none, wv d, .int .i64 k] w fun x w' => x = .returned (.tuple #[wv 0, .int .i64 6]) ∧ Below w.heap.size w w' := by
  obtain ⟨U, b, hN⟩ := normT_some d hd
  have S1 := Lib.hid hN
  obtain ⟨ok, hok⟩ : ∃ x, x = decide (d ≠ 0 ∧ d < P2 120) := ⟨_, rfl⟩
  rw [← hok] at S1
  clear hN hd hok
  go_enter Try.func18, Try.ntmps18
  have HB := Lib.hid (Below.refl w.heap.size w)
  have Gd := Lib.hid (alloc_new (w) (.cells (wcells d) 24))
  replace HB := Lib.hid (below_al HB.out (.cells (wcells d) 24))
  replace Gd := Lib.hid (keepAl (o' := .cells (wcells 0) 24) Gd.out)
  have Go := Lib.hid (alloc_new' (w := (w).alloc (.cells (wcells d) 24)) (n := w.heap.size + 1) (.cells (wcells 0) 24) (by simp))
  replace HB := Lib.hid (below_al HB.out (.cells (wcells 0) 24))
  have cGd := cell_row Gd.out
  have cGo := cell_row Go.out
  go_wp2_with fail
  refine (S1.out _).mono ?_
  rintro e w1 ⟨rfl, hb⟩
  clear cGd cGo
  replace HB := Lib.hid (below_then HB.out hb)
  replace Gd := Lib.hid ((hb.block _ (lt_of_heap Gd.out)).trans Gd.out)
  replace Go := Lib.hid ((hb.block _ (lt_of_heap Go.out)).trans Go.out)
  clear hb
  have HZ := Lib.hid (lt_of_heap Go.out)
  replace Gd := Lib.hid (keepAl (o' := .cells (wcells U) 24) Gd.out)
  replace Go := Lib.hid (keepAl (o' := .cells (wcells U) 24) Go.out)
  have Gu := Lib.hid (alloc_new (w1) (.cells (wcells U) 24))
  replace HB := Lib.hid (below_al HB.out (.cells (wcells U) 24))
  have pd := cell_row Gd.out
  have sto := st_row (P := Try.prog) Go.out rfl (0)
  replace Gd := Lib.hid ((setRow_other ((w1).alloc (.cells (wcells U) 24)) (w.heap.size + 1) _ (wcells (0)) (by (have := HZ.out; omega))).trans Gd.out)
  replace Gu := Lib.hid ((setRow_other ((w1).alloc (.cells (wcells U) 24)) (w.heap.size + 1) _ (wcells (0)) (by (have := HZ.out; omega))).trans Gu.out)
  replace Go := Lib.hid (setRow_heap ((w1).alloc (.cells (wcells U) 24)) (w.heap.size + 1) _ (wcells (0)) _ _ Go.out)
  replace HB := Lib.hid (below_setRow' HB.out (show _ ≤ w.heap.size + 1 by (have := HZ.out; omega)) (wcells (0)))
  have cGd := cell_row Gd.out
  have cGo := cell_row Go.out
  have cGu := cell_row Gu.out
  go_wp2
  exact bodyPost_ret (v := .tuple #[wv 0, .int .i64 6]) (res_ct Try.results18 _ _ _ _ _ _ _ rfl rfl Go.out aggW) rfl ⟨rfl, HB.out⟩
set_option maxRecDepth 100000 in
set_option maxHeartbeats 2000000 in
theorem recE_range (e d : Nat) (k : Int) (hd : d < M) (hk : k < 0 ∨ 10 < k) (w : World) :
    Calls Try.prog 18 #[.pointer (some ⟨e, 0, none⟩), wv d, .int .i64 k] w fun x w' => x = .returned (.tuple #[wv 0, .int .i64 4]) ∧ Below w.heap.size w w' := by
  obtain ⟨U, b, hN⟩ := normT_some d hd
  have S1 := Lib.hid hN
  obtain ⟨ok, hok⟩ : ∃ x, x = decide (d ≠ 0 ∧ d < P2 120) := ⟨_, rfl⟩
  rw [← hok] at S1
  clear hN hd hok
  by_cases h0 : k < 0
  · have h1 : decide (k < 0) = true := decide_eq_true h0
    clear hk h0
    go_enter Try.func18, Try.ntmps18
    have HB := Lib.hid (Below.refl w.heap.size w)
    have Gd := Lib.hid (alloc_new (w) (.cells (wcells d) 24))
    replace HB := Lib.hid (below_al HB.out (.cells (wcells d) 24))
    replace Gd := Lib.hid (keepAl (o' := .cells (wcells 0) 24) Gd.out)
    have Go := Lib.hid (alloc_new' (w := (w).alloc (.cells (wcells d) 24)) (n := w.heap.size + 1) (.cells (wcells 0) 24) (by simp))
    replace HB := Lib.hid (below_al HB.out (.cells (wcells 0) 24))
    have cGd := cell_row Gd.out
    have cGo := cell_row Go.out
    go_wp2_with fail
    refine (S1.out _).mono ?_
    rintro e w2 ⟨rfl, hb⟩
    clear cGd cGo
    replace HB := Lib.hid (below_then HB.out hb)
    replace Gd := Lib.hid ((hb.block _ (lt_of_heap Gd.out)).trans Gd.out)
    replace Go := Lib.hid ((hb.block _ (lt_of_heap Go.out)).trans Go.out)
    clear hb
    have HZ := Lib.hid (lt_of_heap Go.out)
    replace Gd := Lib.hid (keepAl (o' := .cells (wcells U) 24) Gd.out)
    replace Go := Lib.hid (keepAl (o' := .cells (wcells U) 24) Go.out)
    have Gu := Lib.hid (alloc_new (w2) (.cells (wcells U) 24))
    replace HB := Lib.hid (below_al HB.out (.cells (wcells U) 24))
    have pd := cell_row Gd.out
    have sto := st_row (P := Try.prog) Go.out rfl (0)
    replace Gd := Lib.hid ((setRow_other ((w2).alloc (.cells (wcells U) 24)) (w.heap.size + 1) _ (wcells (0)) (by (have := HZ.out; omega))).trans Gd.out)
    replace Gu := Lib.hid ((setRow_other ((w2).alloc (.cells (wcells U) 24)) (w.heap.size + 1) _ (wcells (0)) (by (have := HZ.out; omega))).trans Gu.out)
    replace Go := Lib.hid (setRow_heap ((w2).alloc (.cells (wcells U) 24)) (w.heap.size + 1) _ (wcells (0)) _ _ Go.out)
    replace HB := Lib.hid (below_setRow' HB.out (show _ ≤ w.heap.size + 1 by (have := HZ.out; omega)) (wcells (0)))
    have cGd := cell_row Gd.out
    have cGo := cell_row Go.out
    have cGu := cell_row Gu.out
    go_wp2
    exact bodyPost_ret (v := .tuple #[wv 0, .int .i64 4]) (res_ct Try.results18 _ _ _ _ _ _ _ rfl rfl Go.out aggW) rfl ⟨rfl, HB.out⟩
  · have h1 : decide (k < 0) = false := decide_eq_false h0
    have h2 : decide (10 < k) = true := decide_eq_true (by omega)
    clear hk h0
    go_enter Try.func18, Try.ntmps18
    have HB := Lib.hid (Below.refl w.heap.size w)
    have Gd := Lib.hid (alloc_new (w) (.cells (wcells d) 24))
    replace HB := Lib.hid (below_al HB.out (.cells (wcells d) 24))
    replace Gd := Lib.hid (keepAl (o' := .cells (wcells 0) 24) Gd.out)
    have Go := Lib.hid (alloc_new' (w := (w).alloc (.cells (wcells d) 24)) (n := w.heap.size + 1) (.cells (wcells 0) 24) (by simp))
    replace HB := Lib.hid (below_al HB.out (.cells (wcells 0) 24))
    have cGd := cell_row Gd.out
    have cGo := cell_row Go.out
    go_wp2_with fail
    refine (S1.out _).mono ?_
    rintro e w3 ⟨rfl, hb⟩
    clear cGd cGo
    replace HB := Lib.hid (below_then HB.out hb)
    replace Gd := Lib.hid ((hb.block _ (lt_of_heap Gd.out)).trans Gd.out)
    replace Go := Lib.hid ((hb.block _ (lt_of_heap Go.out)).trans Go.out)
    clear hb
    have HZ := Lib.hid (lt_of_heap Go.out)
    replace Gd := Lib.hid (keepAl (o' := .cells (wcells U) 24) Gd.out)
    replace Go := Lib.hid (keepAl (o' := .cells (wcells U) 24) Go.out)
    have Gu := Lib.hid (alloc_new (w3) (.cells (wcells U) 24))
    replace HB := Lib.hid (below_al HB.out (.cells (wcells U) 24))
    have pd := cell_row Gd.out
    have sto := st_row (P := Try.prog) Go.out rfl (0)
    replace Gd := Lib.hid ((setRow_other ((w3).alloc (.cells (wcells U) 24)) (w.heap.size + 1) _ (wcells (0)) (by (have := HZ.out; omega))).trans Gd.out)
    replace Gu := Lib.hid ((setRow_other ((w3).alloc (.cells (wcells U) 24)) (w.heap.size + 1) _ (wcells (0)) (by (have := HZ.out; omega))).trans Gu.out)
    replace Go := Lib.hid (setRow_heap ((w3).alloc (.cells (wcells U) 24)) (w.heap.size + 1) _ (wcells (0)) _ _ Go.out)
    replace HB := Lib.hid (below_setRow' HB.out (show _ ≤ w.heap.size + 1 by (have := HZ.out; omega)) (wcells (0)))
    have cGd := cell_row Gd.out
    have cGo := cell_row Go.out
    have cGu := cell_row Gu.out
    go_wp2
    exact bodyPost_ret (v := .tuple #[wv 0, .int .i64 4]) (res_ct Try.results18 _ _ _ _ _ _ _ rfl rfl Go.out aggW) rfl ⟨rfl, HB.out⟩
set_option maxRecDepth 100000 in
set_option maxHeartbeats 2000000 in
theorem recE_zero (e : Nat) (k : Int) (h0 : 0 ≤ k) (h1 : k ≤ 10) (w : World) :
    Calls Try.prog 18 #[.pointer (some ⟨e, 0, none⟩), wv 0, .int .i64 k] w fun x w' => x = .returned (.tuple #[wv 0, .int .i64 5]) ∧ Below w.heap.size w w' := by
  have S1 := Lib.hid (fun w' => normT_no 0 M_pos (Or.inl rfl) w')
  have h2 : decide (k < 0) = false := decide_eq_false (by omega)
  have h3 : decide (10 < k) = false := decide_eq_false (by omega)
  obtain ⟨U, hU⟩ : ∃ U : Nat, U = 0 := ⟨_, rfl⟩
  clear hU h0 h1
  go_enter Try.func18, Try.ntmps18
  have HB := Lib.hid (Below.refl w.heap.size w)
  have Gd := Lib.hid (alloc_new (w) (.cells (wcells 0) 24))
  replace HB := Lib.hid (below_al HB.out (.cells (wcells 0) 24))
  replace Gd := Lib.hid (keepAl (o' := .cells (wcells 0) 24) Gd.out)
  have Go := Lib.hid (alloc_new' (w := (w).alloc (.cells (wcells 0) 24)) (n := w.heap.size + 1) (.cells (wcells 0) 24) (by simp))
  replace HB := Lib.hid (below_al HB.out (.cells (wcells 0) 24))
  have cGd := cell_row Gd.out
  have cGo := cell_row Go.out
  go_wp2_with fail
  refine (S1.out _).mono ?_
  rintro e w4 ⟨rfl, hb⟩
  clear cGd cGo
  replace HB := Lib.hid (below_then HB.out hb)
  replace Gd := Lib.hid ((hb.block _ (lt_of_heap Gd.out)).trans Gd.out)
  replace Go := Lib.hid ((hb.block _ (lt_of_heap Go.out)).trans Go.out)
  clear hb
  have HZ := Lib.hid (lt_of_heap Go.out)
  replace Gd := Lib.hid (keepAl (o' := .cells (wcells 0) 24) Gd.out)
  replace Go := Lib.hid (keepAl (o' := .cells (wcells 0) 24) Go.out)
  have Gu := Lib.hid (alloc_new (w4) (.cells (wcells 0) 24))
  replace HB := Lib.hid (below_al HB.out (.cells (wcells 0) 24))
  have pd := cell_row Gd.out
  have sto := st_row (P := Try.prog) Go.out rfl (0)
  replace Gd := Lib.hid ((setRow_other ((w4).alloc (.cells (wcells 0) 24)) (w.heap.size + 1) _ (wcells (0)) (by (have := HZ.out; omega))).trans Gd.out)
  replace Gu := Lib.hid ((setRow_other ((w4).alloc (.cells (wcells 0) 24)) (w.heap.size + 1) _ (wcells (0)) (by (have := HZ.out; omega))).trans Gu.out)
  replace Go := Lib.hid (setRow_heap ((w4).alloc (.cells (wcells 0) 24)) (w.heap.size + 1) _ (wcells (0)) _ _ Go.out)
  replace HB := Lib.hid (below_setRow' HB.out (show _ ≤ w.heap.size + 1 by (have := HZ.out; omega)) (wcells (0)))
  have cGd := cell_row Gd.out
  have cGo := cell_row Go.out
  have cGu := cell_row Gu.out
  go_wp2
  exact bodyPost_ret (v := .tuple #[wv 0, .int .i64 5]) (res_ct Try.results18 _ _ _ _ _ _ _ rfl rfl Go.out aggW) rfl ⟨rfl, HB.out⟩
set_option maxRecDepth 100000 in
set_option maxHeartbeats 2000000 in
theorem recE_great (e d : Nat) (k : Int) (hd : d < M) (h0 : 0 ≤ k) (h1 : k ≤ 10) (hd0 : d ≠ 0) (hg : ¬ d < P2 120) (w : World) :
    Calls Try.prog 18 #[.pointer (some ⟨e, 0, none⟩), wv d, .int .i64 k] w fun x w' => x = .returned (.tuple #[wv 0, .int .i64 4]) ∧ Below w.heap.size w w' := by
  have S1 := Lib.hid (fun w' => normT_no d hd (Or.inr hg) w')
  have h2 : decide (k < 0) = false := decide_eq_false (by omega)
  have h3 : decide (10 < k) = false := decide_eq_false (by omega)
  have hz := isZ_no hd hd0
  clear h0 h1 hd hd0 hg
  go_enter Try.func18, Try.ntmps18
  have HB := Lib.hid (Below.refl w.heap.size w)
  have Gd := Lib.hid (alloc_new (w) (.cells (wcells d) 24))
  replace HB := Lib.hid (below_al HB.out (.cells (wcells d) 24))
  replace Gd := Lib.hid (keepAl (o' := .cells (wcells 0) 24) Gd.out)
  have Go := Lib.hid (alloc_new' (w := (w).alloc (.cells (wcells d) 24)) (n := w.heap.size + 1) (.cells (wcells 0) 24) (by simp))
  replace HB := Lib.hid (below_al HB.out (.cells (wcells 0) 24))
  have cGd := cell_row Gd.out
  have cGo := cell_row Go.out
  go_wp2_with fail
  refine (S1.out _).mono ?_
  rintro e w5 ⟨rfl, hb⟩
  clear cGd cGo
  replace HB := Lib.hid (below_then HB.out hb)
  replace Gd := Lib.hid ((hb.block _ (lt_of_heap Gd.out)).trans Gd.out)
  replace Go := Lib.hid ((hb.block _ (lt_of_heap Go.out)).trans Go.out)
  clear hb
  have HZ := Lib.hid (lt_of_heap Go.out)
  replace Gd := Lib.hid (keepAl (o' := .cells (wcells 0) 24) Gd.out)
  replace Go := Lib.hid (keepAl (o' := .cells (wcells 0) 24) Go.out)
  have Gu := Lib.hid (alloc_new (w5) (.cells (wcells 0) 24))
  replace HB := Lib.hid (below_al HB.out (.cells (wcells 0) 24))
  have pd := cell_row Gd.out
  have sto := st_row (P := Try.prog) Go.out rfl (0)
  replace Gd := Lib.hid ((setRow_other ((w5).alloc (.cells (wcells 0) 24)) (w.heap.size + 1) _ (wcells (0)) (by (have := HZ.out; omega))).trans Gd.out)
  replace Gu := Lib.hid ((setRow_other ((w5).alloc (.cells (wcells 0) 24)) (w.heap.size + 1) _ (wcells (0)) (by (have := HZ.out; omega))).trans Gu.out)
  replace Go := Lib.hid (setRow_heap ((w5).alloc (.cells (wcells 0) 24)) (w.heap.size + 1) _ (wcells (0)) _ _ Go.out)
  replace HB := Lib.hid (below_setRow' HB.out (show _ ≤ w.heap.size + 1 by (have := HZ.out; omega)) (wcells (0)))
  have cGd := cell_row Gd.out
  have cGo := cell_row Go.out
  have cGu := cell_row Gu.out
  go_wp2
  exact bodyPost_ret (v := .tuple #[wv 0, .int .i64 4]) (res_ct Try.results18 _ _ _ _ _ _ _ rfl rfl Go.out aggW) rfl ⟨rfl, HB.out⟩
set_option maxRecDepth 100000 in
set_option maxHeartbeats 2000000 in
theorem recE_yes (e g d k : Nat) (hk : k ≤ 10) (hd0 : d ≠ 0) (hd : d < P2 120) (w : World) (hE : w.heap[e]? = some (.cells #[.pointer (some ⟨g, 0, none⟩)] 103 (0, 0))) (hI : IsRom w g) (hne : e ≠ g) :
    Calls Try.prog 18 #[.pointer (some ⟨e, 0, none⟩), wv d, .int .i64 (k : Int)] w fun x w' => x = .returned (.tuple #[wv (nwY (d * P2 (128 - blen d)) k), .int .i64 0]) ∧ VG g w w' := by
  have hm : mayN 0 d = 0 := may_yes (by omega) hd (Nat.mul_pos (by omega) (P2_pos _))
  obtain ⟨r1, r2, _⟩ := shift_range hm
  have S1 := Lib.hid (fun w' => normT_yes d hd0 hd w')
  have S2 := Lib.hid (fun w' hE hI => recipN_w e g (d * P2 (128 - blen d)) k (up_len hm) r1 r2 hk w' hE hI hne)
  have h2 : decide ((k : Int) < 0) = false := decide_eq_false (by omega)
  have h3 : decide ((10 : Int) < (k : Int)) = false := decide_eq_false (by omega)
  have hz := isZ_no (Nat.lt_trans hd (by rw [M_eq]; exact P2_lt (by omega))) hd0
  obtain ⟨y, hy⟩ : ∃ y, y = nwY (d * P2 (128 - blen d)) k := ⟨_, rfl⟩
  rw [← hy] at S2 ⊢
  obtain ⟨D, hD⟩ : ∃ y, y = d * P2 (128 - blen d) := ⟨_, rfl⟩
  rw [← hD] at S1 S2
  obtain ⟨b, hb⟩ : ∃ y, y = 128 - blen d := ⟨_, rfl⟩
  rw [← hb] at S1
  have VB := Lib.hid (VG.refl hI)
  have Ge := Lib.hid hE
  have HNE := Lib.hid hne
  clear hm hk hd0 hd hE hI hne r1 r2 hy hD hb
  go_enter Try.func18, Try.ntmps18
  replace Ge := Lib.hid (keepAl (o' := .cells (wcells d) 24) Ge.out)
  have Gd := Lib.hid (alloc_new (w) (.cells (wcells d) 24))
  replace VB := Lib.hid (VB.out.al (.cells (wcells d) 24))
  replace Ge := Lib.hid (keepAl (o' := .cells (wcells 0) 24) Ge.out)
  replace Gd := Lib.hid (keepAl (o' := .cells (wcells 0) 24) Gd.out)
  have Go := Lib.hid (alloc_new' (w := (w).alloc (.cells (wcells d) 24)) (n := w.heap.size + 1) (.cells (wcells 0) 24) (by simp))
  replace VB := Lib.hid (VB.out.al (.cells (wcells 0) 24))
  have cGe := cell_row Ge.out
  have cGd := cell_row Gd.out
  have cGo := cell_row Go.out
  go_wp2_with fail
  refine (S1.out _).mono ?_
  rintro e w6 ⟨rfl, hb⟩
  clear cGe cGd cGo
  replace VB := Lib.hid (VB.out.below hb)
  replace Ge := Lib.hid ((hb.block _ (lt_of_heap Ge.out)).trans Ge.out)
  replace Gd := Lib.hid ((hb.block _ (lt_of_heap Gd.out)).trans Gd.out)
  replace Go := Lib.hid ((hb.block _ (lt_of_heap Go.out)).trans Go.out)
  clear hb
  have HZ := Lib.hid (lt_of_heap Go.out)
  replace Ge := Lib.hid (keepAl (o' := .cells (wcells D) 24) Ge.out)
  replace Gd := Lib.hid (keepAl (o' := .cells (wcells D) 24) Gd.out)
  replace Go := Lib.hid (keepAl (o' := .cells (wcells D) 24) Go.out)
  have Gu := Lib.hid (alloc_new (w6) (.cells (wcells D) 24))
  replace VB := Lib.hid (VB.out.al (.cells (wcells D) 24))
  have cGe := cell_row Ge.out
  have cGd := cell_row Gd.out
  have cGo := cell_row Go.out
  have cGu := cell_row Gu.out
  go_wp2_with fail
  refine (S2.out _ Ge.out VB.out.rom).mono ?_
  rintro e w7 ⟨rfl, hv⟩
  clear cGe cGd cGo cGu
  replace Ge := Lib.hid (hv.heap Ge.out (by have := VB.out.lt; (try have := HNE.out); (try have := HZ.out); omega))
  replace Gd := Lib.hid (hv.heap Gd.out (by have := VB.out.lt; (try have := HNE.out); (try have := HZ.out); omega))
  replace Go := Lib.hid (hv.heap Go.out (by have := VB.out.lt; (try have := HNE.out); (try have := HZ.out); omega))
  replace Gu := Lib.hid (hv.heap Gu.out (by have := VB.out.lt; (try have := HNE.out); (try have := HZ.out); omega))
  replace VB := Lib.hid (VB.out.trans hv)
  clear hv
  have sto := st_row (P := Try.prog) Go.out rfl (y)
  replace Go := Lib.hid (setRow_heap (w7) (w.heap.size + 1) _ (wcells (y)) _ _ Go.out)
  replace VB := Lib.hid (VB.out.row (show _ ≤ w.heap.size + 1 by (omega)) (wcells (y)))
  have cGo := cell_row Go.out
  go_wp2
  exact bodyPost_ret (v := .tuple #[wv y, .int .i64 0]) (res_ct Try.results18 _ _ _ _ _ _ _ rfl rfl Go.out aggW) rfl ⟨rfl, VB.out⟩

/-- What an engine made is: where it lies, its rom. -/
structure IsEng (T : TypeId) (B e g : Nat) (w : World) : Prop where
  eng : w.heap[e]? = some (.cells #[.pointer (some ⟨g, 0, none⟩)] T (0, 0))
  rom : IsRom w g
  ne : e ≠ g
  le : B ≤ e
  lg : B ≤ g
set_option maxRecDepth 100000 in
theorem newE_nil (w : World) : Calls Try.prog 42 #[.pointer none] w fun x w' => ∃ e g, x = .returned (.pointer (some ⟨e, 0, none⟩)) ∧ IsEng 103 w.heap.size e g w' ∧ Below w.heap.size w w' := by
  have S0 := Lib.hid (fun w' => romNew_any w')
  go_enter Try.func42, Try.ntmps42
  go_wp2_with fail
  refine (S0.out _).mono ?_
  rintro x w1 ⟨rfl, hn, hb⟩
  have HN := Lib.hid hn
  have HB := Lib.hid hb
  clear hn hb
  go_wp2
  go_ret
  have h1 := HN.out.lt
  exact ⟨_, _, rfl, ⟨alloc_new _ _, (show IsRom w1 w.heap.size from Or.inl HN.out).keep (alloc_old _ _ _ h1), by omega, by omega, Nat.le_refl _⟩, below_al HB _⟩
set_option maxRecDepth 100000 in
theorem newE_at (g : Nat) (w : World) (h : IsRom w g) : Calls Try.prog 42 #[.pointer (some ⟨g, 0, none⟩)] w fun x w' => x = .returned (.pointer (some ⟨w.heap.size, 0, none⟩)) ∧ w'.heap[w.heap.size]? = some (.cells #[.pointer (some ⟨g, 0, none⟩)] 103 (0, 0)) ∧ IsRom w' g ∧ Below w.heap.size w w' := by
  have HN := Lib.hid h
  clear h
  go_enter Try.func42, Try.ntmps42
  go_wp2
  go_ret
  exact ⟨rfl, alloc_new _ _, HN.out.keep (alloc_old _ _ _ HN.out.lt), below_al (Lib.hid (Below.refl _ _)) _⟩
end Go.Proofs.Ytegmmaaapdgocaa
