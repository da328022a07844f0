/- THE WALKS of package srt: a small number, a few times a number, a number shifted up. -/
import Derived.Test.YtffengboblekpaaDoorSrtM
import Derived.Test.YtffengboblekpaaDoorTstep
import Derived.Test.YtffengboblekpaaDoorK17
import Derived.Test.YtffengboblekpaaDoorProd4
import Derived.Test.YtffengboblekpaaDoorR2c
import Derived.Test.YtffengboblekpaaDoorK16
import Derived.Test.YtffengboblekpaaDoorK6
import Derived.Test.YtffengboblekpaaDoorK14
import Derived.WalkMore
namespace Go.Proofs.YtffengboblekpaaDoor
open Go Go.RowKit

theorem Laid.older {w w' : World} (h : Laid w) (hb : Below w.heap.size w w') : Laid w' := h.below hb h.lt
theorem Laid.but {S : Nat → Prop} {w w' : World} (h : Laid w) (hb : But S w w') (hS : ¬ S 1) : Laid w' := by
  have hl := h.lt
  unfold Laid World.var? at h ⊢
  rw [rowsGlobal] at h ⊢
  simp only [Option.bind_some] at h ⊢
  rw [hb.block _ hl hS]
  exact h
attribute [local go_sem ↓] Go.wp_at_zero Go.wp_at_succ
theorem smallT_w (a : Nat) (w : World) : Calls Tryd.prog 83 #[wv a] w fun e w' => e = .returned (.int .i64 (IntKind.i64.wrap ((limb a 0 : Nat) : Int))) ∧ Below w.heap.size w w' := by
  obtain ⟨y, hy⟩ : ∃ y, y = IntKind.i64.wrap ((limb a 0 : Nat) : Int) := ⟨_, rfl⟩
  rw [← hy]
  have hy2 := hy.symm
  clear hy
  go_enter Tryd.func83, Tryd.ntmps83
  have HB := Lib.hid (Below.refl w.heap.size w)
  have Ga := Lib.hid (alloc_new (w) (.cells (wcells a) 24))
  replace HB := Lib.hid (below_al HB.out (.cells (wcells a) 24))
  have cGa := cell_row Ga.out
  go_wp2
  go_ret
  exact ⟨rfl, HB.out⟩

set_option maxHeartbeats 1000000 in
theorem timesT_w (x n : Int) (h1 : -1000 ≤ n) (h2 : n ≤ 1000) (w : World) : Calls Tryd.prog 85 #[wv (toW x), .int .i64 n] w fun e w' => e = .returned (wv (toW (x * n))) ∧ Below w.heap.size w w' := by
  obtain ⟨k, hk⟩ := Int.eq_ofNat_of_zero_le (show 0 ≤ max n (-n) by omega)
  have S1 := Lib.hid (fun w' => smallP_w (toW x) k (toW_lt x) (by omega) w')
  rw [mul_toW] at S1
  have S2 := Lib.hid (fun w' => neg_w (toW (x * (k : Int))) (toW_lt _) w')
  rw [neg_toW] at S2
  have hw1 : IntKind.i64.wrap (-n) = -n := IntWalk.i64_in _ (by omega)
  have hw2 : IntKind.u64.wrap (k : Int) = (k : Int) := by rw [u64wrap]; omega
  obtain ⟨F, hF⟩ : ∃ F, F = decide (toW x * k < M) := ⟨_, rfl⟩
  rw [← hF] at S1
  by_cases hn : n < 0
  · have e : toW (x * n) = toW (-(x * (k : Int))) := by congr 1; rw [show n = -(k : Int) by omega, Int.mul_neg]
    rw [e]
    obtain ⟨A, hA⟩ : ∃ A, A = toW x := ⟨_, rfl⟩
    obtain ⟨B, hB⟩ : ∃ A, A = toW (x * (k : Int)) := ⟨_, rfl⟩
    obtain ⟨C, hC⟩ : ∃ A, A = toW (-(x * (k : Int))) := ⟨_, rfl⟩
    rw [← hA, ← hB] at S1
    rw [← hB, ← hC] at S2
    rw [← hA, ← hC]
    clear h1 h2 hF e hA hB hC
    go_enter Tryd.func85, Tryd.ntmps85
    have HB := Lib.hid (Below.refl w.heap.size w)
    have Ga := Lib.hid (alloc_new (w) (.cells (wcells A) 24))
    replace HB := Lib.hid (below_al HB.out (.cells (wcells A) 24))
    replace Ga := Lib.hid (keepAl (o' := .cells (wcells 0) 24) Ga.out)
    have Go := Lib.hid (alloc_new' (w := (w).alloc (.cells (wcells A) 24)) (n := w.heap.size + 1) (.cells (wcells 0) 24) (by simp))
    replace HB := Lib.hid (below_al HB.out (.cells (wcells 0) 24))
    have cGa := cell_row Ga.out
    have cGo := cell_row Go.out
    go_wp2_with fail
    refine (S1.out _).mono ?_
    rintro e w1 ⟨rfl, hb⟩
    clear cGa cGo
    replace HB := Lib.hid (below_then HB.out hb)
    replace Ga := Lib.hid ((hb.block _ (lt_of_heap Ga.out)).trans Ga.out)
    replace Go := Lib.hid ((hb.block _ (lt_of_heap Go.out)).trans Go.out)
    clear hb
    have HZ := Lib.hid (lt_of_heap Go.out)
    replace Ga := Lib.hid (keepAl (o' := .cells (wcells B) 24) Ga.out)
    replace Go := Lib.hid (keepAl (o' := .cells (wcells B) 24) Go.out)
    have Gb := Lib.hid (alloc_new (w1) (.cells (wcells B) 24))
    replace HB := Lib.hid (below_al HB.out (.cells (wcells B) 24))
    have cGa := cell_row Ga.out
    have cGo := cell_row Go.out
    have cGb := cell_row Gb.out
    go_wp2_with fail
    refine (S2.out _).mono ?_
    rintro e w2 ⟨rfl, hb⟩
    clear cGa cGo cGb
    replace HB := Lib.hid (below_then HB.out hb)
    replace Ga := Lib.hid ((hb.block _ (lt_of_heap Ga.out)).trans Ga.out)
    replace Go := Lib.hid ((hb.block _ (lt_of_heap Go.out)).trans Go.out)
    replace Gb := Lib.hid ((hb.block _ (lt_of_heap Gb.out)).trans Gb.out)
    clear hb
    have sto := st_row (P := Tryd.prog) Go.out rfl (C)
    replace Ga := Lib.hid ((setRow_other (w2) (w.heap.size + 1) _ (wcells (C)) (by (have := HZ.out; omega))).trans Ga.out)
    replace Gb := Lib.hid ((setRow_other (w2) (w.heap.size + 1) _ (wcells (C)) (by (have := HZ.out; omega))).trans Gb.out)
    replace Go := Lib.hid (setRow_heap (w2) (w.heap.size + 1) _ (wcells (C)) _ _ Go.out)
    replace HB := Lib.hid (below_setRow' HB.out (show _ ≤ w.heap.size + 1 by (have := HZ.out; omega)) (wcells (C)))
    have cGa := cell_row Ga.out
    have cGo := cell_row Go.out
    have cGb := cell_row Gb.out
    go_wp2
    exact bodyPost_ret (v := wv C) (res_c Tryd.results85 _ _ _ _ _ _ rfl Go.out aggW) rfl ⟨rfl, HB.out⟩
  · have e : toW (x * n) = toW (x * (k : Int)) := by congr 1; rw [show n = (k : Int) by omega]
    rw [e]
    obtain ⟨A, hA⟩ : ∃ A, A = toW x := ⟨_, rfl⟩
    obtain ⟨B, hB⟩ : ∃ A, A = toW (x * (k : Int)) := ⟨_, rfl⟩
    rw [← hA, ← hB] at S1
    rw [← hA, ← hB]
    clear h1 h2 hF e hA hB S2
    go_enter Tryd.func85, Tryd.ntmps85
    have HB := Lib.hid (Below.refl w.heap.size w)
    have Ga := Lib.hid (alloc_new (w) (.cells (wcells A) 24))
    replace HB := Lib.hid (below_al HB.out (.cells (wcells A) 24))
    replace Ga := Lib.hid (keepAl (o' := .cells (wcells 0) 24) Ga.out)
    have Go := Lib.hid (alloc_new' (w := (w).alloc (.cells (wcells A) 24)) (n := w.heap.size + 1) (.cells (wcells 0) 24) (by simp))
    replace HB := Lib.hid (below_al HB.out (.cells (wcells 0) 24))
    have cGa := cell_row Ga.out
    have cGo := cell_row Go.out
    go_wp2_with fail
    refine (S1.out _).mono ?_
    rintro e w3 ⟨rfl, hb⟩
    clear cGa cGo
    replace HB := Lib.hid (below_then HB.out hb)
    replace Ga := Lib.hid ((hb.block _ (lt_of_heap Ga.out)).trans Ga.out)
    replace Go := Lib.hid ((hb.block _ (lt_of_heap Go.out)).trans Go.out)
    clear hb
    have HZ := Lib.hid (lt_of_heap Go.out)
    replace Ga := Lib.hid (keepAl (o' := .cells (wcells B) 24) Ga.out)
    replace Go := Lib.hid (keepAl (o' := .cells (wcells B) 24) Go.out)
    have Gb := Lib.hid (alloc_new (w3) (.cells (wcells B) 24))
    replace HB := Lib.hid (below_al HB.out (.cells (wcells B) 24))
    have cb := cell_row Gb.out
    have sto := st_row (P := Tryd.prog) Go.out rfl (B)
    replace Ga := Lib.hid ((setRow_other ((w3).alloc (.cells (wcells B) 24)) (w.heap.size + 1) _ (wcells (B)) (by (have := HZ.out; omega))).trans Ga.out)
    replace Gb := Lib.hid ((setRow_other ((w3).alloc (.cells (wcells B) 24)) (w.heap.size + 1) _ (wcells (B)) (by (have := HZ.out; omega))).trans Gb.out)
    replace Go := Lib.hid (setRow_heap ((w3).alloc (.cells (wcells B) 24)) (w.heap.size + 1) _ (wcells (B)) _ _ Go.out)
    replace HB := Lib.hid (below_setRow' HB.out (show _ ≤ w.heap.size + 1 by (have := HZ.out; omega)) (wcells (B)))
    have cGa := cell_row Ga.out
    have cGo := cell_row Go.out
    have cGb := cell_row Gb.out
    go_wp2
    exact bodyPost_ret (v := wv B) (res_c Tryd.results85 _ _ _ _ _ _ rfl Go.out aggW) rfl ⟨rfl, HB.out⟩
theorem shlT_w (x : Int) (c : Nat) (hc : c ≤ 512) (w : World) : Calls Tryd.prog 40 #[wv (toW x), .int .i64 (c : Int)] w fun e w' => e = .returned (wv (toW (x * ((P2 c : Nat) : Int)))) ∧ Below w.heap.size w w' := by
  have := shl_any (toW x) (c : Int) w (by omega) (by omega)
  rw [clampN_at hc, mul_toW] at this
  exact this
theorem subT_w (x y : Int) : ∃ b, ∀ w : World, Calls Tryd.prog 37 #[wv (toW x), wv (toW y)] w fun e w' => e = .returned (.tuple #[wv (toW (x - y)), .bool b]) ∧ Below w.heap.size w w' := by
  refine ⟨decide (toW x < toW y), fun w => ?_⟩
  have := sub_w (toW x) (toW y) (toW_lt x) (toW_lt y) w
  rw [sub_toW] at this
  exact this
set_option maxHeartbeats 1000000 in
theorem normT_yes (d : Nat) (h0 : d ≠ 0) (h : d < P2 120) (w : World) : Calls Tryd.prog 31 #[wv d] w fun e w' => e = .returned (.tuple #[wv (d * P2 (128 - blen d)), .int .i64 ((128 - blen d : Nat) : Int), .bool true]) ∧ Below w.heap.size w w' := by
  have hdM : d < M := Nat.lt_trans h (by rw [M_eq]; exact P2_lt (by omega))
  have S1 := Lib.hid (fun w' => len_w d hdM w')
  have hl : blen d ≤ 120 := blen_le_of h
  have hp := blen_pos h0
  have g1 := Nat.mul_lt_mul_of_pos_right (blen_lt d) (P2_pos (128 - blen d))
  rw [← P2_add, show blen d + (128 - blen d) = 128 by omega] at g1
  have S2 := Lib.hid (fun w' => shl_any d ((128 - blen d : Nat) : Int) w' (by omega) (by omega))
  rw [clampN_at (by omega), Nat.mod_eq_of_lt (show d * P2 (128 - blen d) < M by
    have : P2 128 < M := by rw [M_eq]; exact P2_lt (by omega)
    omega)] at S2
  have hk : IntKind.i64.wrap (128 - ((blen d : Nat) : Int)) = ((128 - blen d : Nat) : Int) := by
    rw [IntWalk.i64_in _ (by omega)]; omega
  obtain ⟨X, hX⟩ : ∃ X, X = d * P2 (128 - blen d) := ⟨_, rfl⟩
  rw [← hX] at S2 ⊢
  obtain ⟨k, hke⟩ : ∃ X, X = 128 - blen d := ⟨_, rfl⟩
  rw [← hke] at hk S2 ⊢
  obtain ⟨l, hle⟩ : ∃ l, l = blen d := ⟨_, rfl⟩
  rw [← hle] at S1 hk hl hp
  have hl2 : decide ((120 : Int) < (l : Int)) = false := decide_eq_false (by omega)
  have hb2 : ((l : Int) == 0) = false := by simp; omega
  clear h0 h hdM hp hX hke hle hl g1
  go_enter Tryd.func31, Tryd.ntmps31
  have HB := Lib.hid (Below.refl w.heap.size w)
  have Gn := Lib.hid (alloc_new (w) (.cells (wcells d) 24))
  replace HB := Lib.hid (below_al HB.out (.cells (wcells d) 24))
  replace Gn := Lib.hid (keepAl (o' := .cells (wcells 0) 24) Gn.out)
  have Go := Lib.hid (alloc_new' (w := (w).alloc (.cells (wcells d) 24)) (n := w.heap.size + 1) (.cells (wcells 0) 24) (by simp))
  replace HB := Lib.hid (below_al HB.out (.cells (wcells 0) 24))
  have cGn := cell_row Gn.out
  have cGo := cell_row Go.out
  go_wp2_with fail
  refine (S1.out _).mono ?_
  rintro e w4 ⟨rfl, hb⟩
  clear cGn cGo
  replace HB := Lib.hid (below_then HB.out hb)
  replace Gn := Lib.hid ((hb.block _ (lt_of_heap Gn.out)).trans Gn.out)
  replace Go := Lib.hid ((hb.block _ (lt_of_heap Go.out)).trans Go.out)
  clear hb
  have cGn := cell_row Gn.out
  have cGo := cell_row Go.out
  go_wp2_with fail
  refine (S2.out _).mono ?_
  rintro e w5 ⟨rfl, hb⟩
  clear cGn cGo
  replace HB := Lib.hid (below_then HB.out hb)
  replace Gn := Lib.hid ((hb.block _ (lt_of_heap Gn.out)).trans Gn.out)
  replace Go := Lib.hid ((hb.block _ (lt_of_heap Go.out)).trans Go.out)
  clear hb
  have sto := st_row (P := Tryd.prog) Go.out rfl (X)
  replace Gn := Lib.hid ((setRow_other (w5) (w.heap.size + 1) _ (wcells (X)) (by (omega))).trans Gn.out)
  replace Go := Lib.hid (setRow_heap (w5) (w.heap.size + 1) _ (wcells (X)) _ _ Go.out)
  replace HB := Lib.hid (below_setRow' HB.out (show _ ≤ w.heap.size + 1 by (omega)) (wcells (X)))
  have cGn := cell_row Gn.out
  have cGo := cell_row Go.out
  go_wp2
  exact bodyPost_ret (v := .tuple #[wv X, .int .i64 (k : Int), .bool true]) (res_ctt Tryd.results31 _ _ _ _ _ _ _ _ rfl rfl rfl Go.out aggW) rfl ⟨rfl, HB.out⟩
set_option maxHeartbeats 1000000 in
theorem normT_no (d : Nat) (hd : d < M) (h : d = 0 ∨ ¬ d < P2 120) (w : World) : Calls Tryd.prog 31 #[wv d] w fun e w' => e = .returned (.tuple #[wv 0, .int .i64 0, .bool false]) ∧ Below w.heap.size w w' := by
  have S1 := Lib.hid (fun w' => len_w d hd w')
  have hc : blen d = 0 ∨ ((120 : Int) < ((blen d : Nat) : Int) ∧ ((blen d : Nat) : Int) ≠ 0) := by
    rcases h with h | h
    · left; rw [h]; exact blen_zero
    · right
      have : ¬ blen d ≤ 120 := fun hh => h (lt_of_blen hh)
      omega
  obtain ⟨l, hle⟩ : ∃ l, l = blen d := ⟨_, rfl⟩
  rw [← hle] at S1 hc
  clear hd h hle
  rcases hc with rfl | ⟨h1, h2⟩
  rotate_left
  have h3 : ((l : Int) == 0) = false := by simp; omega
  have h4 : decide ((120 : Int) < (l : Int)) = true := decide_eq_true h1
  all_goals
    go_enter Tryd.func31, Tryd.ntmps31
    have HB := Lib.hid (Below.refl w.heap.size w)
    have Gn := Lib.hid (alloc_new (w) (.cells (wcells d) 24))
    replace HB := Lib.hid (below_al HB.out (.cells (wcells d) 24))
    replace Gn := Lib.hid (keepAl (o' := .cells (wcells 0) 24) Gn.out)
    have Go := Lib.hid (alloc_new' (w := (w).alloc (.cells (wcells d) 24)) (n := w.heap.size + 1) (.cells (wcells 0) 24) (by simp))
    replace HB := Lib.hid (below_al HB.out (.cells (wcells 0) 24))
    have cGn := cell_row Gn.out
    have cGo := cell_row Go.out
    go_wp2_with fail
    refine (S1.out _).mono ?_
    rintro e w6 ⟨rfl, hb⟩
    clear cGn cGo
    replace HB := Lib.hid (below_then HB.out hb)
    replace Gn := Lib.hid ((hb.block _ (lt_of_heap Gn.out)).trans Gn.out)
    replace Go := Lib.hid ((hb.block _ (lt_of_heap Go.out)).trans Go.out)
    clear hb
    have sto := st_row (P := Tryd.prog) Go.out rfl (0)
    replace Gn := Lib.hid ((setRow_other (w6) (w.heap.size + 1) _ (wcells (0)) (by (omega))).trans Gn.out)
    replace Go := Lib.hid (setRow_heap (w6) (w.heap.size + 1) _ (wcells (0)) _ _ Go.out)
    replace HB := Lib.hid (below_setRow' HB.out (show _ ≤ w.heap.size + 1 by (omega)) (wcells (0)))
    have cGn := cell_row Gn.out
    have cGo := cell_row Go.out
    go_wp2
    exact bodyPost_ret (v := .tuple #[wv 0, .int .i64 0, .bool false]) (res_ctt Tryd.results31 _ _ _ _ _ _ _ _ rfl rfl rfl Go.out aggW) rfl ⟨rfl, HB.out⟩
set_option maxRecDepth 100000 in
set_option maxHeartbeats 1000000 in
theorem shiftedT_w (n d : Nat) (h : mayN n d = 0) (w : World) : Calls Tryd.prog 48 #[wv n, wv d] w fun e w' => e = .returned (.tuple #[wv (n * P2 (128 - blen d)), wv (d * P2 (128 - blen d)), .int .i64 ((128 - blen d : Nat) : Int)]) ∧ Below w.heap.size w w' := by
  obtain ⟨h1, h2, h3⟩ := may_ok h
  obtain ⟨r1, r2, r3, _, _⟩ := shift_range h
  have S1 := Lib.hid (fun w' => normT_yes d (by omega) h2 w')
  have S2 := Lib.hid (fun w' => shl_any n ((128 - blen d : Nat) : Int) w' (by omega) (by omega))
  have hNM : n * P2 (128 - blen d) < M := by
    have : d * P2 (128 - blen d) * P2 128 < P2 128 * P2 128 := Nat.mul_lt_mul_of_pos_right r2 (P2_pos _)
    rw [← P2_add] at this
    have : P2 (128 + 128) < M := by rw [M_eq]; exact P2_lt (by omega)
    omega
  rw [clampN_at (by omega), Nat.mod_eq_of_lt hNM] at S2
  obtain ⟨X, hX⟩ : ∃ X, X = d * P2 (128 - blen d) := ⟨_, rfl⟩
  rw [← hX] at S1 ⊢
  obtain ⟨N, hN⟩ : ∃ X, X = n * P2 (128 - blen d) := ⟨_, rfl⟩
  rw [← hN] at S2 ⊢
  obtain ⟨k, hke⟩ : ∃ X, X = 128 - blen d := ⟨_, rfl⟩
  rw [← hke] at S1 S2 ⊢
  clear h h1 h2 h3 r1 r2 r3 hNM hX hN hke
  go_enter Tryd.func48, Tryd.ntmps48
  have HB := Lib.hid (Below.refl w.heap.size w)
  have Gn := Lib.hid (alloc_new (w) (.cells (wcells n) 24))
  replace HB := Lib.hid (below_al HB.out (.cells (wcells n) 24))
  replace Gn := Lib.hid (keepAl (o' := .cells (wcells d) 24) Gn.out)
  have Gd := Lib.hid (alloc_new' (w := (w).alloc (.cells (wcells n) 24)) (n := w.heap.size + 1) (.cells (wcells d) 24) (by simp))
  replace HB := Lib.hid (below_al HB.out (.cells (wcells d) 24))
  replace Gn := Lib.hid (keepAl (o' := .cells (wcells 0) 24) Gn.out)
  replace Gd := Lib.hid (keepAl (o' := .cells (wcells 0) 24) Gd.out)
  have Gx := Lib.hid (alloc_new' (w := ((w).alloc (.cells (wcells n) 24)).alloc (.cells (wcells d) 24)) (n := w.heap.size + 1 + 1) (.cells (wcells 0) 24) (by simp))
  replace HB := Lib.hid (below_al HB.out (.cells (wcells 0) 24))
  replace Gn := Lib.hid (keepAl (o' := .cells (wcells 0) 24) Gn.out)
  replace Gd := Lib.hid (keepAl (o' := .cells (wcells 0) 24) Gd.out)
  replace Gx := Lib.hid (keepAl (o' := .cells (wcells 0) 24) Gx.out)
  have Gy := Lib.hid (alloc_new' (w := (((w).alloc (.cells (wcells n) 24)).alloc (.cells (wcells d) 24)).alloc (.cells (wcells 0) 24)) (n := w.heap.size + 1 + 1 + 1) (.cells (wcells 0) 24) (by simp))
  replace HB := Lib.hid (below_al HB.out (.cells (wcells 0) 24))
  have cGn := cell_row Gn.out
  have cGd := cell_row Gd.out
  have cGx := cell_row Gx.out
  have cGy := cell_row Gy.out
  go_wp2_with fail
  refine (S1.out _).mono ?_
  rintro e w7 ⟨rfl, hb⟩
  clear cGn cGd cGx cGy
  replace HB := Lib.hid (below_then HB.out hb)
  replace Gn := Lib.hid ((hb.block _ (lt_of_heap Gn.out)).trans Gn.out)
  replace Gd := Lib.hid ((hb.block _ (lt_of_heap Gd.out)).trans Gd.out)
  replace Gx := Lib.hid ((hb.block _ (lt_of_heap Gx.out)).trans Gx.out)
  replace Gy := Lib.hid ((hb.block _ (lt_of_heap Gy.out)).trans Gy.out)
  clear hb
  have HZ := Lib.hid (lt_of_heap Gy.out)
  have std := st_row (P := Tryd.prog) Gd.out rfl (X)
  replace Gn := Lib.hid ((setRow_other (w7) (w.heap.size + 1) _ (wcells (X)) (by (have := HZ.out; omega))).trans Gn.out)
  replace Gx := Lib.hid ((setRow_other (w7) (w.heap.size + 1) _ (wcells (X)) (by (have := HZ.out; omega))).trans Gx.out)
  replace Gy := Lib.hid ((setRow_other (w7) (w.heap.size + 1) _ (wcells (X)) (by (have := HZ.out; omega))).trans Gy.out)
  replace Gd := Lib.hid (setRow_heap (w7) (w.heap.size + 1) _ (wcells (X)) _ _ Gd.out)
  replace HB := Lib.hid (below_setRow' HB.out (show _ ≤ w.heap.size + 1 by (have := HZ.out; omega)) (wcells (X)))
  have cGn := cell_row Gn.out
  have cGd := cell_row Gd.out
  have cGx := cell_row Gx.out
  have cGy := cell_row Gy.out
  go_upto_region 2 with fail
  clear cGn cGd cGx cGy std
  obtain ⟨w8, hw⟩ : ∃ wx, wx = (w7).setRow (w.heap.size + 1) (wcells (X)) := ⟨_, rfl⟩
  rw [← hw] at Gn Gd Gx Gy HB ⊢
  clear hw
  refine wp_region_store [⟨w.heap.size + 1 + 1, 24, .tmp 17⟩, ⟨w.heap.size + 1 + 1 + 1, 24, .tmp 18⟩] (by kernel_rfl) (by kernel_rfl) (by kernel_rfl) rfl (List.Pairwise.cons (by intro r hr; simp only [List.mem_cons, List.not_mem_nil, or_false] at hr; subst hr <;> dsimp only <;> (omega)) (List.pairwise_singleton _ _)) ?_ ?_
  · intro r hr
    simp only [List.mem_cons, List.not_mem_nil, or_false] at hr
    rcases hr with rfl | rfl
    · exact ⟨_, Gx.out, by kernel_rfl⟩
    · exact ⟨_, Gy.out, by kernel_rfl⟩
  have xGn := extR_row (B := w8.heap.size) (R := [⟨w.heap.size + 1 + 1, 24, .tmp 17⟩, ⟨w.heap.size + 1 + 1 + 1, 24, .tmp 18⟩]) Gn.out (lt_of_heap Gn.out) (by intro r hr; simp only [List.mem_cons, List.not_mem_nil, or_false] at hr; rcases hr with rfl | rfl <;> dsimp only <;> (omega))
  have xGd := extR_row (B := w8.heap.size) (R := [⟨w.heap.size + 1 + 1, 24, .tmp 17⟩, ⟨w.heap.size + 1 + 1 + 1, 24, .tmp 18⟩]) Gd.out (lt_of_heap Gd.out) (by intro r hr; simp only [List.mem_cons, List.not_mem_nil, or_false] at hr; rcases hr with rfl | rfl <;> dsimp only <;> (omega))
  repeat (refine wpCalm_step (fun K hK => ?_); go_simp; first | (refine hK _ ?_; clear hK K) | (apply Exists.intro; refine ⟨fun _ => ?_, hK _ ?_⟩; (first | with_reducible exact S2.out _ | exact S2.out _); clear hK K))
  refine wpCalm_nil ⟨?_, fun x hx => ?_⟩
  · intro r hr
    simp only [List.mem_cons, List.not_mem_nil, or_false] at hr
    rcases hr with rfl | rfl <;> exact fits_wv (by kernel_rfl) _
  replace Gx : Hid (x.val.heap[w.heap.size + 1 + 1]? = some (.cells (wcells (N)) 24 (0, 0))) := Lib.hid (hx ⟨w.heap.size + 1 + 1, 24, .tmp 17⟩ (by simp))
  replace Gy : Hid (x.val.heap[w.heap.size + 1 + 1 + 1]? = some (.cells (wcells (X)) 24 (0, 0))) := Lib.hid (hx ⟨w.heap.size + 1 + 1 + 1, 24, .tmp 18⟩ (by simp))
  replace Gn := Lib.hid (extR_block x Gn.out (lt_of_heap Gn.out) (by intro r hr; simp only [List.mem_cons, List.not_mem_nil, or_false] at hr; rcases hr with rfl | rfl <;> dsimp only <;> (omega)))
  replace Gd := Lib.hid (extR_block x Gd.out (lt_of_heap Gd.out) (by intro r hr; simp only [List.mem_cons, List.not_mem_nil, or_false] at hr; rcases hr with rfl | rfl <;> dsimp only <;> (omega)))
  replace HB := Lib.hid (extR_below x HB.out HB.out.size (by intro r hr; simp only [List.mem_cons, List.not_mem_nil, or_false] at hr; rcases hr with rfl | rfl <;> dsimp only <;> (omega)))
  clear hx xGn xGd
  obtain ⟨w9, hw⟩ : ∃ wx, wx = x.val := ⟨_, rfl⟩
  rw [← hw] at Gn Gd Gx Gy HB ⊢
  clear hw x
  have cGn := cell_row Gn.out
  have cGd := cell_row Gd.out
  have cGx := cell_row Gx.out
  have cGy := cell_row Gy.out
  go_wp2
  exact bodyPost_ret (v := .tuple #[wv N, wv X, .int .i64 (k : Int)]) (res_cct Tryd.results48 _ _ _ _ _ _ _ _ _ _ _ rfl rfl rfl Gx.out Gy.out aggW aggW) rfl ⟨rfl, HB.out⟩
end Go.Proofs.YtffengboblekpaaDoor
