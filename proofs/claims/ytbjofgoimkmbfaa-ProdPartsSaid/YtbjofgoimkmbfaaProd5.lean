/- THE WALKS of package prod, going on: a part of a product. -/
import Derived.Test.YtbjofgoimkmbfaaProd4
namespace Go.Proofs.Ytbjofgoimkmbfaa
open Go Go.RowKit

theorem since_part (q k : Nat) (w : World) (hq : w.cell? ⟨q, 0, none⟩ = some (.int .i64 k)) : Since Try.prog 154 #[.pointer (some ⟨q, 0, none⟩)] w k := by
  intro s w' hs hb
  have hc := (hb.cell (block_lt_of_cell hq)).trans hq
  show Calls Try.prog 154 #[.int .i64 (s : Int), .pointer (some ⟨q, 0, none⟩)] w' _
  clear hb hq
  have e : decide ((s : Int) ≥ (k : Int)) = decide (k ≤ s) := by
    by_cases h : k ≤ s
    · rw [decide_eq_true h, decide_eq_true (by omega)]
    · rw [decide_eq_false h, decide_eq_false (by omega)]
  have HE := Lib.hid e
  clear e
  go_enter Try.func154, Try.ntmps154
  go_wp2
  go_ret
  exact ⟨ret_bool (by first | exact HE.out | simp), Below.refl _ _⟩
theorem enters_part : Enters Try.prog 154 := fun args w => by simp [go_sem]
theorem rowS_none (a b m i : Nat) (h : 8 ≤ m - i) : ∀ k, k ≤ 8 → rowS a b m i k = 0 := by
  intro k hk
  induction k with
  | zero => rfl
  | succ k ih => rw [rowS, if_neg (by omega), ih (by omega)]
theorem colS_none (a b m : Nat) (h : 15 ≤ m) : ∀ i, i ≤ 8 → colS a b m i = 0 := by
  intro i hi
  induction i with
  | zero => rfl
  | succ i ih => rw [colS, ih (by omega), rowS_none a b m i (by omega) 8 (by omega)]

attribute [local go_sem ↓] Go.wp_at_zero Go.wp_at_succ
set_option maxRecDepth 100000 in
set_option maxHeartbeats 1000000 in
theorem part_w (a b : Nat) (n : Int) (ha : a < M) (hb : b < M) (w : World) :
    Calls Try.prog 86 #[wv a, wv b, .int .i64 n] w fun e w' => e = .returned (wv (colS a b (max 0 n).toNat 8 % M)) ∧ Below w.heap.size w w' := by
  obtain ⟨k, hk⟩ : ∃ k : Nat, (k : Int) = max 0 n := ⟨(max 0 n).toNat, by omega⟩
  rw [show (max 0 n).toNat = k by omega]
  have HK := Lib.hid hk.symm
  by_cases h16 : 16 ≤ k
  · rw [colS_none a b k (by omega) 8 (by omega), Nat.zero_mod]
    have h16' : (16 : Int) ≤ (k : Int) := by omega
    clear hk ha hb
    go_enter Try.func86, Try.ntmps86
    have HB := Lib.hid (Below.refl w.heap.size w)
    have Ga := Lib.hid (alloc_new (w) (.cells (wcells a) 31))
    replace HB := Lib.hid (below_al HB.out (.cells (wcells a) 31))
    replace Ga := Lib.hid (keepAl (o' := .cells (wcells b) 31) Ga.out)
    have Gb := Lib.hid (alloc_new' (w := (w).alloc (.cells (wcells a) 31)) (n := w.heap.size + 1) (.cells (wcells b) 31) (by simp))
    replace HB := Lib.hid (below_al HB.out (.cells (wcells b) 31))
    replace Ga := Lib.hid (keepAl (o' := .cells #[.int .i64 (k:Int)] 3) Ga.out)
    replace Gb := Lib.hid (keepAl (o' := .cells #[.int .i64 (k:Int)] 3) Gb.out)
    have Gk := Lib.hid (alloc_new' (w := ((w).alloc (.cells (wcells a) 31)).alloc (.cells (wcells b) 31)) (n := w.heap.size + 1 + 1) (.cells #[.int .i64 (k:Int)] 3) (by simp))
    replace HB := Lib.hid (below_al HB.out (.cells #[.int .i64 (k:Int)] 3))
    replace Ga := Lib.hid (keepAl (o' := .cells (wcells 0) 31) Ga.out)
    replace Gb := Lib.hid (keepAl (o' := .cells (wcells 0) 31) Gb.out)
    replace Gk := Lib.hid (keepAl (o' := .cells (wcells 0) 31) Gk.out)
    have Gz := Lib.hid (alloc_new' (w := (((w).alloc (.cells (wcells a) 31)).alloc (.cells (wcells b) 31)).alloc (.cells #[.int .i64 (k:Int)] 3)) (n := w.heap.size + 1 + 1 + 1) (.cells (wcells 0) 31) (by simp))
    replace HB := Lib.hid (below_al HB.out (.cells (wcells 0) 31))
    go_upto_region 2 with fail
    rw [HK.out]
    obtain ⟨wL, hw⟩ : ∃ wx, wx = ((((w).alloc (.cells (wcells a) 31)).alloc (.cells (wcells b) 31)).alloc (.cells #[.int .i64 (k:Int)] 3)).alloc (.cells (wcells 0) 31) := ⟨_, rfl⟩
    rw [← hw] at Ga Gb Gk Gz HB ⊢
    clear hw
    have c1 := cell_row Gk.out
    have stz := st_row (P := Try.prog) Gz.out rfl (0)
    replace Ga := Lib.hid ((setRow_other (wL) (w.heap.size + 1 + 1 + 1) _ (wcells (0)) (by (omega))).trans Ga.out)
    replace Gb := Lib.hid ((setRow_other (wL) (w.heap.size + 1 + 1 + 1) _ (wcells (0)) (by (omega))).trans Gb.out)
    replace Gk := Lib.hid ((setRow_other (wL) (w.heap.size + 1 + 1 + 1) _ (wcells (0)) (by (omega))).trans Gk.out)
    replace Gz := Lib.hid (setRow_heap (wL) (w.heap.size + 1 + 1 + 1) _ (wcells (0)) _ _ Gz.out)
    replace HB := Lib.hid (below_setRow' HB.out (show _ ≤ w.heap.size + 1 + 1 + 1 by (omega)) (wcells (0)))
    go_wp2
    exact bodyPost_ret (v := wv 0) (results_cell_row rfl _ _ (w.heap.size + 3) _ _ _ _ rfl Gz.out Try.underlying31 rfl (by kernel_rfl)) rfl ⟨rfl, HB.out⟩
  · have SW : Hid (∀ (w' : World) (q : Nat), w'.cell? ⟨q, 0, none⟩ = some (.int .i64 k) → Calls Try.prog 151 #[wv a, wv b, .func (.func 154) #[] #[.pointer (some ⟨q, 0, none⟩)]] w' fun e w'' => e = .returned (.agg (kcells 17 (colN a b k 8))) ∧ Below w'.heap.size w' w'') := Lib.hid fun w' q h =>
      pwhole_any 154 _ a b k w' ha hb enters_part (since_part q k w' h)
    have hlt : colN a b k 8 < P2 (64 * 17) := Nat.lt_of_lt_of_le (col_lt ha hb) (P2_le (by omega))
    have SO : Hid (∀ (w' : World) (g : Nat), w'.heap[g]? = some (.cells (kcells 17 (colN a b k 8)) 169 (0, 0)) → Calls Try.prog 43 #[.slice (some ⟨g, k, none⟩) (17 - k) (17 - k)] w' fun e w'' => e = .returned (wv (colS a b k 8 % M)) ∧ Below w'.heap.size w' w'') := Lib.hid fun w' g h => by
      have h1 := isLimbs_k h (o := k) (L := 17 - k) (cap := 17 - k) (by omega) (by omega)
      rw [colS_div, Nat.mod_eq_of_lt (show colS a b k 8 < P2 (64 * (17 - k)) by
        rw [← colS_div, Nat.div_lt_iff_lt_mul (P2_pos _), ← P2_mono_mul, show 17 - k + k = 17 by omega]; exact hlt)] at h1
      exact of_w _ _ _ w' h1
    obtain ⟨p, hp⟩ : ∃ p, p = colN a b k 8 := ⟨_, rfl⟩
    obtain ⟨q, hq⟩ : ∃ p, p = colS a b k 8 % M := ⟨_, rfl⟩
    rw [← hp] at SW SO
    rw [← hq] at SO ⊢
    have h16' : ¬ (16 : Int) ≤ (k : Int) := by omega
    have h0 : (0 : Int) ≤ (k : Int) := by omega
    have h17 : (k : Int) ≤ 17 := by omega
    clear hk ha hb hlt hp hq h16
    go_enter Try.func86, Try.ntmps86
    have HB := Lib.hid (Below.refl w.heap.size w)
    have Ga := Lib.hid (alloc_new (w) (.cells (wcells a) 31))
    replace HB := Lib.hid (below_al HB.out (.cells (wcells a) 31))
    replace Ga := Lib.hid (keepAl (o' := .cells (wcells b) 31) Ga.out)
    have Gb := Lib.hid (alloc_new' (w := (w).alloc (.cells (wcells a) 31)) (n := w.heap.size + 1) (.cells (wcells b) 31) (by simp))
    replace HB := Lib.hid (below_al HB.out (.cells (wcells b) 31))
    replace Ga := Lib.hid (keepAl (o' := .cells #[.int .i64 (k:Int)] 3) Ga.out)
    replace Gb := Lib.hid (keepAl (o' := .cells #[.int .i64 (k:Int)] 3) Gb.out)
    have Gk := Lib.hid (alloc_new' (w := ((w).alloc (.cells (wcells a) 31)).alloc (.cells (wcells b) 31)) (n := w.heap.size + 1 + 1) (.cells #[.int .i64 (k:Int)] 3) (by simp))
    replace HB := Lib.hid (below_al HB.out (.cells #[.int .i64 (k:Int)] 3))
    replace Ga := Lib.hid (keepAl (o' := .cells (wcells 0) 31) Ga.out)
    replace Gb := Lib.hid (keepAl (o' := .cells (wcells 0) 31) Gb.out)
    replace Gk := Lib.hid (keepAl (o' := .cells (wcells 0) 31) Gk.out)
    have Gz := Lib.hid (alloc_new' (w := (((w).alloc (.cells (wcells a) 31)).alloc (.cells (wcells b) 31)).alloc (.cells #[.int .i64 (k:Int)] 3)) (n := w.heap.size + 1 + 1 + 1) (.cells (wcells 0) 31) (by simp))
    replace HB := Lib.hid (below_al HB.out (.cells (wcells 0) 31))
    go_upto_region 2 with fail
    rw [HK.out]
    obtain ⟨wL, hw⟩ : ∃ wx, wx = ((((w).alloc (.cells (wcells a) 31)).alloc (.cells (wcells b) 31)).alloc (.cells #[.int .i64 (k:Int)] 3)).alloc (.cells (wcells 0) 31) := ⟨_, rfl⟩
    rw [← hw] at Ga Gb Gk Gz HB ⊢
    clear hw
    have HZ := Lib.hid (lt_of_heap Gz.out)
    have SK := Lib.hid (cell_row Gk.out 0)
    have cGa := cell_row Ga.out
    have cGb := cell_row Gb.out
    have cGk := cell_row Gk.out
    have cGz := cell_row Gz.out
    go_wp2_with fail
    refine (SW.out _ _ SK.out).mono ?_
    rintro e w1 ⟨rfl, hb⟩
    clear cGa cGb cGk cGz
    replace HB := Lib.hid (below_then HB.out hb)
    replace Ga := Lib.hid ((hb.block _ (lt_of_heap Ga.out)).trans Ga.out)
    replace Gb := Lib.hid ((hb.block _ (lt_of_heap Gb.out)).trans Gb.out)
    replace Gk := Lib.hid ((hb.block _ (lt_of_heap Gk.out)).trans Gk.out)
    replace Gz := Lib.hid ((hb.block _ (lt_of_heap Gz.out)).trans Gz.out)
    clear hb
    have HZ2 := Lib.hid (lt_of_heap Gz.out)
    replace Ga := Lib.hid (keepAl (o' := .cells (kcells 17 p) 169) Ga.out)
    replace Gb := Lib.hid (keepAl (o' := .cells (kcells 17 p) 169) Gb.out)
    replace Gk := Lib.hid (keepAl (o' := .cells (kcells 17 p) 169) Gk.out)
    replace Gz := Lib.hid (keepAl (o' := .cells (kcells 17 p) 169) Gz.out)
    have Gp := Lib.hid (alloc_new (w1) (.cells (kcells 17 p) 169))
    replace HB := Lib.hid (below_al HB.out (.cells (kcells 17 p) 169))
    have cGa := cell_row Ga.out
    have cGb := cell_row Gb.out
    have cGk := cell_row Gk.out
    have cGz := cell_row Gz.out
    have cGp := cell_row Gp.out
    go_upto_region 5 with fail
    clear cGa cGb cGk cGz cGp
    obtain ⟨wM, hw⟩ : ∃ wx, wx = (w1).alloc (.cells (kcells 17 p) 169) := ⟨_, rfl⟩
    rw [← hw] at Ga Gb Gk Gz Gp HB ⊢
    clear hw
    have cGa := cell_row Ga.out
    have cGb := cell_row Gb.out
    have cGk := cell_row Gk.out
    have cGz := cell_row Gz.out
    have cGp := cell_row Gp.out
    go_wp2_with fail
    refine (SO.out _ _ Gp.out).mono ?_
    rintro e w2 ⟨rfl, hb⟩
    clear cGa cGb cGk cGz cGp
    replace HB := Lib.hid (below_then HB.out hb)
    replace Ga := Lib.hid ((hb.block _ (lt_of_heap Ga.out)).trans Ga.out)
    replace Gb := Lib.hid ((hb.block _ (lt_of_heap Gb.out)).trans Gb.out)
    replace Gk := Lib.hid ((hb.block _ (lt_of_heap Gk.out)).trans Gk.out)
    replace Gz := Lib.hid ((hb.block _ (lt_of_heap Gz.out)).trans Gz.out)
    replace Gp := Lib.hid ((hb.block _ (lt_of_heap Gp.out)).trans Gp.out)
    clear hb
    have stz := st_row (P := Try.prog) Gz.out rfl (q)
    replace Ga := Lib.hid ((setRow_other (w2) (w.heap.size + 1 + 1 + 1) _ (wcells (q)) (by (have := HZ2.out; omega))).trans Ga.out)
    replace Gb := Lib.hid ((setRow_other (w2) (w.heap.size + 1 + 1 + 1) _ (wcells (q)) (by (have := HZ2.out; omega))).trans Gb.out)
    replace Gk := Lib.hid ((setRow_other (w2) (w.heap.size + 1 + 1 + 1) _ (wcells (q)) (by (have := HZ2.out; omega))).trans Gk.out)
    replace Gp := Lib.hid ((setRow_other (w2) (w.heap.size + 1 + 1 + 1) _ (wcells (q)) (by (have := HZ2.out; omega))).trans Gp.out)
    replace Gz := Lib.hid (setRow_heap (w2) (w.heap.size + 1 + 1 + 1) _ (wcells (q)) _ _ Gz.out)
    replace HB := Lib.hid (below_setRow' HB.out (show _ ≤ w.heap.size + 1 + 1 + 1 by (have := HZ2.out; omega)) (wcells (q)))
    go_wp2
    exact bodyPost_ret (v := wv q) (results_cell_row rfl _ _ (w.heap.size + 3) _ _ _ _ rfl Gz.out Try.underlying31 rfl (by kernel_rfl)) rfl ⟨rfl, HB.out⟩
end Go.Proofs.Ytbjofgoimkmbfaa
