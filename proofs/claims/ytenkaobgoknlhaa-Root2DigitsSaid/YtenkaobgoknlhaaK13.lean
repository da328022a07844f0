/- SEVERAL TEXTS of the seat, one behind the other: each says at its head what it proves. -/
import Derived.Test.YtenkaobgoknlhaaProd4
/- THE WALKS of package prod, going on: a part of a product. -/
namespace Go.Proofs.Ytenkaobgoknlhaa
open Go Go.RowKit

theorem since_part (q k : Nat) (w : World) (hq : w.cell? ⟨q, 0, none⟩ = some (.int .i64 k)) : Since Try.prog 127 #[.pointer (some ⟨q, 0, none⟩)] w k := by
  intro s w' hs hb
  have hc := (hb.cell (block_lt_of_cell hq)).trans hq
  show Calls Try.prog 127 #[.int .i64 (s : Int), .pointer (some ⟨q, 0, none⟩)] w' _
  clear hb hq
  have e : decide ((s : Int) ≥ (k : Int)) = decide (k ≤ s) := by
    by_cases h : k ≤ s
    · rw [decide_eq_true h, decide_eq_true (by omega)]
    · rw [decide_eq_false h, decide_eq_false (by omega)]
  have HE := Lib.hid e
  clear e
  go_enter Try.func127, Try.ntmps127
  go_wp2
  go_ret
  exact ⟨ret_bool (by first | exact HE.out | simp), Below.refl _ _⟩
theorem enters_part : Enters Try.prog 127 := fun args w => by simp [go_sem]
theorem rowS_none (a b m i : Nat) (h : 8 ≤ m - i) : ∀ k, k ≤ 8 → rowS a b m i k = 0 := by
  intro k hk
  induction k with
  | zero => rfl
  | succ k ih => rw [rowS, if_neg (by omega), ih (by omega)]
theorem colS_none (a b m : Nat) (h : 15 ≤ m) : ∀ i, i ≤ 8 → colS a b m i = 0 := by
  intro i hi
  induction i with
  | zero => rfl
  | succ i ih => rw [colS, ih (by omega), rowS_none a b m i (by omega) 8 (by omega)]

attribute [local go_sem ↓] Go.wp_at_zero Go.wp_at_succ
set_option maxRecDepth 100000 in
set_option maxHeartbeats 1000000 in
theorem part_w (a b : Nat) (n : Int) (ha : a < M) (hb : b < M) (w : World) :
    Calls Try.prog 74 #[wv a, wv b, .int .i64 n] w fun e w' => e = .returned (wv (colS a b (max 0 n).toNat 8 % M)) ∧ Below w.heap.size w w' := by
  obtain ⟨k, hk⟩ : ∃ k : Nat, (k : Int) = max 0 n := ⟨(max 0 n).toNat, by omega⟩
  rw [show (max 0 n).toNat = k by omega]
  have HK := Lib.hid hk.symm
  by_cases h16 : 16 ≤ k
  · rw [colS_none a b k (by omega) 8 (by omega), Nat.zero_mod]
    have h16' : (16 : Int) ≤ (k : Int) := by omega
    clear hk ha hb
    go_enter Try.func74, Try.ntmps74
    have HB := Lib.hid (Below.refl w.heap.size w)
    have Ga := Lib.hid (alloc_new (w) (.cells (wcells a) 26))
    replace HB := Lib.hid (below_al HB.out (.cells (wcells a) 26))
    replace Ga := Lib.hid (keepAl (o' := .cells (wcells b) 26) Ga.out)
    have Gb := Lib.hid (alloc_new' (w := (w).alloc (.cells (wcells a) 26)) (n := w.heap.size + 1) (.cells (wcells b) 26) (by simp))
    replace HB := Lib.hid (below_al HB.out (.cells (wcells b) 26))
    replace Ga := Lib.hid (keepAl (o' := .cells #[.int .i64 (k:Int)] 3) Ga.out)
    replace Gb := Lib.hid (keepAl (o' := .cells #[.int .i64 (k:Int)] 3) Gb.out)
    have Gk := Lib.hid (alloc_new' (w := ((w).alloc (.cells (wcells a) 26)).alloc (.cells (wcells b) 26)) (n := w.heap.size + 1 + 1) (.cells #[.int .i64 (k:Int)] 3) (by simp))
    replace HB := Lib.hid (below_al HB.out (.cells #[.int .i64 (k:Int)] 3))
    replace Ga := Lib.hid (keepAl (o' := .cells (wcells 0) 26) Ga.out)
    replace Gb := Lib.hid (keepAl (o' := .cells (wcells 0) 26) Gb.out)
    replace Gk := Lib.hid (keepAl (o' := .cells (wcells 0) 26) Gk.out)
    have Gz := Lib.hid (alloc_new' (w := (((w).alloc (.cells (wcells a) 26)).alloc (.cells (wcells b) 26)).alloc (.cells #[.int .i64 (k:Int)] 3)) (n := w.heap.size + 1 + 1 + 1) (.cells (wcells 0) 26) (by simp))
    replace HB := Lib.hid (below_al HB.out (.cells (wcells 0) 26))
    go_upto_region 2 with fail
    rw [HK.out]
    obtain ⟨wL, hw⟩ : ∃ wx, wx = ((((w).alloc (.cells (wcells a) 26)).alloc (.cells (wcells b) 26)).alloc (.cells #[.int .i64 (k:Int)] 3)).alloc (.cells (wcells 0) 26) := ⟨_, rfl⟩
    rw [← hw] at Ga Gb Gk Gz HB ⊢
    clear hw
    have c1 := cell_row Gk.out
    have stz := st_row (P := Try.prog) Gz.out rfl (0)
    replace Ga := Lib.hid ((setRow_other (wL) (w.heap.size + 1 + 1 + 1) _ (wcells (0)) (by (omega))).trans Ga.out)
    replace Gb := Lib.hid ((setRow_other (wL) (w.heap.size + 1 + 1 + 1) _ (wcells (0)) (by (omega))).trans Gb.out)
    replace Gk := Lib.hid ((setRow_other (wL) (w.heap.size + 1 + 1 + 1) _ (wcells (0)) (by (omega))).trans Gk.out)
    replace Gz := Lib.hid (setRow_heap (wL) (w.heap.size + 1 + 1 + 1) _ (wcells (0)) _ _ Gz.out)
    replace HB := Lib.hid (below_setRow' HB.out (show _ ≤ w.heap.size + 1 + 1 + 1 by (omega)) (wcells (0)))
    go_wp2
    exact bodyPost_ret (v := wv 0) (results_cell_row rfl _ _ (w.heap.size + 3) _ _ _ _ rfl Gz.out Try.underlying26 rfl (by kernel_rfl)) rfl ⟨rfl, HB.out⟩
  · have SW : Hid (∀ (w' : World) (q : Nat), w'.cell? ⟨q, 0, none⟩ = some (.int .i64 k) → Calls Try.prog 124 #[wv a, wv b, .func (.func 127) #[] #[.pointer (some ⟨q, 0, none⟩)]] w' fun e w'' => e = .returned (.agg (kcells 17 (colN a b k 8))) ∧ Below w'.heap.size w' w'') := Lib.hid fun w' q h =>
      pwhole_any 127 _ a b k w' ha hb enters_part (since_part q k w' h)
    have hlt : colN a b k 8 < P2 (64 * 17) := Nat.lt_of_lt_of_le (col_lt ha hb) (P2_le (by omega))
    have SO : Hid (∀ (w' : World) (g : Nat), w'.heap[g]? = some (.cells (kcells 17 (colN a b k 8)) 132 (0, 0)) → Calls Try.prog 31 #[.slice (some ⟨g, k, none⟩) (17 - k) (17 - k)] w' fun e w'' => e = .returned (wv (colS a b k 8 % M)) ∧ Below w'.heap.size w' w'') := Lib.hid fun w' g h => by
      have h1 := isLimbs_k h (o := k) (L := 17 - k) (cap := 17 - k) (by omega) (by omega)
      rw [colS_div, Nat.mod_eq_of_lt (show colS a b k 8 < P2 (64 * (17 - k)) by
        rw [← colS_div, Nat.div_lt_iff_lt_mul (P2_pos _), ← P2_mono_mul, show 17 - k + k = 17 by omega]; exact hlt)] at h1
      exact of_w _ _ _ w' h1
    obtain ⟨p, hp⟩ : ∃ p, p = colN a b k 8 := ⟨_, rfl⟩
    obtain ⟨q, hq⟩ : ∃ p, p = colS a b k 8 % M := ⟨_, rfl⟩
    rw [← hp] at SW SO
    rw [← hq] at SO ⊢
    have h16' : ¬ (16 : Int) ≤ (k : Int) := by omega
    have h0 : (0 : Int) ≤ (k : Int) := by omega
    have h17 : (k : Int) ≤ 17 := by omega
    clear hk ha hb hlt hp hq h16
    go_enter Try.func74, Try.ntmps74
    have HB := Lib.hid (Below.refl w.heap.size w)
    have Ga := Lib.hid (alloc_new (w) (.cells (wcells a) 26))
    replace HB := Lib.hid (below_al HB.out (.cells (wcells a) 26))
    replace Ga := Lib.hid (keepAl (o' := .cells (wcells b) 26) Ga.out)
    have Gb := Lib.hid (alloc_new' (w := (w).alloc (.cells (wcells a) 26)) (n := w.heap.size + 1) (.cells (wcells b) 26) (by simp))
    replace HB := Lib.hid (below_al HB.out (.cells (wcells b) 26))
    replace Ga := Lib.hid (keepAl (o' := .cells #[.int .i64 (k:Int)] 3) Ga.out)
    replace Gb := Lib.hid (keepAl (o' := .cells #[.int .i64 (k:Int)] 3) Gb.out)
    have Gk := Lib.hid (alloc_new' (w := ((w).alloc (.cells (wcells a) 26)).alloc (.cells (wcells b) 26)) (n := w.heap.size + 1 + 1) (.cells #[.int .i64 (k:Int)] 3) (by simp))
    replace HB := Lib.hid (below_al HB.out (.cells #[.int .i64 (k:Int)] 3))
    replace Ga := Lib.hid (keepAl (o' := .cells (wcells 0) 26) Ga.out)
    replace Gb := Lib.hid (keepAl (o' := .cells (wcells 0) 26) Gb.out)
    replace Gk := Lib.hid (keepAl (o' := .cells (wcells 0) 26) Gk.out)
    have Gz := Lib.hid (alloc_new' (w := (((w).alloc (.cells (wcells a) 26)).alloc (.cells (wcells b) 26)).alloc (.cells #[.int .i64 (k:Int)] 3)) (n := w.heap.size + 1 + 1 + 1) (.cells (wcells 0) 26) (by simp))
    replace HB := Lib.hid (below_al HB.out (.cells (wcells 0) 26))
    go_upto_region 2 with fail
    rw [HK.out]
    obtain ⟨wL, hw⟩ : ∃ wx, wx = ((((w).alloc (.cells (wcells a) 26)).alloc (.cells (wcells b) 26)).alloc (.cells #[.int .i64 (k:Int)] 3)).alloc (.cells (wcells 0) 26) := ⟨_, rfl⟩
    rw [← hw] at Ga Gb Gk Gz HB ⊢
    clear hw
    have HZ := Lib.hid (lt_of_heap Gz.out)
    have SK := Lib.hid (cell_row Gk.out 0)
    have cGa := cell_row Ga.out
    have cGb := cell_row Gb.out
    have cGk := cell_row Gk.out
    have cGz := cell_row Gz.out
    go_wp2_with fail
    refine (SW.out _ _ SK.out).mono ?_
    rintro e w1 ⟨rfl, hb⟩
    clear cGa cGb cGk cGz
    replace HB := Lib.hid (below_then HB.out hb)
    replace Ga := Lib.hid ((hb.block _ (lt_of_heap Ga.out)).trans Ga.out)
    replace Gb := Lib.hid ((hb.block _ (lt_of_heap Gb.out)).trans Gb.out)
    replace Gk := Lib.hid ((hb.block _ (lt_of_heap Gk.out)).trans Gk.out)
    replace Gz := Lib.hid ((hb.block _ (lt_of_heap Gz.out)).trans Gz.out)
    clear hb
    have HZ2 := Lib.hid (lt_of_heap Gz.out)
    replace Ga := Lib.hid (keepAl (o' := .cells (kcells 17 p) 132) Ga.out)
    replace Gb := Lib.hid (keepAl (o' := .cells (kcells 17 p) 132) Gb.out)
    replace Gk := Lib.hid (keepAl (o' := .cells (kcells 17 p) 132) Gk.out)
    replace Gz := Lib.hid (keepAl (o' := .cells (kcells 17 p) 132) Gz.out)
    have Gp := Lib.hid (alloc_new (w1) (.cells (kcells 17 p) 132))
    replace HB := Lib.hid (below_al HB.out (.cells (kcells 17 p) 132))
    have cGa := cell_row Ga.out
    have cGb := cell_row Gb.out
    have cGk := cell_row Gk.out
    have cGz := cell_row Gz.out
    have cGp := cell_row Gp.out
    go_upto_region 5 with fail
    clear cGa cGb cGk cGz cGp
    obtain ⟨wM, hw⟩ : ∃ wx, wx = (w1).alloc (.cells (kcells 17 p) 132) := ⟨_, rfl⟩
    rw [← hw] at Ga Gb Gk Gz Gp HB ⊢
    clear hw
    have cGa := cell_row Ga.out
    have cGb := cell_row Gb.out
    have cGk := cell_row Gk.out
    have cGz := cell_row Gz.out
    have cGp := cell_row Gp.out
    go_wp2_with fail
    refine (SO.out _ _ Gp.out).mono ?_
    rintro e w2 ⟨rfl, hb⟩
    clear cGa cGb cGk cGz cGp
    replace HB := Lib.hid (below_then HB.out hb)
    replace Ga := Lib.hid ((hb.block _ (lt_of_heap Ga.out)).trans Ga.out)
    replace Gb := Lib.hid ((hb.block _ (lt_of_heap Gb.out)).trans Gb.out)
    replace Gk := Lib.hid ((hb.block _ (lt_of_heap Gk.out)).trans Gk.out)
    replace Gz := Lib.hid ((hb.block _ (lt_of_heap Gz.out)).trans Gz.out)
    replace Gp := Lib.hid ((hb.block _ (lt_of_heap Gp.out)).trans Gp.out)
    clear hb
    have stz := st_row (P := Try.prog) Gz.out rfl (q)
    replace Ga := Lib.hid ((setRow_other (w2) (w.heap.size + 1 + 1 + 1) _ (wcells (q)) (by (have := HZ2.out; omega))).trans Ga.out)
    replace Gb := Lib.hid ((setRow_other (w2) (w.heap.size + 1 + 1 + 1) _ (wcells (q)) (by (have := HZ2.out; omega))).trans Gb.out)
    replace Gk := Lib.hid ((setRow_other (w2) (w.heap.size + 1 + 1 + 1) _ (wcells (q)) (by (have := HZ2.out; omega))).trans Gk.out)
    replace Gp := Lib.hid ((setRow_other (w2) (w.heap.size + 1 + 1 + 1) _ (wcells (q)) (by (have := HZ2.out; omega))).trans Gp.out)
    replace Gz := Lib.hid (setRow_heap (w2) (w.heap.size + 1 + 1 + 1) _ (wcells (q)) _ _ Gz.out)
    replace HB := Lib.hid (below_setRow' HB.out (show _ ≤ w.heap.size + 1 + 1 + 1 by (have := HZ2.out; omega)) (wcells (q)))
    go_wp2
    exact bodyPost_ret (v := wv q) (results_cell_row rfl _ _ (w.heap.size + 3) _ _ _ _ rfl Gz.out Try.underlying26 rfl (by kernel_rfl)) rfl ⟨rfl, HB.out⟩
end Go.Proofs.Ytenkaobgoknlhaa

/- THE WALKS of package prod, going on: the sum of a list of numbers. -/
namespace Go.Proofs.Ytenkaobgoknlhaa
open Go Go.RowKit

/-- A slice of numbers of 512 bits, in a world. -/
def IsWides (w : World) (v : Value) (xs : List Nat) : Prop := ∃ a cap, v = .slice a xs.length cap ∧ xs.length ≤ cap ∧
  (0 < xs.length → ∃ b o, a = some ⟨b, o, none⟩ ∧ b < w.heap.size ∧ ∀ i x, xs[i]? = some x → ∀ j, j < 8 → w.cell? ⟨b, o + i * 8 + j, none⟩ = some (.int .u64 (limb x j : Nat)))
theorem IsWides.older {w w' : World} {v : Value} {xs : List Nat} (h : IsWides w v xs) (hb : Below w.heap.size w w') : IsWides w' v xs := by
  obtain ⟨a, cap, rfl, hc, hx⟩ := h
  refine ⟨a, cap, rfl, hc, fun h0 => ?_⟩
  obtain ⟨b, o, rfl, hbl, hcell⟩ := hx h0
  exact ⟨b, o, rfl, Nat.lt_of_lt_of_le hbl hb.size, fun i x hi j hj => (hb.cell (p := ⟨b, o + i * 8 + j, none⟩) hbl).trans (hcell i x hi j hj)⟩
theorem take_sum (xs : List Nat) (k x : Nat) (h : xs[k]? = some x) : (xs.take (k + 1)).sum = (xs.take k).sum + x := by
  rw [List.take_add_one, h, List.sum_append]; simp

attribute [local go_sem ↓] Go.wp_at_zero Go.wp_at_succ
set_option maxRecDepth 100000 in
set_option maxHeartbeats 2000000 in
theorem psum_any (v : Value) (xs : List Nat) (w : World) (hx : ∀ x ∈ xs, x < M) (hl : xs.length ≤ 1000000) (hv : IsWides w v xs) :
    Calls Try.prog 95 #[v] w fun e w' => e = .returned (wv (xs.sum % M)) ∧ Below w.heap.size w w' := by
  obtain ⟨a, cap, rfl, hcap, hcells⟩ := hv
  obtain ⟨n, hn⟩ : ∃ n, n = xs.length := ⟨_, rfl⟩
  rw [← hn] at hl hcap hcells ⊢
  have hl' : (n : Int) ≤ 1000000 := by omega
  obtain ⟨T, hT⟩ : ∃ T, T = xs.sum % M := ⟨_, rfl⟩
  rw [← hT]
  have HT := Lib.hid hT
  clear hT
  have HC := Lib.hid hcells; have HX := Lib.hid hx; have HN := Lib.hid hn; have HL := Lib.hid hl
  clear hcells hx hn hl
  go_enter Try.func95, Try.ntmps95
  have HB := Lib.hid (Below.refl w.heap.size w)
  have Gr := Lib.hid (alloc_new (w) (.cells (wcells 0) 26))
  replace HB := Lib.hid (below_al HB.out (.cells (wcells 0) 26))
  replace Gr := Lib.hid (keepAl (o' := .cells (wcells 0) 26) Gr.out)
  have Gs := Lib.hid (alloc_new' (w := (w).alloc (.cells (wcells 0) 26)) (n := w.heap.size + 1) (.cells (wcells 0) 26) (by simp))
  replace HB := Lib.hid (below_al HB.out (.cells (wcells 0) 26))
  go_wp2
  go_loopw [8] (fun s8 wr => ∃ k : Nat, s8 = .int .i64 k ∧ k ≤ n ∧ Hid (Below w.heap.size w wr) ∧ Hid (wr.heap[w.heap.size]? = some (.cells (wcells 0) 26 (0, 0))) ∧ Hid (wr.heap[w.heap.size + 1]? = some (.cells (wcells ((xs.take k).sum % M)) 26 (0, 0)))) (fun s8 _ => n - (intOf s8).toNat)
  case atStart => exact ⟨0, rfl, by omega, HB, Gr, by rw [List.take_zero, List.sum_nil, Nat.zero_mod]; exact Gs⟩
  case round =>
    clear HB Gr Gs
    obtain ⟨k, rfl, hk, HB, Gr, Gs⟩ := hrel
    by_cases hlt : k < n
    · have e1 : (k : Int) < (n : Int) := by omega
      have e0 : (0 : Int) ≤ (k : Int) := Int.natCast_nonneg _
      obtain ⟨x, hx⟩ : ∃ x, xs[k]? = some x := ⟨xs[k]'(by have := HN.out; omega), List.getElem?_eq_getElem _⟩
      have hxM : x < M := HX.out x (List.mem_of_getElem? hx)
      obtain ⟨b, o, rfl, hbl, hcell⟩ := HC.out (by omega)
      have hc : ∀ j, j < 8 → wr.cell? ⟨b, o + k * 8 + j, none⟩ = some (.int .u64 (limb x j : Nat)) := fun j hj => (HB.out.cell (p := ⟨b, o + k * 8 + j, none⟩) hbl).trans (hcell k x hx j hj)
      have c0 := hc 0 (by decide)
      rw [Nat.add_zero] at c0
      have c1 := hc 1 (by decide); have c2 := hc 2 (by decide); have c3 := hc 3 (by decide); have c4 := hc 4 (by decide); have c5 := hc 5 (by decide); have c6 := hc 6 (by decide); have c7 := hc 7 (by decide)
      have S := Lib.hid (fun w' => add_w ((xs.take k).sum % M) x (Nat.mod_lt _ M_pos) hxM w')
      rw [Nat.mod_add_mod, ← take_sum xs k x hx] at S
      obtain ⟨A, hA⟩ : ∃ A, A = (xs.take k).sum % M := ⟨_, rfl⟩
      obtain ⟨A2, hA2⟩ : ∃ A, A = (xs.take (k + 1)).sum % M := ⟨_, rfl⟩
      rw [← hA] at S Gs
      rw [← hA2] at S
      have HA2 := Lib.hid hA2
      obtain ⟨f, hf⟩ : ∃ f, f = decide (M ≤ A + x) := ⟨_, rfl⟩
      rw [← hf] at S
      have HLT := Lib.hid hlt
      clear hcell hc hx hxM hA hA2 hf hk hlt
      have HZ := Lib.hid (lt_of_heap Gs.out)
      replace Gr := Lib.hid (keepAl (o' := .cells (wcells x) 26) Gr.out)
      replace Gs := Lib.hid (keepAl (o' := .cells (wcells x) 26) Gs.out)
      have Gx := Lib.hid (alloc_new (wr) (.cells (wcells x) 26))
      replace HB := Lib.hid (below_al HB.out (.cells (wcells x) 26))
      have cGr := cell_row Gr.out
      have cGs := cell_row Gs.out
      have cGx := cell_row Gx.out
      go_wp2_with fail
      refine (S.out _).mono ?_
      rintro e w1 ⟨rfl, hb⟩
      clear cGr cGs cGx
      replace HB := Lib.hid (below_then HB.out hb)
      replace Gr := Lib.hid ((hb.block _ (lt_of_heap Gr.out)).trans Gr.out)
      replace Gs := Lib.hid ((hb.block _ (lt_of_heap Gs.out)).trans Gs.out)
      replace Gx := Lib.hid ((hb.block _ (lt_of_heap Gx.out)).trans Gx.out)
      clear hb
      clear c0 c1 c2 c3 c4 c5 c6 c7
      have sts := st_row (P := Try.prog) Gs.out rfl (A2)
      replace Gr := Lib.hid ((setRow_other (w1) (w.heap.size + 1) _ (wcells (A2)) (by (have := HZ.out; omega))).trans Gr.out)
      replace Gx := Lib.hid ((setRow_other (w1) (w.heap.size + 1) _ (wcells (A2)) (by (have := HZ.out; omega))).trans Gx.out)
      replace Gs := Lib.hid (setRow_heap (w1) (w.heap.size + 1) _ (wcells (A2)) _ _ Gs.out)
      replace HB := Lib.hid (below_setRow' HB.out (show _ ≤ w.heap.size + 1 by (have := HZ.out; omega)) (wcells (A2)))
      go_wp2
      go_roundw
      case rel => exact ⟨k + 1, by go_num, HLT.out, HB, Gr, by rw [← HA2.out]; exact Gs⟩
      case measure => have := HLT.out; simp [intOf]; omega
    · obtain rfl : k = n := by omega
      have HE := Lib.hid (show (xs.take k).sum % M = T by rw [HT.out, HN.out, List.take_length])
      rw [HE.out] at Gs
      clear hk hlt
      have c1 := cell_row Gs.out
      have str := st_row (P := Try.prog) Gr.out rfl (T)
      replace Gs := Lib.hid ((setRow_other (wr) (w.heap.size) _ (wcells (T)) (by (omega))).trans Gs.out)
      replace Gr := Lib.hid (setRow_heap (wr) (w.heap.size) _ (wcells (T)) _ _ Gr.out)
      replace HB := Lib.hid (below_setRow' HB.out (show _ ≤ w.heap.size by (omega)) (wcells (T)))
      go_wp2
      exact bodyPost_ret (v := wv T) (results_cell_row rfl _ _ w.heap.size _ _ _ _ rfl Gr.out Try.underlying26 rfl (by kernel_rfl)) rfl ⟨rfl, HB.out⟩
end Go.Proofs.Ytenkaobgoknlhaa
