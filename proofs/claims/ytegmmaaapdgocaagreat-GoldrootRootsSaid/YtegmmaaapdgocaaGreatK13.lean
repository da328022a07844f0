/- SEVERAL TEXTS of the seat, one behind the other: each says at its head what it proves. -/
import Derived.Test.YtegmmaaapdgocaaGreatProd4
/- THE WALKS of package prod, going on: a part of a product. -/
namespace Go.Proofs.YtegmmaaapdgocaaGreat
open Go Go.RowKit

theorem rowS_none (a b m i : Nat) (h : 8 ≤ m - i) : ∀ k, k ≤ 8 → rowS a b m i k = 0 := by
  intro k hk
  induction k with
  | zero => rfl
  | succ k ih => rw [rowS, if_neg (by omega), ih (by omega)]
theorem colS_none (a b m : Nat) (h : 15 ≤ m) : ∀ i, i ≤ 8 → colS a b m i = 0 := by
  intro i hi
  induction i with
  | zero => rfl
  | succ i ih => rw [colS, ih (by omega), rowS_none a b m i (by omega) 8 (by omega)]

attribute [local go_sem ↓] Go.wp_at_zero Go.wp_at_succ
end Go.Proofs.YtegmmaaapdgocaaGreat

/- THE WALKS of package prod, going on: the sum of a list of numbers. -/
namespace Go.Proofs.YtegmmaaapdgocaaGreat
open Go Go.RowKit

/-- A slice of numbers of 512 bits, in a world. -/
def IsWides (w : World) (v : Value) (xs : List Nat) : Prop := ∃ a cap, v = .slice a xs.length cap ∧ xs.length ≤ cap ∧
  (0 < xs.length → ∃ b o, a = some ⟨b, o, none⟩ ∧ b < w.heap.size ∧ ∀ i x, xs[i]? = some x → ∀ j, j < 8 → w.cell? ⟨b, o + i * 8 + j, none⟩ = some (.int .u64 (limb x j : Nat)))
theorem IsWides.older {w w' : World} {v : Value} {xs : List Nat} (h : IsWides w v xs) (hb : Below w.heap.size w w') : IsWides w' v xs := by
  obtain ⟨a, cap, rfl, hc, hx⟩ := h
  refine ⟨a, cap, rfl, hc, fun h0 => ?_⟩
  obtain ⟨b, o, rfl, hbl, hcell⟩ := hx h0
  exact ⟨b, o, rfl, Nat.lt_of_lt_of_le hbl hb.size, fun i x hi j hj => (hb.cell (p := ⟨b, o + i * 8 + j, none⟩) hbl).trans (hcell i x hi j hj)⟩
theorem take_sum (xs : List Nat) (k x : Nat) (h : xs[k]? = some x) : (xs.take (k + 1)).sum = (xs.take k).sum + x := by
  rw [List.take_add_one, h, List.sum_append]; simp

attribute [local go_sem ↓] Go.wp_at_zero Go.wp_at_succ
set_option maxRecDepth 100000 in
set_option maxHeartbeats 2000000 in
theorem psum_any (v : Value) (xs : List Nat) (w : World) (hx : ∀ x ∈ xs, x < M) (hl : xs.length ≤ 1000000) (hv : IsWides w v xs) :
    Calls Tryz.prog 129 #[v] w fun e w' => e = .returned (wv (xs.sum % M)) ∧ Below w.heap.size w w' := by
  obtain ⟨a, cap, rfl, hcap, hcells⟩ := hv
  obtain ⟨n, hn⟩ : ∃ n, n = xs.length := ⟨_, rfl⟩
  rw [← hn] at hl hcap hcells ⊢
  have hl' : (n : Int) ≤ 1000000 := by omega
  obtain ⟨T, hT⟩ : ∃ T, T = xs.sum % M := ⟨_, rfl⟩
  rw [← hT]
  have HT := Lib.hid hT
  clear hT
  have HC := Lib.hid hcells; have HX := Lib.hid hx; have HN := Lib.hid hn; have HL := Lib.hid hl
  clear hcells hx hn hl
  go_enter Tryz.func129, Tryz.ntmps129
  have HB := Lib.hid (Below.refl w.heap.size w)
  have Gr := Lib.hid (alloc_new (w) (.cells (wcells 0) 24))
  replace HB := Lib.hid (below_al HB.out (.cells (wcells 0) 24))
  replace Gr := Lib.hid (keepAl (o' := .cells (wcells 0) 24) Gr.out)
  have Gs := Lib.hid (alloc_new' (w := (w).alloc (.cells (wcells 0) 24)) (n := w.heap.size + 1) (.cells (wcells 0) 24) (by simp))
  replace HB := Lib.hid (below_al HB.out (.cells (wcells 0) 24))
  go_wp2
  go_loopw [8] (fun s8 wr => ∃ k : Nat, s8 = .int .i64 k ∧ k ≤ n ∧ Hid (Below w.heap.size w wr) ∧ Hid (wr.heap[w.heap.size]? = some (.cells (wcells 0) 24 (0, 0))) ∧ Hid (wr.heap[w.heap.size + 1]? = some (.cells (wcells ((xs.take k).sum % M)) 24 (0, 0)))) (fun s8 _ => n - (intOf s8).toNat)
  case atStart => exact ⟨0, rfl, by omega, HB, Gr, by rw [List.take_zero, List.sum_nil, Nat.zero_mod]; exact Gs⟩
  case round =>
    clear HB Gr Gs
    obtain ⟨k, rfl, hk, HB, Gr, Gs⟩ := hrel
    by_cases hlt : k < n
    · have e1 : (k : Int) < (n : Int) := by omega
      have e0 : (0 : Int) ≤ (k : Int) := Int.natCast_nonneg _
      obtain ⟨x, hx⟩ : ∃ x, xs[k]? = some x := ⟨xs[k]'(by have := HN.out; omega), List.getElem?_eq_getElem _⟩
      have hxM : x < M := HX.out x (List.mem_of_getElem? hx)
      obtain ⟨b, o, rfl, hbl, hcell⟩ := HC.out (by omega)
      have hc : ∀ j, j < 8 → wr.cell? ⟨b, o + k * 8 + j, none⟩ = some (.int .u64 (limb x j : Nat)) := fun j hj => (HB.out.cell (p := ⟨b, o + k * 8 + j, none⟩) hbl).trans (hcell k x hx j hj)
      have c0 := hc 0 (by decide)
      rw [Nat.add_zero] at c0
      have c1 := hc 1 (by decide); have c2 := hc 2 (by decide); have c3 := hc 3 (by decide); have c4 := hc 4 (by decide); have c5 := hc 5 (by decide); have c6 := hc 6 (by decide); have c7 := hc 7 (by decide)
      have S := Lib.hid (fun w' => add_w ((xs.take k).sum % M) x (Nat.mod_lt _ M_pos) hxM w')
      rw [Nat.mod_add_mod, ← take_sum xs k x hx] at S
      obtain ⟨A, hA⟩ : ∃ A, A = (xs.take k).sum % M := ⟨_, rfl⟩
      obtain ⟨A2, hA2⟩ : ∃ A, A = (xs.take (k + 1)).sum % M := ⟨_, rfl⟩
      rw [← hA] at S Gs
      rw [← hA2] at S
      have HA2 := Lib.hid hA2
      obtain ⟨f, hf⟩ : ∃ f, f = decide (M ≤ A + x) := ⟨_, rfl⟩
      rw [← hf] at S
      have HLT := Lib.hid hlt
      clear hcell hc hx hxM hA hA2 hf hk hlt
      have HZ := Lib.hid (lt_of_heap Gs.out)
      replace Gr := Lib.hid (keepAl (o' := .cells (wcells x) 24) Gr.out)
      replace Gs := Lib.hid (keepAl (o' := .cells (wcells x) 24) Gs.out)
      have Gx := Lib.hid (alloc_new (wr) (.cells (wcells x) 24))
      replace HB := Lib.hid (below_al HB.out (.cells (wcells x) 24))
      have cGr := cell_row Gr.out
      have cGs := cell_row Gs.out
      have cGx := cell_row Gx.out
      go_wp2_with fail
      refine (S.out _).mono ?_
      rintro e w1 ⟨rfl, hb⟩
      clear cGr cGs cGx
      replace HB := Lib.hid (below_then HB.out hb)
      replace Gr := Lib.hid ((hb.block _ (lt_of_heap Gr.out)).trans Gr.out)
      replace Gs := Lib.hid ((hb.block _ (lt_of_heap Gs.out)).trans Gs.out)
      replace Gx := Lib.hid ((hb.block _ (lt_of_heap Gx.out)).trans Gx.out)
      clear hb
      clear c0 c1 c2 c3 c4 c5 c6 c7
      have sts := st_row (P := Tryz.prog) Gs.out rfl (A2)
      replace Gr := Lib.hid ((setRow_other (w1) (w.heap.size + 1) _ (wcells (A2)) (by (have := HZ.out; omega))).trans Gr.out)
      replace Gx := Lib.hid ((setRow_other (w1) (w.heap.size + 1) _ (wcells (A2)) (by (have := HZ.out; omega))).trans Gx.out)
      replace Gs := Lib.hid (setRow_heap (w1) (w.heap.size + 1) _ (wcells (A2)) _ _ Gs.out)
      replace HB := Lib.hid (below_setRow' HB.out (show _ ≤ w.heap.size + 1 by (have := HZ.out; omega)) (wcells (A2)))
      go_wp2
      go_roundw
      case rel => exact ⟨k + 1, by go_num, HLT.out, HB, Gr, by rw [← HA2.out]; exact Gs⟩
      case measure => have := HLT.out; simp [intOf]; omega
    · obtain rfl : k = n := by omega
      have HE := Lib.hid (show (xs.take k).sum % M = T by rw [HT.out, HN.out, List.take_length])
      rw [HE.out] at Gs
      clear hk hlt
      have c1 := cell_row Gs.out
      have str := st_row (P := Tryz.prog) Gr.out rfl (T)
      replace Gs := Lib.hid ((setRow_other (wr) (w.heap.size) _ (wcells (T)) (by (omega))).trans Gs.out)
      replace Gr := Lib.hid (setRow_heap (wr) (w.heap.size) _ (wcells (T)) _ _ Gr.out)
      replace HB := Lib.hid (below_setRow' HB.out (show _ ≤ w.heap.size by (omega)) (wcells (T)))
      go_wp2
      exact bodyPost_ret (v := wv T) (results_cell_row rfl _ _ w.heap.size _ _ _ _ rfl Gr.out Tryz.underlying24 rfl (by kernel_rfl)) rfl ⟨rfl, HB.out⟩
end Go.Proofs.YtegmmaaapdgocaaGreat
