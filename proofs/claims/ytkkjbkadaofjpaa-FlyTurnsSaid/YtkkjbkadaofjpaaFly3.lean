/- THE WALKS of package fly, going on: digits with the other sign; the document's example. -/
import Derived.Test.YtkkjbkadaofjpaaFly2
import Derived.Test.YtkkjbkadaofjpaaRef13
namespace Go.Proofs.Ytkkjbkadaofjpaa
open Go Go.RowKit

/-- Each with the other sign. -/
def turned (zs : List Int) : List Int := zs.map fun z => IntKind.i64.wrap (-z)
theorem turned_succ (zs : List Int) (k : Nat) (z : Int) (h : zs[k]? = some z) : (turned (zs.take (k + 1))).map (fun z => Value.int .i64 z) = (turned (zs.take k)).map (fun z => Value.int .i64 z) ++ [.int .i64 (IntKind.i64.wrap (-z))] := by
  unfold turned
  rw [List.take_add_one, h, List.map_append, List.map_append]
  rfl
attribute [local go_sem ↓] Go.wp_at_zero Go.wp_at_succ
set_option maxRecDepth 100000 in
set_option maxHeartbeats 2000000 in
theorem turn_any (v : Value) (zs : List Int) (w : World) (hl : zs.length ≤ 400) (hv : IsIntsN w v zs) :
    Calls Try.prog 37 #[v] w fun e w' => ∃ r, e = .returned r ∧ IsIntsN w' r (turned zs) ∧ Below w.heap.size w w' := by
  obtain ⟨a, cap, rfl, hcap, hcells⟩ := hv
  have HE : Hid (turned (zs.take zs.length) = turned zs) := Lib.hid (by rw [List.take_length])
  have HT : Hid ((turned zs).length = zs.length) := Lib.hid (List.length_map _)
  obtain ⟨n, hn⟩ : ∃ n, n = zs.length := ⟨_, rfl⟩
  rw [← hn] at hl hcap hcells HE HT ⊢
  have hl' : (n : Int) ≤ 400 := by omega
  have HC := Lib.hid hcells; have HN := Lib.hid hn; have HL := Lib.hid hl
  clear hcells hn hl
  go_enter Try.func37, Try.ntmps37
  have HB := Lib.hid (Below.refl w.heap.size w)
  go_wp2
  go_loopw [3, 5, 8] (fun s3 _ s8 wr => ∃ k : Nat, s8 = .int .i64 k ∧ k ≤ n ∧ Hid (wr.ownsRow w.heap.size 3 1 s3 k ((turned (zs.take k)).map fun z => .int .i64 z)) ∧ Hid (Below w.heap.size w wr)) (fun _ _ s8 _ => n - (intOf s8).toNat)
  case atStart => exact ⟨0, rfl, by omega, Lib.hid (by rw [List.take_zero]; exact World.ownsRow_nil _ _ _ _), HB⟩
  case round =>
    clear HB
    obtain ⟨k, rfl, hk, HO, HB⟩ := hrel
    by_cases hlt : k < n
    · have e1 : (k : Int) < (n : Int) := by omega
      have e0 : (0 : Int) ≤ (k : Int) := Int.natCast_nonneg _
      obtain ⟨z, hz⟩ : ∃ z, zs[k]? = some z := ⟨zs[k]'(by have := HN.out; omega), List.getElem?_eq_getElem _⟩
      obtain ⟨b, o, rfl, hbl, hcell⟩ := HC.out (by omega)
      have c0 : wr.cell? ⟨b, o + k, none⟩ = some (.int .i64 z) := (HB.out.cell (p := ⟨b, o + k, none⟩) hbl).trans (hcell k z hz)
      have HS := Lib.hid (turned_succ zs k z hz)
      have HLT := Lib.hid hlt
      obtain ⟨y, hy⟩ : ∃ y, y = IntKind.i64.wrap (-z) := ⟨_, rfl⟩
      rw [← hy] at HS
      have hy2 := hy.symm
      clear hcell hz hbl hlt hk hy
      go_wp2_with (at_builtin; obtain ⟨i0, hi, hz0, hz1, hz2⟩ := info_parts infoInt; refine wpList_append_own _ rfl _ _ 29 rfl w.heap.size 3 i0 (.int .i64 0) 1 8 Try.underlying29 hi hz0 hz1 hz2 rfl (by decide) _ _ _ rfl (HO.out.alloc _) ⟨wr.heap.size, 0, none⟩ 1 1 [.int .i64 y] rfl rfl ?c1 ?c2 ?c3 ?c4 ?c5 ?_)
      case c1 =>
        intro j u hj
        match j, hj with
        | 0, hj => simp at hj; subst hj; simp [Addr.add]
      case c2 => intro u hu; simp at hu; subst hu; rfl
      case c3 => have := HLT.out; have := HL.out; unfold maxLen; omega
      case c4 => have := HLT.out; have := HL.out; omega
      case c5 => have := HB.out.size; simp; omega
      intro v' w3 hown3 hgrow _
      have HB3 := Lib.hid (below_append HO.out HB.out HB.out.size hgrow)
      have HO3 : Hid (w3.ownsRow w.heap.size 3 1 v' (k + 1) ((turned (zs.take (k + 1))).map fun z => .int .i64 z)) := Lib.hid (by rw [HS.out]; exact hown3)
      clear hown3 hgrow c0 hy2
      go_wp2
      go_roundw
      case rel => exact ⟨k + 1, by go_num, HLT.out, HO3, HB3⟩
      case measure => have := HLT.out; simp [intOf]; omega
    · obtain rfl : k = n := by omega
      have HI := Lib.hid (ints_of_own (zs := turned zs) HT.out.symm (by rw [← HE.out]; exact HO.out))
      clear hk hlt
      go_wp2
      exact bodyPost_ret (v := _) (by simp [results, Try.results37, go_sem]) rfl ⟨_, rfl, HI.out, HB.out⟩

set_option maxRecDepth 100000 in
set_option maxHeartbeats 1000000 in
theorem same13_eq (va vb : Value) (zs : List Int) (w : World) (hl : zs.length ≤ 1000000) (ha : IsIntsN w va zs) (hb : IsIntsN w vb zs) :
    Calls Try.prog 67 #[va, vb] w fun e w' => e = .returned (.bool true) ∧ Below w.heap.size w w' := by
  obtain ⟨a1, cap1, rfl, _, hc1⟩ := ha
  obtain ⟨a2, cap2, rfl, _, hc2⟩ := hb
  obtain ⟨n, hn⟩ : ∃ n, n = zs.length := ⟨_, rfl⟩
  rw [← hn] at hl hc1 hc2 ⊢
  have hl' : (n : Int) ≤ 1000000 := by omega
  have HC1 := Lib.hid hc1; have HC2 := Lib.hid hc2; have HN := Lib.hid hn
  clear hc1 hc2 hn hl
  go_enter Try.func67, Try.ntmps67
  have HB := Lib.hid (Below.refl w.heap.size w)
  go_wp2
  go_loopw [5] (fun s5 wr => ∃ k : Nat, s5 = .int .i64 k ∧ k ≤ n ∧ Hid (Below w.heap.size w wr)) (fun s5 _ => n - (intOf s5).toNat)
  case atStart => exact ⟨0, rfl, by omega, HB⟩
  case round =>
    clear HB
    obtain ⟨k, rfl, hk, HB⟩ := hrel
    by_cases hlt : k < n
    · have e1 : (k : Int) < (n : Int) := by omega
      have e0 : (0 : Int) ≤ (k : Int) := Int.natCast_nonneg _
      obtain ⟨z, hz⟩ : ∃ z, zs[k]? = some z := ⟨zs[k]'(by have := HN.out; omega), List.getElem?_eq_getElem _⟩
      obtain ⟨b1, o1, rfl, hbl1, hcell1⟩ := HC1.out (by omega)
      obtain ⟨b2, o2, rfl, hbl2, hcell2⟩ := HC2.out (by omega)
      have hs := HB.out.size
      have x1 := ext_cell (B := wr.heap.size) ((HB.out.cell (p := ⟨b1, o1 + k, none⟩) hbl1).trans (hcell1 k z hz)) (by omega)
      have x2 := ext_cell (B := wr.heap.size) ((HB.out.cell (p := ⟨b2, o2 + k, none⟩) hbl2).trans (hcell2 k z hz)) (by omega)
      have HLT := Lib.hid hlt
      clear hcell1 hcell2 hz hbl1 hbl2 hlt hk hs
      go_upto_region 6 with fail
      refine wp_region_ext wr.heap.size (by kernel_rfl) (by kernel_rfl) ?_
      repeat (go_big_quiet_step (fail))
      refine wpQuiet_nil ?_
      intro w1 hb
      replace HB := Lib.hid (below_then HB.out hb)
      clear hb
      clear x1 x2
      go_wp2
      go_roundw
      case rel => exact ⟨k + 1, by go_num, HLT.out, HB⟩
      case measure => have := HLT.out; simp [intOf]; omega
    · obtain rfl : k = n := by omega
      clear hk hlt
      go_wp2
      go_ret
      exact ⟨rfl, HB.out⟩

/-- A block of three whole numbers. -/
def H3 (w : World) (g : Nat) (x y z : Int) : Prop := ∃ cur t, w.heap[g]? = some (.cells cur t (0, 0)) ∧ cur[0]? = some (.int .i64 x) ∧ cur[1]? = some (.int .i64 y) ∧ cur[2]? = some (.int .i64 z)
theorem H3.lt {w : World} {g : Nat} {x y z : Int} (h : H3 w g x y z) : g < w.heap.size := by obtain ⟨_, _, h, _⟩ := h; exact lt_of_heap h
theorem H3.keep {w w' : World} {g : Nat} {x y z : Int} (h : H3 w g x y z) (e : w'.heap[g]? = w.heap[g]?) : H3 w' g x y z := by obtain ⟨cur, t, h, k⟩ := h; exact ⟨cur, t, e.trans h, k⟩
theorem H3.older {w w' : World} {g : Nat} {x y z : Int} (h : H3 w g x y z) (hb : Below w.heap.size w w') : H3 w' g x y z := h.keep (hb.block g h.lt)
theorem H3.cells {w : World} {g : Nat} {x y z : Int} (h : H3 w g x y z) : w.cell? ⟨g, 0, none⟩ = some (.int .i64 x) ∧ w.cell? ⟨g, 1, none⟩ = some (.int .i64 y) ∧ w.cell? ⟨g, 2, none⟩ = some (.int .i64 z) ∧ (∀ j, w.frozen? ⟨g, j, none⟩ = false) := by
  obtain ⟨cur, t, h, h0, h1, h2⟩ := h
  exact ⟨(cell_row h 0).trans h0, (cell_row h 1).trans h1, (cell_row h 2).trans h2, free_row h⟩
theorem H3.set2 {w : World} {g : Nat} {x y z : Int} (h : H3 w g x y z) (v : Int) : H3 (w.setCell ⟨g, 2, none⟩ (.int .i64 v)) g x y v := by
  obtain ⟨cur, t, h, h0, h1, h2⟩ := h
  exact ⟨_, t, set_row h 2 _, by rw [Array.getElem?_setIfInBounds_ne (by decide)]; exact h0, by rw [Array.getElem?_setIfInBounds_ne (by decide)]; exact h1, Array.getElem?_setIfInBounds_self_of_lt (by obtain ⟨k, _⟩ := Array.getElem?_eq_some_iff.1 h2; exact k)⟩
theorem H3.set1 {w : World} {g : Nat} {x y z : Int} (h : H3 w g x y z) (v : Int) : H3 (w.setCell ⟨g, 1, none⟩ (.int .i64 v)) g x v z := by
  obtain ⟨cur, t, h, h0, h1, h2⟩ := h
  exact ⟨_, t, set_row h 1 _, by rw [Array.getElem?_setIfInBounds_ne (by decide)]; exact h0, Array.getElem?_setIfInBounds_self_of_lt (by obtain ⟨k, _⟩ := Array.getElem?_eq_some_iff.1 h1; exact k), by rw [Array.getElem?_setIfInBounds_ne (by decide)]; exact h2⟩
theorem H3.set0 {w : World} {g : Nat} {x y z : Int} (h : H3 w g x y z) (v : Int) : H3 (w.setCell ⟨g, 0, none⟩ (.int .i64 v)) g v y z := by
  obtain ⟨cur, t, h, h0, h1, h2⟩ := h
  exact ⟨_, t, set_row h 0 _, Array.getElem?_setIfInBounds_self_of_lt (by obtain ⟨k, _⟩ := Array.getElem?_eq_some_iff.1 h0; exact k), by rw [Array.getElem?_setIfInBounds_ne (by decide)]; exact h1, by rw [Array.getElem?_setIfInBounds_ne (by decide)]; exact h2⟩
theorem H3.ints {w : World} {g : Nat} {x y z : Int} (h : H3 w g x y z) : IsIntsN w (.slice (some ⟨g, 0, none⟩) 3 3) [x, y, z] := by
  obtain ⟨c0, c1, c2, _⟩ := h.cells
  refine ⟨_, _, rfl, Nat.le_refl _, fun _ => ⟨g, 0, rfl, h.lt, fun i v hi => ?_⟩⟩
  match i, hi with
  | 0, hi => simp at hi; subst hi; exact c0
  | 1, hi => simp at hi; subst hi; exact c1
  | 2, hi => simp at hi; subst hi; exact c2
/-- What Recode(14, 3) goes through. -/
def RS (i : Int) (A : Nat) (x y z : Int) : Prop :=
  (i = 2 ∧ A = 14 ∧ x = 0 ∧ y = 0 ∧ z = 0) ∨ (i = 1 ∧ A = 3 ∧ x = 0 ∧ y = 0 ∧ z = 2) ∨ (i = 0 ∧ A = 1 ∧ x = 0 ∧ y = -1 ∧ z = 2) ∨ (i = -1 ∧ A = 0 ∧ x = 1 ∧ y = -1 ∧ z = 2)
theorem limb_lit (n : Nat) (h : n ≤ 1000) : limb n 0 = n := by unfold limb; rw [Nat.mul_zero, P2_0, Nat.div_one, P2_64]; omega
set_option maxRecDepth 100000 in
set_option maxHeartbeats 4000000 in
theorem recode14_any (w : World) : Calls Try.prog 88 #[wv 14, .int .i64 3] w fun e w' => ∃ v, e = .returned (.tuple #[v, .bool true]) ∧ IsIntsN w' v [1, -1, 2] ∧ Below w.heap.size w w' := by
  have hM1 : (1 : Nat) < M := lit_ltM _ (by decide)
  have S1 := Lib.hid (fun w' => shr_any 14 (lit_ltM _ (by decide)) ((2 : Nat) : Int) w' (by decide) (by decide))
  have S2 := Lib.hid (fun w' => shr_any 3 (lit_ltM _ (by decide)) ((2 : Nat) : Int) w' (by decide) (by decide))
  have S3 := Lib.hid (fun w' => shr_any 1 (lit_ltM _ (by decide)) ((2 : Nat) : Int) w' (by decide) (by decide))
  rw [clampN_at (show 2 ≤ 512 by decide), P2_2] at S1 S2 S3
  rw [show (14 : Nat) / 4 = 3 from rfl, show decide ((14 : Nat) % 4 ≠ 0) = true from rfl] at S1
  rw [show (3 : Nat) / 4 = 0 from rfl, show decide ((3 : Nat) % 4 ≠ 0) = true from rfl] at S2
  rw [show (1 : Nat) / 4 = 0 from rfl, show decide ((1 : Nat) % 4 ≠ 0) = true from rfl] at S3
  have SO : Hid (∀ (g : Nat) (w' : World), w'.heap[g]? = some (.cells #[.int .u64 1] 24 (0, 0)) → Calls Try.prog 94 #[.slice (some ⟨g, 0, none⟩) 1 1] w' fun e w'' => e = .returned (wv 1) ∧ Below w'.heap.size w' w'') := Lib.hid fun g w' h => by
    have := of_w (.slice (some ⟨g, 0, none⟩) 1 1) 1 1 w' (isLimbs_one (by decide) (by rw [cell_row h]; rfl) (lt_of_heap h))
    rwa [Nat.mod_eq_of_lt hM1] at this
  have SA := Lib.hid (fun w' => add_w 0 1 M_pos hM1 w')
  rw [Nat.zero_add, Nat.mod_eq_of_lt hM1] at SA
  obtain ⟨fA, hfA⟩ : ∃ x, x = decide (M ≤ 1) := ⟨_, rfl⟩
  rw [← hfA] at SA
  have a1 : bits .and .u64 ((limb 14 0 : Nat) : Int) 3 = 2 := by rw [limb_lit 14 (by decide)]; rfl
  have a2 : bits .and .u64 ((limb 3 0 : Nat) : Int) 3 = 3 := by rw [limb_lit 3 (by decide)]; rfl
  have a3 : bits .and .u64 ((limb 1 0 : Nat) : Int) 3 = 1 := by rw [limb_lit 1 (by decide)]; rfl
  clear hM1 hfA
  go_enter Try.func88, Try.ntmps88
  have HB := Lib.hid (Below.refl w.heap.size w)
  have Ga := Lib.hid (alloc_new (w) (.cells (wcells 14) 31))
  replace HB := Lib.hid (below_al HB.out (.cells (wcells 14) 31))
  go_wp2_with (obtain ⟨i0, hi, hz0, hz1, hz2⟩ := info_parts infoInt; refine wpList_make_full _ rfl _ _ 29 rfl (w.heap.size + 1) 3 i0 (.int .i64 0) 1 Try.underlying29 hi hz0 hz1 _ _ _ _ 3 rfl rfl ?hL ?hC ?b2 ?b3 ?b4 ?_)
  case hL => omega
  case hC => omega
  case b2 => rw [hz2]; omega
  case b3 => unfold maxLen; omega
  case b4 => simp
  intro w0 hown hgrow
  have hb : Below ((w).alloc (.cells (wcells 14) 31)).heap.size ((w).alloc (.cells (wcells 14) 31)) w0 := (Below.refl _ _).grown hgrow (Nat.le_refl _) (fun k hk => by cases hk)
  have h3 : H3 w0 (w.heap.size + 1) 0 0 0 := by
    obtain ⟨hlen, ⟨h1, _⟩ | ⟨g, cap, cur, hv, hbg, hg, hnc, hcz, hcs, htake⟩⟩ := hown
    · cases h1
    · cases hv
      have key : ∀ j, j < 3 → cur[j]? = some (.int .i64 0) := fun j hj => by
        have h1 : (madeCells #[Value.int IntKind.i64 0] (3 * 1)).toList[j]? = some (.int .i64 0) := by
          rw [toList_madeCells_one]; exact List.getElem?_replicate_of_lt (by omega)
        have h2 : (madeCells #[Value.int IntKind.i64 0] (3 * 1)).toList = List.take (3 * 1) cur.toList := by rw [htake, Nat.mul_one]
        rw [h2, List.getElem?_take, if_pos (by omega)] at h1
        rw [← Array.getElem?_toList]; exact h1
      exact ⟨cur, _, hg, key 0 (by decide), key 1 (by decide), key 2 (by decide)⟩
  have Kg := Lib.hid h3
  replace Ga := Lib.hid ((hb.block _ (lt_of_heap Ga.out)).trans Ga.out)
  replace HB := Lib.hid (HB.out.trans (hb.mono (by simp)))
  clear hown hgrow hb h3 hi hz0 hz1 hz2 i0
  go_wp2
  go_loopw [7] (fun s7 wr => ∃ (i : Int) (A : Nat) (x y z : Int), s7 = .int .i64 i ∧ Hid (RS i A x y z) ∧ Hid (wr.heap[w.heap.size]? = some (.cells (wcells A) 31 (0, 0))) ∧ Hid (H3 wr (w.heap.size + 1) x y z) ∧ Hid (Below w.heap.size w wr)) (fun s7 _ => (intOf s7 + 1).toNat)
  case atStart => exact ⟨2, 14, 0, 0, 0, rfl, Lib.hid (Or.inl ⟨rfl, rfl, rfl, rfl, rfl⟩), Ga, Kg, HB⟩
  case round =>
    clear HB Ga Kg
    obtain ⟨i, A, x, y, z, rfl, HR, Ga, Kg, HB⟩ := hrel
    rcases HR.out with ⟨rfl, rfl, rfl, rfl, rfl⟩ | ⟨rfl, rfl, rfl, rfl, rfl⟩ | ⟨rfl, rfl, rfl, rfl, rfl⟩ | ⟨rfl, rfl, rfl, rfl, rfl⟩
    · clear HR a2 a3
      have cGa := cell_row Ga.out
      go_wp2_with fail
      refine (S1.out _).mono ?_
      rintro e w2 ⟨rfl, hb⟩
      clear cGa
      replace HB := Lib.hid (below_then HB.out hb)
      replace Ga := Lib.hid ((hb.block _ (lt_of_heap Ga.out)).trans Ga.out)
      replace Kg := Lib.hid (Kg.out.older hb)
      clear hb
      have sta := st_row (P := Try.prog) Ga.out rfl (3)
      replace Kg := Lib.hid (Kg.out.keep (setRow_other (w2) (w.heap.size) _ (wcells (3)) (by (omega))))
      replace Ga := Lib.hid (setRow_heap (w2) (w.heap.size) _ (wcells (3)) _ _ Ga.out)
      replace HB := Lib.hid (below_setRow' HB.out (show _ ≤ w.heap.size by (omega)) (wcells (3)))
      obtain ⟨k0, k1, k2, kf⟩ := Kg.out.cells
      go_wp2
      go_roundw
      case rel => exact ⟨1, 3, 0, 0, 2, rfl, Lib.hid (Or.inr (Or.inl ⟨rfl, rfl, rfl, rfl, rfl⟩)), Lib.hid ((set_other _ _ _ (by show w.heap.size ≠ w.heap.size + 1; omega)).trans Ga.out), Lib.hid (Kg.out.set2 _), Lib.hid (below_set HB.out (by omega) _ _)⟩
      case measure => simp [intOf]
    · clear HR a1 a3
      have cGa := cell_row Ga.out
      go_wp2_with fail
      refine (S2.out _).mono ?_
      rintro e w3 ⟨rfl, hb⟩
      clear cGa
      replace HB := Lib.hid (below_then HB.out hb)
      replace Ga := Lib.hid ((hb.block _ (lt_of_heap Ga.out)).trans Ga.out)
      replace Kg := Lib.hid (Kg.out.older hb)
      clear hb
      have sta := st_row (P := Try.prog) Ga.out rfl (0)
      replace Kg := Lib.hid (Kg.out.keep (setRow_other (w3) (w.heap.size) _ (wcells (0)) (by (omega))))
      replace Ga := Lib.hid (setRow_heap (w3) (w.heap.size) _ (wcells (0)) _ _ Ga.out)
      replace HB := Lib.hid (below_setRow' HB.out (show _ ≤ w.heap.size by (omega)) (wcells (0)))
      go_upto_region 11 with fail
      clear sta
      obtain ⟨wL, hw⟩ : ∃ wx, wx = (w3).setRow (w.heap.size) (wcells (0)) := ⟨_, rfl⟩
      rw [← hw] at Ga Kg HB ⊢
      clear hw
      have k0 : ∀ j, wL.drew.cell? ⟨w.heap.size, j, none⟩ = (wcells 0)[j]? := cell_row Ga.out
      have k1 : ∀ j, (wL.alloc (.cells #[.int .u64 1] 24)).drew.cell? ⟨w.heap.size, j, none⟩ = (wcells 0)[j]? := cell_row (w := (wL.alloc (.cells #[.int .u64 1] 24)).drew) (keepAl Ga.out)
      have kn := Lib.hid (show (wL.alloc (.cells #[.int .u64 1] 24)).drew.heap[wL.heap.size]? = some (.cells #[.int .u64 1] 24 (0, 0)) from alloc_new wL _)
      go_region_with
        (first
          | (go_at_call 94
             refine (SO.out _ _ kn.out).mono ?_
             rintro e wA ⟨rfl, hb⟩
             have HL := Lib.hid (below_then (below_al (Below.refl wL.heap.size wL) (.cells #[.int .u64 1] 24)).drew hb)
             have HB1 := Lib.hid (below_then HB.out HL.out)
             have Ga1 := Lib.hid ((HL.out.block _ (lt_of_heap Ga.out)).trans Ga.out)
             have Kg1 := Lib.hid (Kg.out.older HL.out)
             have cA := cell_row Ga1.out
             clear hb)
          | (go_at_call 144
             refine (SA.out _).mono ?_
             rintro e wB ⟨rfl, hb⟩
             have HB2 := Lib.hid (below_setRow' (below_then HB1.out hb) (Nat.le_refl w.heap.size) (wcells 1))
             have Ga2 := Lib.hid ((hb.block _ (lt_of_heap Ga1.out)).trans Ga1.out)
             have Kg2 := Lib.hid ((Kg1.out.older hb).keep (setRow_other wB w.heap.size _ (wcells 1) (by omega)))
             have st := st_row (P := Try.prog) Ga2.out rfl 1
             replace Ga2 := Lib.hid (setRow_heap _ _ _ (wcells 1) _ _ Ga2.out)
             obtain ⟨q0, q1, q2, kf⟩ := Kg2.out.cells
             clear hb))
      all_goals
        go_wp2
        go_roundw
        case rel => exact ⟨0, 1, 0, -1, 2, rfl, Lib.hid (Or.inr (Or.inr (Or.inl ⟨rfl, rfl, rfl, rfl, rfl⟩))), Lib.hid ((set_other _ _ _ (by show w.heap.size ≠ w.heap.size + 1; omega)).trans Ga2.out), Lib.hid (Kg2.out.set1 _), Lib.hid (below_set HB2.out (by omega) _ _)⟩
        case measure => simp [intOf]
    · clear HR a1 a2
      have cGa := cell_row Ga.out
      go_wp2_with fail
      refine (S3.out _).mono ?_
      rintro e w4 ⟨rfl, hb⟩
      clear cGa
      replace HB := Lib.hid (below_then HB.out hb)
      replace Ga := Lib.hid ((hb.block _ (lt_of_heap Ga.out)).trans Ga.out)
      replace Kg := Lib.hid (Kg.out.older hb)
      clear hb
      have sta := st_row (P := Try.prog) Ga.out rfl (0)
      replace Kg := Lib.hid (Kg.out.keep (setRow_other (w4) (w.heap.size) _ (wcells (0)) (by (omega))))
      replace Ga := Lib.hid (setRow_heap (w4) (w.heap.size) _ (wcells (0)) _ _ Ga.out)
      replace HB := Lib.hid (below_setRow' HB.out (show _ ≤ w.heap.size by (omega)) (wcells (0)))
      obtain ⟨k0, k1, k2, kf⟩ := Kg.out.cells
      go_wp2
      go_roundw
      case rel => exact ⟨-1, 0, 1, -1, 2, rfl, Lib.hid (Or.inr (Or.inr (Or.inr ⟨rfl, rfl, rfl, rfl, rfl⟩))), Lib.hid ((set_other _ _ _ (by show w.heap.size ≠ w.heap.size + 1; omega)).trans Ga.out), Lib.hid (Kg.out.set0 _), Lib.hid (below_set HB.out (by omega) _ _)⟩
      case measure => simp [intOf]
    · clear HR a1 a2 a3
      have HI := Lib.hid Kg.out.ints
      have ca := cell_row Ga.out
      go_wp2
      go_ret2
      exact ⟨_, rfl, HI.out, HB.out⟩
end Go.Proofs.Ytkkjbkadaofjpaa
