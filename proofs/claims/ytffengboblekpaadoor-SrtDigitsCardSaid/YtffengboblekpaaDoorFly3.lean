/- THE WALKS of package fly, going on: digits with the other sign; the document's example. -/
import Derived.Test.YtffengboblekpaaDoorFly2
import Derived.Test.YtffengboblekpaaDoorRef13
namespace Go.Proofs.YtffengboblekpaaDoor
open Go Go.RowKit

/-- Each with the other sign. -/
def turned (zs : List Int) : List Int := zs.map fun z => IntKind.i64.wrap (-z)
theorem turned_succ (zs : List Int) (k : Nat) (z : Int) (h : zs[k]? = some z) : (turned (zs.take (k + 1))).map (fun z => Value.int .i64 z) = (turned (zs.take k)).map (fun z => Value.int .i64 z) ++ [.int .i64 (IntKind.i64.wrap (-z))] := by
  unfold turned
  rw [List.take_add_one, h, List.map_append, List.map_append]
  rfl
attribute [local go_sem ↓] Go.wp_at_zero Go.wp_at_succ
set_option maxRecDepth 100000 in
set_option maxHeartbeats 1000000 in
theorem same13_eq (va vb : Value) (zs : List Int) (w : World) (hl : zs.length ≤ 1000000) (ha : IsIntsN w va zs) (hb : IsIntsN w vb zs) :
    Calls Tryd.prog 29 #[va, vb] w fun e w' => e = .returned (.bool true) ∧ Below w.heap.size w w' := by
  obtain ⟨a1, cap1, rfl, _, hc1⟩ := ha
  obtain ⟨a2, cap2, rfl, _, hc2⟩ := hb
  obtain ⟨n, hn⟩ : ∃ n, n = zs.length := ⟨_, rfl⟩
  rw [← hn] at hl hc1 hc2 ⊢
  have hl' : (n : Int) ≤ 1000000 := by omega
  have HC1 := Lib.hid hc1; have HC2 := Lib.hid hc2; have HN := Lib.hid hn
  clear hc1 hc2 hn hl
  go_enter Tryd.func29, Tryd.ntmps29
  have HB := Lib.hid (Below.refl w.heap.size w)
  go_wp2
  go_loopw [5] (fun s5 wr => ∃ k : Nat, s5 = .int .i64 k ∧ k ≤ n ∧ Hid (Below w.heap.size w wr)) (fun s5 _ => n - (intOf s5).toNat)
  case atStart => exact ⟨0, rfl, by omega, HB⟩
  case round =>
    clear HB
    obtain ⟨k, rfl, hk, HB⟩ := hrel
    by_cases hlt : k < n
    · have e1 : (k : Int) < (n : Int) := by omega
      have e0 : (0 : Int) ≤ (k : Int) := Int.natCast_nonneg _
      obtain ⟨z, hz⟩ : ∃ z, zs[k]? = some z := ⟨zs[k]'(by have := HN.out; omega), List.getElem?_eq_getElem _⟩
      obtain ⟨b1, o1, rfl, hbl1, hcell1⟩ := HC1.out (by omega)
      obtain ⟨b2, o2, rfl, hbl2, hcell2⟩ := HC2.out (by omega)
      have hs := HB.out.size
      have x1 := ext_cell (B := wr.heap.size) ((HB.out.cell (p := ⟨b1, o1 + k, none⟩) hbl1).trans (hcell1 k z hz)) (by omega)
      have x2 := ext_cell (B := wr.heap.size) ((HB.out.cell (p := ⟨b2, o2 + k, none⟩) hbl2).trans (hcell2 k z hz)) (by omega)
      have HLT := Lib.hid hlt
      clear hcell1 hcell2 hz hbl1 hbl2 hlt hk hs
      go_upto_region 6 with fail
      refine wp_region_ext wr.heap.size (by kernel_rfl) (by kernel_rfl) ?_
      repeat (go_big_quiet_step (fail))
      refine wpQuiet_nil ?_
      intro w1 hb
      replace HB := Lib.hid (below_then HB.out hb)
      clear hb
      clear x1 x2
      go_wp2
      go_roundw
      case rel => exact ⟨k + 1, by go_num, HLT.out, HB⟩
      case measure => have := HLT.out; simp [intOf]; omega
    · obtain rfl : k = n := by omega
      clear hk hlt
      go_wp2
      go_ret
      exact ⟨rfl, HB.out⟩

/-- A block of three whole numbers. -/
def H3 (w : World) (g : Nat) (x y z : Int) : Prop := ∃ cur t, w.heap[g]? = some (.cells cur t (0, 0)) ∧ cur[0]? = some (.int .i64 x) ∧ cur[1]? = some (.int .i64 y) ∧ cur[2]? = some (.int .i64 z)
theorem H3.lt {w : World} {g : Nat} {x y z : Int} (h : H3 w g x y z) : g < w.heap.size := by obtain ⟨_, _, h, _⟩ := h; exact lt_of_heap h
theorem H3.keep {w w' : World} {g : Nat} {x y z : Int} (h : H3 w g x y z) (e : w'.heap[g]? = w.heap[g]?) : H3 w' g x y z := by obtain ⟨cur, t, h, k⟩ := h; exact ⟨cur, t, e.trans h, k⟩
theorem H3.older {w w' : World} {g : Nat} {x y z : Int} (h : H3 w g x y z) (hb : Below w.heap.size w w') : H3 w' g x y z := h.keep (hb.block g h.lt)
theorem H3.cells {w : World} {g : Nat} {x y z : Int} (h : H3 w g x y z) : w.cell? ⟨g, 0, none⟩ = some (.int .i64 x) ∧ w.cell? ⟨g, 1, none⟩ = some (.int .i64 y) ∧ w.cell? ⟨g, 2, none⟩ = some (.int .i64 z) ∧ (∀ j, w.frozen? ⟨g, j, none⟩ = false) := by
  obtain ⟨cur, t, h, h0, h1, h2⟩ := h
  exact ⟨(cell_row h 0).trans h0, (cell_row h 1).trans h1, (cell_row h 2).trans h2, free_row h⟩
theorem H3.set2 {w : World} {g : Nat} {x y z : Int} (h : H3 w g x y z) (v : Int) : H3 (w.setCell ⟨g, 2, none⟩ (.int .i64 v)) g x y v := by
  obtain ⟨cur, t, h, h0, h1, h2⟩ := h
  exact ⟨_, t, set_row h 2 _, by rw [Array.getElem?_setIfInBounds_ne (by decide)]; exact h0, by rw [Array.getElem?_setIfInBounds_ne (by decide)]; exact h1, Array.getElem?_setIfInBounds_self_of_lt (by obtain ⟨k, _⟩ := Array.getElem?_eq_some_iff.1 h2; exact k)⟩
theorem H3.set1 {w : World} {g : Nat} {x y z : Int} (h : H3 w g x y z) (v : Int) : H3 (w.setCell ⟨g, 1, none⟩ (.int .i64 v)) g x v z := by
  obtain ⟨cur, t, h, h0, h1, h2⟩ := h
  exact ⟨_, t, set_row h 1 _, by rw [Array.getElem?_setIfInBounds_ne (by decide)]; exact h0, Array.getElem?_setIfInBounds_self_of_lt (by obtain ⟨k, _⟩ := Array.getElem?_eq_some_iff.1 h1; exact k), by rw [Array.getElem?_setIfInBounds_ne (by decide)]; exact h2⟩
theorem H3.set0 {w : World} {g : Nat} {x y z : Int} (h : H3 w g x y z) (v : Int) : H3 (w.setCell ⟨g, 0, none⟩ (.int .i64 v)) g v y z := by
  obtain ⟨cur, t, h, h0, h1, h2⟩ := h
  exact ⟨_, t, set_row h 0 _, Array.getElem?_setIfInBounds_self_of_lt (by obtain ⟨k, _⟩ := Array.getElem?_eq_some_iff.1 h0; exact k), by rw [Array.getElem?_setIfInBounds_ne (by decide)]; exact h1, by rw [Array.getElem?_setIfInBounds_ne (by decide)]; exact h2⟩
theorem H3.ints {w : World} {g : Nat} {x y z : Int} (h : H3 w g x y z) : IsIntsN w (.slice (some ⟨g, 0, none⟩) 3 3) [x, y, z] := by
  obtain ⟨c0, c1, c2, _⟩ := h.cells
  refine ⟨_, _, rfl, Nat.le_refl _, fun _ => ⟨g, 0, rfl, h.lt, fun i v hi => ?_⟩⟩
  match i, hi with
  | 0, hi => simp at hi; subst hi; exact c0
  | 1, hi => simp at hi; subst hi; exact c1
  | 2, hi => simp at hi; subst hi; exact c2
/-- What Recode(14, 3) goes through. -/
def RS (i : Int) (A : Nat) (x y z : Int) : Prop :=
  (i = 2 ∧ A = 14 ∧ x = 0 ∧ y = 0 ∧ z = 0) ∨ (i = 1 ∧ A = 3 ∧ x = 0 ∧ y = 0 ∧ z = 2) ∨ (i = 0 ∧ A = 1 ∧ x = 0 ∧ y = -1 ∧ z = 2) ∨ (i = -1 ∧ A = 0 ∧ x = 1 ∧ y = -1 ∧ z = 2)
theorem limb_lit (n : Nat) (h : n ≤ 1000) : limb n 0 = n := by unfold limb; rw [Nat.mul_zero, P2_0, Nat.div_one, P2_64]; omega
end Go.Proofs.YtffengboblekpaaDoor
