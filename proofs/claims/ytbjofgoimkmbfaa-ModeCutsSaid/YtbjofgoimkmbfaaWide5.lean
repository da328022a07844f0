/- THE WALKS of package wide, going on: the number of limbs; powers, masks; 0 without a number; a word. -/
import Derived.Test.YtbjofgoimkmbfaaWide4
import Derived.Laws.CopyOwn
namespace Go.Proofs.Ytbjofgoimkmbfaa
open Go Go.RowKit

theorem infoU64 : (Try.prog.info? 24).map (·.size) = some 1 := by kernel_rfl
def limbsV (n k : Nat) : List Value := (List.range k).map fun i => .int .u64 (limb n i : Nat)
theorem limbsV_get (n k i : Nat) (h : i < k) : (limbsV n k)[i]? = some (.int .u64 (limb n i : Nat)) := by
  unfold limbsV; simp [h]
theorem limb_gone (n i L : Nat) (h : n < P2 (64 * L)) (hi : L ≤ i) : limb n i = 0 := by
  unfold limb
  rw [Nat.div_eq_of_lt (Nat.lt_of_lt_of_le h (P2_le (by omega)))]
  exact Nat.zero_mod _
theorem splice_limbs (n L : Nat) (h : n < P2 (64 * L)) : (splice (wcells 0).toList 0 (limbsV n (Nat.min L 8))).toArray = wcells n := by
  apply Array.ext_getElem?
  intro i
  have hlen : (limbsV n (Nat.min L 8)).length = Nat.min L 8 := by simp [limbsV]
  unfold splice
  rw [List.take_zero, List.nil_append, List.getElem?_toArray, hlen, Nat.zero_add]
  have hm : Nat.min L 8 ≤ 8 := Nat.min_le_right _ _
  by_cases h1 : i < Nat.min L 8
  · rw [List.getElem?_append_left (by omega), limbsV_get _ _ _ h1, wcells_get _ _ (by omega)]
  · rw [List.getElem?_append_right (by omega), hlen, List.getElem?_drop, show Nat.min L 8 + (i - Nat.min L 8) = i by omega, Array.getElem?_toList]
    by_cases h2 : i < 8
    · have hL : L ≤ i := by
        have : Nat.min L 8 = min L 8 := rfl
        omega
      rw [wcells_get _ _ h2, wcells_get _ _ h2, limb_zero, limb_gone n i L h hL]
    · rw [Array.getElem?_eq_none (by rw [wcells_size]; omega), Array.getElem?_eq_none (by rw [wcells_size]; omega)]

set_option maxHeartbeats 1000000 in
theorem of_w (v : Value) (n L : Nat) (w : World) (hv : IsLimbs w v n L) : Calls Try.prog 43 #[v] w fun e w' => e = .returned (wv (n % M)) ∧ Below w.heap.size w w' := by
  obtain ⟨⟨a, cap, rfl, hcap, hx⟩, hn⟩ := hv
  have HX := Lib.hid hx; have HN := Lib.hid hn
  clear hx hn
  have hlen : Hid ((limbsV n (Nat.min L 8)).length = Nat.min L 8) := Lib.hid (by simp [limbsV])
  have hm : Hid (Nat.min L 8 ≤ 8) := Lib.hid (Nat.min_le_right _ _)
  go_enter Try.func43, Try.ntmps43
  go_wp2_with (refine wpList_copy_splice rfl _ _ _ _ rfl 24 Try.underlying29 infoU64 _ _ 8 8 L cap rfl rfl (w.heap.size + 1) 0 (wcells 0).toList 31 ?hg (limbsV n (Nat.min L 8)) ?hn ?hpos ?hfit ?h1 (w.heap.size + 1) ((w.alloc (.cells (wcells 0) 31)).alloc (.cells (wcells 0) 31)) ?hb ?hBg ?_)
  case hg => rw [Array.toArray_toList, alloc_new' _ (by simp)]
  case hn => exact hlen.out
  case hpos =>
    intro h0
    have hmin : Nat.min L 8 = min L 8 := rfl
    have hlo := hlen.out
    obtain ⟨b, o, rfl, hb, hcell⟩ := HX.out (by omega)
    refine ⟨_, rfl, fun j u hu => ?_⟩
    have hj : j < Nat.min L 8 := by
      rcases Nat.lt_or_ge j (Nat.min L 8) with h | h
      · exact h
      · rw [List.getElem?_eq_none (by have := hlen.out; omega)] at hu; cases hu
    rw [limbsV_get _ _ _ hj] at hu
    cases hu
    rw [Addr.add_lit]
    rw [((below_al (below_al (Below.refl w.heap.size w) (.cells (wcells 0) 31)) (.cells (wcells 0) 31)).cell (p := ⟨b, o + j, none⟩) hb)]
    exact hcell j (by omega)
  case hfit => rw [hlen.out]; have := hm.out; simp [wcells]; omega
  case h1 =>
    intro u hu
    unfold limbsV at hu
    rw [List.mem_map] at hu
    obtain ⟨i, _, rfl⟩ := hu
    rfl
  case hb => exact Below.refl _ _
  case hBg => omega
  intro w2 hg2 hb2
  have HG2 := Lib.hid hg2.out
  have g1 : w2.heap[w.heap.size]? = some (.cells (wcells 0) 31 (0, 0)) := by
    rw [hb2.block _ (by omega), alloc_old _ _ _ (by simp), alloc_new]
  have HB2 := Lib.hid ((below_al (below_al (Below.refl w.heap.size w) (.cells (wcells 0) 31)) (.cells (wcells 0) 31)).trans (hb2.mono (by omega)))
  have g2 := hg2.out
  rw [splice_limbs n L HN.out] at g2
  have c2 := cell_row g2
  have st := st_row (P := Try.prog) g1 rfl n
  have G1 := Lib.hid g1
  clear hg2 hb2 g1 g2 HG2
  go_wp2
  rw [show wv (n % M) = wv n from congrArg Value.agg (wcells_mod n)]
  exact bodyPost_ret (v := wv n) (results_cell_row rfl _ _ w.heap.size _ _ _ _ rfl (setRow_heap _ _ _ _ _ _ G1.out) Try.underlying31 rfl (by kernel_rfl)) rfl ⟨rfl, below_setRow' HB2.out (Nat.le_refl _) _⟩
end Go.Proofs.Ytbjofgoimkmbfaa
