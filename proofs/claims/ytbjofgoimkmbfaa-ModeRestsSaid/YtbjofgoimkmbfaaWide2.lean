/- THE WALKS of package wide, further: shifted down, and what was lost. -/
import Derived.Test.YtbjofgoimkmbfaaWide
import Derived.Test.YtbjofgoimkmbfaaEq
namespace Go.Proofs.Ytbjofgoimkmbfaa
open Go Go.RowKit

theorem down_tells (a c : Nat) (hc : c ≤ 512) (b r : Nat) (hb : b < P2 64) (hr : ∀ i : Nat, i < 8 → shrN a ((c : Int) / 64) ((c : Int) % 64) i b = limb r i) (p q q2 s : Nat) (w : World)
    (hp : w.heap[p]? = some (.cells (wcells a) 31 (0, 0))) (hq : w.cell? ⟨q, 0, none⟩ = some (.int .i64 ((c : Int) / 64))) (hq2 : w.cell? ⟨q2, 0, none⟩ = some (.int .u64 b)) (hs : w.cell? ⟨s, 0, none⟩ = some (.int .i64 ((c : Int) % 64))) :
    Tells Try.prog 185 #[.pointer (some ⟨p, 0, none⟩), .pointer (some ⟨q, 0, none⟩), .pointer (some ⟨q2, 0, none⟩), .pointer (some ⟨s, 0, none⟩)] w (limb r) := by
  intro i w' hi hbel
  have h := down1_any a i ((c : Int) / 64) ((c : Int) % 64) b hb p q q2 s w' (by omega) (by omega) (by omega) (by omega) (by omega) (by omega)
    ((hbel.block p (lt_of_heap hp)).trans hp) ((hbel.cell (block_lt_of_cell hq)).trans hq) ((hbel.cell (block_lt_of_cell hq2)).trans hq2) ((hbel.cell (block_lt_of_cell hs)).trans hs)
  rw [hr i hi] at h
  exact h

set_option maxHeartbeats 400000 in
theorem down_any (a c b r : Nat) (hc : c ≤ 512) (hb : b < P2 64) (hr : ∀ i : Nat, i < 8 → shrN a ((c : Int) / 64) ((c : Int) % 64) i b = limb r i) (w : World) :
    Calls Try.prog 137 #[wv a, .int .i64 c, .int .u64 b] w fun e w' => e = .returned (wv r) ∧ Below w.heap.size w w' := by
  have HR := Lib.hid hr; clear hr
  go_enter Try.func137, Try.ntmps137
  go_wp2_with fail
  refine (made_any _ _ r _ enters_down1 (down_tells a c hc b r hb HR.out w.heap.size (w.heap.size + 3) (w.heap.size + 1) (w.heap.size + 4) _ ?_ ?_ ?_ ?_)).mono ?_
  · rw [alloc_old _ _ _ (by simp; omega), alloc_old _ _ _ (by simp; omega), alloc_old _ _ _ (by simp; omega), alloc_old _ _ _ (by simp), alloc_new]
  · go_simp
  · go_simp
  · go_simp
  rintro e w2 ⟨rfl, hb2⟩
  have g1 : w2.heap[w.heap.size + 2]? = some (.cells (wcells 0) 31 (0, 0)) := by
    rw [hb2.block _ (by simp), alloc_old _ _ _ (by simp), alloc_old _ _ _ (by simp), alloc_new' _ (by simp)]
  have hB2 := below_then (below_al (below_al (below_al (below_al (below_al (Below.refl _ w) _) _) _) _) _) hb2
  have st := st_row (P := Try.prog) g1 rfl r
  have c2 := cell_row (setRow_heap w2 _ _ (wcells r) _ _ g1)
  have G2 := Lib.hid g1; clear g1 hb2
  go_wp2
  exact bodyPost_ret (v := wv _) (results_cell_row rfl _ _ (w.heap.size + 2) _ _ _ _ rfl (setRow_heap w2 _ _ _ _ _ G2.out) Try.underlying31 rfl (by kernel_rfl)) rfl ⟨rfl, below_setRow' hB2 (by omega) _⟩

set_option maxHeartbeats 400000 in
theorem shr_any (a : Nat) (ha : a < M) (n : Int) (w : World) (h1 : -9223372036854775808 ≤ n) (h2 : n ≤ 9223372036854775807) :
    Calls Try.prog 62 #[wv a, .int .i64 n] w fun e w' => e = .returned (.tuple #[wv (a / P2 (clampN n)), .bool (decide (a % P2 (clampN n) ≠ 0))]) ∧ Below w.heap.size w w' := by
  have hc := clampN_le n
  have hd := fun i hi => shrN_zero a (clampN n) i ha hc hi
  have HD := Lib.hid hd; clear hd
  go_enter Try.func62, Try.ntmps62
  go_wp2_with fail
  refine (clamp_any _ _ h1 h2).mono ?_
  rintro e w1 ⟨rfl, hb1⟩
  have hz : w.heap.size + 1 < w1.heap.size := by have := hb1.size; simp at this; omega
  have g0 : w1.heap[w.heap.size]? = some (.cells (wcells a) 31 (0, 0)) := by
    rw [hb1.block _ (by simp; omega), alloc_old _ _ _ (by simp), alloc_new]
  have g1 : w1.heap[w.heap.size + 1]? = some (.cells (wcells 0) 31 (0, 0)) := by
    rw [hb1.block _ (by simp), alloc_new' _ (by simp)]
  have hB := below_then (below_al (below_al (Below.refl _ w) _) _) hb1
  have c0 := cell_row g0
  have G0 := Lib.hid g0; have G1 := Lib.hid g1; clear g0 g1 hb1
  go_wp2_with fail
  refine (down_any a (clampN n) 0 _ hc (P2_pos _) HD.out _).mono ?_
  rintro e w2 ⟨rfl, hb2⟩
  have hB2 := below_then hB hb2
  have hz2 := hb2.size
  have g0 := (hb2.block _ (by omega)).trans G0.out
  have g1 := (hb2.block _ hz).trans G1.out
  clear G0 G1 hb2 c0 hB
  have G0 := Lib.hid g0; have G1 := Lib.hid g1; clear g0 g1
  go_wp2_with fail
  have g0 : (w2.alloc (Obj.cells (wcells (a / P2 (clampN n))) 31)).heap[w.heap.size]? = some (.cells (wcells a) 31 (0, 0)) := by rw [alloc_old _ _ _ (by omega)]; exact G0.out
  have g1 : (w2.alloc (Obj.cells (wcells (a / P2 (clampN n))) 31)).heap[w.heap.size + 1]? = some (.cells (wcells 0) 31 (0, 0)) := by rw [alloc_old _ _ _ (by omega)]; exact G1.out
  have hB3 := below_al hB2 (Obj.cells (wcells (a / P2 (clampN n))) 31)
  have g2 := alloc_new w2 (Obj.cells (wcells (a / P2 (clampN n))) 31)
  have hs3 : w2.heap.size < (w2.alloc (Obj.cells (wcells (a / P2 (clampN n))) 31)).heap.size := by simp
  obtain ⟨w3, hw3⟩ : ∃ w3, w3 = w2.alloc (Obj.cells (wcells (a / P2 (clampN n))) 31) := ⟨_, rfl⟩
  rw [← hw3] at g0 g1 g2 hB3 hs3 ⊢
  clear hw3 G0 G1 hB2
  refine wp_region_store [⟨w.heap.size + 1, 31, .tmp 12⟩] (by kernel_rfl) (by kernel_rfl) (by kernel_rfl) rfl (by simp) ?_ ?_
  · intro r hr
    simp only [List.mem_singleton] at hr
    subst hr
    exact ⟨_, g1, by kernel_rfl⟩
  have e0 := extR_row (B := w3.heap.size) (R := [⟨w.heap.size + 1, 31, .tmp 12⟩]) g0 (lt_of_heap g0) (by simp)
  have e2 := extR_row (B := w3.heap.size) (R := [⟨w.heap.size + 1, 31, .tmp 12⟩]) g2 (lt_of_heap g2) (by simp; omega)
  have HB := Lib.hid hB3
  clear g0 g1 g2 hB3
  repeat (refine wpCalm_step (fun K hK => ?_); go_simp; first | (refine hK _ ?_; clear hK K) | (apply Exists.intro; refine ⟨fun _ => ?_, hK _ ?_⟩; (exact shl_any _ _ _ (by omega) (by omega)); clear hK K))
  refine wpCalm_nil ⟨?_, fun x hx => ?_⟩
  · intro r hr
    simp only [List.mem_singleton] at hr
    subst hr
    exact fits_wv (by kernel_rfl) _
  have gx : x.val.heap[w.heap.size + 1]? = some (.cells (wcells (a / P2 (clampN n))) 31 (0, 0)) := hx ⟨w.heap.size + 1, 31, .tmp 12⟩ (List.mem_singleton.2 rfl)
  have cx := cell_row gx
  have hBx := Lib.hid (extR_below x HB.out (by omega) (by simp))
  clear gx hx e0 e2
  go_wp2
  refine bodyPost_ret (v := .tuple #[wv (a / P2 (clampN n)), .bool (!decide (a / P2 (clampN n) * P2 (clampN (clampN n : Nat)) % M = a % M))]) (by simp [results, Try.results62, go_sem, cx]) rfl ⟨?_, hBx.out⟩
  have e1 : clampN ((clampN n : Nat) : Int) = clampN n := by have := clampN_mid (n := (clampN n : Nat)) (by omega) (by omega); omega
  rw [e1, Nat.mod_eq_of_lt ha, lost_iff a _ ha]
end Go.Proofs.Ytbjofgoimkmbfaa
