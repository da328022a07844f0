/- SEVERAL TEXTS of the seat, one behind the other: each says at its head what it proves. -/
import Derived.Test.YtegmmaaapdgocaaGreatRows
import Derived.Test.YtegmmaaapdgocaaGreatK1
import Derived.Test.YtegmmaaapdgocaaGreatK2
import Derived.Laws.Externs
import Derived.Handy
import Derived.Deep.RegionWith
import Derived.Deep.DrawnRows
/- THE WALKS of package wide: what each function does, said of numbers below 2^512. -/
namespace Go.Proofs.YtegmmaaapdgocaaGreat
open Go Go.RowKit

set_option maxHeartbeats 400000 in
theorem at_any (a : Nat) (i : Int) (b : Nat) (w : World) (h1 : -9223372036854775808 ≤ i) (h2 : i ≤ 9223372036854775807) :
    Calls Tryz.prog 118 #[wv a, .int .i64 i, .int .u64 b] w fun e w' => e = .returned (.int .u64 (atN a i b : Nat)) ∧ Below w.heap.size w w' := by
  by_cases hi0 : i < 0
  · go_enter Tryz.func118, Tryz.ntmps118
    go_wp2
    go_ret
    exact ⟨ret_int (by rw [atN_neg _ _ _ hi0]; rfl), (Below.refl _ _).alloc (Nat.le_refl _) _⟩
  by_cases hi8 : 8 ≤ i
  · go_enter Tryz.func118, Tryz.ntmps118
    go_wp2
    go_ret
    exact ⟨ret_int (by rw [atN_hi _ _ _ hi8]), (Below.refl _ _).alloc (Nat.le_refl _) _⟩
  obtain ⟨k, rfl⟩ := Int.eq_ofNat_of_zero_le (by omega : 0 ≤ i)
  have hk : k < 8 := by omega
  have hg := wcells_get a k hk
  go_enter Tryz.func118, Tryz.ntmps118
  go_wp2
  go_ret
  exact ⟨ret_int (by rw [atN_mid _ _ _ hk]), (Below.refl _ _).alloc (Nat.le_refl _) _⟩

set_option maxHeartbeats 400000 in
theorem shl1_any (a : Nat) (i k r : Int) (p q s : Nat) (w : World) (h1 : 0 ≤ i) (h2 : i < 8) (hk0 : 0 ≤ k) (hk8 : k ≤ 8) (hr0 : 0 ≤ r) (hr1 : r < 64)
    (hp : w.heap[p]? = some (.cells (wcells a) 24 (0, 0))) (hq : w.cell? ⟨q, 0, none⟩ = some (.int .i64 k)) (hs : w.cell? ⟨s, 0, none⟩ = some (.int .i64 r)) :
    Calls Tryz.prog 117 #[.int .i64 i, .pointer (some ⟨p, 0, none⟩), .pointer (some ⟨q, 0, none⟩), .pointer (some ⟨s, 0, none⟩)] w fun e w' => e = .returned (.int .u64 (shlN a k r i : Nat)) ∧ Below w.heap.size w w' := by
  have ep := ext_row hp (lt_of_heap hp)
  have eq := ext_cell hq (block_lt_of_cell hq)
  have es := ext_cell hs (block_lt_of_cell hs)
  clear hp hq hs
  go_enter Tryz.func117, Tryz.ntmps117
  go_wp2_with fail
  refine wp_region_ext w.heap.size (by kernel_rfl) (by kernel_rfl) ?_
  repeat (go_big_quiet_step ((refine Calls.quiet_ext (Nat.le_refl _) (at_any _ _ 0 _ (by omega) (by omega)))))
  refine wpQuiet_nil ?_
  intro w2 hb2
  go_wp2
  go_ret
  exact ⟨ret_int (shl_val ..), hb2⟩

set_option maxHeartbeats 400000 in
theorem down1_any (a : Nat) (i k r : Int) (b : Nat) (hb : b < P2 64) (p q q2 s : Nat) (w : World) (h1 : 0 ≤ i) (h2 : i < 8) (hk0 : 0 ≤ k) (hk8 : k ≤ 8) (hr0 : 0 ≤ r) (hr1 : r < 64)
    (hp : w.heap[p]? = some (.cells (wcells a) 24 (0, 0))) (hq : w.cell? ⟨q, 0, none⟩ = some (.int .i64 k)) (hq2 : w.cell? ⟨q2, 0, none⟩ = some (.int .u64 b)) (hs : w.cell? ⟨s, 0, none⟩ = some (.int .i64 r)) :
    Calls Tryz.prog 122 #[.int .i64 i, .pointer (some ⟨p, 0, none⟩), .pointer (some ⟨q, 0, none⟩), .pointer (some ⟨q2, 0, none⟩), .pointer (some ⟨s, 0, none⟩)] w fun e w' => e = .returned (.int .u64 (shrN a k r i b : Nat)) ∧ Below w.heap.size w w' := by
  have ep := ext_row hp (lt_of_heap hp)
  have eq := ext_cell hq (block_lt_of_cell hq)
  have eq2 := ext_cell hq2 (block_lt_of_cell hq2)
  have es := ext_cell hs (block_lt_of_cell hs)
  clear hp hq hs hq2
  go_enter Tryz.func122, Tryz.ntmps122
  go_wp2_with fail
  refine wp_region_ext w.heap.size (by kernel_rfl) (by kernel_rfl) ?_
  repeat (go_big_quiet_step ((refine Calls.quiet_ext (Nat.le_refl _) (at_any _ _ _ _ (by omega) (by omega)))))
  refine wpQuiet_nil ?_
  intro w2 hb2
  go_wp2
  go_ret
  exact ⟨ret_int (shr_val _ _ _ _ _ hb), hb2⟩

/-- A function value that tells a limb of each place from 0 to 7, in whatever world comes of w. -/
def Tells (P : Program) (f : FuncId) (caps : Array Value) (w : World) (g : Nat → Nat) : Prop :=
  ∀ (i : Nat) (w' : World), i < 8 → Below w.heap.size w w' → Calls P f (#[.int .i64 i] ++ caps) w' fun e w'' => e = .returned (.int .u64 (g i : Nat)) ∧ Below w'.heap.size w' w''

set_option maxHeartbeats 400000 in
theorem made_any (f : FuncId) (caps : Array Value) (r : Nat) (w : World) (hcall : Enters Tryz.prog f) (hT : Tells Tryz.prog f caps w (limb r)) :
    Calls Tryz.prog 116 #[.func (.func f) #[] caps] w fun e w' => e = .returned (wv r) ∧ Below w.heap.size w w' := by
  unfold Enters at hcall
  go_enter Tryz.func116, Tryz.ntmps116
  go_wp2
  go_loopw [5] (fun i wr => ∃ k : Nat, k ≤ 8 ∧ i = .int .i64 k ∧ Below w.heap.size w wr ∧ wr.heap[w.heap.size]? = some (.cells (wcells 0) 24 (0, 0)) ∧ wr.heap[w.heap.size + 1]? = some (.cells (pcells r k) 24 (0, 0))) (fun i _ => 8 - (intOf i).toNat)
  case atStart =>
    refine ⟨0, by omega, rfl, ((Below.refl _ _).alloc (Nat.le_refl _) _).alloc (by simp) _, ?_, ?_⟩
    · rw [alloc_old _ _ _ (by simp), alloc_new]
    · rw [alloc_new' _ (by simp), pcells_nil]
  case round =>
    obtain ⟨k, hk, rfl, hb, h0, h1⟩ := hrel
    by_cases hlt : k < 8
    · have hz1 := lt_of_heap h1
      have HT := Lib.hid (hT k wr hlt hb)
      clear hT
      go_wp2_with fail
      refine HT.out.mono ?_
      rintro e w2 ⟨rfl, hb2⟩
      have h0' := (hb2.block _ (by omega)).trans h0
      have h1' := (hb2.block _ hz1).trans h1
      have cs := cell_row h1' k
      have fs := free_row h1' k
      rw [pcells_get r k k hlt] at cs
      have H0 := Lib.hid h0'; have H1 := Lib.hid h1'; clear h0 h1 h0' h1'
      go_wp2
      go_roundw
      case rel =>
        refine ⟨k + 1, by omega, by go_num, (hb.trans (hb2.mono hb.size)).setCell (by simp) _, ?_, ?_⟩
        · rw [set_other _ _ _ (by simp)]; exact H0.out
        · rw [set_row H1.out, pcells_put _ _ hlt]
      case measure => simp [intOf]; omega
    · obtain rfl : k = 8 := by omega
      rw [pcells_all] at h1
      have c1 := cell_row h1
      have st := st_row (P := Tryz.prog) h0 rfl r
      have c2 := cell_row (setRow_heap wr _ _ (wcells r) _ _ h0)
      have H0 := Lib.hid h0; clear h0 h1
      go_wp2
      exact bodyPost_ret (v := wv r) (results_cell_row rfl _ _ w.heap.size _ _ _ _ rfl (setRow_heap wr _ _ (wcells r) _ _ H0.out) Tryz.underlying24 rfl (by kernel_rfl)) rfl ⟨rfl, below_setRow' hb (Nat.le_refl _) _⟩

theorem enters_shl1 : Enters Tryz.prog 117 := fun args w => by simp [go_sem]
theorem enters_down1 : Enters Tryz.prog 122 := fun args w => by simp [go_sem]

def clampN (n : Int) : Nat := if n < 0 then 0 else if 512 < n then 512 else n.toNat
theorem clampN_le (n : Int) : clampN n ≤ 512 := by unfold clampN; split <;> (try split) <;> omega

theorem clampN_neg {n : Int} (h : n < 0) : clampN n = 0 := if_pos h
theorem clampN_hi {n : Int} (h : 512 < n) : clampN n = 512 := by unfold clampN; rw [if_neg (by omega), if_pos h]
theorem clampN_mid {n : Int} (h : 0 ≤ n) (h2 : n ≤ 512) : (clampN n : Int) = n := by unfold clampN; rw [if_neg (by omega), if_neg (by omega)]; omega

set_option maxHeartbeats 400000 in
theorem clamp_any (n : Int) (w : World) (h1 : -9223372036854775808 ≤ n) (h2 : n ≤ 9223372036854775807) :
    Calls Tryz.prog 94 #[.int .i64 n] w fun e w' => e = .returned (.int .i64 (clampN n : Nat)) ∧ Below w.heap.size w w' := by
  by_cases ha : n < 0
  · go_enter Tryz.func94, Tryz.ntmps94
    go_wp2
    go_ret
    exact ⟨ret_int (by rw [clampN_neg ha]; rfl), Below.refl _ _⟩
  by_cases hb : 512 < n
  · go_enter Tryz.func94, Tryz.ntmps94
    go_wp2
    go_ret
    exact ⟨ret_int (by rw [clampN_hi hb]; rfl), Below.refl _ _⟩
  have hm := clampN_mid (by omega : 0 ≤ n) (by omega)
  go_enter Tryz.func94, Tryz.ntmps94
  go_wp2
  all_goals (go_ret; exact ⟨ret_int (by omega), Below.refl _ _⟩)

theorem shl_tells (a c : Nat) (hc : c ≤ 512) (p q s : Nat) (w : World)
    (hp : w.heap[p]? = some (.cells (wcells a) 24 (0, 0))) (hq : w.cell? ⟨q, 0, none⟩ = some (.int .i64 ((c : Int) / 64))) (hs : w.cell? ⟨s, 0, none⟩ = some (.int .i64 ((c : Int) % 64))) :
    Tells Tryz.prog 117 #[.pointer (some ⟨p, 0, none⟩), .pointer (some ⟨q, 0, none⟩), .pointer (some ⟨s, 0, none⟩)] w (limb (a * P2 c % M)) := by
  intro i w' hi hb
  have h := shl1_any a i ((c : Int) / 64) ((c : Int) % 64) p q s w' (by omega) (by omega) (by omega) (by omega) (by omega) (by omega)
    ((hb.block p (lt_of_heap hp)).trans hp) ((hb.cell (block_lt_of_cell hq)).trans hq) ((hb.cell (block_lt_of_cell hs)).trans hs)
  have e : shlN a ((c : Int) / 64) ((c : Int) % 64) i = limb (a * P2 c % M) i := by
    rw [limb_mod _ _ hi]
    have := shlN_limb a (c / 64) (c % 64) i (by omega) hi
    rw [show 64 * (c / 64) + c % 64 = c from by omega] at this
    exact this
  rw [e] at h
  exact h

set_option maxHeartbeats 400000 in
theorem shl_any (a : Nat) (n : Int) (w : World) (h1 : -9223372036854775808 ≤ n) (h2 : n ≤ 9223372036854775807) :
    Calls Tryz.prog 86 #[wv a, .int .i64 n] w fun e w' => e = .returned (wv (a * P2 (clampN n) % M)) ∧ Below w.heap.size w w' := by
  have hc := clampN_le n
  go_enter Tryz.func86, Tryz.ntmps86
  go_wp2_with fail
  refine (clamp_any _ _ h1 h2).mono ?_
  rintro e w1 ⟨rfl, hb1⟩
  have hz : w.heap.size + 1 < w1.heap.size := by have := hb1.size; simp at this; omega
  have g0 : w1.heap[w.heap.size]? = some (.cells (wcells a) 24 (0, 0)) := by
    rw [hb1.block _ (by simp; omega), alloc_old _ _ _ (by simp), alloc_new]
  have g1 : w1.heap[w.heap.size + 1]? = some (.cells (wcells 0) 24 (0, 0)) := by
    rw [hb1.block _ (by simp), alloc_new' _ (by simp)]
  have hB := below_then (below_al (below_al (Below.refl _ w) _) _) hb1
  have G0 := Lib.hid g0; have G1 := Lib.hid g1; clear g0 g1 hb1
  go_wp2_with fail
  refine (made_any _ _ _ _ enters_shl1 (shl_tells a (clampN n) hc w.heap.size w1.heap.size (w1.heap.size + 1) _ ?_ ?_ ?_)).mono ?_
  · rw [alloc_old _ _ _ (by simp; omega), alloc_old _ _ _ (by omega)]; exact G0.out
  · go_simp
  · go_simp
  rintro e w2 ⟨rfl, hb2⟩
  have g1 : w2.heap[w.heap.size + 1]? = some (.cells (wcells 0) 24 (0, 0)) := by
    rw [hb2.block _ (by simp; omega), alloc_old _ _ _ (by simp; omega), alloc_old _ _ _ (by omega)]; exact G1.out
  have hB2 := below_then (below_al (below_al hB _) _) hb2
  have st := st_row (P := Tryz.prog) g1 rfl (a * P2 (clampN n) % M)
  have c2 := cell_row (setRow_heap w2 _ _ (wcells (a * P2 (clampN n) % M)) _ _ g1)
  have G2 := Lib.hid g1; clear g1 hb2 hB
  go_wp2
  exact bodyPost_ret (v := wv _) (results_cell_row rfl _ _ (w.heap.size + 1) _ _ _ _ rfl (setRow_heap w2 _ _ _ _ _ G2.out) Tryz.underlying24 rfl (by kernel_rfl)) rfl ⟨rfl, below_setRow' hB2 (by omega) _⟩
end Go.Proofs.YtegmmaaapdgocaaGreat

/- THE WALKS of package wide, further: shifted down, and what was lost. -/
namespace Go.Proofs.YtegmmaaapdgocaaGreat
open Go Go.RowKit

theorem down_tells (a c : Nat) (hc : c ≤ 512) (b r : Nat) (hb : b < P2 64) (hr : ∀ i : Nat, i < 8 → shrN a ((c : Int) / 64) ((c : Int) % 64) i b = limb r i) (p q q2 s : Nat) (w : World)
    (hp : w.heap[p]? = some (.cells (wcells a) 24 (0, 0))) (hq : w.cell? ⟨q, 0, none⟩ = some (.int .i64 ((c : Int) / 64))) (hq2 : w.cell? ⟨q2, 0, none⟩ = some (.int .u64 b)) (hs : w.cell? ⟨s, 0, none⟩ = some (.int .i64 ((c : Int) % 64))) :
    Tells Tryz.prog 122 #[.pointer (some ⟨p, 0, none⟩), .pointer (some ⟨q, 0, none⟩), .pointer (some ⟨q2, 0, none⟩), .pointer (some ⟨s, 0, none⟩)] w (limb r) := by
  intro i w' hi hbel
  have h := down1_any a i ((c : Int) / 64) ((c : Int) % 64) b hb p q q2 s w' (by omega) (by omega) (by omega) (by omega) (by omega) (by omega)
    ((hbel.block p (lt_of_heap hp)).trans hp) ((hbel.cell (block_lt_of_cell hq)).trans hq) ((hbel.cell (block_lt_of_cell hq2)).trans hq2) ((hbel.cell (block_lt_of_cell hs)).trans hs)
  rw [hr i hi] at h
  exact h

set_option maxHeartbeats 400000 in
theorem down_any (a c b r : Nat) (hc : c ≤ 512) (hb : b < P2 64) (hr : ∀ i : Nat, i < 8 → shrN a ((c : Int) / 64) ((c : Int) % 64) i b = limb r i) (w : World) :
    Calls Tryz.prog 95 #[wv a, .int .i64 c, .int .u64 b] w fun e w' => e = .returned (wv r) ∧ Below w.heap.size w w' := by
  have HR := Lib.hid hr; clear hr
  go_enter Tryz.func95, Tryz.ntmps95
  go_wp2_with fail
  refine (made_any _ _ r _ enters_down1 (down_tells a c hc b r hb HR.out w.heap.size (w.heap.size + 3) (w.heap.size + 1) (w.heap.size + 4) _ ?_ ?_ ?_ ?_)).mono ?_
  · rw [alloc_old _ _ _ (by simp; omega), alloc_old _ _ _ (by simp; omega), alloc_old _ _ _ (by simp; omega), alloc_old _ _ _ (by simp), alloc_new]
  · go_simp
  · go_simp
  · go_simp
  rintro e w2 ⟨rfl, hb2⟩
  have g1 : w2.heap[w.heap.size + 2]? = some (.cells (wcells 0) 24 (0, 0)) := by
    rw [hb2.block _ (by simp), alloc_old _ _ _ (by simp), alloc_old _ _ _ (by simp), alloc_new' _ (by simp)]
  have hB2 := below_then (below_al (below_al (below_al (below_al (below_al (Below.refl _ w) _) _) _) _) _) hb2
  have st := st_row (P := Tryz.prog) g1 rfl r
  have c2 := cell_row (setRow_heap w2 _ _ (wcells r) _ _ g1)
  have G2 := Lib.hid g1; clear g1 hb2
  go_wp2
  exact bodyPost_ret (v := wv _) (results_cell_row rfl _ _ (w.heap.size + 2) _ _ _ _ rfl (setRow_heap w2 _ _ _ _ _ G2.out) Tryz.underlying24 rfl (by kernel_rfl)) rfl ⟨rfl, below_setRow' hB2 (by omega) _⟩

set_option maxHeartbeats 400000 in
theorem shr_any (a : Nat) (ha : a < M) (n : Int) (w : World) (h1 : -9223372036854775808 ≤ n) (h2 : n ≤ 9223372036854775807) :
    Calls Tryz.prog 64 #[wv a, .int .i64 n] w fun e w' => e = .returned (.tuple #[wv (a / P2 (clampN n)), .bool (decide (a % P2 (clampN n) ≠ 0))]) ∧ Below w.heap.size w w' := by
  have hc := clampN_le n
  have hd := fun i hi => shrN_zero a (clampN n) i ha hc hi
  have HD := Lib.hid hd; clear hd
  go_enter Tryz.func64, Tryz.ntmps64
  go_wp2_with fail
  refine (clamp_any _ _ h1 h2).mono ?_
  rintro e w1 ⟨rfl, hb1⟩
  have hz : w.heap.size + 1 < w1.heap.size := by have := hb1.size; simp at this; omega
  have g0 : w1.heap[w.heap.size]? = some (.cells (wcells a) 24 (0, 0)) := by
    rw [hb1.block _ (by simp; omega), alloc_old _ _ _ (by simp), alloc_new]
  have g1 : w1.heap[w.heap.size + 1]? = some (.cells (wcells 0) 24 (0, 0)) := by
    rw [hb1.block _ (by simp), alloc_new' _ (by simp)]
  have hB := below_then (below_al (below_al (Below.refl _ w) _) _) hb1
  have c0 := cell_row g0
  have G0 := Lib.hid g0; have G1 := Lib.hid g1; clear g0 g1 hb1
  go_wp2_with fail
  refine (down_any a (clampN n) 0 _ hc (P2_pos _) HD.out _).mono ?_
  rintro e w2 ⟨rfl, hb2⟩
  have hB2 := below_then hB hb2
  have hz2 := hb2.size
  have g0 := (hb2.block _ (by omega)).trans G0.out
  have g1 := (hb2.block _ hz).trans G1.out
  clear G0 G1 hb2 c0 hB
  have G0 := Lib.hid g0; have G1 := Lib.hid g1; clear g0 g1
  go_wp2_with fail
  have g0 : (w2.alloc (Obj.cells (wcells (a / P2 (clampN n))) 24)).heap[w.heap.size]? = some (.cells (wcells a) 24 (0, 0)) := by rw [alloc_old _ _ _ (by omega)]; exact G0.out
  have g1 : (w2.alloc (Obj.cells (wcells (a / P2 (clampN n))) 24)).heap[w.heap.size + 1]? = some (.cells (wcells 0) 24 (0, 0)) := by rw [alloc_old _ _ _ (by omega)]; exact G1.out
  have hB3 := below_al hB2 (Obj.cells (wcells (a / P2 (clampN n))) 24)
  have g2 := alloc_new w2 (Obj.cells (wcells (a / P2 (clampN n))) 24)
  have hs3 : w2.heap.size < (w2.alloc (Obj.cells (wcells (a / P2 (clampN n))) 24)).heap.size := by simp
  obtain ⟨w3, hw3⟩ : ∃ w3, w3 = w2.alloc (Obj.cells (wcells (a / P2 (clampN n))) 24) := ⟨_, rfl⟩
  rw [← hw3] at g0 g1 g2 hB3 hs3 ⊢
  clear hw3 G0 G1 hB2
  refine wp_region_store [⟨w.heap.size + 1, 24, .tmp 12⟩] (by kernel_rfl) (by kernel_rfl) (by kernel_rfl) rfl (by simp) ?_ ?_
  · intro r hr
    simp only [List.mem_singleton] at hr
    subst hr
    exact ⟨_, g1, by kernel_rfl⟩
  have e0 := extR_row (B := w3.heap.size) (R := [⟨w.heap.size + 1, 24, .tmp 12⟩]) g0 (lt_of_heap g0) (by simp)
  have e2 := extR_row (B := w3.heap.size) (R := [⟨w.heap.size + 1, 24, .tmp 12⟩]) g2 (lt_of_heap g2) (by simp; omega)
  have HB := Lib.hid hB3
  clear g0 g1 g2 hB3
  repeat (refine wpCalm_step (fun K hK => ?_); go_simp; first | (refine hK _ ?_; clear hK K) | (apply Exists.intro; refine ⟨fun _ => ?_, hK _ ?_⟩; (exact shl_any _ _ _ (by omega) (by omega)); clear hK K))
  refine wpCalm_nil ⟨?_, fun x hx => ?_⟩
  · intro r hr
    simp only [List.mem_singleton] at hr
    subst hr
    exact fits_wv (by kernel_rfl) _
  have gx : x.val.heap[w.heap.size + 1]? = some (.cells (wcells (a / P2 (clampN n))) 24 (0, 0)) := hx ⟨w.heap.size + 1, 24, .tmp 12⟩ (List.mem_singleton.2 rfl)
  have cx := cell_row gx
  have hBx := Lib.hid (extR_below x HB.out (by omega) (by simp))
  clear gx hx e0 e2
  go_wp2
  refine bodyPost_ret (v := .tuple #[wv (a / P2 (clampN n)), .bool (!decide (a / P2 (clampN n) * P2 (clampN (clampN n : Nat)) % M = a % M))]) (by simp [results, Tryz.results64, go_sem, cx]) rfl ⟨?_, hBx.out⟩
  have e1 : clampN ((clampN n : Nat) : Int) = clampN n := by have := clampN_mid (n := (clampN n : Nat)) (by omega) (by omega); omega
  rw [e1, Nat.mod_eq_of_lt ha, lost_iff a _ ha]
end Go.Proofs.YtegmmaaapdgocaaGreat

/- THE WALKS of package wide, going on: sums and differences; and of package limb beneath them. -/
namespace Go.Proofs.YtegmmaaapdgocaaGreat
open Go Go.RowKit

/-! ### The library's sums and differences of two limbs -/
def sub64Entry : Array Value → Sem Value := fun args => do
  let (x, y, b) ← Extern.MathBitsCarry.three "Sub64" args
  pure (Extern.MathBitsCarry.pair ((x + Extern.MathBitsCarry.m64 - y - b) % Extern.MathBitsCarry.m64) (if x < y + b then 1 else 0))
theorem run_sub64 {P : Program} (x y c : Nat) (hc : c ≤ 1) (w : World) :
    (sub64Entry #[.int .u64 x, .int .u64 y, .int .u64 c]).run P w = .ok (.tuple #[.int .u64 ((x + 18446744073709551616 - y - c) % 18446744073709551616 : Nat), .int .u64 ((if x < y + c then 1 else 0 : Nat) : Int)]) w := by
  have : c = 0 ∨ c = 1 := by omega
  rcases this with rfl | rfl <;> rfl
theorem add64_run (x y c : Nat) (hc : c ≤ 1) (w : World) : Sem.run Tryz.prog (callFunc 150 #[.int .u64 x, .int .u64 y, .int .u64 c]) w = .ok (.value (.tuple #[.int .u64 ((x + y + c) % P2 64 : Nat), .int .u64 ((x + y + c) / P2 64 : Nat)])) w := by
  rw [run_callFunc_extern Tryz.func150 (e := add64Entry) (by kernel_rfl) (by kernel_rfl) (by kernel_rfl) (by kernel_rfl), run_add64 _ _ _ (by omega) (by omega) (by omega) (by omega), P2_64]
  rfl
theorem sub64_run (x y c : Nat) (hc : c ≤ 1) (w : World) : Sem.run Tryz.prog (callFunc 125 #[.int .u64 x, .int .u64 y, .int .u64 c]) w = .ok (.value (.tuple #[.int .u64 ((x + P2 64 - y - c) % P2 64 : Nat), .int .u64 ((if x < y + c then 1 else 0 : Nat) : Int)])) w := by
  rw [run_callFunc_extern Tryz.func125 (e := sub64Entry) (by kernel_rfl) (by kernel_rfl) (by kernel_rfl) (by kernel_rfl), run_sub64 _ _ _ hc, P2_64]
  rfl

theorem one_any (c : Nat) (hc : c ≤ 1) (w : World) : Calls Tryz.prog 126 #[.int .u64 c] w fun e w' => e = .returned (.int .u64 c) ∧ w' = w := by
  have : c = 0 ∨ c = 1 := by omega
  rcases this with rfl | rfl
  all_goals
    go_enter Tryz.func126, Tryz.ntmps126
    go_wp2
    go_ret
    exact ⟨rfl, rfl⟩

theorem limbAdd_any (x y c : Nat) (hc : c ≤ 1) (w : World) : Calls Tryz.prog 143 #[.int .u64 x, .int .u64 y, .int .u64 c] w fun e w' => e = .returned (.tuple #[.int .u64 ((x + y + c) % P2 64 : Nat), .int .u64 ((x + y + c) / P2 64 : Nat)]) ∧ Below w.heap.size w w' := by
  have h := add64_run x y c hc w
  obtain ⟨s, hs⟩ : ∃ s, s = (x + y + c) % P2 64 := ⟨_, rfl⟩
  obtain ⟨d, hd⟩ : ∃ d, d = (x + y + c) / P2 64 := ⟨_, rfl⟩
  rw [← hs, ← hd] at h ⊢
  clear hs hd
  go_enter Tryz.func143, Tryz.ntmps143
  go_wp2_with fail
  refine (one_any c hc _).mono ?_
  rintro e w1 ⟨rfl, rfl⟩
  go_wp2
  exact bodyPost_ret (v := .tuple #[.int .u64 s, .int .u64 d]) (by simp [results, Tryz.results143, go_sem]) rfl ⟨rfl, Below.refl _ _⟩

theorem limbSub_any (x y c : Nat) (hc : c ≤ 1) (w : World) : Calls Tryz.prog 98 #[.int .u64 x, .int .u64 y, .int .u64 c] w fun e w' => e = .returned (.tuple #[.int .u64 ((x + P2 64 - y - c) % P2 64 : Nat), .int .u64 ((if x < y + c then 1 else 0 : Nat) : Int)]) ∧ Below w.heap.size w w' := by
  have h := sub64_run x y c hc w
  obtain ⟨s, hs⟩ : ∃ s, s = (x + P2 64 - y - c) % P2 64 := ⟨_, rfl⟩
  obtain ⟨d, hd⟩ : ∃ d, d = (if x < y + c then 1 else 0) := ⟨_, rfl⟩
  rw [← hs, ← hd] at h ⊢
  clear hs hd
  go_enter Tryz.func98, Tryz.ntmps98
  go_wp2_with fail
  refine (one_any c hc _).mono ?_
  rintro e w1 ⟨rfl, rfl⟩
  go_wp2
  exact bodyPost_ret (v := .tuple #[.int .u64 s, .int .u64 d]) (by simp [results, Tryz.results98, go_sem]) rfl ⟨rfl, Below.refl _ _⟩

/-- A function that tells each limb of r, out of those of a and b and what is carried. -/
def Carries (P : Program) (f : FuncId) (a b r : Nat) (car : Nat → Nat) : Prop :=
  ∀ (i : Nat) (w : World), i < 8 → Calls P f #[.int .u64 (limb a i), .int .u64 (limb b i), .int .u64 (car i)] w fun e w' => e = .returned (.tuple #[.int .u64 (limb r i), .int .u64 (car (i + 1))]) ∧ Below w.heap.size w w'

attribute [local go_sem ↓] Go.wp_at_zero Go.wp_at_succ
set_option maxHeartbeats 1000000 in
theorem both_any (f : FuncId) (a b r : Nat) (car : Nat → Nat) (h0 : car 0 = 0) (w : World) (hcall : Enters Tryz.prog f) (hT : Carries Tryz.prog f a b r car) :
    Calls Tryz.prog 97 #[wv a, wv b, .func (.func f) #[] #[]] w fun e w' => e = .returned (.tuple #[wv r, .bool (decide (car 8 ≠ 0))]) ∧ Below w.heap.size w w' := by
  unfold Enters at hcall
  have HT := Lib.hid hT
  have HH0 := Lib.hid h0
  clear hT h0
  go_enter Tryz.func97, Tryz.ntmps97
  go_wp2
  go_loopw [9, 11] (fun c i wr => ∃ k : Nat, k ≤ 8 ∧ i = .int .i64 k ∧ c = .int .u64 (car k) ∧ Below w.heap.size w wr ∧ wr.heap[w.heap.size]? = some (.cells (wcells a) 24 (0, 0)) ∧ wr.heap[w.heap.size + 1]? = some (.cells (wcells b) 24 (0, 0)) ∧ wr.heap[w.heap.size + 2]? = some (.cells (wcells 0) 24 (0, 0)) ∧ wr.heap[w.heap.size + 3]? = some (.cells (pcells r k) 24 (0, 0))) (fun _ i _ => 8 - (intOf i).toNat)
  case atStart =>
    refine ⟨0, by omega, rfl, by rw [HH0.out]; rfl, below_al (below_al (below_al (below_al (Below.refl _ _) _) _) _) _, ?_, ?_, ?_, ?_⟩
    · rw [alloc_old _ _ _ (by simp <;> omega), alloc_old _ _ _ (by simp <;> omega), alloc_old _ _ _ (by simp), alloc_new]
    · rw [alloc_old _ _ _ (by simp <;> omega), alloc_old _ _ _ (by simp), alloc_new' _ (by simp)]
    · rw [alloc_old _ _ _ (by simp), alloc_new' _ (by simp)]
    · rw [alloc_new', pcells_nil]; simp
  case round =>
    obtain ⟨k, hk, rfl, rfl, hb, ha, hbb, hz, ho⟩ := hrel
    by_cases hlt : k < 8
    · have hzz := lt_of_heap ho
      have ea : ∀ j, wr.drew.cell? ⟨w.heap.size, j, none⟩ = (wcells a)[j]? := cell_row ha
      have eb : ∀ j, wr.drew.cell? ⟨w.heap.size + 1, j, none⟩ = (wcells b)[j]? := cell_row hbb
      have la := wcells_get a k hlt
      have lb := wcells_get b k hlt
      have HA := Lib.hid ha; have HBB := Lib.hid hbb; have HZ := Lib.hid hz; have HO := Lib.hid ho; have HB := Lib.hid hb.drew
      have R : Hid (∀ w' : World, Calls Tryz.prog f #[.int .u64 (limb a k), .int .u64 (limb b k), .int .u64 (car k)] w' fun e w'' => e = .returned (.tuple #[.int .u64 (limb r k), .int .u64 (car (k + 1))]) ∧ Below w'.heap.size w' w'') := Lib.hid fun w' => HT.out k w' hlt
      have e0 : (0 : Int) ≤ (k : Int) := Int.natCast_nonneg _
      have e1 : (k : Int) < 8 := by omega
      clear ha hbb hz ho hb
      go_wp2_with fail
      go_region_with (
        refine (R.out _).mono ?_
        rintro e w2 ⟨rfl, hb2⟩
        have HA2 := Lib.hid ((hb2.block _ (lt_of_heap HA.out)).trans HA.out)
        have HBB2 := Lib.hid ((hb2.block _ (lt_of_heap HBB.out)).trans HBB.out)
        have HZ2 := Lib.hid ((hb2.block _ (lt_of_heap HZ.out)).trans HZ.out)
        have HO2 := Lib.hid ((hb2.block _ (lt_of_heap HO.out)).trans HO.out)
        have HB2 := Lib.hid (below_then HB.out hb2)
        have cs := cell_row HO2.out k
        have fs := free_row HO2.out k
        rw [pcells_get r k k hlt] at cs
        clear hb2)
      all_goals
        go_wp2
        go_roundw
        case rel =>
          refine ⟨k + 1, by omega, by go_num, rfl, below_set HB2.out (by omega) _ _, ?_, ?_, ?_, ?_⟩
          · rw [set_other _ _ _ (by simp <;> omega)]; exact HA2.out
          · rw [set_other _ _ _ (by simp <;> omega)]; exact HBB2.out
          · rw [set_other _ _ _ (by simp <;> omega)]; exact HZ2.out
          · rw [set_row HO2.out, pcells_put _ _ hlt]
        case measure => simp [intOf]; omega
    · obtain rfl : k = 8 := by omega
      rw [pcells_all] at ho
      have c1 := cell_row ho
      have st := st_row (P := Tryz.prog) hz rfl r
      have hz1 := lt_of_heap ho
      have HZ := Lib.hid hz; have HB := Lib.hid hb
      have c2 := cell_row (setRow_heap wr _ _ (wcells r) _ _ hz)
      have hn : ((car 8 : Int) != 0) = decide (car 8 ≠ 0) := by
        by_cases h : car 8 = 0 <;> simp [h]
      have HN := Lib.hid hn
      clear ha hbb hz ho hb hn
      go_wp2
      refine bodyPost_ret (v := .tuple #[wv r, .bool ((car 8 : Int) != 0)]) (by simp [results, Tryz.results97, go_sem, c2]) rfl ⟨by rw [HN.out], below_setRow' HB.out (by omega) _⟩
end Go.Proofs.YtegmmaaapdgocaaGreat
