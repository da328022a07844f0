/- THE WALKS of package wide: what each function does, said of numbers below 2^512. -/
import Derived.Test.YtbjofgoimkmbfaaRows
import Derived.Test.YtbjofgoimkmbfaaNum
namespace Go.Proofs.Ytbjofgoimkmbfaa
open Go Go.RowKit

set_option maxHeartbeats 400000 in
theorem at_any (a : Nat) (i : Int) (b : Nat) (w : World) (h1 : -9223372036854775808 ≤ i) (h2 : i ≤ 9223372036854775807) :
    Calls Try.prog 140 #[wv a, .int .i64 i, .int .u64 b] w fun e w' => e = .returned (.int .u64 (atN a i b : Nat)) ∧ Below w.heap.size w w' := by
  by_cases hi0 : i < 0
  · go_enter Try.func140, Try.ntmps140
    go_wp2
    go_ret
    exact ⟨ret_int (by rw [atN_neg _ _ _ hi0]; rfl), (Below.refl _ _).alloc (Nat.le_refl _) _⟩
  by_cases hi8 : 8 ≤ i
  · go_enter Try.func140, Try.ntmps140
    go_wp2
    go_ret
    exact ⟨ret_int (by rw [atN_hi _ _ _ hi8]), (Below.refl _ _).alloc (Nat.le_refl _) _⟩
  obtain ⟨k, rfl⟩ := Int.eq_ofNat_of_zero_le (by omega : 0 ≤ i)
  have hk : k < 8 := by omega
  have hg := wcells_get a k hk
  go_enter Try.func140, Try.ntmps140
  go_wp2
  go_ret
  exact ⟨ret_int (by rw [atN_mid _ _ _ hk]), (Below.refl _ _).alloc (Nat.le_refl _) _⟩

set_option maxHeartbeats 400000 in
theorem shl1_any (a : Nat) (i k r : Int) (p q s : Nat) (w : World) (h1 : 0 ≤ i) (h2 : i < 8) (hk0 : 0 ≤ k) (hk8 : k ≤ 8) (hr0 : 0 ≤ r) (hr1 : r < 64)
    (hp : w.heap[p]? = some (.cells (wcells a) 31 (0, 0))) (hq : w.cell? ⟨q, 0, none⟩ = some (.int .i64 k)) (hs : w.cell? ⟨s, 0, none⟩ = some (.int .i64 r)) :
    Calls Try.prog 139 #[.int .i64 i, .pointer (some ⟨p, 0, none⟩), .pointer (some ⟨q, 0, none⟩), .pointer (some ⟨s, 0, none⟩)] w fun e w' => e = .returned (.int .u64 (shlN a k r i : Nat)) ∧ Below w.heap.size w w' := by
  have ep := ext_row hp (lt_of_heap hp)
  have eq := ext_cell hq (block_lt_of_cell hq)
  have es := ext_cell hs (block_lt_of_cell hs)
  clear hp hq hs
  go_enter Try.func139, Try.ntmps139
  go_wp2_with fail
  refine wp_region_ext w.heap.size (by kernel_rfl) (by kernel_rfl) ?_
  repeat (go_big_quiet_step ((refine Calls.quiet_ext (Nat.le_refl _) (at_any _ _ 0 _ (by omega) (by omega)))))
  refine wpQuiet_nil ?_
  intro w2 hb2
  go_wp2
  go_ret
  exact ⟨ret_int (shl_val ..), hb2⟩

set_option maxHeartbeats 400000 in
theorem down1_any (a : Nat) (i k r : Int) (b : Nat) (hb : b < P2 64) (p q q2 s : Nat) (w : World) (h1 : 0 ≤ i) (h2 : i < 8) (hk0 : 0 ≤ k) (hk8 : k ≤ 8) (hr0 : 0 ≤ r) (hr1 : r < 64)
    (hp : w.heap[p]? = some (.cells (wcells a) 31 (0, 0))) (hq : w.cell? ⟨q, 0, none⟩ = some (.int .i64 k)) (hq2 : w.cell? ⟨q2, 0, none⟩ = some (.int .u64 b)) (hs : w.cell? ⟨s, 0, none⟩ = some (.int .i64 r)) :
    Calls Try.prog 185 #[.int .i64 i, .pointer (some ⟨p, 0, none⟩), .pointer (some ⟨q, 0, none⟩), .pointer (some ⟨q2, 0, none⟩), .pointer (some ⟨s, 0, none⟩)] w fun e w' => e = .returned (.int .u64 (shrN a k r i b : Nat)) ∧ Below w.heap.size w w' := by
  have ep := ext_row hp (lt_of_heap hp)
  have eq := ext_cell hq (block_lt_of_cell hq)
  have eq2 := ext_cell hq2 (block_lt_of_cell hq2)
  have es := ext_cell hs (block_lt_of_cell hs)
  clear hp hq hs hq2
  go_enter Try.func185, Try.ntmps185
  go_wp2_with fail
  refine wp_region_ext w.heap.size (by kernel_rfl) (by kernel_rfl) ?_
  repeat (go_big_quiet_step ((refine Calls.quiet_ext (Nat.le_refl _) (at_any _ _ _ _ (by omega) (by omega)))))
  refine wpQuiet_nil ?_
  intro w2 hb2
  go_wp2
  go_ret
  exact ⟨ret_int (shr_val _ _ _ _ _ hb), hb2⟩

/-- A function value that tells a limb of each place from 0 to 7, in whatever world comes of w. -/
def Tells (P : Program) (f : FuncId) (caps : Array Value) (w : World) (g : Nat → Nat) : Prop :=
  ∀ (i : Nat) (w' : World), i < 8 → Below w.heap.size w w' → Calls P f (#[.int .i64 i] ++ caps) w' fun e w'' => e = .returned (.int .u64 (g i : Nat)) ∧ Below w'.heap.size w' w''

set_option maxHeartbeats 400000 in
theorem made_any (f : FuncId) (caps : Array Value) (r : Nat) (w : World) (hcall : Enters Try.prog f) (hT : Tells Try.prog f caps w (limb r)) :
    Calls Try.prog 138 #[.func (.func f) #[] caps] w fun e w' => e = .returned (wv r) ∧ Below w.heap.size w w' := by
  unfold Enters at hcall
  go_enter Try.func138, Try.ntmps138
  go_wp2
  go_loopw [5] (fun i wr => ∃ k : Nat, k ≤ 8 ∧ i = .int .i64 k ∧ Below w.heap.size w wr ∧ wr.heap[w.heap.size]? = some (.cells (wcells 0) 31 (0, 0)) ∧ wr.heap[w.heap.size + 1]? = some (.cells (pcells r k) 31 (0, 0))) (fun i _ => 8 - (intOf i).toNat)
  case atStart =>
    refine ⟨0, by omega, rfl, ((Below.refl _ _).alloc (Nat.le_refl _) _).alloc (by simp) _, ?_, ?_⟩
    · rw [alloc_old _ _ _ (by simp), alloc_new]
    · rw [alloc_new' _ (by simp), pcells_nil]
  case round =>
    obtain ⟨k, hk, rfl, hb, h0, h1⟩ := hrel
    by_cases hlt : k < 8
    · have hz1 := lt_of_heap h1
      have HT := Lib.hid (hT k wr hlt hb)
      clear hT
      go_wp2_with fail
      refine HT.out.mono ?_
      rintro e w2 ⟨rfl, hb2⟩
      have h0' := (hb2.block _ (by omega)).trans h0
      have h1' := (hb2.block _ hz1).trans h1
      have cs := cell_row h1' k
      have fs := free_row h1' k
      rw [pcells_get r k k hlt] at cs
      have H0 := Lib.hid h0'; have H1 := Lib.hid h1'; clear h0 h1 h0' h1'
      go_wp2
      go_roundw
      case rel =>
        refine ⟨k + 1, by omega, by go_num, (hb.trans (hb2.mono hb.size)).setCell (by simp) _, ?_, ?_⟩
        · rw [set_other _ _ _ (by simp)]; exact H0.out
        · rw [set_row H1.out, pcells_put _ _ hlt]
      case measure => simp [intOf]; omega
    · obtain rfl : k = 8 := by omega
      rw [pcells_all] at h1
      have c1 := cell_row h1
      have st := st_row (P := Try.prog) h0 rfl r
      have c2 := cell_row (setRow_heap wr _ _ (wcells r) _ _ h0)
      have H0 := Lib.hid h0; clear h0 h1
      go_wp2
      exact bodyPost_ret (v := wv r) (results_cell_row rfl _ _ w.heap.size _ _ _ _ rfl (setRow_heap wr _ _ (wcells r) _ _ H0.out) Try.underlying31 rfl (by kernel_rfl)) rfl ⟨rfl, below_setRow' hb (Nat.le_refl _) _⟩

theorem enters_shl1 : Enters Try.prog 139 := fun args w => by simp [go_sem]
theorem enters_down1 : Enters Try.prog 185 := fun args w => by simp [go_sem]

def clampN (n : Int) : Nat := if n < 0 then 0 else if 512 < n then 512 else n.toNat
theorem clampN_le (n : Int) : clampN n ≤ 512 := by unfold clampN; split <;> (try split) <;> omega

theorem clampN_neg {n : Int} (h : n < 0) : clampN n = 0 := if_pos h
theorem clampN_hi {n : Int} (h : 512 < n) : clampN n = 512 := by unfold clampN; rw [if_neg (by omega), if_pos h]
theorem clampN_mid {n : Int} (h : 0 ≤ n) (h2 : n ≤ 512) : (clampN n : Int) = n := by unfold clampN; rw [if_neg (by omega), if_neg (by omega)]; omega

set_option maxHeartbeats 400000 in
theorem clamp_any (n : Int) (w : World) (h1 : -9223372036854775808 ≤ n) (h2 : n ≤ 9223372036854775807) :
    Calls Try.prog 136 #[.int .i64 n] w fun e w' => e = .returned (.int .i64 (clampN n : Nat)) ∧ Below w.heap.size w w' := by
  by_cases ha : n < 0
  · go_enter Try.func136, Try.ntmps136
    go_wp2
    go_ret
    exact ⟨ret_int (by rw [clampN_neg ha]; rfl), Below.refl _ _⟩
  by_cases hb : 512 < n
  · go_enter Try.func136, Try.ntmps136
    go_wp2
    go_ret
    exact ⟨ret_int (by rw [clampN_hi hb]; rfl), Below.refl _ _⟩
  have hm := clampN_mid (by omega : 0 ≤ n) (by omega)
  go_enter Try.func136, Try.ntmps136
  go_wp2
  all_goals (go_ret; exact ⟨ret_int (by omega), Below.refl _ _⟩)

theorem shl_tells (a c : Nat) (hc : c ≤ 512) (p q s : Nat) (w : World)
    (hp : w.heap[p]? = some (.cells (wcells a) 31 (0, 0))) (hq : w.cell? ⟨q, 0, none⟩ = some (.int .i64 ((c : Int) / 64))) (hs : w.cell? ⟨s, 0, none⟩ = some (.int .i64 ((c : Int) % 64))) :
    Tells Try.prog 139 #[.pointer (some ⟨p, 0, none⟩), .pointer (some ⟨q, 0, none⟩), .pointer (some ⟨s, 0, none⟩)] w (limb (a * P2 c % M)) := by
  intro i w' hi hb
  have h := shl1_any a i ((c : Int) / 64) ((c : Int) % 64) p q s w' (by omega) (by omega) (by omega) (by omega) (by omega) (by omega)
    ((hb.block p (lt_of_heap hp)).trans hp) ((hb.cell (block_lt_of_cell hq)).trans hq) ((hb.cell (block_lt_of_cell hs)).trans hs)
  have e : shlN a ((c : Int) / 64) ((c : Int) % 64) i = limb (a * P2 c % M) i := by
    rw [limb_mod _ _ hi]
    have := shlN_limb a (c / 64) (c % 64) i (by omega) hi
    rw [show 64 * (c / 64) + c % 64 = c from by omega] at this
    exact this
  rw [e] at h
  exact h

set_option maxHeartbeats 400000 in
theorem shl_any (a : Nat) (n : Int) (w : World) (h1 : -9223372036854775808 ≤ n) (h2 : n ≤ 9223372036854775807) :
    Calls Try.prog 63 #[wv a, .int .i64 n] w fun e w' => e = .returned (wv (a * P2 (clampN n) % M)) ∧ Below w.heap.size w w' := by
  have hc := clampN_le n
  go_enter Try.func63, Try.ntmps63
  go_wp2_with fail
  refine (clamp_any _ _ h1 h2).mono ?_
  rintro e w1 ⟨rfl, hb1⟩
  have hz : w.heap.size + 1 < w1.heap.size := by have := hb1.size; simp at this; omega
  have g0 : w1.heap[w.heap.size]? = some (.cells (wcells a) 31 (0, 0)) := by
    rw [hb1.block _ (by simp; omega), alloc_old _ _ _ (by simp), alloc_new]
  have g1 : w1.heap[w.heap.size + 1]? = some (.cells (wcells 0) 31 (0, 0)) := by
    rw [hb1.block _ (by simp), alloc_new' _ (by simp)]
  have hB := below_then (below_al (below_al (Below.refl _ w) _) _) hb1
  have G0 := Lib.hid g0; have G1 := Lib.hid g1; clear g0 g1 hb1
  go_wp2_with fail
  refine (made_any _ _ _ _ enters_shl1 (shl_tells a (clampN n) hc w.heap.size w1.heap.size (w1.heap.size + 1) _ ?_ ?_ ?_)).mono ?_
  · rw [alloc_old _ _ _ (by simp; omega), alloc_old _ _ _ (by omega)]; exact G0.out
  · go_simp
  · go_simp
  rintro e w2 ⟨rfl, hb2⟩
  have g1 : w2.heap[w.heap.size + 1]? = some (.cells (wcells 0) 31 (0, 0)) := by
    rw [hb2.block _ (by simp; omega), alloc_old _ _ _ (by simp; omega), alloc_old _ _ _ (by omega)]; exact G1.out
  have hB2 := below_then (below_al (below_al hB _) _) hb2
  have st := st_row (P := Try.prog) g1 rfl (a * P2 (clampN n) % M)
  have c2 := cell_row (setRow_heap w2 _ _ (wcells (a * P2 (clampN n) % M)) _ _ g1)
  have G2 := Lib.hid g1; clear g1 hb2 hB
  go_wp2
  exact bodyPost_ret (v := wv _) (results_cell_row rfl _ _ (w.heap.size + 1) _ _ _ _ rfl (setRow_heap w2 _ _ _ _ _ G2.out) Try.underlying31 rfl (by kernel_rfl)) rfl ⟨rfl, below_setRow' hB2 (by omega) _⟩
end Go.Proofs.Ytbjofgoimkmbfaa
