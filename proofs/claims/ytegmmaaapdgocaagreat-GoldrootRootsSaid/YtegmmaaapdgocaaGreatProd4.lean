/- THE WALKS of package prod, going on: squares, products with a limb, shifted down, in part. -/
import Derived.Test.YtegmmaaapdgocaaGreatK12
import Derived.Deep.RegionHeld3
import Derived.Deep.DrawnRows
namespace Go.Proofs.YtegmmaaapdgocaaGreat
open Go Go.RowKit

theorem of_one (x : Nat) (hx : x ≤ 18446744073709551615) (w : World) (p : Nat) (h : w.heap[p]? = some (.cells #[.int .u64 (x : Int)] 22 (0, 0))) :
    Calls Tryz.prog 106 #[.slice (some ⟨p, 0, none⟩) 1 1] w fun e w' => e = .returned (wv x) ∧ Below w.heap.size w w' := by
  have hxl : x < P2 64 := by rw [P2_64]; omega
  have hM : x < M := by rw [M_eq]; exact Nat.lt_of_lt_of_le hxl (P2_le (by omega))
  have := of_w (.slice (some ⟨p, 0, none⟩) 1 1) x 1 w ⟨⟨some ⟨p, 0, none⟩, 1, rfl, Nat.le_refl _, fun _ => ⟨p, 0, rfl, lt_of_heap h, fun i hi => by
    rw [Nat.zero_add, cell_row h]
    obtain rfl : i = 0 := by omega
    unfold limb
    rw [P2_00, Nat.div_one, Nat.mod_eq_of_lt hxl]
    rfl⟩⟩, hxl⟩
  rwa [Nat.mod_eq_of_lt hM] at this

theorem keepRowAl {w : World} {b X : Nat} {o : Obj} (h : ∀ j, w.cell? ⟨b, j, none⟩ = (wcells X)[j]?) : ∀ j, (w.alloc o).drew.cell? ⟨b, j, none⟩ = (wcells X)[j]? := fun j => by
  have hb : b < w.heap.size := block_lt_of_cell (a := ⟨b, 0, none⟩) ((h 0).trans rfl)
  rw [← h j]
  show (w.alloc o).cell? ⟨b, j, none⟩ = _
  simp only [World.cell?, alloc_old _ _ _ hb]

theorem keepRowSet {w : World} {b g X : Nat} {cs : Array Value} (h : ∀ j, w.cell? ⟨b, j, none⟩ = (wcells X)[j]?) (hne : b ≠ g) : ∀ j, (w.setRow g cs).cell? ⟨b, j, none⟩ = (wcells X)[j]? := fun j => by
  rw [← h j, cell_setRow_other _ _ _ _ hne]

set_option maxHeartbeats 1000000 in
theorem square_w (a : Nat) (ha : a < M) (w : World) :
    Calls Tryz.prog 65 #[wv a] w fun e w' => e = .returned (.tuple #[wv (a * a % M), .bool (decide (a * a < M))]) ∧ Below w.heap.size w w' := by
  have S := Lib.hid (fun w' => mul_w a a ha ha w')
  obtain ⟨q, hq⟩ : ∃ q, q = a * a % M := ⟨_, rfl⟩
  obtain ⟨f, hf⟩ : ∃ q, q = decide (a * a < M) := ⟨_, rfl⟩
  rw [← hq, ← hf] at S ⊢
  clear hq hf ha
  go_enter Tryz.func65, Tryz.ntmps65
  have HB := Lib.hid (Below.refl w.heap.size w)
  have Ga := Lib.hid (alloc_new (w) (.cells (wcells a) 24))
  replace HB := Lib.hid (below_al HB.out (.cells (wcells a) 24))
  replace Ga := Lib.hid (keepAl (o' := .cells (wcells 0) 24) Ga.out)
  have Gz := Lib.hid (alloc_new' (w := (w).alloc (.cells (wcells a) 24)) (n := w.heap.size + 1) (.cells (wcells 0) 24) (by simp))
  replace HB := Lib.hid (below_al HB.out (.cells (wcells 0) 24))
  go_wp2_with fail
  refine (S.out _).mono ?_
  rintro e w1 ⟨rfl, hb⟩
  replace HB := Lib.hid (below_then HB.out hb)
  replace Ga := Lib.hid ((hb.block _ (lt_of_heap Ga.out)).trans Ga.out)
  replace Gz := Lib.hid ((hb.block _ (lt_of_heap Gz.out)).trans Gz.out)
  clear hb
  have stz := st_row (P := Tryz.prog) Gz.out rfl (q)
  replace Ga := Lib.hid ((setRow_other (w1) (w.heap.size + 1) _ (wcells (q)) (by (omega))).trans Ga.out)
  replace Gz := Lib.hid (setRow_heap (w1) (w.heap.size + 1) _ (wcells (q)) _ _ Gz.out)
  replace HB := Lib.hid (below_setRow' HB.out (show _ ≤ w.heap.size + 1 by (omega)) (wcells (q)))
  have cGa := cell_row Ga.out
  have cGz := cell_row Gz.out
  go_wp2
  exact bodyPost_ret (v := .tuple #[wv q, .bool f]) (by simp [results, Tryz.results65, go_sem, cGz]) rfl ⟨rfl, HB.out⟩

attribute [local go_sem ↓] Go.wp_at_zero Go.wp_at_succ
set_option maxHeartbeats 1000000 in
theorem smallP_w (a n : Nat) (ha : a < M) (hn : n ≤ 18446744073709551615) (w : World) :
    Calls Tryz.prog 133 #[wv a, .int .u64 n] w fun e w' => e = .returned (.tuple #[wv (a * n % M), .bool (decide (a * n < M))]) ∧ Below w.heap.size w w' := by
  have hnM : n < M := by rw [M_eq]; exact Nat.lt_of_lt_of_le (show n < P2 64 by rw [P2_64]; omega) (P2_le (by omega))
  have S := Lib.hid (fun w' => mul_w a n ha hnM w')
  have SO := Lib.hid (fun w' p h => of_one n hn w' p h)
  obtain ⟨q, hq⟩ : ∃ q, q = a * n % M := ⟨_, rfl⟩
  obtain ⟨f, hf⟩ : ∃ q, q = decide (a * n < M) := ⟨_, rfl⟩
  rw [← hq, ← hf] at S ⊢
  clear hq hf ha hnM hn
  go_enter Tryz.func133, Tryz.ntmps133
  have HB := Lib.hid (Below.refl w.heap.size w)
  have Ga := Lib.hid (alloc_new (w) (.cells (wcells a) 24))
  replace HB := Lib.hid (below_al HB.out (.cells (wcells a) 24))
  replace Ga := Lib.hid (keepAl (o' := .cells (wcells 0) 24) Ga.out)
  have Gz := Lib.hid (alloc_new' (w := (w).alloc (.cells (wcells a) 24)) (n := w.heap.size + 1) (.cells (wcells 0) 24) (by simp))
  replace HB := Lib.hid (below_al HB.out (.cells (wcells 0) 24))
  go_wp2_with fail
  obtain ⟨wL, hw⟩ : ∃ wx, wx = ((w).alloc (.cells (wcells a) 24)).alloc (.cells (wcells 0) 24) := ⟨_, rfl⟩
  rw [← hw] at Ga Gz HB ⊢
  clear hw
  have k0 : ∀ j, wL.drew.cell? ⟨w.heap.size, j, none⟩ = (wcells a)[j]? := cell_row Ga.out
  have k1 : ∀ j, (wL.alloc (.cells #[.int .u64 (n : Int)] 22)).drew.cell? ⟨w.heap.size, j, none⟩ = (wcells a)[j]? := keepRowAl (w := wL) k0
  have kn := Lib.hid (show (wL.alloc (.cells #[.int .u64 (n : Int)] 22)).drew.heap[wL.heap.size]? = some (.cells #[.int .u64 (n : Int)] 22 (0, 0)) from alloc_new wL _)
  have HB0 := Lib.hid HB.out.drew
  have GZ : Hid (wL.drew.heap[w.heap.size + 1]? = some (.cells (wcells 0) 24 (0, 0))) := Gz
  have HZ := Lib.hid (show w.heap.size + 1 < wL.heap.size from lt_of_heap Gz.out)
  go_region_held3 (fun w' => ∀ j, w'.cell? ⟨w.heap.size, j, none⟩ = (wcells a)[j]?)
    (first | go_keep | exact keepRow hb (by assumption) | exact k1 | exact keepRowSet (by assumption) (by omega))
    (first
      | (go_at_call 106
         refine (SO.out _ _ kn.out).mono ?_
         rintro e wA ⟨rfl, hb⟩
         have HB1 := Lib.hid (below_then (below_al HB.out _).drew hb)
         have GZ1 := Lib.hid ((hb.block _ (by have := HZ.out; simp; omega)).trans (keepAl (o' := .cells #[.int .u64 (n : Int)] 22 (0, 0)) Gz.out)))
      | (go_at_call 96
         refine (S.out _).mono ?_
         rintro e wB ⟨rfl, hb⟩
         have HB2 := Lib.hid (below_then HB1.out hb)
         have GZ2 := Lib.hid ((hb.block _ (lt_of_heap GZ1.out)).trans GZ1.out)
         have st := st_row (P := Tryz.prog) GZ2.out rfl q))
  all_goals
    go_wp2
    have c1 := cell_row (setRow_heap wB _ _ (wcells q) _ _ GZ2.out)
    exact bodyPost_ret (v := .tuple #[wv q, .bool f]) (by simp [results, Tryz.results133, go_sem, c1]) rfl ⟨rfl, below_setRow' HB2.out (by omega) _⟩

def clampP (n : Int) : Nat := if n < 0 then 0 else if 1024 < n then 1024 else n.toNat
theorem clampP_le (n : Int) : clampP n ≤ 1024 := by unfold clampP; split <;> (try split) <;> omega
theorem clampP_eq (n : Int) : max 0 (min n 1024) = (clampP n : Int) := by unfold clampP; split <;> (try split) <;> omega
theorem lost_less (p c : Nat) : decide (p / P2 c * P2 c < p) = decide (p % P2 c ≠ 0) := by
  have h := Nat.div_add_mod p (P2 c)
  rw [Nat.mul_comm] at h
  by_cases h0 : p % P2 c = 0
  · rw [decide_eq_false (by omega), decide_eq_false (by omega)]
  · rw [decide_eq_true (by omega), decide_eq_true (by omega)]

set_option maxHeartbeats 1000000 in
theorem high_w (a b : Nat) (n : Int) (ha : a < M) (hb : b < M) (w : World) :
    Calls Tryz.prog 121 #[wv a, wv b, .int .i64 n] w fun e w' => e = .returned (.tuple #[wv (a * b / P2 (clampP n) % M), .bool (decide (a * b % P2 (clampP n) ≠ 0))]) ∧ Below w.heap.size w w' := by
  have SW := Lib.hid (fun w' => whole_all a b ha hb w')
  have hlt : a * b < P2 (64 * 17) := Nat.lt_of_lt_of_le (prod_lt ha hb) (P2_le (by omega))
  obtain ⟨p, hp⟩ : ∃ p, p = a * b := ⟨_, rfl⟩
  rw [← hp] at SW hlt ⊢
  have hc := clampP_le n
  have hcn := clampP_eq n
  rw [← lost_less]
  obtain ⟨c, hcc⟩ : ∃ c, c = clampP n := ⟨_, rfl⟩
  rw [← hcc] at hc hcn ⊢
  have SD : Hid (∀ (v : Value) (w' : World), IsLimbs w' v p 17 → Calls Tryz.prog 137 #[v, .int .i64 (-(c : Int))] w' (GivesLimbs (p / P2 c) 18 w')) := Lib.hid fun v w' h => by
    by_cases h0 : c = 0
    · subst h0
      have := limbUpN_any v p 17 0 w' (by omega) (by omega) h
      rw [P2_0, Nat.div_one]
      rw [P2_0, Nat.mul_one] at this
      exact this
    · refine (limbDown_any v p 17 c w' (by omega) (by omega) (by omega) h).mono ?_
      rintro e w2 ⟨r, K, h1, h2, h3⟩
      exact ⟨r, K, h1, by omega, h3⟩
  have SU : Hid (∀ (v : Value) (K : Nat) (w' : World), K ≤ 18 → IsLimbs w' v (p / P2 c) K → Calls Tryz.prog 137 #[v, .int .i64 c] w' (GivesLimbs (p / P2 c * P2 c) 100 w')) := Lib.hid fun v K w' hK h => by
    refine (limbUpN_any v (p / P2 c) K c w' (by omega) (by omega) h).mono ?_
    rintro e w2 ⟨r, K2, h1, h2, h3⟩
    exact ⟨r, K2, h1, by omega, h3⟩
  have SO := Lib.hid (fun v K w' h => of_w v (p / P2 c) K w' h)
  have SL : Hid (∀ (v v2 : Value) (K : Nat) (w' : World), K ≤ 100 → IsLimbs w' v (p / P2 c * P2 c) K → IsLimbs w' v2 p 17 → Calls Tryz.prog 120 #[v, v2] w' fun e w'' => e = .returned (.bool (decide (p / P2 c * P2 c < p))) ∧ Below w'.heap.size w' w'') := Lib.hid fun v v2 K w' hK h h2 =>
    (limbLess2_any v v2 _ _ K 17 w' (by omega) (by omega) h h2).mono fun _ _ ⟨h2, h3⟩ => ⟨h2, by rw [h3]; exact Below.refl _ _⟩
  have SP : Hid (∀ (w' : World) (g : Nat), w'.heap[g]? = some (.cells (kcells 17 p) 157 (0, 0)) → IsLimbs w' (.slice (some ⟨g, 0, none⟩) 17 17) p 17) := Lib.hid fun w' g h => by
    have := isLimbs_k h (o := 0) (L := 17) (cap := 17) (by omega) (by omega)
    rwa [P2_00, Nat.div_one, Nat.mod_eq_of_lt hlt] at this
  obtain ⟨q, hq⟩ : ∃ q, q = p / P2 c := ⟨_, rfl⟩
  rw [← hq] at SD SU SO SL ⊢
  obtain ⟨q2, hq2⟩ : ∃ x, x = q % M := ⟨_, rfl⟩
  rw [← hq2] at SO ⊢
  obtain ⟨f, hf⟩ : ∃ x, x = decide (q * P2 c < p) := ⟨_, rfl⟩
  rw [← hf] at SL ⊢
  obtain ⟨bk, hbk⟩ : ∃ x, x = q * P2 c := ⟨_, rfl⟩
  rw [← hbk] at SU SL
  have HCN := Lib.hid hcn
  have h1 : (c : Int) ≤ 1024 := by omega
  clear ha hb hp hlt hcc hq hq2 hf hbk hcn hc
  go_enter Tryz.func121, Tryz.ntmps121
  have HB := Lib.hid (Below.refl w.heap.size w)
  have Ga := Lib.hid (alloc_new (w) (.cells (wcells a) 24))
  replace HB := Lib.hid (below_al HB.out (.cells (wcells a) 24))
  replace Ga := Lib.hid (keepAl (o' := .cells (wcells b) 24) Ga.out)
  have Gb := Lib.hid (alloc_new' (w := (w).alloc (.cells (wcells a) 24)) (n := w.heap.size + 1) (.cells (wcells b) 24) (by simp))
  replace HB := Lib.hid (below_al HB.out (.cells (wcells b) 24))
  replace Ga := Lib.hid (keepAl (o' := .cells (wcells 0) 24) Ga.out)
  replace Gb := Lib.hid (keepAl (o' := .cells (wcells 0) 24) Gb.out)
  have Gz := Lib.hid (alloc_new' (w := ((w).alloc (.cells (wcells a) 24)).alloc (.cells (wcells b) 24)) (n := w.heap.size + 1 + 1) (.cells (wcells 0) 24) (by simp))
  replace HB := Lib.hid (below_al HB.out (.cells (wcells 0) 24))
  go_wp2_with fail
  refine (SW.out _).mono ?_
  rintro e w2 ⟨rfl, hb⟩
  replace HB := Lib.hid (below_then HB.out hb)
  replace Ga := Lib.hid ((hb.block _ (lt_of_heap Ga.out)).trans Ga.out)
  replace Gb := Lib.hid ((hb.block _ (lt_of_heap Gb.out)).trans Gb.out)
  replace Gz := Lib.hid ((hb.block _ (lt_of_heap Gz.out)).trans Gz.out)
  clear hb
  have HZ := Lib.hid (lt_of_heap Gz.out)
  replace Ga := Lib.hid (keepAl (o' := .cells (kcells 17 p) 157) Ga.out)
  replace Gb := Lib.hid (keepAl (o' := .cells (kcells 17 p) 157) Gb.out)
  replace Gz := Lib.hid (keepAl (o' := .cells (kcells 17 p) 157) Gz.out)
  have Gp := Lib.hid (alloc_new (w2) (.cells (kcells 17 p) 157))
  replace HB := Lib.hid (below_al HB.out (.cells (kcells 17 p) 157))
  go_upto_region 3 with fail
  rw [HCN.out]
  obtain ⟨wL, hw⟩ : ∃ wx, wx = (w2).alloc (.cells (kcells 17 p) 157) := ⟨_, rfl⟩
  rw [← hw] at Ga Gb Gz Gp HB ⊢
  clear hw
  have HZP := Lib.hid (lt_of_heap Gp.out)
  have cGa := cell_row Ga.out
  have cGb := cell_row Gb.out
  have cGz := cell_row Gz.out
  have cGp := cell_row Gp.out
  go_wp2_with fail
  refine (SD.out _ _ (SP.out _ _ Gp.out)).mono ?_
  rintro e w3 ⟨ld, Kd, rfl, hK, hr, hb, hf⟩
  clear cGa cGb cGz cGp
  have Fd := Lib.hid hf
  replace HB := Lib.hid (below_then HB.out hb)
  replace Ga := Lib.hid ((hb.block _ (lt_of_heap Ga.out)).trans Ga.out)
  replace Gb := Lib.hid ((hb.block _ (lt_of_heap Gb.out)).trans Gb.out)
  replace Gz := Lib.hid ((hb.block _ (lt_of_heap Gz.out)).trans Gz.out)
  replace Gp := Lib.hid ((hb.block _ (lt_of_heap Gp.out)).trans Gp.out)
  have Ld := Lib.hid hr
  have HKd := Lib.hid hK
  clear hr hb hf hK
  have HZU := Lib.hid (lt_of_heap Gp.out)
  have cGa := cell_row Ga.out
  have cGb := cell_row Gb.out
  have cGz := cell_row Gz.out
  have cGp := cell_row Gp.out
  go_wp2_with fail
  refine (SU.out _ _ _ HKd.out Ld.out).mono ?_
  rintro e w4 ⟨lu, Ku, rfl, hK, hr, hb, hf⟩
  clear cGa cGb cGz cGp
  have Fu := Lib.hid hf
  replace HB := Lib.hid (below_then HB.out hb)
  replace Ga := Lib.hid ((hb.block _ (lt_of_heap Ga.out)).trans Ga.out)
  replace Gb := Lib.hid ((hb.block _ (lt_of_heap Gb.out)).trans Gb.out)
  replace Gz := Lib.hid ((hb.block _ (lt_of_heap Gz.out)).trans Gz.out)
  replace Gp := Lib.hid ((hb.block _ (lt_of_heap Gp.out)).trans Gp.out)
  replace Ld := Lib.hid (Ld.out.older hb)
  have Lu := Lib.hid hr
  have HKu := Lib.hid hK
  clear hr hb hf hK
  go_upto_region 5 with fail
  refine wp_region_store [⟨w.heap.size + 1 + 1, 24, .tmp 25⟩] (by kernel_rfl) (by kernel_rfl) (by kernel_rfl) rfl (List.pairwise_singleton _ _) ?_ ?_
  · intro r hr
    simp only [List.mem_cons, List.not_mem_nil, or_false] at hr
    subst hr
    exact ⟨_, Gz.out, by kernel_rfl⟩
  have xGa := extR_row (B := w4.heap.size) (R := [⟨w.heap.size + 1 + 1, 24, .tmp 25⟩]) Ga.out (lt_of_heap Ga.out) (by intro r hr; simp only [List.mem_cons, List.not_mem_nil, or_false] at hr; subst hr <;> dsimp only <;> (have := HZ.out; have := HZP.out; have := HZU.out; omega))
  have xGb := extR_row (B := w4.heap.size) (R := [⟨w.heap.size + 1 + 1, 24, .tmp 25⟩]) Gb.out (lt_of_heap Gb.out) (by intro r hr; simp only [List.mem_cons, List.not_mem_nil, or_false] at hr; subst hr <;> dsimp only <;> (have := HZ.out; have := HZP.out; have := HZU.out; omega))
  have xGp := extR_row (B := w4.heap.size) (R := [⟨w.heap.size + 1 + 1, 24, .tmp 25⟩]) Gp.out (lt_of_heap Gp.out) (by intro r hr; simp only [List.mem_cons, List.not_mem_nil, or_false] at hr; subst hr <;> dsimp only <;> (have := HZ.out; have := HZP.out; have := HZU.out; omega))
  repeat (refine wpCalm_step (fun K hK => ?_); go_simp; first | (refine hK _ ?_; clear hK K) | (apply Exists.intro; refine ⟨fun _ => ?_, hK _ ?_⟩; (first | with_reducible exact SO.out _ _ _ (Ld.out.extR Fd.out (Nat.le_refl _) (by simp only [List.mem_singleton, forall_eq]; have := HZ.out; have := HZP.out; have := HZU.out; omega) _) | with_reducible exact SL.out _ _ _ _ HKu.out (Lu.out.extR Fu.out (Nat.le_refl _) (by simp only [List.mem_singleton, forall_eq]; have := HZ.out; have := HZP.out; have := HZU.out; omega) _) (SP.out _ _ (extR_block _ Gp.out (lt_of_heap Gp.out) (by simp only [List.mem_singleton, forall_eq]; have := HZ.out; have := HZP.out; have := HZU.out; omega))) | exact SO.out _ _ _ (Ld.out.extR Fd.out (Nat.le_refl _) (by simp only [List.mem_singleton, forall_eq]; have := HZ.out; have := HZP.out; have := HZU.out; omega) _) | exact SL.out _ _ _ _ HKu.out (Lu.out.extR Fu.out (Nat.le_refl _) (by simp only [List.mem_singleton, forall_eq]; have := HZ.out; have := HZP.out; have := HZU.out; omega) _) (SP.out _ _ (extR_block _ Gp.out (lt_of_heap Gp.out) (by simp only [List.mem_singleton, forall_eq]; have := HZ.out; have := HZP.out; have := HZU.out; omega)))); clear hK K))
  refine wpCalm_nil ⟨?_, fun x hx => ?_⟩
  · intro r hr
    simp only [List.mem_cons, List.not_mem_nil, or_false] at hr
    subst hr <;> exact fits_wv (by kernel_rfl) _
  replace Gz : Hid (x.val.heap[w.heap.size + 1 + 1]? = some (.cells (wcells (q2)) 24 (0, 0))) := Lib.hid (hx ⟨w.heap.size + 1 + 1, 24, .tmp 25⟩ (by simp))
  replace Ga := Lib.hid (extR_block x Ga.out (lt_of_heap Ga.out) (by intro r hr; simp only [List.mem_cons, List.not_mem_nil, or_false] at hr; subst hr <;> dsimp only <;> (have := HZ.out; have := HZP.out; have := HZU.out; omega)))
  replace Gb := Lib.hid (extR_block x Gb.out (lt_of_heap Gb.out) (by intro r hr; simp only [List.mem_cons, List.not_mem_nil, or_false] at hr; subst hr <;> dsimp only <;> (have := HZ.out; have := HZP.out; have := HZU.out; omega)))
  replace Gp := Lib.hid (extR_block x Gp.out (lt_of_heap Gp.out) (by intro r hr; simp only [List.mem_cons, List.not_mem_nil, or_false] at hr; subst hr <;> dsimp only <;> (have := HZ.out; have := HZP.out; have := HZU.out; omega)))
  replace HB := Lib.hid (extR_below x HB.out HB.out.size (by intro r hr; simp only [List.mem_cons, List.not_mem_nil, or_false] at hr; subst hr <;> dsimp only <;> (have := HZ.out; have := HZP.out; have := HZU.out; omega)))
  clear hx xGa xGb xGp
  obtain ⟨w5, hw⟩ : ∃ wx, wx = x.val := ⟨_, rfl⟩
  rw [← hw] at Ga Gb Gz Gp HB ⊢
  clear hw x
  have c1 := cell_row Gz.out
  go_wp2
  exact bodyPost_ret (v := .tuple #[wv q2, .bool f]) (by simp [results, Tryz.results121, go_sem, c1]) rfl ⟨rfl, HB.out⟩
end Go.Proofs.YtegmmaaapdgocaaGreat
