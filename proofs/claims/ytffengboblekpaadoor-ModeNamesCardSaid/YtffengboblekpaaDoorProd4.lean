/- THE WALKS of package prod, going on: squares, products with a limb, shifted down, in part. -/
import Derived.Test.YtffengboblekpaaDoorK12
import Derived.Deep.RegionHeld3
import Derived.Deep.DrawnRows
namespace Go.Proofs.YtffengboblekpaaDoor
open Go Go.RowKit

theorem of_one (x : Nat) (hx : x ≤ 18446744073709551615) (w : World) (p : Nat) (h : w.heap[p]? = some (.cells #[.int .u64 (x : Int)] 22 (0, 0))) :
    Calls Tryd.prog 67 #[.slice (some ⟨p, 0, none⟩) 1 1] w fun e w' => e = .returned (wv x) ∧ Below w.heap.size w w' := by
  have hxl : x < P2 64 := by rw [P2_64]; omega
  have hM : x < M := by rw [M_eq]; exact Nat.lt_of_lt_of_le hxl (P2_le (by omega))
  have := of_w (.slice (some ⟨p, 0, none⟩) 1 1) x 1 w ⟨⟨some ⟨p, 0, none⟩, 1, rfl, Nat.le_refl _, fun _ => ⟨p, 0, rfl, lt_of_heap h, fun i hi => by
    rw [Nat.zero_add, cell_row h]
    obtain rfl : i = 0 := by omega
    unfold limb
    rw [P2_00, Nat.div_one, Nat.mod_eq_of_lt hxl]
    rfl⟩⟩, hxl⟩
  rwa [Nat.mod_eq_of_lt hM] at this

theorem keepRowAl {w : World} {b X : Nat} {o : Obj} (h : ∀ j, w.cell? ⟨b, j, none⟩ = (wcells X)[j]?) : ∀ j, (w.alloc o).drew.cell? ⟨b, j, none⟩ = (wcells X)[j]? := fun j => by
  have hb : b < w.heap.size := block_lt_of_cell (a := ⟨b, 0, none⟩) ((h 0).trans rfl)
  rw [← h j]
  show (w.alloc o).cell? ⟨b, j, none⟩ = _
  simp only [World.cell?, alloc_old _ _ _ hb]

theorem keepRowSet {w : World} {b g X : Nat} {cs : Array Value} (h : ∀ j, w.cell? ⟨b, j, none⟩ = (wcells X)[j]?) (hne : b ≠ g) : ∀ j, (w.setRow g cs).cell? ⟨b, j, none⟩ = (wcells X)[j]? := fun j => by
  rw [← h j, cell_setRow_other _ _ _ _ hne]

attribute [local go_sem ↓] Go.wp_at_zero Go.wp_at_succ
set_option maxHeartbeats 1000000 in
theorem smallP_w (a n : Nat) (ha : a < M) (hn : n ≤ 18446744073709551615) (w : World) :
    Calls Tryd.prog 105 #[wv a, .int .u64 n] w fun e w' => e = .returned (.tuple #[wv (a * n % M), .bool (decide (a * n < M))]) ∧ Below w.heap.size w w' := by
  have hnM : n < M := by rw [M_eq]; exact Nat.lt_of_lt_of_le (show n < P2 64 by rw [P2_64]; omega) (P2_le (by omega))
  have S := Lib.hid (fun w' => mul_w a n ha hnM w')
  have SO := Lib.hid (fun w' p h => of_one n hn w' p h)
  obtain ⟨q, hq⟩ : ∃ q, q = a * n % M := ⟨_, rfl⟩
  obtain ⟨f, hf⟩ : ∃ q, q = decide (a * n < M) := ⟨_, rfl⟩
  rw [← hq, ← hf] at S ⊢
  clear hq hf ha hnM hn
  go_enter Tryd.func105, Tryd.ntmps105
  have HB := Lib.hid (Below.refl w.heap.size w)
  have Ga := Lib.hid (alloc_new (w) (.cells (wcells a) 24))
  replace HB := Lib.hid (below_al HB.out (.cells (wcells a) 24))
  replace Ga := Lib.hid (keepAl (o' := .cells (wcells 0) 24) Ga.out)
  have Gz := Lib.hid (alloc_new' (w := (w).alloc (.cells (wcells a) 24)) (n := w.heap.size + 1) (.cells (wcells 0) 24) (by simp))
  replace HB := Lib.hid (below_al HB.out (.cells (wcells 0) 24))
  go_wp2_with fail
  obtain ⟨wL, hw⟩ : ∃ wx, wx = ((w).alloc (.cells (wcells a) 24)).alloc (.cells (wcells 0) 24) := ⟨_, rfl⟩
  rw [← hw] at Ga Gz HB ⊢
  clear hw
  have k0 : ∀ j, wL.drew.cell? ⟨w.heap.size, j, none⟩ = (wcells a)[j]? := cell_row Ga.out
  have k1 : ∀ j, (wL.alloc (.cells #[.int .u64 (n : Int)] 22)).drew.cell? ⟨w.heap.size, j, none⟩ = (wcells a)[j]? := keepRowAl (w := wL) k0
  have kn := Lib.hid (show (wL.alloc (.cells #[.int .u64 (n : Int)] 22)).drew.heap[wL.heap.size]? = some (.cells #[.int .u64 (n : Int)] 22 (0, 0)) from alloc_new wL _)
  have HB0 := Lib.hid HB.out.drew
  have GZ : Hid (wL.drew.heap[w.heap.size + 1]? = some (.cells (wcells 0) 24 (0, 0))) := Gz
  have HZ := Lib.hid (show w.heap.size + 1 < wL.heap.size from lt_of_heap Gz.out)
  go_region_held3 (fun w' => ∀ j, w'.cell? ⟨w.heap.size, j, none⟩ = (wcells a)[j]?)
    (first | go_keep | exact keepRow hb (by assumption) | exact k1 | exact keepRowSet (by assumption) (by omega))
    (first
      | (go_at_call 67
         refine (SO.out _ _ kn.out).mono ?_
         rintro e wA ⟨rfl, hb⟩
         have HB1 := Lib.hid (below_then (below_al HB.out _).drew hb)
         have GZ1 := Lib.hid ((hb.block _ (by have := HZ.out; simp; omega)).trans (keepAl (o' := .cells #[.int .u64 (n : Int)] 22 (0, 0)) Gz.out)))
      | (go_at_call 109
         refine (S.out _).mono ?_
         rintro e wB ⟨rfl, hb⟩
         have HB2 := Lib.hid (below_then HB1.out hb)
         have GZ2 := Lib.hid ((hb.block _ (lt_of_heap GZ1.out)).trans GZ1.out)
         have st := st_row (P := Tryd.prog) GZ2.out rfl q))
  all_goals
    go_wp2
    have c1 := cell_row (setRow_heap wB _ _ (wcells q) _ _ GZ2.out)
    exact bodyPost_ret (v := .tuple #[wv q, .bool f]) (by simp [results, Tryd.results105, go_sem, c1]) rfl ⟨rfl, below_setRow' HB2.out (by omega) _⟩

def clampP (n : Int) : Nat := if n < 0 then 0 else if 1024 < n then 1024 else n.toNat
theorem clampP_le (n : Int) : clampP n ≤ 1024 := by unfold clampP; split <;> (try split) <;> omega
theorem clampP_eq (n : Int) : max 0 (min n 1024) = (clampP n : Int) := by unfold clampP; split <;> (try split) <;> omega
theorem lost_less (p c : Nat) : decide (p / P2 c * P2 c < p) = decide (p % P2 c ≠ 0) := by
  have h := Nat.div_add_mod p (P2 c)
  rw [Nat.mul_comm] at h
  by_cases h0 : p % P2 c = 0
  · rw [decide_eq_false (by omega), decide_eq_false (by omega)]
  · rw [decide_eq_true (by omega), decide_eq_true (by omega)]

end Go.Proofs.YtffengboblekpaaDoor
