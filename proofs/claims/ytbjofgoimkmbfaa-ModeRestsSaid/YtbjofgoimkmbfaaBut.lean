/- WORLDS THAT DIFFER IN A FEW BLOCKS ALONE (a callee that writes through a pointer, a closure that writes what it captured); rows of limbs of any length. -/
import Derived.Test.YtbjofgoimkmbfaaProdN
namespace Go.Proofs.Ytbjofgoimkmbfaa
open Go Go.RowKit

/-- All blocks that were there are as they were, but for those of S. -/
structure But (S : Nat → Prop) (w w' : World) : Prop where
  os : w'.os = w.os
  tape : w'.tape = w.tape
  output : w'.output = w.output
  size : w.heap.size ≤ w'.heap.size
  block : ∀ k, k < w.heap.size → ¬ S k → w'.heap[k]? = w.heap[k]?
theorem But.refl (S : Nat → Prop) (w : World) : But S w w := ⟨rfl, rfl, rfl, Nat.le_refl _, fun _ _ _ => rfl⟩
theorem But.trans {S : Nat → Prop} {w w1 w2 : World} (h : But S w w1) (k : But S w1 w2) : But S w w2 :=
  ⟨k.os.trans h.os, k.tape.trans h.tape, k.output.trans h.output, Nat.le_trans h.size k.size, fun i hi hs => (k.block i (Nat.lt_of_lt_of_le hi h.size) hs).trans (h.block i hi hs)⟩
theorem But.mono {S T : Nat → Prop} {w w' : World} (h : But S w w') (hst : ∀ k, k < w.heap.size → S k → T k) : But T w w' :=
  ⟨h.os, h.tape, h.output, h.size, fun i hi ht => h.block i hi fun hs => ht (hst i hi hs)⟩
theorem But.of_below {S : Nat → Prop} {w w' : World} (h : Below w.heap.size w w') : But S w w' :=
  ⟨h.os, h.tape, h.output, h.size, fun i hi _ => h.block i hi⟩
theorem But.below {S : Nat → Prop} {B : Nat} {W w w' : World} (h : Below B W w) (k : But S w w') (hB : B ≤ w.heap.size) (hs : ∀ i, i < B → ¬ S i) : Below B W w' :=
  ⟨k.os.trans h.os, k.tape.trans h.tape, k.output.trans h.output, Nat.le_trans h.size k.size, fun i hi => (k.block i (Nat.lt_of_lt_of_le hi hB) (hs i hi)).trans (h.block i hi)⟩
theorem But.set {S : Nat → Prop} {w w' : World} (h : But S w w') {g : Nat} (hg : S g) (j : Nat) (v : Value) : But S w (w'.setCell ⟨g, j, none⟩ v) :=
  h.trans ⟨rfl, rfl, rfl, by simp [World.setCell], fun i _ hs => set_other _ i v (fun e => hs (by rw [e]; exact hg))⟩
theorem But.al {S : Nat → Prop} {w w' : World} (h : But S w w') (o : Obj) : But S w (w'.alloc o) :=
  h.trans ⟨rfl, rfl, rfl, by simp, fun i hi _ => alloc_old _ o i hi⟩
theorem But.drew {S : Nat → Prop} {w w' : World} (h : But S w w') : But S w w'.drew :=
  h.trans ⟨rfl, rfl, rfl, Nat.le_refl _, fun _ _ _ => rfl⟩
theorem But.heap {S : Nat → Prop} {w w' : World} (h : But S w w') {g : Nat} {o : Obj} (hg : w.heap[g]? = some o) (hs : ¬ S g) : w'.heap[g]? = some o :=
  (h.block g (lt_of_heap hg) hs).trans hg

/-- K limbs of a number, as cells. -/
def kcells (K n : Nat) : Array Value := ((List.range K).map fun j => Value.int .u64 (limb n j : Nat)).toArray
theorem kcells_size (K n : Nat) : (kcells K n).size = K := by simp [kcells]
theorem kcells_get (K n j : Nat) (h : j < K) : (kcells K n)[j]? = some (.int .u64 (limb n j : Nat)) := by
  simp [kcells, h]
theorem kcells_set (K n j v : Nat) (_hj : j < K) (hv : v < P2 64) : (kcells K n).setIfInBounds j (.int .u64 (v : Nat)) = kcells K (setL n j v) := by
  apply Array.ext_getElem?
  intro i
  rw [Array.getElem?_setIfInBounds]
  by_cases hi : i < K
  · rw [kcells_get _ _ _ hi, kcells_get _ _ _ hi, limb_setL _ _ _ _ hv, kcells_size]
    by_cases e : j = i
    · subst e; simp [hi]
    · rw [if_neg e, if_neg (fun h => e h.symm)]
  · have e : j ≠ i := by omega
    rw [if_neg e, Array.getElem?_eq_none (by rw [kcells_size]; omega), Array.getElem?_eq_none (by rw [kcells_size]; omega)]
theorem kcells_8 (n : Nat) : kcells 8 n = wcells n := by
  apply Array.ext_getElem?
  intro i
  by_cases hi : i < 8
  · rw [kcells_get _ _ _ hi, wcells_get _ _ hi]
  · rw [Array.getElem?_eq_none (by rw [kcells_size]; omega), Array.getElem?_eq_none (by rw [wcells_size]; omega)]
@[go_sem] theorem kcells_17 : (#[.int .u64 0, .int .u64 0, .int .u64 0, .int .u64 0, .int .u64 0, .int .u64 0, .int .u64 0, .int .u64 0, .int .u64 0, .int .u64 0, .int .u64 0, .int .u64 0, .int .u64 0, .int .u64 0, .int .u64 0, .int .u64 0, .int .u64 0] : Array Value) = kcells 17 0 := by
  unfold kcells
  simp only [limb_zero]
  rfl
@[go_sem] theorem kget_0 (n : Nat) : (kcells 17 n)[0]? = some (.int .u64 (limb n 0 : Nat)) := kcells_get 17 n 0 (by decide)
@[go_sem] theorem kget_1 (n : Nat) : (kcells 17 n)[1]? = some (.int .u64 (limb n 1 : Nat)) := kcells_get 17 n 1 (by decide)
@[go_sem] theorem kget_2 (n : Nat) : (kcells 17 n)[2]? = some (.int .u64 (limb n 2 : Nat)) := kcells_get 17 n 2 (by decide)
@[go_sem] theorem kget_3 (n : Nat) : (kcells 17 n)[3]? = some (.int .u64 (limb n 3 : Nat)) := kcells_get 17 n 3 (by decide)
@[go_sem] theorem kget_4 (n : Nat) : (kcells 17 n)[4]? = some (.int .u64 (limb n 4 : Nat)) := kcells_get 17 n 4 (by decide)
@[go_sem] theorem kget_5 (n : Nat) : (kcells 17 n)[5]? = some (.int .u64 (limb n 5 : Nat)) := kcells_get 17 n 5 (by decide)
@[go_sem] theorem kget_6 (n : Nat) : (kcells 17 n)[6]? = some (.int .u64 (limb n 6 : Nat)) := kcells_get 17 n 6 (by decide)
@[go_sem] theorem kget_7 (n : Nat) : (kcells 17 n)[7]? = some (.int .u64 (limb n 7 : Nat)) := kcells_get 17 n 7 (by decide)
@[go_sem] theorem kget_8 (n : Nat) : (kcells 17 n)[8]? = some (.int .u64 (limb n 8 : Nat)) := kcells_get 17 n 8 (by decide)
@[go_sem] theorem kget_9 (n : Nat) : (kcells 17 n)[9]? = some (.int .u64 (limb n 9 : Nat)) := kcells_get 17 n 9 (by decide)
@[go_sem] theorem kget_10 (n : Nat) : (kcells 17 n)[10]? = some (.int .u64 (limb n 10 : Nat)) := kcells_get 17 n 10 (by decide)
@[go_sem] theorem kget_11 (n : Nat) : (kcells 17 n)[11]? = some (.int .u64 (limb n 11 : Nat)) := kcells_get 17 n 11 (by decide)
@[go_sem] theorem kget_12 (n : Nat) : (kcells 17 n)[12]? = some (.int .u64 (limb n 12 : Nat)) := kcells_get 17 n 12 (by decide)
@[go_sem] theorem kget_13 (n : Nat) : (kcells 17 n)[13]? = some (.int .u64 (limb n 13 : Nat)) := kcells_get 17 n 13 (by decide)
@[go_sem] theorem kget_14 (n : Nat) : (kcells 17 n)[14]? = some (.int .u64 (limb n 14 : Nat)) := kcells_get 17 n 14 (by decide)
@[go_sem] theorem kget_15 (n : Nat) : (kcells 17 n)[15]? = some (.int .u64 (limb n 15 : Nat)) := kcells_get 17 n 15 (by decide)
@[go_sem] theorem kget_16 (n : Nat) : (kcells 17 n)[16]? = some (.int .u64 (limb n 16 : Nat)) := kcells_get 17 n 16 (by decide)
@[go_sem] theorem kfold (n : Nat) : (#[.int .u64 (limb n 0 : Nat), .int .u64 (limb n 1 : Nat), .int .u64 (limb n 2 : Nat), .int .u64 (limb n 3 : Nat), .int .u64 (limb n 4 : Nat), .int .u64 (limb n 5 : Nat), .int .u64 (limb n 6 : Nat), .int .u64 (limb n 7 : Nat), .int .u64 (limb n 8 : Nat), .int .u64 (limb n 9 : Nat), .int .u64 (limb n 10 : Nat), .int .u64 (limb n 11 : Nat), .int .u64 (limb n 12 : Nat), .int .u64 (limb n 13 : Nat), .int .u64 (limb n 14 : Nat), .int .u64 (limb n 15 : Nat), .int .u64 (limb n 16 : Nat)] : Array Value) = kcells 17 n := rfl
/-- A whole row of limbs read, and laid into a block. -/
theorem ld_k {P : Program} {w : World} {g : Nat} {t : TypeId} {K n : Nat} (h : w.heap[g]? = some (.cells (kcells K n) t (0, 0))) :
    Sem.run P (loadCellsFrom ⟨g, 0, none⟩ 0 K #[]) w = .ok (kcells K n) w := by
  have := run_loadCells_list (P := P) w ⟨g, 0, none⟩ (kcells K n).toList (fun j v hv => by
    have hadd : (⟨g, 0, none⟩ : Addr).add j = ⟨g, j, none⟩ := by unfold Addr.add; split <;> simp_all
    rw [hadd, cell_row h j]
    simpa using hv)
  simpa [loadCells, kcells_size] using this
theorem st_k {P : Program} {w : World} {g : Nat} {t : TypeId} {K : Nat} {old : Array Value} (h : w.heap[g]? = some (.cells old t (0, 0))) (hs : old.size = K) (n : Nat) :
    Sem.run P (storeCells ⟨g, 0, none⟩ (kcells K n).toList) w = .ok () (w.setRow g (kcells K n)) := by
  have := run_storeCells_from (P := P) g t (kcells K n).toList 0 old w h (by simp [kcells_size, hs]) (by
    intro v hv
    simp only [kcells, List.mem_map] at hv
    obtain ⟨j, _, rfl⟩ := hv
    rfl)
  simpa using this
@[go_sem] theorem st_new_k {P : Program} (w : World) (z r : Nat) (t : TypeId) : Sem.run P (storeCells ⟨w.heap.size, 0, none⟩ (kcells 17 r).toList) (w.alloc (.cells (kcells 17 z) t)) = .ok () (w.alloc (.cells (kcells 17 r) t)) := by
  rw [st_k (alloc_new w _) (kcells_size _ _) r, setRow_new]
end Go.Proofs.Ytbjofgoimkmbfaa
