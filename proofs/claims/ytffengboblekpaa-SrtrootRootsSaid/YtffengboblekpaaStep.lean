/- A STEP of radix2's division, as cells: a digit, and what is left; how such a row is made, laid and read. -/
import Derived.Test.YtffengboblekpaaK14
namespace Go.Proofs.Ytffengboblekpaa
open Go Go.RowKit

/-- A step's cells. -/
def scells (d : Int) (n : Nat) : Array Value := #[.int .i64 d, .int .u64 (limb n 0 : Nat), .int .u64 (limb n 1 : Nat), .int .u64 (limb n 2 : Nat), .int .u64 (limb n 3 : Nat), .int .u64 (limb n 4 : Nat), .int .u64 (limb n 5 : Nat), .int .u64 (limb n 6 : Nat), .int .u64 (limb n 7 : Nat)]
@[go_sem] theorem scells_size (d : Int) (n : Nat) : (scells d n).size = 9 := rfl
@[go_sem] theorem sfoldl (d : Int) (z n : Nat) : Array.foldl (fun (cs : Array Value) (x : Value × Nat) => cs.setIfInBounds (1 + x.snd) x.fst) (scells d z) (wcells n).zipIdx 0 8 = scells d n := by kernel_rfl
@[go_sem] theorem scells_ne (d : Int) (n : Nat) : (scells d n = #[]) = False := by unfold scells; simp
@[go_sem] theorem sset0 (d e : Int) (n : Nat) : (scells e n).setIfInBounds 0 (.int .i64 d) = scells d n := rfl
@[go_sem] theorem scells_zero : (#[.int .i64 0, .int .u64 0, .int .u64 0, .int .u64 0, .int .u64 0, .int .u64 0, .int .u64 0, .int .u64 0, .int .u64 0] : Array Value) = scells 0 0 := by
  unfold scells
  simp only [limb_zero]
  rfl
@[go_sem] theorem sget_0 (d : Int) (n : Nat) : (scells d n)[0]? = some (.int .i64 d) := rfl
@[go_sem] theorem sget_1 (d : Int) (n : Nat) : (scells d n)[1]? = some (.int .u64 (limb n 0 : Nat)) := rfl
@[go_sem] theorem sget_2 (d : Int) (n : Nat) : (scells d n)[2]? = some (.int .u64 (limb n 1 : Nat)) := rfl
@[go_sem] theorem sget_3 (d : Int) (n : Nat) : (scells d n)[3]? = some (.int .u64 (limb n 2 : Nat)) := rfl
@[go_sem] theorem sget_4 (d : Int) (n : Nat) : (scells d n)[4]? = some (.int .u64 (limb n 3 : Nat)) := rfl
@[go_sem] theorem sget_5 (d : Int) (n : Nat) : (scells d n)[5]? = some (.int .u64 (limb n 4 : Nat)) := rfl
@[go_sem] theorem sget_6 (d : Int) (n : Nat) : (scells d n)[6]? = some (.int .u64 (limb n 5 : Nat)) := rfl
@[go_sem] theorem sget_7 (d : Int) (n : Nat) : (scells d n)[7]? = some (.int .u64 (limb n 6 : Nat)) := rfl
@[go_sem] theorem sget_8 (d : Int) (n : Nat) : (scells d n)[8]? = some (.int .u64 (limb n 7 : Nat)) := rfl
@[go_sem] theorem sfold (d : Int) (n : Nat) : (#[.int .i64 d, .int .u64 (limb n 0 : Nat), .int .u64 (limb n 1 : Nat), .int .u64 (limb n 2 : Nat), .int .u64 (limb n 3 : Nat), .int .u64 (limb n 4 : Nat), .int .u64 (limb n 5 : Nat), .int .u64 (limb n 6 : Nat), .int .u64 (limb n 7 : Nat)] : Array Value) = scells d n := rfl
theorem st_s {P : Program} {w : World} {g : Nat} {t : TypeId} {old : Array Value} (h : w.heap[g]? = some (.cells old t (0, 0))) (hs : old.size = 9) (d : Int) (n : Nat) :
    Sem.run P (storeCells ⟨g, 0, none⟩ (scells d n).toList) w = .ok () (w.setRow g (scells d n)) := by
  have := run_storeCells_from (P := P) g t (scells d n).toList 0 old w h (by simp [scells, hs]) (by intro v hv; simp [scells] at hv; rcases hv with rfl | rfl | rfl | rfl | rfl | rfl | rfl | rfl | rfl <;> rfl)
  simpa using this
@[go_sem] theorem st_new_s {P : Program} (w : World) (d e : Int) (z r : Nat) (t : TypeId) : Sem.run P (storeCells ⟨w.heap.size, 0, none⟩ (scells d r).toList) (w.alloc (.cells (scells e z) t)) = .ok () (w.alloc (.cells (scells d r) t)) := by
  rw [st_s (alloc_new w _) rfl d r, setRow_new]
theorem keepS {w w' : World} {b n : Nat} {d : Int} (hb : Below w.heap.size w w') (h : ∀ j, w.cell? ⟨b, j, none⟩ = (scells d n)[j]?) : ∀ j, w'.cell? ⟨b, j, none⟩ = (scells d n)[j]? :=
  fun j => (hb.cell (p := ⟨b, j, none⟩) (block_lt_of_cell (a := ⟨b, 0, none⟩) ((h 0).trans rfl))).trans (h j)
theorem keepSAl {w : World} {b n : Nat} {d : Int} {o : Obj} (h : ∀ j, w.cell? ⟨b, j, none⟩ = (scells d n)[j]?) : ∀ j, (w.alloc o).drew.cell? ⟨b, j, none⟩ = (scells d n)[j]? := fun j => by
  have hb : b < w.heap.size := block_lt_of_cell (a := ⟨b, 0, none⟩) ((h 0).trans rfl)
  rw [← h j]
  show (w.alloc o).cell? ⟨b, j, none⟩ = _
  simp only [World.cell?, alloc_old _ _ _ hb]
end Go.Proofs.Ytffengboblekpaa
