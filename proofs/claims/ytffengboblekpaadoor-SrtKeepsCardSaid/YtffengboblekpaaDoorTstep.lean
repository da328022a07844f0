/- A STEP of division by digits of either sign, as cells: its place, its digit, and what is left. -/
import Derived.Test.YtffengboblekpaaDoorK19
import Derived.Test.YtffengboblekpaaDoorK2
namespace Go.Proofs.YtffengboblekpaaDoor
open Go Go.RowKit

/-- A step's cells. -/
def tcells (p d : Int) (n : Nat) : Array Value := #[.int .i64 p, .int .i64 d, .int .u64 (limb n 0 : Nat), .int .u64 (limb n 1 : Nat), .int .u64 (limb n 2 : Nat), .int .u64 (limb n 3 : Nat), .int .u64 (limb n 4 : Nat), .int .u64 (limb n 5 : Nat), .int .u64 (limb n 6 : Nat), .int .u64 (limb n 7 : Nat)]
@[go_sem] theorem tcells_size (p d : Int) (n : Nat) : (tcells p d n).size = 10 := rfl
@[go_sem] theorem tcells_ne (p d : Int) (n : Nat) : (tcells p d n = #[]) = False := by unfold tcells; simp
@[go_sem] theorem tfoldl (p d : Int) (z n : Nat) : Array.foldl (fun (cs : Array Value) (x : Value × Nat) => cs.setIfInBounds (2 + x.snd) x.fst) (tcells p d z) (wcells n).zipIdx 0 8 = tcells p d n := by kernel_rfl
@[go_sem] theorem tset0 (p d q : Int) (n : Nat) : (tcells p d n).setIfInBounds 0 (.int .i64 q) = tcells q d n := rfl
@[go_sem] theorem tset1 (p d q : Int) (n : Nat) : (tcells p d n).setIfInBounds 1 (.int .i64 q) = tcells p q n := rfl
@[go_sem] theorem tcells_zero : (#[.int .i64 0, .int .i64 0, .int .u64 0, .int .u64 0, .int .u64 0, .int .u64 0, .int .u64 0, .int .u64 0, .int .u64 0, .int .u64 0] : Array Value) = tcells 0 0 0 := by
  unfold tcells
  simp only [limb_zero]
  rfl
@[go_sem] theorem tget_0 (p d : Int) (n : Nat) : (tcells p d n)[0]? = some (.int .i64 p) := rfl
@[go_sem] theorem tget_1 (p d : Int) (n : Nat) : (tcells p d n)[1]? = some (.int .i64 d) := rfl
@[go_sem] theorem tget_2 (p d : Int) (n : Nat) : (tcells p d n)[2]? = some (.int .u64 (limb n 0 : Nat)) := rfl
@[go_sem] theorem tget_3 (p d : Int) (n : Nat) : (tcells p d n)[3]? = some (.int .u64 (limb n 1 : Nat)) := rfl
@[go_sem] theorem tget_4 (p d : Int) (n : Nat) : (tcells p d n)[4]? = some (.int .u64 (limb n 2 : Nat)) := rfl
@[go_sem] theorem tget_5 (p d : Int) (n : Nat) : (tcells p d n)[5]? = some (.int .u64 (limb n 3 : Nat)) := rfl
@[go_sem] theorem tget_6 (p d : Int) (n : Nat) : (tcells p d n)[6]? = some (.int .u64 (limb n 4 : Nat)) := rfl
@[go_sem] theorem tget_7 (p d : Int) (n : Nat) : (tcells p d n)[7]? = some (.int .u64 (limb n 5 : Nat)) := rfl
@[go_sem] theorem tget_8 (p d : Int) (n : Nat) : (tcells p d n)[8]? = some (.int .u64 (limb n 6 : Nat)) := rfl
@[go_sem] theorem tget_9 (p d : Int) (n : Nat) : (tcells p d n)[9]? = some (.int .u64 (limb n 7 : Nat)) := rfl
@[go_sem] theorem tfold (p d : Int) (n : Nat) : (#[.int .i64 p, .int .i64 d, .int .u64 (limb n 0 : Nat), .int .u64 (limb n 1 : Nat), .int .u64 (limb n 2 : Nat), .int .u64 (limb n 3 : Nat), .int .u64 (limb n 4 : Nat), .int .u64 (limb n 5 : Nat), .int .u64 (limb n 6 : Nat), .int .u64 (limb n 7 : Nat)] : Array Value) = tcells p d n := rfl
theorem st_t {P : Program} {w : World} {g : Nat} {t : TypeId} {old : Array Value} (h : w.heap[g]? = some (.cells old t (0, 0))) (hs : old.size = 10) (p d : Int) (n : Nat) :
    Sem.run P (storeCells ⟨g, 0, none⟩ (tcells p d n).toList) w = .ok () (w.setRow g (tcells p d n)) := by
  have := run_storeCells_from (P := P) g t (tcells p d n).toList 0 old w h (by simp [tcells, hs]) (by intro v hv; simp [tcells] at hv; rcases hv with rfl | rfl | rfl | rfl | rfl | rfl | rfl | rfl | rfl | rfl <;> rfl)
  simpa using this
@[go_sem] theorem st_new_t {P : Program} (w : World) (p d p' d' : Int) (z r : Nat) (t : TypeId) : Sem.run P (storeCells ⟨w.heap.size, 0, none⟩ (tcells p d r).toList) (w.alloc (.cells (tcells p' d' z) t)) = .ok () (w.alloc (.cells (tcells p d r) t)) := by
  rw [st_t (alloc_new w _) rfl p d r, setRow_new]
end Go.Proofs.YtffengboblekpaaDoor
