/- SEVERAL TEXTS of the seat, one behind the other: each says at its head what it proves. -/
import Derived.Test.YtegmmaaapdgocaaGreatK14
import Derived.Test.YtegmmaaapdgocaaGreatK13
/- A STEP of radix2's division, as cells: a digit, and what is left; how such a row is made, laid and read. -/
namespace Go.Proofs.YtegmmaaapdgocaaGreat
open Go Go.RowKit

/-- A step's cells. -/
def scells (d : Int) (n : Nat) : Array Value := #[.int .i64 d, .int .u64 (limb n 0 : Nat), .int .u64 (limb n 1 : Nat), .int .u64 (limb n 2 : Nat), .int .u64 (limb n 3 : Nat), .int .u64 (limb n 4 : Nat), .int .u64 (limb n 5 : Nat), .int .u64 (limb n 6 : Nat), .int .u64 (limb n 7 : Nat)]
@[go_sem] theorem scells_size (d : Int) (n : Nat) : (scells d n).size = 9 := rfl
@[go_sem] theorem sfoldl (d : Int) (z n : Nat) : Array.foldl (fun (cs : Array Value) (x : Value × Nat) => cs.setIfInBounds (1 + x.snd) x.fst) (scells d z) (wcells n).zipIdx 0 8 = scells d n := by kernel_rfl
@[go_sem] theorem scells_ne (d : Int) (n : Nat) : (scells d n = #[]) = False := by unfold scells; simp
@[go_sem] theorem sset0 (d e : Int) (n : Nat) : (scells e n).setIfInBounds 0 (.int .i64 d) = scells d n := rfl
@[go_sem] theorem scells_zero : (#[.int .i64 0, .int .u64 0, .int .u64 0, .int .u64 0, .int .u64 0, .int .u64 0, .int .u64 0, .int .u64 0, .int .u64 0] : Array Value) = scells 0 0 := by
  unfold scells
  simp only [limb_zero]
  rfl
@[go_sem] theorem sget_0 (d : Int) (n : Nat) : (scells d n)[0]? = some (.int .i64 d) := rfl
@[go_sem] theorem sget_1 (d : Int) (n : Nat) : (scells d n)[1]? = some (.int .u64 (limb n 0 : Nat)) := rfl
@[go_sem] theorem sget_2 (d : Int) (n : Nat) : (scells d n)[2]? = some (.int .u64 (limb n 1 : Nat)) := rfl
@[go_sem] theorem sget_3 (d : Int) (n : Nat) : (scells d n)[3]? = some (.int .u64 (limb n 2 : Nat)) := rfl
@[go_sem] theorem sget_4 (d : Int) (n : Nat) : (scells d n)[4]? = some (.int .u64 (limb n 3 : Nat)) := rfl
@[go_sem] theorem sget_5 (d : Int) (n : Nat) : (scells d n)[5]? = some (.int .u64 (limb n 4 : Nat)) := rfl
@[go_sem] theorem sget_6 (d : Int) (n : Nat) : (scells d n)[6]? = some (.int .u64 (limb n 5 : Nat)) := rfl
@[go_sem] theorem sget_7 (d : Int) (n : Nat) : (scells d n)[7]? = some (.int .u64 (limb n 6 : Nat)) := rfl
@[go_sem] theorem sget_8 (d : Int) (n : Nat) : (scells d n)[8]? = some (.int .u64 (limb n 7 : Nat)) := rfl
@[go_sem] theorem sfold (d : Int) (n : Nat) : (#[.int .i64 d, .int .u64 (limb n 0 : Nat), .int .u64 (limb n 1 : Nat), .int .u64 (limb n 2 : Nat), .int .u64 (limb n 3 : Nat), .int .u64 (limb n 4 : Nat), .int .u64 (limb n 5 : Nat), .int .u64 (limb n 6 : Nat), .int .u64 (limb n 7 : Nat)] : Array Value) = scells d n := rfl
theorem st_s {P : Program} {w : World} {g : Nat} {t : TypeId} {old : Array Value} (h : w.heap[g]? = some (.cells old t (0, 0))) (hs : old.size = 9) (d : Int) (n : Nat) :
    Sem.run P (storeCells ⟨g, 0, none⟩ (scells d n).toList) w = .ok () (w.setRow g (scells d n)) := by
  have := run_storeCells_from (P := P) g t (scells d n).toList 0 old w h (by simp [scells, hs]) (by intro v hv; simp [scells] at hv; rcases hv with rfl | rfl | rfl | rfl | rfl | rfl | rfl | rfl | rfl <;> rfl)
  simpa using this
@[go_sem] theorem st_new_s {P : Program} (w : World) (d e : Int) (z r : Nat) (t : TypeId) : Sem.run P (storeCells ⟨w.heap.size, 0, none⟩ (scells d r).toList) (w.alloc (.cells (scells e z) t)) = .ok () (w.alloc (.cells (scells d r) t)) := by
  rw [st_s (alloc_new w _) rfl d r, setRow_new]
theorem keepS {w w' : World} {b n : Nat} {d : Int} (hb : Below w.heap.size w w') (h : ∀ j, w.cell? ⟨b, j, none⟩ = (scells d n)[j]?) : ∀ j, w'.cell? ⟨b, j, none⟩ = (scells d n)[j]? :=
  fun j => (hb.cell (p := ⟨b, j, none⟩) (block_lt_of_cell (a := ⟨b, 0, none⟩) ((h 0).trans rfl))).trans (h j)
theorem keepSAl {w : World} {b n : Nat} {d : Int} {o : Obj} (h : ∀ j, w.cell? ⟨b, j, none⟩ = (scells d n)[j]?) : ∀ j, (w.alloc o).drew.cell? ⟨b, j, none⟩ = (scells d n)[j]? := fun j => by
  have hb : b < w.heap.size := block_lt_of_cell (a := ⟨b, 0, none⟩) ((h 0).trans rfl)
  rw [← h j]
  show (w.alloc o).cell? ⟨b, j, none⟩ = _
  simp only [World.cell?, alloc_old _ _ _ hb]
end Go.Proofs.YtegmmaaapdgocaaGreat

/- ROWS of numbers of 512 bits: how a list of one, two or three is made, and what it holds. -/
namespace Go.Proofs.YtegmmaaapdgocaaGreat
open Go Go.RowKit

def w16 (a b : Nat) : Array Value := wcells a ++ wcells b
def w24 (a b c : Nat) : Array Value := wcells a ++ (wcells b ++ wcells c)
@[go_sem] theorem w16_size (a b : Nat) : (w16 a b).size = 16 := by kernel_rfl
@[go_sem] theorem w24_size (a b c : Nat) : (w24 a b c).size = 24 := by kernel_rfl
@[go_sem] theorem z8 : (#[(wcells 0)[0]!, (wcells 0)[1]!, (wcells 0)[2]!, (wcells 0)[3]!, (wcells 0)[4]!, (wcells 0)[5]!, (wcells 0)[6]!, (wcells 0)[7]!] : Array Value) = wcells 0 := by kernel_rfl
@[go_sem] theorem z16 : (#[(wcells 0)[0]!, (wcells 0)[1]!, (wcells 0)[2]!, (wcells 0)[3]!, (wcells 0)[4]!, (wcells 0)[5]!, (wcells 0)[6]!, (wcells 0)[7]!, (wcells 0)[0]!, (wcells 0)[1]!, (wcells 0)[2]!, (wcells 0)[3]!, (wcells 0)[4]!, (wcells 0)[5]!, (wcells 0)[6]!, (wcells 0)[7]!] : Array Value) = w16 0 0 := by kernel_rfl
@[go_sem] theorem z24 : (#[(wcells 0)[0]!, (wcells 0)[1]!, (wcells 0)[2]!, (wcells 0)[3]!, (wcells 0)[4]!, (wcells 0)[5]!, (wcells 0)[6]!, (wcells 0)[7]!, (wcells 0)[0]!, (wcells 0)[1]!, (wcells 0)[2]!, (wcells 0)[3]!, (wcells 0)[4]!, (wcells 0)[5]!, (wcells 0)[6]!, (wcells 0)[7]!, (wcells 0)[0]!, (wcells 0)[1]!, (wcells 0)[2]!, (wcells 0)[3]!, (wcells 0)[4]!, (wcells 0)[5]!, (wcells 0)[6]!, (wcells 0)[7]!] : Array Value) = w24 0 0 0 := by kernel_rfl
@[go_sem] theorem f8 (z n : Nat) : Array.foldl (fun (cs : Array Value) (x : Value × Nat) => cs.setIfInBounds x.snd x.fst) (wcells z) (wcells n).zipIdx 0 8 = wcells n := by kernel_rfl
@[go_sem] theorem f16a (a b n : Nat) : Array.foldl (fun (cs : Array Value) (x : Value × Nat) => cs.setIfInBounds x.snd x.fst) (w16 a b) (wcells n).zipIdx 0 8 = w16 n b := by kernel_rfl
@[go_sem] theorem f16b (a b n : Nat) : Array.foldl (fun (cs : Array Value) (x : Value × Nat) => cs.setIfInBounds (8 + x.snd) x.fst) (w16 a b) (wcells n).zipIdx 0 8 = w16 a n := by kernel_rfl
@[go_sem] theorem f24a (a b c n : Nat) : Array.foldl (fun (cs : Array Value) (x : Value × Nat) => cs.setIfInBounds x.snd x.fst) (w24 a b c) (wcells n).zipIdx 0 8 = w24 n b c := by kernel_rfl
@[go_sem] theorem f24b (a b c n : Nat) : Array.foldl (fun (cs : Array Value) (x : Value × Nat) => cs.setIfInBounds (8 + x.snd) x.fst) (w24 a b c) (wcells n).zipIdx 0 8 = w24 a n c := by kernel_rfl
@[go_sem] theorem f24c (a b c n : Nat) : Array.foldl (fun (cs : Array Value) (x : Value × Nat) => cs.setIfInBounds (16 + x.snd) x.fst) (w24 a b c) (wcells n).zipIdx 0 8 = w24 a b n := by kernel_rfl

theorem lt8 {j : Nat} (h : j < 8) : j = 0 ∨ j = 1 ∨ j = 2 ∨ j = 3 ∨ j = 4 ∨ j = 5 ∨ j = 6 ∨ j = 7 := by omega
theorem isWides1 {w : World} {g a : Nat} {t : TypeId} {f : Nat × Nat} (h : w.heap[g]? = some (.cells (wcells a) t f)) : IsWides w (.slice (some ⟨g, 0, none⟩) 1 1) [a] :=
  ⟨_, 1, rfl, Nat.le_refl _, fun _ => ⟨g, 0, rfl, lt_of_heap h, fun i x hi j hj => by
    rw [cell_row h]
    match i, hi with
    | 0, hi =>
      simp only [List.getElem?_cons_zero, Option.some.injEq] at hi
      subst hi
      rcases lt8 hj with rfl | rfl | rfl | rfl | rfl | rfl | rfl | rfl <;> (show (_ : Option Value) = _; kernel_rfl)⟩⟩
theorem isWides2 {w : World} {g a b : Nat} {t : TypeId} {f : Nat × Nat} (h : w.heap[g]? = some (.cells (w16 a b) t f)) : IsWides w (.slice (some ⟨g, 0, none⟩) 2 2) [a, b] :=
  ⟨_, 2, rfl, Nat.le_refl _, fun _ => ⟨g, 0, rfl, lt_of_heap h, fun i x hi j hj => by
    rw [cell_row h]
    match i, hi with
    | 0, hi =>
      simp only [List.getElem?_cons_zero, Option.some.injEq] at hi
      subst hi
      rcases lt8 hj with rfl | rfl | rfl | rfl | rfl | rfl | rfl | rfl <;> (show (_ : Option Value) = _; kernel_rfl)
    | 1, hi =>
      simp only [List.getElem?_cons_succ, List.getElem?_cons_zero, Option.some.injEq] at hi
      subst hi
      rcases lt8 hj with rfl | rfl | rfl | rfl | rfl | rfl | rfl | rfl <;> (show (_ : Option Value) = _; kernel_rfl)⟩⟩
theorem isWides3 {w : World} {g a b c : Nat} {t : TypeId} {f : Nat × Nat} (h : w.heap[g]? = some (.cells (w24 a b c) t f)) : IsWides w (.slice (some ⟨g, 0, none⟩) 3 3) [a, b, c] :=
  ⟨_, 3, rfl, Nat.le_refl _, fun _ => ⟨g, 0, rfl, lt_of_heap h, fun i x hi j hj => by
    rw [cell_row h]
    match i, hi with
    | 0, hi =>
      simp only [List.getElem?_cons_zero, Option.some.injEq] at hi
      subst hi
      rcases lt8 hj with rfl | rfl | rfl | rfl | rfl | rfl | rfl | rfl <;> (show (_ : Option Value) = _; kernel_rfl)
    | 1, hi =>
      simp only [List.getElem?_cons_succ, List.getElem?_cons_zero, Option.some.injEq] at hi
      subst hi
      rcases lt8 hj with rfl | rfl | rfl | rfl | rfl | rfl | rfl | rfl <;> (show (_ : Option Value) = _; kernel_rfl)
    | 2, hi =>
      simp only [List.getElem?_cons_succ, List.getElem?_cons_zero, Option.some.injEq] at hi
      subst hi
      rcases lt8 hj with rfl | rfl | rfl | rfl | rfl | rfl | rfl | rfl <;> (show (_ : Option Value) = _; kernel_rfl)⟩⟩
end Go.Proofs.YtegmmaaapdgocaaGreat
