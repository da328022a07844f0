/- ROWS of numbers of 512 bits: how a list of one, two or three is made, and what it holds. -/
import Derived.Test.YtffengboblekpaaK13
namespace Go.Proofs.Ytffengboblekpaa
open Go Go.RowKit

def w16 (a b : Nat) : Array Value := wcells a ++ wcells b
def w24 (a b c : Nat) : Array Value := wcells a ++ (wcells b ++ wcells c)
@[go_sem] theorem w16_size (a b : Nat) : (w16 a b).size = 16 := by kernel_rfl
@[go_sem] theorem w24_size (a b c : Nat) : (w24 a b c).size = 24 := by kernel_rfl
@[go_sem] theorem z8 : (#[(wcells 0)[0]!, (wcells 0)[1]!, (wcells 0)[2]!, (wcells 0)[3]!, (wcells 0)[4]!, (wcells 0)[5]!, (wcells 0)[6]!, (wcells 0)[7]!] : Array Value) = wcells 0 := by kernel_rfl
@[go_sem] theorem z16 : (#[(wcells 0)[0]!, (wcells 0)[1]!, (wcells 0)[2]!, (wcells 0)[3]!, (wcells 0)[4]!, (wcells 0)[5]!, (wcells 0)[6]!, (wcells 0)[7]!, (wcells 0)[0]!, (wcells 0)[1]!, (wcells 0)[2]!, (wcells 0)[3]!, (wcells 0)[4]!, (wcells 0)[5]!, (wcells 0)[6]!, (wcells 0)[7]!] : Array Value) = w16 0 0 := by kernel_rfl
@[go_sem] theorem z24 : (#[(wcells 0)[0]!, (wcells 0)[1]!, (wcells 0)[2]!, (wcells 0)[3]!, (wcells 0)[4]!, (wcells 0)[5]!, (wcells 0)[6]!, (wcells 0)[7]!, (wcells 0)[0]!, (wcells 0)[1]!, (wcells 0)[2]!, (wcells 0)[3]!, (wcells 0)[4]!, (wcells 0)[5]!, (wcells 0)[6]!, (wcells 0)[7]!, (wcells 0)[0]!, (wcells 0)[1]!, (wcells 0)[2]!, (wcells 0)[3]!, (wcells 0)[4]!, (wcells 0)[5]!, (wcells 0)[6]!, (wcells 0)[7]!] : Array Value) = w24 0 0 0 := by kernel_rfl
@[go_sem] theorem f8 (z n : Nat) : Array.foldl (fun (cs : Array Value) (x : Value × Nat) => cs.setIfInBounds x.snd x.fst) (wcells z) (wcells n).zipIdx 0 8 = wcells n := by kernel_rfl
@[go_sem] theorem f16a (a b n : Nat) : Array.foldl (fun (cs : Array Value) (x : Value × Nat) => cs.setIfInBounds x.snd x.fst) (w16 a b) (wcells n).zipIdx 0 8 = w16 n b := by kernel_rfl
@[go_sem] theorem f16b (a b n : Nat) : Array.foldl (fun (cs : Array Value) (x : Value × Nat) => cs.setIfInBounds (8 + x.snd) x.fst) (w16 a b) (wcells n).zipIdx 0 8 = w16 a n := by kernel_rfl
@[go_sem] theorem f24a (a b c n : Nat) : Array.foldl (fun (cs : Array Value) (x : Value × Nat) => cs.setIfInBounds x.snd x.fst) (w24 a b c) (wcells n).zipIdx 0 8 = w24 n b c := by kernel_rfl
@[go_sem] theorem f24b (a b c n : Nat) : Array.foldl (fun (cs : Array Value) (x : Value × Nat) => cs.setIfInBounds (8 + x.snd) x.fst) (w24 a b c) (wcells n).zipIdx 0 8 = w24 a n c := by kernel_rfl
@[go_sem] theorem f24c (a b c n : Nat) : Array.foldl (fun (cs : Array Value) (x : Value × Nat) => cs.setIfInBounds (16 + x.snd) x.fst) (w24 a b c) (wcells n).zipIdx 0 8 = w24 a b n := by kernel_rfl

theorem lt8 {j : Nat} (h : j < 8) : j = 0 ∨ j = 1 ∨ j = 2 ∨ j = 3 ∨ j = 4 ∨ j = 5 ∨ j = 6 ∨ j = 7 := by omega
theorem isWides1 {w : World} {g a : Nat} {t : TypeId} {f : Nat × Nat} (h : w.heap[g]? = some (.cells (wcells a) t f)) : IsWides w (.slice (some ⟨g, 0, none⟩) 1 1) [a] :=
  ⟨_, 1, rfl, Nat.le_refl _, fun _ => ⟨g, 0, rfl, lt_of_heap h, fun i x hi j hj => by
    rw [cell_row h]
    match i, hi with
    | 0, hi =>
      simp only [List.getElem?_cons_zero, Option.some.injEq] at hi
      subst hi
      rcases lt8 hj with rfl | rfl | rfl | rfl | rfl | rfl | rfl | rfl <;> (show (_ : Option Value) = _; kernel_rfl)⟩⟩
theorem isWides2 {w : World} {g a b : Nat} {t : TypeId} {f : Nat × Nat} (h : w.heap[g]? = some (.cells (w16 a b) t f)) : IsWides w (.slice (some ⟨g, 0, none⟩) 2 2) [a, b] :=
  ⟨_, 2, rfl, Nat.le_refl _, fun _ => ⟨g, 0, rfl, lt_of_heap h, fun i x hi j hj => by
    rw [cell_row h]
    match i, hi with
    | 0, hi =>
      simp only [List.getElem?_cons_zero, Option.some.injEq] at hi
      subst hi
      rcases lt8 hj with rfl | rfl | rfl | rfl | rfl | rfl | rfl | rfl <;> (show (_ : Option Value) = _; kernel_rfl)
    | 1, hi =>
      simp only [List.getElem?_cons_succ, List.getElem?_cons_zero, Option.some.injEq] at hi
      subst hi
      rcases lt8 hj with rfl | rfl | rfl | rfl | rfl | rfl | rfl | rfl <;> (show (_ : Option Value) = _; kernel_rfl)⟩⟩
theorem isWides3 {w : World} {g a b c : Nat} {t : TypeId} {f : Nat × Nat} (h : w.heap[g]? = some (.cells (w24 a b c) t f)) : IsWides w (.slice (some ⟨g, 0, none⟩) 3 3) [a, b, c] :=
  ⟨_, 3, rfl, Nat.le_refl _, fun _ => ⟨g, 0, rfl, lt_of_heap h, fun i x hi j hj => by
    rw [cell_row h]
    match i, hi with
    | 0, hi =>
      simp only [List.getElem?_cons_zero, Option.some.injEq] at hi
      subst hi
      rcases lt8 hj with rfl | rfl | rfl | rfl | rfl | rfl | rfl | rfl <;> (show (_ : Option Value) = _; kernel_rfl)
    | 1, hi =>
      simp only [List.getElem?_cons_succ, List.getElem?_cons_zero, Option.some.injEq] at hi
      subst hi
      rcases lt8 hj with rfl | rfl | rfl | rfl | rfl | rfl | rfl | rfl <;> (show (_ : Option Value) = _; kernel_rfl)
    | 2, hi =>
      simp only [List.getElem?_cons_succ, List.getElem?_cons_zero, Option.some.injEq] at hi
      subst hi
      rcases lt8 hj with rfl | rfl | rfl | rfl | rfl | rfl | rfl | rfl <;> (show (_ : Option Value) = _; kernel_rfl)⟩⟩
end Go.Proofs.Ytffengboblekpaa
