/- LISTS of whole numbers: as an argument, and as one makes them by appending. -/
import Derived.Test.YtffengboblekpaaDoorK11
import Derived.Test.YtffengboblekpaaDoorK8
namespace Go.Proofs.YtffengboblekpaaDoor
open Go Go.RowKit

theorem infoInt : (Tryd.prog.info? 3).map (fun i => (i.zero, i.size, i.bytes)) = some (some (.int .i64 0), 1, 8) := by kernel_rfl
theorem ownsRow_but {S : Nat → Prop} {w w' : World} {base : Nat} {e : TypeId} {size : Nat} {v : Value} {n : Nat} {xs : List Value} (h : w.ownsRow base e size v n xs) (hb : But S w w') (hS : ∀ k, base ≤ k → ¬ S k) : w'.ownsRow base e size v n xs := by
  refine ⟨h.1, ?_⟩
  rcases h.2 with hn | ⟨g, cap, cur, hv, h1, hg, rest⟩
  · exact .inl hn
  · exact .inr ⟨g, cap, cur, hv, h1, (hb.block g (lt_of_heap hg) (hS g h1)).trans hg, rest⟩
theorem own_slice {w : World} {base : Nat} {e : TypeId} {size : Nat} {v : Value} {n : Nat} {xs : List Value} (h : w.ownsRow base e size v n xs) : ∃ a cap, v = .slice a n cap := by
  rcases h.2 with ⟨rfl, rfl⟩ | ⟨g, cap, cur, hv, _⟩
  · exact ⟨none, 0, rfl⟩
  · exact ⟨_, cap, hv⟩
theorem But.grown {S : Nat → Prop} {w w1 w2 : World} {row : Option Nat} (h : But S w w1) (hg : w1.grownBy w2 row) (hS : ∀ k, row = some k → S k) : But S w w2 :=
  h.trans ⟨hg.os, hg.tape, hg.output, hg.size, fun i hi hs => hg.block i hi fun e => hs (hS i e.symm)⟩
/-- A list of whole numbers, in a world. -/
def IsIntsN (w : World) (v : Value) (zs : List Int) : Prop := ∃ a cap, v = .slice a zs.length cap ∧ zs.length ≤ cap ∧
  (0 < zs.length → ∃ b o, a = some ⟨b, o, none⟩ ∧ b < w.heap.size ∧ ∀ i z, zs[i]? = some z → w.cell? ⟨b, o + i, none⟩ = some (.int .i64 z))
theorem IsIntsN.older {w w' : World} {v : Value} {zs : List Int} (h : IsIntsN w v zs) (hb : Below w.heap.size w w') : IsIntsN w' v zs := by
  obtain ⟨a, cap, rfl, hc, hx⟩ := h
  refine ⟨a, cap, rfl, hc, fun h0 => ?_⟩
  obtain ⟨b, o, rfl, hbl, hcell⟩ := hx h0
  exact ⟨b, o, rfl, Nat.lt_of_lt_of_le hbl hb.size, fun i z hi => (hb.cell (p := ⟨b, o + i, none⟩) hbl).trans (hcell i z hi)⟩
theorem ints_of_own {w : World} {base : Nat} {e : TypeId} {v : Value} {zs : List Int} {n : Nat} (hn : n = zs.length) (h : w.ownsRow base e 1 v n (zs.map fun z => Value.int .i64 z)) : IsIntsN w v zs := by
  subst hn
  rcases h.2 with ⟨rfl, h0⟩ | ⟨g, cap, cur, rfl, _, hg, hc, _, _, ht⟩
  · exact ⟨none, 0, by rw [h0], by omega, fun h => by omega⟩
  · refine ⟨_, cap, rfl, hc, fun h0 => ⟨g, 0, rfl, lt_of_heap hg, fun i z hi => ?_⟩⟩
    have := h.cells (g := g) rfl i (.int .i64 z) (by rw [List.getElem?_map, hi]; rfl)
    rwa [Addr.add_lit] at this
/-- The cell at a place of a list. -/
theorem IsIntsN.at {w : World} {v : Value} {zs : List Int} (h : IsIntsN w v zs) {k : Nat} {z : Int} (hk : zs[k]? = some z) : ∃ b o cap, v = .slice (some ⟨b, o, none⟩) zs.length cap ∧ b < w.heap.size ∧ w.cell? ⟨b, o + k, none⟩ = some (.int .i64 z) := by
  obtain ⟨a, cap, rfl, _, hx⟩ := h
  have hl : k < zs.length := by
    by_cases h : k < zs.length
    · exact h
    · rw [List.getElem?_eq_none (by omega)] at hk; cases hk
  obtain ⟨b, o, rfl, hb, hc⟩ := hx (by omega)
  exact ⟨b, o, cap, rfl, hb, hc k z hk⟩
/-- A block of whole numbers, as a list. -/
theorem ints_row {w : World} {g : Nat} {cs : Array Value} {t : TypeId} {f : Nat × Nat} {zs : List Int} (h : w.heap[g]? = some (.cells cs t f)) (hc : ∀ (i : Nat) (z : Int), zs[i]? = some z → cs[i]? = some (Value.int .i64 z)) : IsIntsN w (.slice (some ⟨g, 0, none⟩) zs.length zs.length) zs :=
  ⟨_, _, rfl, Nat.le_refl _, fun _ => ⟨g, 0, rfl, lt_of_heap h, fun i z hi => by rw [cell_row h, Nat.zero_add]; exact hc i z hi⟩⟩
theorem take_foldl {α β : Type} (f : β → α → β) (b : β) (xs : List α) (k : Nat) (x : α) (h : xs[k]? = some x) : (xs.take (k + 1)).foldl f b = f ((xs.take k).foldl f b) x := by
  rw [List.take_add_one, h, List.foldl_append]; rfl
end Go.Proofs.YtffengboblekpaaDoor
