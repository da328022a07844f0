/- AN ARGUMENT that is a list of numbers of 512 bits. -/
import Derived.Test.YtenkaobgoknlhaaK15
import Derived.Test.YtenkaobgoknlhaaK13
import Derived.Deep.Slices
namespace Go.Proofs.Ytenkaobgoknlhaa
open Go Go.RowKit Go.ChangeShapes Go.WideShapes Go.ChangeAt

theorem open_wides {H : Type} {enc : TypeId × Value → H} {P : Program} {w : World} {base : Nat} {r : Reach} {b0 : Nat} {t e : TypeId} {v : Value} {d : DataW H} {ps : List MemPlace} (ht : P.underlying t = some (.slice e))
    (hl : leafs P 4 e = some [.int .u64, .int .u64, .int .u64, .int .u64, .int .u64, .int .u64, .int .u64, .int .u64]) (hc : P.cellsOf e = 8)
    (hval : Value.okWide P w r b0 t v) (hd : DataW.Trod enc P w base (fun _ => true) true t v d ps) : ∃ xs : List Nat, IsWides w v xs ∧ ∀ x ∈ xs, x < M := by
  obtain ⟨a0, len, cap, rfl⟩ := okWide_slice ht hval
  obtain ⟨fuel, hf⟩ := hd
  rcases Deep.open_slice ht hf with ⟨hcs, _⟩ | ⟨a, len', cap', m, n, D, Pl, hcs, _, hlc, _, hm, _, hx⟩
  · simp [Value.cells] at hcs
    obtain ⟨rfl, rfl, rfl⟩ := hcs
    exact ⟨[], ⟨none, 0, rfl, Nat.le_refl _, fun h => absurd h (by simp)⟩, fun x hx => by simp at hx⟩
  · simp [Value.cells] at hcs
    obtain ⟨rfl, rfl, rfl⟩ := hcs
    simp only [if_true] at hm
    rw [hc] at hx
    obtain ⟨f, hfx⟩ := Deep.choose_lt (p := fun i x => x < M ∧ w.cells? base (a.add (i * 8)) 8 = some (wcells x).toList) (fun i hi => by
      obtain ⟨cs', h1, h2⟩ := hx i hi
      obtain ⟨x, hx1, hx2⟩ := wide_of (leaves_of 4 n e _ cs' _ hl h2)
      exact ⟨x, hx1, by rw [h1, ← hx2]⟩)
    refine ⟨(List.range len).map f, ⟨some a, cap, by simp, by simpa using hlc, fun h0 => ?_⟩, ?_⟩
    · have h0' : 0 < len := by simpa using h0
      obtain ⟨b, off, spot⟩ := a
      have hcell : ∀ i, i < m → ∀ j, j < 8 → w.cell? ((Addr.add ⟨b, off, spot⟩ (i * 8)).add j) = some (.int .u64 (limb (f i) j : Nat)) := fun i hi j hj => by
        rw [(World.cells?_some (hfx i hi).2).2.2 j hj, Array.getElem?_toList, wcells_get _ _ hj]
      have c0 := hcell 0 (by omega) 0 (by decide)
      have hspot : spot = none := by simpa [Addr.add] using World.cell?_spot c0
      subst hspot
      refine ⟨b, off, rfl, block_lt_of_cell (a := ⟨b, off, none⟩) (by simpa [Addr.add] using c0), fun i x hi j hj => ?_⟩
      have hil : i < len := by
        have := (List.getElem?_eq_some_iff.1 hi).1
        simpa using this
      have hfi : f i = x := by simpa [hil] using hi
      have ci := hcell i (by omega) j hj
      rw [Addr.add_lit, Addr.add_lit, hfi] at ci
      exact ci
    · intro x hx
      obtain ⟨i, hi, rfl⟩ := List.mem_map.1 hx
      exact (hfx i (by have := List.mem_range.1 hi; omega)).1
end Go.Proofs.Ytenkaobgoknlhaa
