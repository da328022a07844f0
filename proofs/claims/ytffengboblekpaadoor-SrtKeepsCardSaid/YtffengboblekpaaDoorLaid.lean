/- WHAT A ROW's LIST GIVES where the listed variable is an array of arrays of whole numbers. -/
import Derived.Test.YtffengboblekpaaDoorK18
import Derived.Lib.LaidTab
import Derived.ProofKit
namespace Go.Proofs.YtffengboblekpaaDoor
open Go Go.RowKit

theorem cells_of_tab2 {H : Type} {enc : TypeId × Value → H} {P : Program} {w : World} {base : Nat} {sp : Nat → Bool} {held : Bool} {fuel : Nat} {t e e2 : TypeId} {n m : Nat} {k : IntKind} {cs : List Value} {zss : List (List Int)} {p : List MemPlace}
    (ht : P.underlying t = some (.array n e)) (he : P.underlying e = some (.array m e2)) (he2 : P.underlying e2 = some (.int k)) (hc2 : P.cellsOf e2 = 1) (hce : P.cellsOf e = m) (hct : P.cellsOf t = n * m)
    (h : DataW.trod enc P w base sp held fuel t cs = some (.agg (zss.map fun zs => Lib.tabData k zs), p)) : cs = (zss.flatten).map fun z => Value.int k z := by
  cases fuel with
  | zero => simp [DataW.trod] at h
  | succ fuel =>
    simp only [DataW.trod, ht, hce, hct] at h
    split at h
    · rename_i hl
      obtain ⟨xs, hm, hx⟩ := Option.map_eq_some_iff.1 h
      have hxs : xs.map (·.1) = zss.map fun zs => (Lib.tabData k zs : DataW H) := by
        have := congrArg Prod.fst hx
        simpa using this
      have hxl : xs.length = n := by simpa using Lib.mapM_length hm
      have hzl : zss.length = n := by
        have := congrArg List.length hxs
        simp at this
        omega
      have part : ∀ i (hi : i < n), (cs.drop (i * m)).take m = (zss[i]'(by omega)).map fun z => Value.int k z := by
        intro i hi
        obtain ⟨b, hb, hf⟩ := Lib.mapM_at hm i i (by simp [hi])
        have h2 : (xs.map (·.1))[i]? = some b.1 := by simp [hb]
        rw [hxs] at h2
        have hzi : i < zss.length := by omega
        simp only [List.getElem?_map, List.getElem?_eq_getElem hzi, Option.map_some, Option.some.injEq] at h2
        have hb' : b = (Lib.tabData k zss[i], b.2) := by rw [h2]
        rw [hb'] at hf
        exact Lib.cells_of_tab he he2 hc2 hce hf
      have key : ∀ (j : Nat), j ≤ n → cs.drop (j * m) = ((zss.drop j).flatten).map fun z => Value.int k z := by
        intro j hj
        have : ∀ d j, n - j = d → j ≤ n → cs.drop (j * m) = ((zss.drop j).flatten).map fun z => Value.int k z := by
          intro d
          induction d with
          | zero =>
            intro j hd hj
            obtain rfl : j = n := by omega
            rw [List.drop_of_length_le (by omega), List.drop_of_length_le (by omega)]
            rfl
          | succ d ih =>
            intro j hd hj
            have hjn : j < n := by omega
            have e1 := part j hjn
            have f2 := ih (j + 1) (by omega) (by omega)
            have f3 : zss.drop j = zss[j] :: zss.drop (j + 1) := List.drop_eq_getElem_cons (by omega)
            rw [← List.take_append_drop m (cs.drop (j * m)), e1, List.drop_drop, show j * m + m = (j + 1) * m from by rw [Nat.add_mul, Nat.one_mul], f2, f3, List.flatten_cons, List.map_append]
        exact this _ j rfl hj
      have := key 0 (Nat.zero_le _)
      simpa using this
    · cases h

theorem laid_of {W : World} {t : TypeId} (h : laidMet Tryd.prog [("radicand/table.rows", Rows.laid_radicand_table_rows)] W)
    (hty : (Tryd.prog.globals[1]?).map (·.type) = some t) (ht : Tryd.prog.underlying t = some (.array 8 73)) (hct : Tryd.prog.cellsOf t = 32) : Laid W := by
  obtain ⟨ps, ⟨g', t', cs, fuel, p, q, hg', ht', hvar, hd, _, _⟩, _⟩ := h
  obtain rfl := Option.some.inj (rowsGlobal.symm.trans hg')
  obtain rfl := Option.some.inj (hty.symm.trans ht')
  unfold Laid
  rw [hvar]
  have := cells_of_tab2 (zss := [[12, 3, -5, -13], [14, 4, -6, -15], [15, 4, -6, -16], [16, 4, -7, -18], [18, 5, -8, -20], [19, 5, -8, -21], [20, 5, -9, -23], [22, 6, -10, -25]]) (k := .i64) ht Tryd.underlying73 Tryd.underlying3 (by kernel_rfl) (by kernel_rfl) hct hd
  obtain ⟨l⟩ := cs
  simp only at this
  subst this
  rfl
theorem rowsTy : (Tryd.prog.globals[1]?).map (·.type) = some 115 := by kernel_rfl
theorem laid_rows {W : World} (h : laidMetH Tryd.prog [("radicand/table.rows", Rows.laid_radicand_table_rows)] W) : Laid W :=
  laid_of h rowsTy Tryd.underlying115 (by kernel_rfl)

/-- A world for the witness: the settled one, the table holding what its initialiser lays. -/
noncomputable def laidWorld (os : Os) : World :=
  { World.holding Tryd.prog os ⟨#[], #[], []⟩ with heap := (World.holding Tryd.prog os ⟨#[], #[], []⟩).heap.modify 1 fun
      | .cells _ t frozen => .cells rowsCells t frozen
      | o => o }
end Go.Proofs.YtffengboblekpaaDoor
