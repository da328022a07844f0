/- THE NAMES OF THE MODES as the program's text lays them; the walks of mode's Name, ByName and Mirror. -/
import Derived.Test.YtffengboblekpaaDoorRows
import Derived.Test.YtffengboblekpaaDoorMode
import Derived.Lib.LaidTab
import Derived.ProofKit
namespace Go.Proofs.YtffengboblekpaaDoor
open Go Go.RowKit

/-- The modes' names, by their numbers (none has the number 0). -/
def nameB (i : Nat) : ByteArray := match i with
  | 1 => ⟨#[101, 118, 101, 110]⟩ | 2 => ⟨#[97, 119, 97, 121]⟩ | 3 => ⟨#[122, 101, 114, 111]⟩ | 4 => ⟨#[117, 112]⟩ | 5 => ⟨#[100, 111, 119, 110]⟩ | _ => ⟨#[]⟩
def namesCells : Array Value := #[.string (nameB 0), .string (nameB 1), .string (nameB 2), .string (nameB 3), .string (nameB 4), .string (nameB 5)]
def NamesLaid (w : World) : Prop := w.var? Tryd.prog "radicand/mode.names" = some namesCells
theorem namesGlobal : Tryd.prog.globalNamed "radicand/mode.names" = some 0 := by kernel_rfl
theorem NamesLaid.cell {w : World} (h : NamesLaid w) (j : Nat) : w.cell? ⟨0, j, none⟩ = namesCells[j]? := by
  unfold NamesLaid World.var? at h
  rw [namesGlobal] at h
  simp only [Option.bind_some] at h
  unfold World.cell?
  cases hh : w.heap[0]? with
  | none => rw [hh] at h; simp at h
  | some o =>
    rw [hh] at h
    cases o <;> simp at h
    subst h
    rfl
theorem NamesLaid.lt {w : World} (h : NamesLaid w) : 0 < w.heap.size := block_lt_of_cell (h.cell 0)
theorem NamesLaid.older {w w' : World} (h : NamesLaid w) (hb : Below w.heap.size w w') : NamesLaid w' := by
  have hl := h.lt
  unfold NamesLaid World.var? at h ⊢
  rw [namesGlobal] at h ⊢
  simp only [Option.bind_some] at h ⊢
  rw [hb.block _ hl]
  exact h
theorem cells_of_names {H : Type} {enc : TypeId × Value → H} {P : Program} {w : World} {base : Nat} {sp : Nat → Bool} {held : Bool} {fuel : Nat} {t e : TypeId} {n : Nat} {cs : List Value} {zs : List (List UInt8)} {p : List MemPlace}
    (ht : P.underlying t = some (.array n e)) (he : P.underlying e = some .string) (hce : P.cellsOf e = 1) (hct : P.cellsOf t = n)
    (h : DataW.trod enc P w base sp held fuel t cs = some (.agg (zs.map fun z => .lit (.string z)), p)) : cs = zs.map fun z => Value.string ⟨z.toArray⟩ := by
  cases fuel with
  | zero => simp [DataW.trod] at h
  | succ fuel =>
    simp only [DataW.trod, ht, hce, hct, Nat.mul_one] at h
    split at h
    · rename_i hl
      obtain ⟨xs, hm, hx⟩ := Option.map_eq_some_iff.1 h
      have hxs : xs.map (·.1) = zs.map fun z => (DataW.lit (.string z) : DataW H) := by
        have := congrArg Prod.fst hx
        simpa using this
      have hxl : xs.length = n := by simpa using Lib.mapM_length hm
      have hzl : zs.length = n := by
        have := congrArg List.length hxs
        simp at this
        omega
      apply List.ext_getElem?
      intro i
      by_cases hi : i < n
      · obtain ⟨b, hb, hf⟩ := Lib.mapM_at hm i i (by simp [hi])
        obtain ⟨z, hc, rfl, _⟩ := DataW.trod_string he hf
        have h1 : cs[i]? = some (.string z) := by
          have := congrArg (·[0]?) hc
          simpa [List.getElem?_take, List.getElem?_drop] using this
        have h2 : (xs.map (·.1))[i]? = some (DataW.lit (.string z.data.toList) : DataW H) := by simp [hb]
        rw [hxs] at h2
        simp only [List.getElem?_map, Option.map_eq_some_iff, DataW.lit.injEq, Lit.string.injEq] at h2
        obtain ⟨z', hz', rfl⟩ := h2
        simp [h1, hz']
      · rw [List.getElem?_eq_none (by omega), List.getElem?_eq_none (by simp; omega)]
    · cases h
theorem laid_names {W : World} (h : laidMetH Tryd.prog [("radicand/mode.names", Rows.laid_radicand_mode_names)] W) : NamesLaid W := by
  obtain ⟨ps, ⟨g', t', cs, fuel, p, q, hg', ht', hvar, hd, _, _⟩, _⟩ := h
  obtain rfl := Option.some.inj (namesGlobal.symm.trans hg')
  obtain rfl := Option.some.inj ((show (Tryd.prog.globals[0]?).map (·.type) = some 81 by kernel_rfl).symm.trans ht')
  unfold NamesLaid
  rw [hvar]
  have := cells_of_names (zs := [[], [101, 118, 101, 110], [97, 119, 97, 121], [122, 101, 114, 111], [117, 112], [100, 111, 119, 110]]) Tryd.underlying81 Tryd.underlying9 (by kernel_rfl) (by kernel_rfl) hd
  obtain ⟨l⟩ := cs
  simp only at this
  subst this
  rfl
/-- A world for the witness: the settled one, the table holding what its initialiser lays. -/
noncomputable def namesWorld (os : Os) : World :=
  { World.holding Tryd.prog os ⟨#[], #[], []⟩ with heap := (World.holding Tryd.prog os ⟨#[], #[], []⟩).heap.modify 0 fun
      | .cells _ t frozen => .cells namesCells t frozen
      | o => o }
attribute [local go_sem ↓] Go.wp_at_zero Go.wp_at_succ
/-- The mode for numbers whose sign is turned. -/
def mirN (m : Int) : Int := if isMode m then (if m = 4 then 5 else if m = 5 then 4 else m) else 0
set_option maxHeartbeats 1000000 in
theorem mirror_any (m : Int) (w : World) : Calls Tryd.prog 21 #[.int .i64 m] w fun e w' => e = .returned (.int .i64 (mirN m)) ∧ Below w.heap.size w w' := by
  have S1 := Lib.hid (fun w' => mode_is m w')
  unfold mirN
  obtain ⟨b, hb⟩ : ∃ b, b = isMode m := ⟨_, rfl⟩
  rw [← hb] at S1 ⊢
  clear hb
  cases b
  · skip
    go_enter Tryd.func21, Tryd.ntmps21
    have HB := Lib.hid (Below.refl w.heap.size w)
    go_wp2_with fail
    refine (S1.out _).mono ?_
    rintro e w1 ⟨rfl, hb⟩
    replace HB := Lib.hid (below_then HB.out hb)
    clear hb
    go_wp2
    go_ret
    exact ⟨rfl, HB.out⟩
  · by_cases h4 : m = 4
    · subst h4
      go_enter Tryd.func21, Tryd.ntmps21
      have HB := Lib.hid (Below.refl w.heap.size w)
      go_wp2_with fail
      refine (S1.out _).mono ?_
      rintro e w2 ⟨rfl, hb⟩
      replace HB := Lib.hid (below_then HB.out hb)
      clear hb
      go_wp2
      go_ret
      exact ⟨rfl, HB.out⟩
    · by_cases h5 : m = 5
      · subst h5
        go_enter Tryd.func21, Tryd.ntmps21
        have HB := Lib.hid (Below.refl w.heap.size w)
        go_wp2_with fail
        refine (S1.out _).mono ?_
        rintro e w3 ⟨rfl, hb⟩
        replace HB := Lib.hid (below_then HB.out hb)
        clear hb
        go_wp2
        go_ret
        exact ⟨rfl, HB.out⟩
      · have e4 : (m == 4) = false := by simp [h4]
        have e5 : (m == 5) = false := by simp [h5]
        rw [if_pos rfl, if_neg h4, if_neg h5]
        clear h4 h5
        go_enter Tryd.func21, Tryd.ntmps21
        have HB := Lib.hid (Below.refl w.heap.size w)
        go_wp2_with fail
        refine (S1.out _).mono ?_
        rintro e w4 ⟨rfl, hb⟩
        replace HB := Lib.hid (below_then HB.out hb)
        clear hb
        go_wp2
        go_ret
        exact ⟨rfl, HB.out⟩
theorem names_at {w : World} (h : NamesLaid w) {i : Nat} (hi : i < 6) : w.cell? ⟨0, i, none⟩ = some (.string (nameB i)) := by
  rw [h.cell i]
  rcases (show i = 0 ∨ i = 1 ∨ i = 2 ∨ i = 3 ∨ i = 4 ∨ i = 5 by omega) with rfl | rfl | rfl | rfl | rfl | rfl <;> rfl
/-- A name's number: the last of the numbers to i that has it. -/
def fnd (s : ByteArray) : Nat → Nat
  | 0 => 0
  | i + 1 => if nameB (i + 1) = s then i + 1 else fnd s i
theorem fnd_le (s : ByteArray) : ∀ i, fnd s i ≤ i := by
  intro i
  induction i with
  | zero => exact Nat.le_refl _
  | succ i ih => unfold fnd; split <;> omega
theorem fnd_self {i : Nat} (h1 : 1 ≤ i) (h2 : i ≤ 5) : fnd (nameB i) 5 = i := by
  rcases (show i = 1 ∨ i = 2 ∨ i = 3 ∨ i = 4 ∨ i = 5 by omega) with rfl | rfl | rfl | rfl | rfl <;> decide
theorem fnd_none {s : ByteArray} {k : Nat} (h : ∀ j, 1 ≤ j → j < k + 1 → nameB j ≠ s) : fnd s k = 0 := by
  induction k with
  | zero => rfl
  | succ k ih =>
    unfold fnd
    rw [if_neg (h (k + 1) (by omega) (by omega))]
    exact ih fun j h1 h2 => h j h1 (by omega)
theorem str_ne {a b : ByteArray} (h : a ≠ b) : (a.toList == b.toList) = false := by
  rw [ByteArray.toList_eq, ByteArray.toList_eq]
  exact beq_eq_false_iff_ne.2 fun e => h (ByteArray.ext (Array.toList_inj.mp e))
/-- A mode's name. -/
def nameN (m : Int) : ByteArray := if isMode m then nameB m.toNat else nameB 0
set_option maxHeartbeats 1000000 in
theorem name_any (m : Int) (w : World) (hL : NamesLaid w) : Calls Tryd.prog 20 #[.int .i64 m] w fun e w' => e = .returned (.string (nameN m)) ∧ Below w.heap.size w w' := by
  have S1 := Lib.hid (fun w' => mode_is m w')
  by_cases hm : isMode m = true
  · have hr : 1 ≤ m ∧ m ≤ 5 := of_decide_eq_true hm
    obtain ⟨i, rfl⟩ := Int.eq_ofNat_of_zero_le (show 0 ≤ m by omega)
    have e : nameN (i : Int) = nameB i := by unfold nameN; rw [if_pos hm]; rfl
    rw [hm] at S1
    rw [e]
    have hi : i < 6 := by omega
    have c0 := names_at hL hi
    have HC := Lib.hid (fun w' (h : Below w.heap.size w w') => names_at (hL.older h) hi)
    have e0 : (0 : Int) ≤ (i : Int) := by omega
    have e1 : (i : Int) < 6 := by omega
    clear hm hr e hL hi c0
    go_enter Tryd.func20, Tryd.ntmps20
    have HB := Lib.hid (Below.refl w.heap.size w)
    go_wp2_with fail
    refine (S1.out _).mono ?_
    rintro e w5 ⟨rfl, hb⟩
    replace HB := Lib.hid (below_then HB.out hb)
    clear hb
    have c1 := HC.out _ HB.out
    go_wp2
    go_ret
    exact ⟨rfl, HB.out⟩
  · have e : nameN m = ⟨#[]⟩ := by unfold nameN; rw [if_neg hm]; rfl
    have hf : isMode m = false := by simpa using hm
    rw [e]
    rw [hf] at S1
    clear hm hf e hL
    go_enter Tryd.func20, Tryd.ntmps20
    have HB := Lib.hid (Below.refl w.heap.size w)
    go_wp2_with fail
    refine (S1.out _).mono ?_
    rintro e w6 ⟨rfl, hb⟩
    replace HB := Lib.hid (below_then HB.out hb)
    clear hb
    go_wp2
    go_ret
    exact ⟨rfl, HB.out⟩
set_option maxHeartbeats 2000000 in
theorem byName_any (s : ByteArray) (w : World) (hL : NamesLaid w) : Calls Tryd.prog 18 #[.string s] w fun e w' => e = .returned (.tuple #[.int .i64 (fnd s 5 : Nat), .bool (decide (0 < fnd s 5))]) ∧ Below w.heap.size w w' := by
  have KL := Lib.hid hL
  clear hL
  go_enter Tryd.func18, Tryd.ntmps18
  have HB := Lib.hid (Below.refl w.heap.size w)
  go_wp2
  go_loopw [4] (fun s4 wr => ∃ i : Nat, s4 = .int .i64 (i : Int) ∧ 1 ≤ i ∧ i ≤ 6 ∧ wr = w ∧ Hid (∀ j, 1 ≤ j → j < i → nameB j ≠ s)) (fun s4 _ => 6 - (intOf s4).toNat)
  case atStart => exact ⟨1, rfl, by omega, by omega, rfl, Lib.hid (fun j h1 h2 => by omega)⟩
  case round =>
    obtain ⟨i, rfl, h1, h2, rfl, HN⟩ := hrel
    by_cases hlt : i < 6
    · have c0 := names_at KL.out hlt
      have e0 : (0 : Int) ≤ (i : Int) := by omega
      have e1 : (i : Int) < 6 := by omega
      by_cases hs : nameB i = s
      · have hf : fnd s 5 = i := by rw [← hs]; exact fnd_self h1 (by omega)
        have HF := Lib.hid hf
        have HI := Lib.hid (decide_eq_true (show 0 < i by omega))
        clear HN hf h1 h2 hlt
        go_wp2
        exact bodyPost_ret (v := .tuple #[.int .i64 (i : Int), .bool true]) (by simp [results, Tryd.results18, go_sem]) rfl ⟨by rw [HF.out, HI.out], HB.out⟩
      · have HN2 := Lib.hid (show ∀ j, 1 ≤ j → j < i + 1 → nameB j ≠ s from fun j g1 g2 => by
          by_cases hj : j = i
          · rw [hj]; exact hs
          · exact HN.out j g1 (by omega))
        have HLT := Lib.hid hlt
        clear HN h1 h2 hlt
        have hb := str_ne hs
        clear hs
        go_wp2
        go_roundw
        case rel => exact ⟨i + 1, by go_num, by have := HLT.out; omega, by have := HLT.out; omega, by first | trivial | rfl, HN2⟩
        case measure => have := HLT.out; simp [intOf]; omega
    · obtain rfl : i = 6 := by omega
      have hf : fnd s 5 = 0 := fnd_none HN.out
      have HF := Lib.hid hf
      clear HN hf h1 h2 hlt
      go_wp2
      exact bodyPost_ret (v := .tuple #[.int .i64 0, .bool false]) (by simp [results, Tryd.results18, go_sem]) rfl ⟨by rw [HF.out]; rfl, HB.out⟩
end Go.Proofs.YtffengboblekpaaDoor
