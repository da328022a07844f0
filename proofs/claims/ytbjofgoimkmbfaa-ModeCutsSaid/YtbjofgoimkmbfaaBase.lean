/- PLAIN WORDS AND SMALL LAWS ON WORLDS that all walks of this seat share: a number of 512 bits as eight limbs; a world that grew behind a call; a region that draws its order, whose callees make memory of their own. -/
import Derived.WalkKit
import Derived.WalkSpells
import Derived.WalkLawsBesides
import Derived.BigQuiet
import Derived.Deep.WholeRow
import Derived.Lib.Hide
namespace Go.Proofs.Ytbjofgoimkmbfaa
open Go Go.RowKit

/-- 2^n, behind a name: nothing reckons it out. -/
def P2 (n : Nat) : Nat := 2 ^ n
theorem P2_eq (n : Nat) : P2 n = 2 ^ n := rfl
theorem P2_64 : P2 64 = 18446744073709551616 := by rw [P2_eq]
/-- 2^512. -/
def M : Nat := P2 512
theorem M_eq : M = P2 512 := rfl
attribute [irreducible] P2 M
/-- Limb i of a number. -/
def limb (n i : Nat) : Nat := n / P2 (64 * i) % P2 64
/-- The eight cells of a number of 512 bits. -/
def wcells (n : Nat) : Array Value := #[.int .u64 (limb n 0), .int .u64 (limb n 1), .int .u64 (limb n 2), .int .u64 (limb n 3), .int .u64 (limb n 4), .int .u64 (limb n 5), .int .u64 (limb n 6), .int .u64 (limb n 7)]
abbrev wv (n : Nat) : Value := .agg (wcells n)
/-- The first k limbs of a number, and noughts behind. -/
def pcells (n k : Nat) : Array Value := #[.int .u64 (if 0 < k then limb n 0 else 0 : Nat), .int .u64 (if 1 < k then limb n 1 else 0 : Nat), .int .u64 (if 2 < k then limb n 2 else 0 : Nat), .int .u64 (if 3 < k then limb n 3 else 0 : Nat), .int .u64 (if 4 < k then limb n 4 else 0 : Nat), .int .u64 (if 5 < k then limb n 5 else 0 : Nat), .int .u64 (if 6 < k then limb n 6 else 0 : Nat), .int .u64 (if 7 < k then limb n 7 else 0 : Nat)]

theorem P2_pos (n : Nat) : 0 < P2 n := by rw [P2_eq]; exact Nat.two_pow_pos n
theorem P2_add (a b : Nat) : P2 (a + b) = P2 a * P2 b := by simp only [P2_eq, Nat.pow_add]
theorem P2_le {a b : Nat} (h : a ≤ b) : P2 a ≤ P2 b := by simp only [P2_eq]; exact Nat.pow_le_pow_right (by decide) h
theorem P2_lt {a b : Nat} (h : a < b) : P2 a < P2 b := by simp only [P2_eq]; exact Nat.pow_lt_pow_right (by decide) h
theorem M_pos : 0 < M := by rw [M_eq]; exact P2_pos 512
theorem limb_lt (n i : Nat) : limb n i < P2 64 := Nat.mod_lt _ (P2_pos _)
theorem limb_le (n i : Nat) : limb n i ≤ 18446744073709551615 := by have := limb_lt n i; rw [P2_64] at this; omega
@[go_sem] theorem wcells_size (n : Nat) : (wcells n).size = 8 := rfl
theorem wcells_get (n k : Nat) (h : k < 8) : (wcells n)[k]? = some (.int .u64 (limb n k)) := by
  unfold wcells
  rcases k with _ | _ | _ | _ | _ | _ | _ | _ | k
  all_goals first | rfl | omega
@[go_sem] theorem wcells_0 (n : Nat) : (wcells n)[0]? = some (.int .u64 (limb n 0)) := rfl
@[go_sem] theorem wcells_1 (n : Nat) : (wcells n)[1]? = some (.int .u64 (limb n 1)) := rfl
@[go_sem] theorem wcells_2 (n : Nat) : (wcells n)[2]? = some (.int .u64 (limb n 2)) := rfl
@[go_sem] theorem wcells_3 (n : Nat) : (wcells n)[3]? = some (.int .u64 (limb n 3)) := rfl
@[go_sem] theorem wcells_4 (n : Nat) : (wcells n)[4]? = some (.int .u64 (limb n 4)) := rfl
@[go_sem] theorem wcells_5 (n : Nat) : (wcells n)[5]? = some (.int .u64 (limb n 5)) := rfl
@[go_sem] theorem wcells_6 (n : Nat) : (wcells n)[6]? = some (.int .u64 (limb n 6)) := rfl
@[go_sem] theorem wcells_7 (n : Nat) : (wcells n)[7]? = some (.int .u64 (limb n 7)) := rfl
@[go_sem] theorem wcells_fold (n : Nat) : (#[.int .u64 (limb n 0), .int .u64 (limb n 1), .int .u64 (limb n 2), .int .u64 (limb n 3), .int .u64 (limb n 4), .int .u64 (limb n 5), .int .u64 (limb n 6), .int .u64 (limb n 7)] : Array Value) = wcells n := rfl
theorem pcells_zero (n : Nat) : pcells n 0 = #[.int .u64 0, .int .u64 0, .int .u64 0, .int .u64 0, .int .u64 0, .int .u64 0, .int .u64 0, .int .u64 0] := by simp [pcells]
theorem pcells_size (n k : Nat) : (pcells n k).size = 8 := rfl
theorem pcells_all (n : Nat) : pcells n 8 = wcells n := by simp [pcells, wcells]
theorem pcells_put (n k : Nat) (h : k < 8) : (pcells n k).setIfInBounds k (.int .u64 (limb n k)) = pcells n (k + 1) := by
  rcases k with _ | _ | _ | _ | _ | _ | _ | _ | k
  all_goals first | (simp [pcells]; done) | omega
theorem pcells_get (n k j : Nat) (h : j < 8) : (pcells n k)[j]? = some (.int .u64 (if j < k then limb n j else 0 : Nat)) := by
  unfold pcells
  rcases j with _ | _ | _ | _ | _ | _ | _ | _ | j
  all_goals first | rfl | omega

@[go_sem] theorem limb_zero (i : Nat) : limb 0 i = 0 := by unfold limb; rw [Nat.zero_div, Nat.zero_mod]
@[go_sem] theorem wcells_zero : (#[.int .u64 0, .int .u64 0, .int .u64 0, .int .u64 0, .int .u64 0, .int .u64 0, .int .u64 0, .int .u64 0] : Array Value) = wcells 0 := by unfold wcells; simp only [limb_zero]; rfl
theorem pcells_nil (n : Nat) : pcells n 0 = wcells 0 := by rw [pcells_zero, wcells_zero]
theorem ret_int {k : IntKind} {a b : Int} (h : a = b) : Ending.returned (.int k a) = .returned (.int k b) := by rw [h]
theorem ret_bool {a b : Bool} (h : a = b) : Ending.returned (.bool a) = .returned (.bool b) := by rw [h]

/-! ### Worlds -/
theorem below_then {W w w2 : World} (h : Below W.heap.size W w) (k : Below w.heap.size w w2) : Below W.heap.size W w2 := h.trans (k.mono h.size)
theorem below_al {W w : World} (h : Below W.heap.size W w) (o : Obj) : Below W.heap.size W (w.alloc o) := h.alloc h.size o
theorem bcell {B : Nat} {W w1 : World} (hb : Below B W w1) : (∀ b o, b < B → w1.cell? ⟨b, o, none⟩ = W.cell? ⟨b, o, none⟩) ∧ (∀ b o, b < B → w1.frozen? ⟨b, o, none⟩ = W.frozen? ⟨b, o, none⟩) :=
  ⟨fun b o h => hb.cell (p := ⟨b, o, none⟩) h, fun b o h => hb.frozen (p := ⟨b, o, none⟩) h⟩
theorem lt_of_heap {w : World} {p : Nat} {o : Obj} (h : w.heap[p]? = some o) : p < w.heap.size := by
  by_cases hp : p < w.heap.size
  · exact hp
  · rw [Array.getElem?_eq_none (by omega)] at h; cases h
theorem cell_row {w : World} {p : Nat} {cs : Array Value} {t : TypeId} {f : Nat × Nat} (h : w.heap[p]? = some (.cells cs t f)) (j : Nat) : w.cell? ⟨p, j, none⟩ = cs[j]? := by
  simp [World.cell?, h]
theorem free_row {w : World} {p : Nat} {cs : Array Value} {t : TypeId} (h : w.heap[p]? = some (.cells cs t (0, 0))) (j : Nat) : w.frozen? ⟨p, j, none⟩ = false := by
  simp [World.frozen?, h]
theorem set_row {w : World} {p : Nat} {cs : Array Value} {t : TypeId} {f : Nat × Nat} (h : w.heap[p]? = some (.cells cs t f)) (j : Nat) (v : Value) :
    (w.setCell ⟨p, j, none⟩ v).heap[p]? = some (.cells (cs.setIfInBounds j v) t f) := by
  have hp := lt_of_heap h
  simp [World.setCell, Array.getElem?_modify, h]
theorem set_other {w : World} (a : Addr) (k : Nat) (v : Value) (h : k ≠ a.block) : (w.setCell a v).heap[k]? = w.heap[k]? := by
  simp only [World.setCell, Array.getElem?_modify]
  rw [if_neg (fun e => h e.symm)]
theorem alloc_new (w : World) (o : Obj) : (w.alloc o).heap[w.heap.size]? = some o := by
  show (w.heap.push o)[w.heap.size]? = some o
  simp
theorem alloc_new' {w : World} {n : Nat} (o : Obj) (h : w.heap.size = n) : (w.alloc o).heap[n]? = some o := by rw [← h]; exact alloc_new w o
theorem alloc_old (w : World) (o : Obj) (i : Nat) (h : i < w.heap.size) : (w.alloc o).heap[i]? = w.heap[i]? := by
  show (w.heap.push o)[i]? = w.heap[i]?
  rw [Array.getElem?_push, if_neg (Nat.ne_of_lt h)]

theorem ownsRow_below {w w' : World} {base : Nat} {e : TypeId} {size : Nat} {v : Value} {n : Nat} {xs : List Value} (h : w.ownsRow base e size v n xs) (hb : Below w.heap.size w w') : w'.ownsRow base e size v n xs := by
  refine ⟨h.1, ?_⟩
  rcases h.2 with hn | ⟨g, cap, cur, hv, h1, hg, rest⟩
  · exact .inl hn
  · exact .inr ⟨g, cap, cur, hv, h1, (hb.block g (lt_of_heap hg)).trans hg, rest⟩
/-- Behind an append of what was just laid: below the base nothing has turned. -/
theorem below_append {W w w3 : World} {base : Nat} {e : TypeId} {size : Nat} {v : Value} {n : Nat} {xs : List Value} {o : Obj} (ho : w.ownsRow base e size v n xs) (hb : Below base W w) (hz : base ≤ w.heap.size) (hg : (w.alloc o).grownBy w3 v.ownBlock) : Below base W w3 :=
  (hb.alloc hz o).grown hg (by simp; omega) (fun k hk => (ho.lt k hk).1)
/-! ### A region that draws its order, whose operations read and whose callees make memory of their own -/
/-- The worlds that came of w, as it was below B. -/
structure Ext (B : Nat) (w : World) : Type where
  val : World
  property : Below B w val
instance (B : Nat) (w : World) : Nonempty (Ext B w) := ⟨⟨w, Below.refl _ _⟩⟩
theorem wp_region_ext {P : Program} {id : Nat} {Q : Exit → Act → World → Prop} {a : Act} {w : World} {l : List Oper} (B : Nat) (hm : P.follows .mixedOrders = true) (hB : Region.lexB .any l.toArray = true)
    (h : wpQuiet P l.toArray (fun w' => ∃ x : Ext B w, w' = x.val) (fun a' => ∀ w', Below B w w' → Q .normal a' w') l a) : (Code.region id l.toArray true).wp P Q a w := by
  refine wp_region_quiet (C := fun w' => ∃ x : Ext B w, w' = x.val) hm hB ⟨⟨_, (Below.refl B w).drew⟩, rfl⟩ ?_
  have hmono : ∀ (l' : List Oper) (a : Act), wpQuiet P l.toArray (fun w' => ∃ x : Ext B w, w' = x.val) (fun a' => ∀ w', Below B w w' → Q .normal a' w') l' a → wpQuiet P l.toArray (fun w' => ∃ x : Ext B w, w' = x.val) (fun a' => ∀ w', (∃ x : Ext B w, w' = x.val) → Q .normal a' w') l' a := by
    intro l'
    induction l' with
    | nil => intro a h w' ⟨x, hx⟩; exact h w' (hx ▸ x.property)
    | cons o rest ih =>
      intro a h
      unfold wpQuiet at h ⊢
      split
      · rename_i hw
        simp only [hw, if_true] at h
        exact Oper.quiet_mono ih h
      · rename_i hw
        simp only [hw] at h
        exact ih _ h
  simpa using hmono _ _ h
theorem Calls.quiet_ext {P : Program} {f : FuncId} {args : Array Value} {B : Nat} {w : World} {x : Ext B w} {v : Value} (hB : B ≤ w.heap.size)
    (h : Calls P f args x.val fun e w' => e = .returned v ∧ Below x.val.heap.size x.val w') : Calls P f args x.val fun e w'' => e = .returned v ∧ ∃ y : Ext B w, w'' = y.val :=
  h.mono fun _ _ ⟨he, hb⟩ => ⟨he, ⟨_, x.property.trans (hb.mono (Nat.le_trans hB x.property.size))⟩, rfl⟩
theorem ext_row {B : Nat} {w : World} {p : Nat} {cs : Array Value} {t : TypeId} {f : Nat × Nat} (h : w.heap[p]? = some (.cells cs t f)) (hp : p < B) : ∀ (x : Ext B w) (j : Nat), x.val.cell? ⟨p, j, none⟩ = cs[j]? :=
  fun x j => cell_row ((x.property.block p hp).trans h) j
theorem ext_cell {B : Nat} {w : World} {p j : Nat} {v : Value} (h : w.cell? ⟨p, j, none⟩ = some v) (hp : p < B) : ∀ (x : Ext B w), x.val.cell? ⟨p, j, none⟩ = some v :=
  fun x => (x.property.cell hp).trans h
/-- A whole number of 512 bits laid into a block. -/
theorem st_row {P : Program} {w : World} {g : Nat} {t : TypeId} {old : Array Value} (h : w.heap[g]? = some (.cells old t (0, 0))) (hs : old.size = 8) (r : Nat) :
    Sem.run P (storeCells ⟨g, 0, none⟩ (wcells r).toList) w = .ok () (w.setRow g (wcells r)) := by
  have := run_storeCells_from (P := P) g t (wcells r).toList 0 old w h (by simp [wcells, hs]) (by intro v hv; simp [wcells] at hv; rcases hv with rfl | rfl | rfl | rfl | rfl | rfl | rfl | rfl <;> rfl)
  simpa using this
theorem setRow_new (w : World) (c c' : Array Value) (t : TypeId) : (w.alloc (.cells c t)).setRow w.heap.size c' = w.alloc (.cells c' t) := World.setRow_alloc_new w c c' t
theorem setRow_al (w : World) (g : Nat) (o : Obj) (c : Array Value) (h : g < w.heap.size) : (w.alloc o).setRow g c = (w.setRow g c).alloc o := by
  simp only [World.setRow, World.alloc]
  congr 1
  apply Array.ext_getElem?
  intro i
  simp only [Array.getElem?_modify, Array.getElem?_push, Array.size_modify]
  by_cases hi : i = w.heap.size
  · subst hi; simp [Nat.ne_of_lt h]
  · simp [hi]
/-- A whole number laid into the block that was made last, or last but one. -/
@[go_sem] theorem st_new {P : Program} (w : World) (z r : Nat) (t : TypeId) : Sem.run P (storeCells ⟨w.heap.size, 0, none⟩ (wcells r).toList) (w.alloc (.cells (wcells z) t)) = .ok () (w.alloc (.cells (wcells r) t)) := by
  rw [st_row (alloc_new w _) rfl r, setRow_new]
@[go_sem] theorem st_new_1 {P : Program} (w : World) (z r : Nat) (t : TypeId) (o : Obj) : Sem.run P (storeCells ⟨w.heap.size, 0, none⟩ (wcells r).toList) ((w.alloc (.cells (wcells z) t)).alloc o) = .ok () ((w.alloc (.cells (wcells r) t)).alloc o) := by
  rw [st_row (old := wcells z) (by rw [alloc_old _ _ _ (by simp)]; exact alloc_new w _) rfl r, setRow_al _ _ _ _ (by simp), setRow_new]
@[go_sem] theorem st_1_new {P : Program} (w : World) (z r : Nat) (t : TypeId) (o : Obj) : Sem.run P (storeCells ⟨w.heap.size + 1, 0, none⟩ (wcells r).toList) ((w.alloc o).alloc (.cells (wcells z) t)) = .ok () ((w.alloc o).alloc (.cells (wcells r) t)) := by
  have := st_new (P := P) (w.alloc o) z r t
  simpa using this
theorem below_setRow' {B : Nat} {W w : World} (h : Below B W w) {g : Nat} (hg : B ≤ g) (cs : Array Value) : Below B W (w.setRow g cs) :=
  h.trans ⟨rfl, rfl, rfl, by simp, fun k hk => setRow_other w g k cs (by omega)⟩
theorem below_set {B : Nat} {W w : World} (h : Below B W w) {g : Nat} (hg : B ≤ g) (j : Nat) (v : Value) : Below B W (w.setCell ⟨g, j, none⟩ v) :=
  h.trans ⟨rfl, rfl, rfl, by simp [World.setCell], fun k hk => set_other _ k v (by show k ≠ g; omega)⟩
/-- A slice of L limbs of a number, in a world. -/
structure IsLimbs (w : World) (v : Value) (n L : Nat) : Prop where
  ex : ∃ a cap, v = .slice a L cap ∧ L ≤ cap ∧ (0 < L → ∃ b o, a = some ⟨b, o, none⟩ ∧ b < w.heap.size ∧ ∀ i, i < L → w.cell? ⟨b, o + i, none⟩ = some (.int .u64 (limb n i : Nat)))
  lt : n < P2 (64 * L)
theorem IsLimbs.below {w w' : World} {v : Value} {n L : Nat} (h : IsLimbs w v n L) {B : Nat} (hb : Below B w w') (hB : w.heap.size ≤ B) : IsLimbs w' v n L := by
  obtain ⟨⟨a, cap, rfl, hc, hx⟩, hl⟩ := h
  refine ⟨⟨a, cap, rfl, hc, fun h0 => ?_⟩, hl⟩
  obtain ⟨b, o, rfl, hb', hcell⟩ := hx h0
  exact ⟨b, o, rfl, Nat.lt_of_lt_of_le hb' hb.size, fun i hi => (hb.cell (p := ⟨b, o + i, none⟩) (Nat.lt_of_lt_of_le hb' hB)).trans (hcell i hi)⟩
theorem IsLimbs.older {w w' : World} {v : Value} {n L : Nat} (h : IsLimbs w v n L) (hb : Below w.heap.size w w') : IsLimbs w' v n L := h.below hb (Nat.le_refl _)
/-- A function that has a body: a call enters it. -/
def Enters (P : Program) (f : FuncId) : Prop := ∀ (args : Array Value) (w : World), Sem.run P (callFunc f args) w = .ok (.enter f args) w
/-- What a block holds, a call later. -/
theorem keepRow {w w' : World} {b X : Nat} (hb : Below w.heap.size w w') (h : ∀ j, w.cell? ⟨b, j, none⟩ = (wcells X)[j]?) : ∀ j, w'.cell? ⟨b, j, none⟩ = (wcells X)[j]? :=
  fun j => (hb.cell (p := ⟨b, j, none⟩) (block_lt_of_cell (a := ⟨b, 0, none⟩) ((h 0).trans rfl))).trans (h j)
/-- A block behind an alloc. -/
theorem keepAl {w : World} {b : Nat} {o o' : Obj} (h : w.heap[b]? = some o) : (w.alloc o').heap[b]? = some o := by rw [alloc_old _ _ _ (lt_of_heap h)]; exact h
end Go.Proofs.Ytbjofgoimkmbfaa
