/- SEVERAL TEXTS of the seat, one behind the other: each says at its head what it proves. -/
import Derived.WalkKit
import Derived.WalkSpells
import Derived.WalkLawsBesides
import Derived.BigQuiet
import Derived.Deep.WholeRow
import Derived.Lib.Hide
import Derived.StillTail
/- PLAIN WORDS AND SMALL LAWS ON WORLDS that all walks of this seat share: a number of 512 bits as eight limbs; a world that grew behind a call; a region that draws its order, whose callees make memory of their own. -/
namespace Go.Proofs.YtegmmaaapdgocaaGreat
open Go Go.RowKit

/-- 2^n, behind a name: nothing reckons it out. -/
def P2 (n : Nat) : Nat := 2 ^ n
theorem P2_eq (n : Nat) : P2 n = 2 ^ n := rfl
theorem P2_64 : P2 64 = 18446744073709551616 := by rw [P2_eq]
/-- 2^512. -/
def M : Nat := P2 512
theorem M_eq : M = P2 512 := rfl
attribute [irreducible] P2 M
/-- Limb i of a number. -/
def limb (n i : Nat) : Nat := n / P2 (64 * i) % P2 64
/-- The eight cells of a number of 512 bits. -/
def wcells (n : Nat) : Array Value := #[.int .u64 (limb n 0), .int .u64 (limb n 1), .int .u64 (limb n 2), .int .u64 (limb n 3), .int .u64 (limb n 4), .int .u64 (limb n 5), .int .u64 (limb n 6), .int .u64 (limb n 7)]
abbrev wv (n : Nat) : Value := .agg (wcells n)
/-- The first k limbs of a number, and noughts behind. -/
def pcells (n k : Nat) : Array Value := #[.int .u64 (if 0 < k then limb n 0 else 0 : Nat), .int .u64 (if 1 < k then limb n 1 else 0 : Nat), .int .u64 (if 2 < k then limb n 2 else 0 : Nat), .int .u64 (if 3 < k then limb n 3 else 0 : Nat), .int .u64 (if 4 < k then limb n 4 else 0 : Nat), .int .u64 (if 5 < k then limb n 5 else 0 : Nat), .int .u64 (if 6 < k then limb n 6 else 0 : Nat), .int .u64 (if 7 < k then limb n 7 else 0 : Nat)]

theorem P2_pos (n : Nat) : 0 < P2 n := by rw [P2_eq]; exact Nat.two_pow_pos n
theorem P2_add (a b : Nat) : P2 (a + b) = P2 a * P2 b := by simp only [P2_eq, Nat.pow_add]
theorem P2_le {a b : Nat} (h : a ≤ b) : P2 a ≤ P2 b := by simp only [P2_eq]; exact Nat.pow_le_pow_right (by decide) h
theorem P2_lt {a b : Nat} (h : a < b) : P2 a < P2 b := by simp only [P2_eq]; exact Nat.pow_lt_pow_right (by decide) h
theorem M_pos : 0 < M := by rw [M_eq]; exact P2_pos 512
theorem limb_lt (n i : Nat) : limb n i < P2 64 := Nat.mod_lt _ (P2_pos _)
theorem limb_le (n i : Nat) : limb n i ≤ 18446744073709551615 := by have := limb_lt n i; rw [P2_64] at this; omega
@[go_sem] theorem wcells_size (n : Nat) : (wcells n).size = 8 := rfl
theorem wcells_get (n k : Nat) (h : k < 8) : (wcells n)[k]? = some (.int .u64 (limb n k)) := by
  unfold wcells
  rcases k with _ | _ | _ | _ | _ | _ | _ | _ | k
  all_goals first | rfl | omega
@[go_sem] theorem wcells_0 (n : Nat) : (wcells n)[0]? = some (.int .u64 (limb n 0)) := rfl
@[go_sem] theorem wcells_1 (n : Nat) : (wcells n)[1]? = some (.int .u64 (limb n 1)) := rfl
@[go_sem] theorem wcells_2 (n : Nat) : (wcells n)[2]? = some (.int .u64 (limb n 2)) := rfl
@[go_sem] theorem wcells_3 (n : Nat) : (wcells n)[3]? = some (.int .u64 (limb n 3)) := rfl
@[go_sem] theorem wcells_4 (n : Nat) : (wcells n)[4]? = some (.int .u64 (limb n 4)) := rfl
@[go_sem] theorem wcells_5 (n : Nat) : (wcells n)[5]? = some (.int .u64 (limb n 5)) := rfl
@[go_sem] theorem wcells_6 (n : Nat) : (wcells n)[6]? = some (.int .u64 (limb n 6)) := rfl
@[go_sem] theorem wcells_7 (n : Nat) : (wcells n)[7]? = some (.int .u64 (limb n 7)) := rfl
@[go_sem] theorem wcells_fold (n : Nat) : (#[.int .u64 (limb n 0), .int .u64 (limb n 1), .int .u64 (limb n 2), .int .u64 (limb n 3), .int .u64 (limb n 4), .int .u64 (limb n 5), .int .u64 (limb n 6), .int .u64 (limb n 7)] : Array Value) = wcells n := rfl
theorem pcells_zero (n : Nat) : pcells n 0 = #[.int .u64 0, .int .u64 0, .int .u64 0, .int .u64 0, .int .u64 0, .int .u64 0, .int .u64 0, .int .u64 0] := by simp [pcells]
theorem pcells_size (n k : Nat) : (pcells n k).size = 8 := rfl
theorem pcells_all (n : Nat) : pcells n 8 = wcells n := by simp [pcells, wcells]
theorem pcells_put (n k : Nat) (h : k < 8) : (pcells n k).setIfInBounds k (.int .u64 (limb n k)) = pcells n (k + 1) := by
  rcases k with _ | _ | _ | _ | _ | _ | _ | _ | k
  all_goals first | (simp [pcells]; done) | omega
theorem pcells_get (n k j : Nat) (h : j < 8) : (pcells n k)[j]? = some (.int .u64 (if j < k then limb n j else 0 : Nat)) := by
  unfold pcells
  rcases j with _ | _ | _ | _ | _ | _ | _ | _ | j
  all_goals first | rfl | omega

@[go_sem] theorem limb_zero (i : Nat) : limb 0 i = 0 := by unfold limb; rw [Nat.zero_div, Nat.zero_mod]
@[go_sem] theorem wcells_zero : (#[.int .u64 0, .int .u64 0, .int .u64 0, .int .u64 0, .int .u64 0, .int .u64 0, .int .u64 0, .int .u64 0] : Array Value) = wcells 0 := by unfold wcells; simp only [limb_zero]; rfl
theorem pcells_nil (n : Nat) : pcells n 0 = wcells 0 := by rw [pcells_zero, wcells_zero]
theorem ret_int {k : IntKind} {a b : Int} (h : a = b) : Ending.returned (.int k a) = .returned (.int k b) := by rw [h]
theorem ret_bool {a b : Bool} (h : a = b) : Ending.returned (.bool a) = .returned (.bool b) := by rw [h]

/-! ### Worlds -/
theorem below_then {W w w2 : World} (h : Below W.heap.size W w) (k : Below w.heap.size w w2) : Below W.heap.size W w2 := h.trans (k.mono h.size)
theorem below_al {W w : World} (h : Below W.heap.size W w) (o : Obj) : Below W.heap.size W (w.alloc o) := h.alloc h.size o
theorem bcell {B : Nat} {W w1 : World} (hb : Below B W w1) : (∀ b o, b < B → w1.cell? ⟨b, o, none⟩ = W.cell? ⟨b, o, none⟩) ∧ (∀ b o, b < B → w1.frozen? ⟨b, o, none⟩ = W.frozen? ⟨b, o, none⟩) :=
  ⟨fun b o h => hb.cell (p := ⟨b, o, none⟩) h, fun b o h => hb.frozen (p := ⟨b, o, none⟩) h⟩
theorem lt_of_heap {w : World} {p : Nat} {o : Obj} (h : w.heap[p]? = some o) : p < w.heap.size := by
  by_cases hp : p < w.heap.size
  · exact hp
  · rw [Array.getElem?_eq_none (by omega)] at h; cases h
theorem cell_row {w : World} {p : Nat} {cs : Array Value} {t : TypeId} {f : Nat × Nat} (h : w.heap[p]? = some (.cells cs t f)) (j : Nat) : w.cell? ⟨p, j, none⟩ = cs[j]? := by
  simp [World.cell?, h]
theorem free_row {w : World} {p : Nat} {cs : Array Value} {t : TypeId} (h : w.heap[p]? = some (.cells cs t (0, 0))) (j : Nat) : w.frozen? ⟨p, j, none⟩ = false := by
  simp [World.frozen?, h]
theorem set_row {w : World} {p : Nat} {cs : Array Value} {t : TypeId} {f : Nat × Nat} (h : w.heap[p]? = some (.cells cs t f)) (j : Nat) (v : Value) :
    (w.setCell ⟨p, j, none⟩ v).heap[p]? = some (.cells (cs.setIfInBounds j v) t f) := by
  have hp := lt_of_heap h
  simp [World.setCell, Array.getElem?_modify, h]
theorem set_other {w : World} (a : Addr) (k : Nat) (v : Value) (h : k ≠ a.block) : (w.setCell a v).heap[k]? = w.heap[k]? := by
  simp only [World.setCell, Array.getElem?_modify]
  rw [if_neg (fun e => h e.symm)]
theorem alloc_new (w : World) (o : Obj) : (w.alloc o).heap[w.heap.size]? = some o := by
  show (w.heap.push o)[w.heap.size]? = some o
  simp
theorem alloc_new' {w : World} {n : Nat} (o : Obj) (h : w.heap.size = n) : (w.alloc o).heap[n]? = some o := by rw [← h]; exact alloc_new w o
theorem alloc_old (w : World) (o : Obj) (i : Nat) (h : i < w.heap.size) : (w.alloc o).heap[i]? = w.heap[i]? := by
  show (w.heap.push o)[i]? = w.heap[i]?
  rw [Array.getElem?_push, if_neg (Nat.ne_of_lt h)]

theorem ownsRow_below {w w' : World} {base : Nat} {e : TypeId} {size : Nat} {v : Value} {n : Nat} {xs : List Value} (h : w.ownsRow base e size v n xs) (hb : Below w.heap.size w w') : w'.ownsRow base e size v n xs := by
  refine ⟨h.1, ?_⟩
  rcases h.2 with hn | ⟨g, cap, cur, hv, h1, hg, rest⟩
  · exact .inl hn
  · exact .inr ⟨g, cap, cur, hv, h1, (hb.block g (lt_of_heap hg)).trans hg, rest⟩
/-- Behind an append of what was just laid: below the base nothing has turned. -/
theorem below_append {W w w3 : World} {base : Nat} {e : TypeId} {size : Nat} {v : Value} {n : Nat} {xs : List Value} {o : Obj} (ho : w.ownsRow base e size v n xs) (hb : Below base W w) (hz : base ≤ w.heap.size) (hg : (w.alloc o).grownBy w3 v.ownBlock) : Below base W w3 :=
  (hb.alloc hz o).grown hg (by simp; omega) (fun k hk => (ho.lt k hk).1)
/-! ### A region that draws its order, whose operations read and whose callees make memory of their own -/
/-- The worlds that came of w, as it was below B. -/
structure Ext (B : Nat) (w : World) : Type where
  val : World
  property : Below B w val
instance (B : Nat) (w : World) : Nonempty (Ext B w) := ⟨⟨w, Below.refl _ _⟩⟩
theorem wp_region_ext {P : Program} {id : Nat} {Q : Exit → Act → World → Prop} {a : Act} {w : World} {l : List Oper} (B : Nat) (hm : P.follows .mixedOrders = true) (hB : Region.lexB .any l.toArray = true)
    (h : wpQuiet P l.toArray (fun w' => ∃ x : Ext B w, w' = x.val) (fun a' => ∀ w', Below B w w' → Q .normal a' w') l a) : (Code.region id l.toArray true).wp P Q a w := by
  refine wp_region_quiet (C := fun w' => ∃ x : Ext B w, w' = x.val) hm hB ⟨⟨_, (Below.refl B w).drew⟩, rfl⟩ ?_
  have hmono : ∀ (l' : List Oper) (a : Act), wpQuiet P l.toArray (fun w' => ∃ x : Ext B w, w' = x.val) (fun a' => ∀ w', Below B w w' → Q .normal a' w') l' a → wpQuiet P l.toArray (fun w' => ∃ x : Ext B w, w' = x.val) (fun a' => ∀ w', (∃ x : Ext B w, w' = x.val) → Q .normal a' w') l' a := by
    intro l'
    induction l' with
    | nil => intro a h w' ⟨x, hx⟩; exact h w' (hx ▸ x.property)
    | cons o rest ih =>
      intro a h
      unfold wpQuiet at h ⊢
      split
      · rename_i hw
        simp only [hw, if_true] at h
        exact Oper.quiet_mono ih h
      · rename_i hw
        simp only [hw] at h
        exact ih _ h
  simpa using hmono _ _ h
theorem Calls.quiet_ext {P : Program} {f : FuncId} {args : Array Value} {B : Nat} {w : World} {x : Ext B w} {v : Value} (hB : B ≤ w.heap.size)
    (h : Calls P f args x.val fun e w' => e = .returned v ∧ Below x.val.heap.size x.val w') : Calls P f args x.val fun e w'' => e = .returned v ∧ ∃ y : Ext B w, w'' = y.val :=
  h.mono fun _ _ ⟨he, hb⟩ => ⟨he, ⟨_, x.property.trans (hb.mono (Nat.le_trans hB x.property.size))⟩, rfl⟩
theorem ext_row {B : Nat} {w : World} {p : Nat} {cs : Array Value} {t : TypeId} {f : Nat × Nat} (h : w.heap[p]? = some (.cells cs t f)) (hp : p < B) : ∀ (x : Ext B w) (j : Nat), x.val.cell? ⟨p, j, none⟩ = cs[j]? :=
  fun x j => cell_row ((x.property.block p hp).trans h) j
theorem ext_cell {B : Nat} {w : World} {p j : Nat} {v : Value} (h : w.cell? ⟨p, j, none⟩ = some v) (hp : p < B) : ∀ (x : Ext B w), x.val.cell? ⟨p, j, none⟩ = some v :=
  fun x => (x.property.cell hp).trans h
/-- A whole number of 512 bits laid into a block. -/
theorem st_row {P : Program} {w : World} {g : Nat} {t : TypeId} {old : Array Value} (h : w.heap[g]? = some (.cells old t (0, 0))) (hs : old.size = 8) (r : Nat) :
    Sem.run P (storeCells ⟨g, 0, none⟩ (wcells r).toList) w = .ok () (w.setRow g (wcells r)) := by
  have := run_storeCells_from (P := P) g t (wcells r).toList 0 old w h (by simp [wcells, hs]) (by intro v hv; simp [wcells] at hv; rcases hv with rfl | rfl | rfl | rfl | rfl | rfl | rfl | rfl <;> rfl)
  simpa using this
theorem setRow_new (w : World) (c c' : Array Value) (t : TypeId) : (w.alloc (.cells c t)).setRow w.heap.size c' = w.alloc (.cells c' t) := World.setRow_alloc_new w c c' t
theorem setRow_al (w : World) (g : Nat) (o : Obj) (c : Array Value) (h : g < w.heap.size) : (w.alloc o).setRow g c = (w.setRow g c).alloc o := by
  simp only [World.setRow, World.alloc]
  congr 1
  apply Array.ext_getElem?
  intro i
  simp only [Array.getElem?_modify, Array.getElem?_push, Array.size_modify]
  by_cases hi : i = w.heap.size
  · subst hi; simp [Nat.ne_of_lt h]
  · simp [hi]
/-- A whole number laid into the block that was made last, or last but one. -/
@[go_sem] theorem st_new {P : Program} (w : World) (z r : Nat) (t : TypeId) : Sem.run P (storeCells ⟨w.heap.size, 0, none⟩ (wcells r).toList) (w.alloc (.cells (wcells z) t)) = .ok () (w.alloc (.cells (wcells r) t)) := by
  rw [st_row (alloc_new w _) rfl r, setRow_new]
@[go_sem] theorem st_new_1 {P : Program} (w : World) (z r : Nat) (t : TypeId) (o : Obj) : Sem.run P (storeCells ⟨w.heap.size, 0, none⟩ (wcells r).toList) ((w.alloc (.cells (wcells z) t)).alloc o) = .ok () ((w.alloc (.cells (wcells r) t)).alloc o) := by
  rw [st_row (old := wcells z) (by rw [alloc_old _ _ _ (by simp)]; exact alloc_new w _) rfl r, setRow_al _ _ _ _ (by simp), setRow_new]
@[go_sem] theorem st_1_new {P : Program} (w : World) (z r : Nat) (t : TypeId) (o : Obj) : Sem.run P (storeCells ⟨w.heap.size + 1, 0, none⟩ (wcells r).toList) ((w.alloc o).alloc (.cells (wcells z) t)) = .ok () ((w.alloc o).alloc (.cells (wcells r) t)) := by
  have := st_new (P := P) (w.alloc o) z r t
  simpa using this
theorem below_setRow' {B : Nat} {W w : World} (h : Below B W w) {g : Nat} (hg : B ≤ g) (cs : Array Value) : Below B W (w.setRow g cs) :=
  h.trans ⟨rfl, rfl, rfl, by simp, fun k hk => setRow_other w g k cs (by omega)⟩
theorem below_set {B : Nat} {W w : World} (h : Below B W w) {g : Nat} (hg : B ≤ g) (j : Nat) (v : Value) : Below B W (w.setCell ⟨g, j, none⟩ v) :=
  h.trans ⟨rfl, rfl, rfl, by simp [World.setCell], fun k hk => set_other _ k v (by show k ≠ g; omega)⟩
/-- A slice of L limbs of a number, in a world. -/
structure IsLimbs (w : World) (v : Value) (n L : Nat) : Prop where
  ex : ∃ a cap, v = .slice a L cap ∧ L ≤ cap ∧ (0 < L → ∃ b o, a = some ⟨b, o, none⟩ ∧ b < w.heap.size ∧ ∀ i, i < L → w.cell? ⟨b, o + i, none⟩ = some (.int .u64 (limb n i : Nat)))
  lt : n < P2 (64 * L)
theorem IsLimbs.below {w w' : World} {v : Value} {n L : Nat} (h : IsLimbs w v n L) {B : Nat} (hb : Below B w w') (hB : w.heap.size ≤ B) : IsLimbs w' v n L := by
  obtain ⟨⟨a, cap, rfl, hc, hx⟩, hl⟩ := h
  refine ⟨⟨a, cap, rfl, hc, fun h0 => ?_⟩, hl⟩
  obtain ⟨b, o, rfl, hb', hcell⟩ := hx h0
  exact ⟨b, o, rfl, Nat.lt_of_lt_of_le hb' hb.size, fun i hi => (hb.cell (p := ⟨b, o + i, none⟩) (Nat.lt_of_lt_of_le hb' hB)).trans (hcell i hi)⟩
theorem IsLimbs.older {w w' : World} {v : Value} {n L : Nat} (h : IsLimbs w v n L) (hb : Below w.heap.size w w') : IsLimbs w' v n L := h.below hb (Nat.le_refl _)
/-- A function that has a body: a call enters it. -/
def Enters (P : Program) (f : FuncId) : Prop := ∀ (args : Array Value) (w : World), Sem.run P (callFunc f args) w = .ok (.enter f args) w
/-- What a block holds, a call later. -/
theorem keepRow {w w' : World} {b X : Nat} (hb : Below w.heap.size w w') (h : ∀ j, w.cell? ⟨b, j, none⟩ = (wcells X)[j]?) : ∀ j, w'.cell? ⟨b, j, none⟩ = (wcells X)[j]? :=
  fun j => (hb.cell (p := ⟨b, j, none⟩) (block_lt_of_cell (a := ⟨b, 0, none⟩) ((h 0).trans rfl))).trans (h j)
/-- A block behind an alloc. -/
theorem keepAl {w : World} {b : Nat} {o o' : Obj} (h : w.heap[b]? = some o) : (w.alloc o').heap[b]? = some o := by rw [alloc_old _ _ _ (lt_of_heap h)]; exact h
end Go.Proofs.YtegmmaaapdgocaaGreat

/- PLAIN ARITHMETIC: limbs of a number of 512 bits, shifted up and down, added and taken away. No program stands in this text. -/
namespace Go.Proofs.YtegmmaaapdgocaaGreat
open Go Go.RowKit

theorem u64wrap (n : Int) : IntKind.u64.wrap n = n % 18446744073709551616 := by simp [IntKind.wrap, IntKind.bits, IntKind.signed]
theorem u64wrap_nat (n : Nat) : IntKind.u64.wrap (n : Int) = ((n % P2 64 : Nat) : Int) := by rw [u64wrap, P2_64]; omega
theorem bit_mod (x e j : Nat) : (x % P2 e).testBit j = (decide (j < e) && x.testBit j) := by rw [P2_eq, Nat.testBit_mod_two_pow]
theorem bit_div (x e j : Nat) : (x / P2 e).testBit j = x.testBit (e + j) := by rw [P2_eq, Nat.testBit_div_two_pow, Nat.add_comm]
theorem bit_mul (x e j : Nat) : (x * P2 e).testBit j = (decide (e ≤ j) && x.testBit (j - e)) := by rw [P2_eq, Nat.testBit_mul_two_pow]
theorem bit_modM (x j : Nat) : (x % M).testBit j = (decide (j < 512) && x.testBit j) := by rw [M_eq]; exact bit_mod x 512 j
theorem bit_lt {x e j : Nat} (h : x < P2 e) (hj : e ≤ j) : x.testBit j = false := by
  rw [← Nat.mod_eq_of_lt h, bit_mod]; simp; omega

theorem bitM_lt {x j : Nat} (h : x < M) (hj : 512 ≤ j) : x.testBit j = false := by rw [M_eq] at h; exact bit_lt h hj

/-- A limb, told of its place as an integer: 0 below, b beyond. -/
def atN (a : Nat) (i : Int) (b : Nat) : Nat := if i < 0 then 0 else if 8 ≤ i then b else limb a i.toNat
theorem atN_neg (a : Nat) (i : Int) (b : Nat) (h : i < 0) : atN a i b = 0 := if_pos h
theorem atN_hi (a : Nat) (i : Int) (b : Nat) (h : 8 ≤ i) : atN a i b = b := by unfold atN; rw [if_neg (by omega), if_pos h]
theorem atN_mid (a k b : Nat) (h : k < 8) : atN a k b = limb a k := by unfold atN; rw [if_neg (by omega), if_neg (by omega)]; rfl
theorem atN_lt (a : Nat) (i : Int) (b : Nat) (h : b < P2 64) : atN a i b < P2 64 := by
  unfold atN
  split
  · exact P2_pos _
  · split
    · exact h
    · exact limb_lt _ _
theorem limb_bit (a i j : Nat) : (limb a i).testBit j = (decide (j < 64) && a.testBit (64 * i + j)) := by
  rw [limb, bit_mod, bit_div]
theorem limb_mod (a i : Nat) (h : i < 8) : limb (a % M) i = limb a i := by
  apply Nat.eq_of_testBit_eq
  intro j
  rw [limb_bit, limb_bit, bit_modM]
  by_cases hj : j < 64
  · have : 64 * i + j < 512 := by omega
    simp [hj, this]
  · simp [hj]
theorem limb_big (a i : Nat) (ha : a < M) (h : 8 ≤ i) : limb a i = 0 := by
  unfold limb
  have h1 : M ≤ P2 (64 * i) := by rw [M_eq]; exact P2_le (by omega)
  rw [Nat.div_eq_of_lt (Nat.lt_of_lt_of_le ha h1)]
  exact Nat.zero_mod _
theorem wcells_congr {a b : Nat} (h : ∀ i, i < 8 → limb a i = limb b i) : wcells a = wcells b := by
  unfold wcells
  rw [h 0 (by decide), h 1 (by decide), h 2 (by decide), h 3 (by decide), h 4 (by decide), h 5 (by decide), h 6 (by decide), h 7 (by decide)]
theorem wcells_mod (a : Nat) : wcells (a % M) = wcells a := wcells_congr fun i h => limb_mod a i h
theorem limb_ext {a b : Nat} (ha : a < M) (hb : b < M) (h : ∀ i, i < 8 → limb a i = limb b i) : a = b := by
  apply Nat.eq_of_testBit_eq
  intro j
  by_cases hj : j < 512
  · have := congrArg (fun x => x.testBit (j % 64)) (h (j / 64) (by omega))
    simp only [limb_bit] at this
    have e : 64 * (j / 64) + j % 64 = j := by omega
    have e2 : j % 64 < 64 := by omega
    rw [e] at this
    simpa [e2] using this
  · rw [bitM_lt ha (by omega), bitM_lt hb (by omega)]
/-- Eight limbs are a number. -/
theorem limb_ex (x0 x1 x2 x3 x4 x5 x6 x7 : Nat) (h0 : x0 < P2 64) (h1 : x1 < P2 64) (h2 : x2 < P2 64) (h3 : x3 < P2 64) (h4 : x4 < P2 64) (h5 : x5 < P2 64) (h6 : x6 < P2 64) (h7 : x7 < P2 64) :
    ∃ n, n < M ∧ limb n 0 = x0 ∧ limb n 1 = x1 ∧ limb n 2 = x2 ∧ limb n 3 = x3 ∧ limb n 4 = x4 ∧ limb n 5 = x5 ∧ limb n 6 = x6 ∧ limb n 7 = x7 := by
  have step : ∀ (x y e : Nat), x < P2 e → y < P2 64 → x + y * P2 e < P2 (e + 64) ∧ (x + y * P2 e) % P2 e = x ∧ (x + y * P2 e) / P2 e = y := by
    intro x y e hx hy
    have hp := P2_pos e
    refine ⟨?_, ?_, ?_⟩
    · rw [P2_add]
      have : (y + 1) * P2 e ≤ P2 64 * P2 e := Nat.mul_le_mul_right _ hy
      have e1 : (y + 1) * P2 e = y * P2 e + P2 e := by rw [Nat.add_mul, Nat.one_mul]
      rw [Nat.mul_comm (P2 e)]
      omega
    · rw [Nat.add_mul_mod_self_right, Nat.mod_eq_of_lt hx]
    · rw [Nat.add_mul_div_right _ _ hp, Nat.div_eq_of_lt hx, Nat.zero_add]
  have low : ∀ (x y e i : Nat), 64 * (i + 1) ≤ e → x < P2 e → limb (x + y * P2 e) i = limb x i := by
    intro x y e i hi hx
    apply Nat.eq_of_testBit_eq
    intro j
    rw [limb_bit, limb_bit]
    by_cases hj : j < 64
    · have g : (x + y * P2 e).testBit (64 * i + j) = ((x + y * P2 e) % P2 e).testBit (64 * i + j) := by
        rw [bit_mod]; have : 64 * i + j < e := by omega
        simp [this]
      rw [g, Nat.add_mul_mod_self_right, Nat.mod_eq_of_lt hx]
    · simp [hj]
  have high : ∀ (x y i : Nat), x < P2 (64 * i) → y < P2 64 → limb (x + y * P2 (64 * i)) i = y := by
    intro x y i hx hy
    unfold limb
    rw [(step x y (64 * i) hx hy).2.2, Nat.mod_eq_of_lt hy]
  have b0 : x0 < P2 64 := h0
  have s1 := step x0 x1 64 b0 h1
  have s2 := step _ x2 128 s1.1 h2
  have s3 := step _ x3 192 s2.1 h3
  have s4 := step _ x4 256 s3.1 h4
  have s5 := step _ x5 320 s4.1 h5
  have s6 := step _ x6 384 s5.1 h6
  have s7 := step _ x7 448 s6.1 h7
  refine ⟨_, by rw [M_eq]; exact s7.1, ?_, ?_, ?_, ?_, ?_, ?_, ?_, ?_⟩
  · rw [low _ _ _ _ (by decide) s6.1, low _ _ _ _ (by decide) s5.1, low _ _ _ _ (by decide) s4.1, low _ _ _ _ (by decide) s3.1, low _ _ _ _ (by decide) s2.1, low _ _ _ _ (by decide) s1.1, low _ _ _ _ (by decide) b0]
    unfold limb
    rw [show P2 (64 * 0) = 1 from by rw [P2_eq], Nat.div_one, Nat.mod_eq_of_lt h0]
  · rw [low _ _ _ _ (by decide) s6.1, low _ _ _ _ (by decide) s5.1, low _ _ _ _ (by decide) s4.1, low _ _ _ _ (by decide) s3.1, low _ _ _ _ (by decide) s2.1, low _ _ _ _ (by decide) s1.1]
    exact high x0 x1 1 b0 h1
  · rw [low _ _ _ _ (by decide) s6.1, low _ _ _ _ (by decide) s5.1, low _ _ _ _ (by decide) s4.1, low _ _ _ _ (by decide) s3.1, low _ _ _ _ (by decide) s2.1]
    exact high _ x2 2 s1.1 h2
  · rw [low _ _ _ _ (by decide) s6.1, low _ _ _ _ (by decide) s5.1, low _ _ _ _ (by decide) s4.1, low _ _ _ _ (by decide) s3.1]
    exact high _ x3 3 s2.1 h3
  · rw [low _ _ _ _ (by decide) s6.1, low _ _ _ _ (by decide) s5.1, low _ _ _ _ (by decide) s4.1]
    exact high _ x4 4 s3.1 h4
  · rw [low _ _ _ _ (by decide) s6.1, low _ _ _ _ (by decide) s5.1]
    exact high _ x5 5 s4.1 h5
  · rw [low _ _ _ _ (by decide) s6.1]
    exact high _ x6 6 s5.1 h6
  · exact high _ x7 7 s6.1 h7

theorem atN_bit (a : Nat) (i : Int) (k : Nat) (h : i = k) (hk : k < 8) (b x : Nat) : (atN a i b).testBit x = (decide (x < 64) && a.testBit (64 * k + x)) := by
  subst h
  unfold atN
  rw [if_neg (by omega), if_neg (by omega), show ((k : Int)).toNat = k from by omega, limb_bit]

/-- Two limbs, shifted together: what stands at place i of a number shifted up by 64 k + r. -/
def shlN (a : Nat) (k r : Int) (i : Int) : Nat := (atN a (i - k) 0 * P2 r.toNat % P2 64) ||| (atN a (i - k - 1) 0 / P2 (64 - r).toNat)
theorem shlN_limb (a : Nat) (k r i : Nat) (hr : r < 64) (hi : i < 8) : shlN a k r i = limb (a * P2 (64 * k + r)) i := by
  apply Nat.eq_of_testBit_eq
  intro j
  rw [limb_bit]
  unfold shlN
  have e1 : ((r : Int)).toNat = r := by omega
  have e2 : (64 - (r : Int)).toNat = 64 - r := by omega
  rw [e1, e2, Nat.testBit_or, bit_mod, bit_mul, bit_div, bit_mul]
  have f1 : ∀ (x : Nat), (atN a ((i : Int) - k) 0).testBit x = (decide (k ≤ i) && (decide (x < 64) && a.testBit (64 * (i - k) + x))) := by
    intro x
    by_cases hk : k ≤ i
    · rw [atN_bit a _ (i - k) (by omega) (by omega)]
      simp [hk]
    · unfold atN
      rw [if_pos (by omega)]
      simp [hk]
  have f2 : ∀ (x : Nat), (atN a ((i : Int) - k - 1) 0).testBit x = (decide (k + 1 ≤ i) && (decide (x < 64) && a.testBit (64 * (i - k - 1) + x))) := by
    intro x
    by_cases hk : k + 1 ≤ i
    · rw [atN_bit a _ (i - k - 1) (by omega) (by omega)]
      simp [hk]
    · unfold atN
      rw [if_pos (by omega)]
      simp [hk]
  rw [f1, f2]
  by_cases hj : j < 64
  · by_cases hrj : r ≤ j
    · by_cases hk : k ≤ i
      · have g2 : 64 * k + r ≤ 64 * i + j := by omega
        have g3 : 64 * (i - k) + (j - r) = 64 * i + j - (64 * k + r) := by omega
        have g4 : j - r < 64 := by omega
        have g5 : ¬ (64 - r + j < 64) := by omega
        simp [hj, hrj, hk, g2, g3, g4, g5]
      · have g2 : ¬ (64 * k + r ≤ 64 * i + j) := by omega
        have g6 : ¬ (k + 1 ≤ i) := by omega
        simp [hj, hk, g2, g6]
    · by_cases hk : k + 1 ≤ i
      · have g2 : 64 * k + r ≤ 64 * i + j := by omega
        have g3 : 64 * (i - k - 1) + (64 - r + j) = 64 * i + j - (64 * k + r) := by omega
        have g4 : 64 - r + j < 64 := by omega
        simp [hj, hrj, hk, g2, g3, g4]
      · have g2 : ¬ (64 * k + r ≤ 64 * i + j) := by omega
        simp [hj, hrj, hk, g2]
  · have g : ¬ (64 - r + j < 64) := by omega
    simp [hj, g]

/-- What stands at place i of a number shifted down by 64 k + r, b being what stands beyond. -/
def shrN (a : Nat) (k r : Int) (i : Int) (b : Nat) : Nat := (atN a (i + k) b / P2 r.toNat) ||| (atN a (i + k + 1) b * P2 (64 - r).toNat % P2 64)
theorem shrN_limb (a c : Nat) (k r i b : Nat) (hr : r < 64) (hi : i < 8)
    (hc : ∀ x, x < 512 → c.testBit x = a.testBit x) (hb : ∀ x, 512 ≤ x → x < 1152 → c.testBit x = b.testBit (x % 64)) (hk : k ≤ 8) (hb2 : b < P2 64) : shrN a k r i b = limb (c / P2 (64 * k + r)) i := by
  apply Nat.eq_of_testBit_eq
  intro j
  rw [limb_bit, bit_div]
  unfold shrN
  have e1 : ((r : Int)).toNat = r := by omega
  have e2 : (64 - (r : Int)).toNat = 64 - r := by omega
  rw [e1, e2, Nat.testBit_or, bit_mod, bit_mul, bit_div]
  have f1 : ∀ (k x : Nat), i + k < 18 → x < 64 → (atN a ((i : Int) + k) b).testBit x = c.testBit (64 * (i + k) + x) := by
    intro k x h17 hx
    by_cases hk : i + k < 8
    · rw [atN_bit a _ (i + k) (by omega) (by omega), hc _ (by omega)]
      simp [hx]
    · unfold atN
      rw [if_neg (by omega), if_pos (by omega), hb _ (by omega) (by omega)]
      congr 1
      omega
  have f3 : ∀ (k x : Nat), 64 ≤ x → (atN a ((i : Int) + k) b).testBit x = false := fun k x hx => bit_lt (atN_lt a _ b hb2) hx
  have e3 : ((i : Int) + k + 1) = ((i : Int) + ((k + 1 : Nat) : Int)) := by omega
  rw [e3]
  by_cases hj : j < 64
  · by_cases hrj : r + j < 64
    · rw [f1 k _ (by omega) hrj]
      have g1 : ¬ (64 - r ≤ j) := by omega
      have g2 : 64 * (i + k) + (r + j) = 64 * k + r + (64 * i + j) := by omega
      simp [hj, g1, g2]
    · rw [f3 k _ (by omega), f1 (k + 1) _ (by omega) (by omega)]
      have g1 : 64 - r ≤ j := by omega
      have g2 : 64 * (i + (k + 1)) + (j - (64 - r)) = 64 * k + r + (64 * i + j) := by omega
      simp [hj, g1, g2]
  · rw [f3 k _ (by omega)]
    simp [hj]

theorem or_u64 (a b : Nat) (ha : a < P2 64) (hb : b < P2 64) : bits .or .u64 (a : Int) (b : Int) = ((a ||| b : Nat) : Int) :=
  u64_or_nat a b (by rw [P2_64] at ha; exact ha) (by rw [P2_64] at hb; exact hb)
theorem mul_u64 (x r : Nat) : IntKind.u64.wrap ((x : Int) * 2 ^ r) = ((x * P2 r % P2 64 : Nat) : Int) := by
  rw [← u64wrap_nat, P2_eq]; push_cast; rfl
theorem div_u64 (y s : Nat) : ((y : Int) / 2 ^ s) = ((y / P2 s : Nat) : Int) := by rw [P2_eq]; push_cast; rfl
theorem div_lt {y s : Nat} (h : y < P2 64) : y / P2 s < P2 64 := Nat.lt_of_le_of_lt (Nat.div_le_self _ _) h
theorem shl_val (a : Nat) (k r i : Int) : bits .or .u64 (IntKind.u64.wrap ((atN a (i - k) 0 : Int) * 2 ^ r.toNat)) ((atN a (i - k - 1) 0 : Int) / 2 ^ (64 - r).toNat) = ((shlN a k r i : Nat) : Int) := by
  rw [mul_u64, div_u64, or_u64 _ _ (Nat.mod_lt _ (P2_pos _)) (div_lt (atN_lt _ _ _ (P2_pos _)))]
  rfl
theorem shr_val (a : Nat) (k r i : Int) (b : Nat) (hb : b < P2 64) : bits .or .u64 ((atN a (i + k) b : Int) / 2 ^ r.toNat) (IntKind.u64.wrap ((atN a (i + k + 1) b : Int) * 2 ^ (64 - r).toNat)) = ((shrN a k r i b : Nat) : Int) := by
  rw [mul_u64, div_u64, or_u64 _ _ (div_lt (atN_lt _ _ _ hb)) (Nat.mod_lt _ (P2_pos _))]
  rfl
theorem shrN_zero (a c i : Nat) (ha : a < M) (hc : c ≤ 512) (hi : i < 8) : shrN a ((c : Int) / 64) ((c : Int) % 64) i 0 = limb (a / P2 c) i := by
  have := shrN_limb a a (c / 64) (c % 64) i 0 (by omega) hi (fun _ _ => rfl) (fun x hx _ => by rw [bitM_lt ha hx]; simp) (by omega) (P2_pos _)
  rw [show 64 * (c / 64) + c % 64 = c from by omega] at this
  exact this
theorem div_ltM {a c : Nat} (h : a < M) : a / P2 c < M := Nat.lt_of_le_of_lt (Nat.div_le_self _ _) h
/-- What is shifted down, and up again, is what it was, if nothing was lost. -/
theorem back_iff (a c : Nat) (ha : a < M) : (a / P2 c * P2 c % M = a) ↔ a % P2 c = 0 := by
  have h1 : a / P2 c * P2 c ≤ a := Nat.div_mul_le_self a (P2 c)
  rw [Nat.mod_eq_of_lt (Nat.lt_of_le_of_lt h1 ha)]
  have h2 := Nat.div_add_mod a (P2 c)
  rw [Nat.mul_comm] at h2
  constructor <;> intro h <;> omega
theorem lost_iff (a c : Nat) (ha : a < M) : (!decide (a / P2 c * P2 c % M = a)) = decide (a % P2 c ≠ 0) := by
  have := back_iff a c ha
  by_cases h : a % P2 c = 0
  · rw [decide_eq_true (this.2 h), decide_eq_false (fun e => e h)]; rfl
  · rw [decide_eq_false (fun e => h (this.1 e)), decide_eq_true h]; rfl
end Go.Proofs.YtegmmaaapdgocaaGreat

/- A REGION THAT DRAWS ITS ORDER AND ENDS IN STORES: all operations but the last few read, or call functions that make memory of their own; the last few come in one order, behind all others. One walk of the order of the text serves every order. (The library has this for operations that leave the very world alone; here the world is one of a class.) -/
namespace Go.Proofs.YtegmmaaapdgocaaGreat
open Go Go.RowKit
section
variable {P : Program} {ops : Array Oper} {md : Region.Mode} {C : World → Prop}

/-- f operations below n come up in whatever order, each quiet in the class; then L. -/
def headQ (P : Program) (md : Region.Mode) (ops : Array Oper) (C : World → Prop) (n : Nat) (L : Array Bool → Act → Prop) : Nat → Array Bool → Act → Prop
  | 0, listed, a => L listed a
  | f + 1, listed, a => Region.ready md ops listed ≠ [] ∧ ∀ i ∈ Region.ready md ops listed, i < n ∧ qOp P ops C i (headQ P md ops C n L f (listed.setIfInBounds i true)) a

theorem headQ_wp {n g : Nat} {L : Array Bool → Act → Prop} {Q : Exit → Act → World → Prop} (hL : ∀ listed a, L listed a → ∀ w, C w → wpAny P md ops Q g listed a w) :
    ∀ (f : Nat) (listed : Array Bool) (a : Act), headQ P md ops C n L f listed a → ∀ w, C w → wpAny P md ops Q (f + g) listed a w := by
  intro f
  induction f with
  | zero => intro listed a h w hw; rw [Nat.zero_add]; exact hL _ _ h w hw
  | succ f ih =>
    intro listed a h w hw
    rw [show f + 1 + g = (f + g) + 1 by omega]
    exact ⟨fun h0 => absurd h0 h.1, fun i hi => wpOp_of_qOp hw (fun a' w' hw' h' => ih _ _ h' w' hw') (h.2 i hi).2⟩

theorem headQ_first {n i : Nat} {oi : Oper} {v : Value} {L : Array Bool → Act → Prop} (hi : ops[i]? = some oi) (hsel : ∀ (j : Nat) (o : Oper) cs b, ops[j]? = some o → o.op ≠ .select cs b)
    (hs : Region.sinkB md ops n = true) (hc : Region.chainB md ops n = true) (hn : n < ops.size) (hin : i < n) (hdone : ∀ listed a, L listed a → ∀ j ∈ Region.ready md ops listed, n ≤ j) :
    ∀ (f : Nat) (listed : Array Bool) (a : Act), HeadInv md ops n listed →
      (∀ j oj, ops[j]? = some oj → j ≠ i → listed.getD j true = false → (∀ e ∈ oj.after, Region.binds md e = true → e.on ≠ i) → oi.apart ops oj = true) →
      i ∈ Region.ready md ops listed → YieldsIn P ops C oi v a → headQ P md ops C n L f (listed.setIfInBounds i true) (a.put oi.dst v) → headQ P md ops C n L (f + 1) listed a := by
  intro f
  induction f with
  | zero =>
    intro listed a inv _ hr hy H
    have hun := (mem_ready.1 hr).1
    refine ⟨fun h => (by rw [h] at hr; cases hr), fun j hj => ?_⟩
    have hjn : j < n := Nat.lt_of_not_le fun h => tail_waits hs hc hn inv _ i rfl hin hun j h hj
    refine ⟨hjn, ?_⟩
    by_cases hji : j = i
    · subst hji
      exact hy.qOp hi H
    · have := hdone _ _ H j (ready_mono hj hji)
      omega
  | succ f ih =>
    intro listed a inv hfree hr hy H
    have hun := (mem_ready.1 hr).1
    refine ⟨fun h => (by rw [h] at hr; cases hr), fun j hj => ?_⟩
    have hjn : j < n := Nat.lt_of_not_le fun h => tail_waits hs hc hn inv _ i rfl hin hun j h hj
    refine ⟨hjn, ?_⟩
    by_cases hji : j = i
    · subst hji
      exact hy.qOp hi H
    · have h1 := (H.2 j (ready_mono hj hji)).2
      obtain ⟨hjun, oj, hoj, hall⟩ := mem_ready.1 hj
      have hnot : ∀ e ∈ oj.after, Region.binds md e = true → e.on ≠ i := fun e he hb heq => by
        have h1 := hall e he hb
        rw [heq, getD_both hun] at h1
        cases h1
      have h2 := qOp_put hoj (hfree j oj hoj hji hjun hnot) (fun cs b => hsel i oi cs b hi) (fun cs b => hsel j oj cs b hoj) hy h1
      have hfree' : ∀ k ok, ops[k]? = some ok → k ≠ i → (listed.setIfInBounds j true).getD k true = false → (∀ e ∈ ok.after, Region.binds md e = true → e.on ≠ i) → oi.apart ops ok = true := fun k ok hk hki hun hno => by
        refine hfree k ok hk hki ?_ hno
        by_cases hjk : j = k
        · subst hjk; exact hjun
        · rw [getD_set_ne true hjk] at hun; exact hun
      refine qOp_mono (fun a' h3 => ih (listed.setIfInBounds j true) a' (inv.set hj hjn) hfree' (ready_mono hr (Ne.symm hji)) h3.1 ?_) h2
      rw [Array.setIfInBounds_comm _ _ hji]
      exact h3.2

theorem headQ_lex {n g : Nat} {Lq : Act → Prop} (hsel : Region.noSelect ops = true) (hs : Region.sinkB md ops n = true) (hc : Region.chainB md ops n = true) (hn : n < ops.size) :
    ∀ (l : List Oper) (k : Nat) (listed : Array Bool) (a : Act), (∀ j, j < l.length → l[j]? = ops[k + j]?) → k + l.length = n → HeadInv md ops n listed → Region.lexHead md ops g l.length k listed = true → wpQuiet P ops C Lq l a →
    headQ P md ops C n (fun listed' a' => Region.seqB md ops g n listed' = true ∧ Lq a') l.length listed a := by
  intro l
  induction l with
  | nil =>
    intro k listed a _ hk _ hB h
    obtain rfl : k = n := by simpa using hk
    exact ⟨by simpa [Region.lexHead] using hB, h⟩
  | cons o l ih =>
    intro k listed a hl hk inv hB h
    have h0 : ops[k]? = some o := by simpa using (hl 0 (by simp)).symm
    simp only [List.length_cons, Region.lexHead, Bool.and_eq_true] at hB
    obtain ⟨⟨hr, hf⟩, hB'⟩ := hB
    simp only [List.length_cons] at hk
    have hr' : k ∈ Region.ready md ops listed := by simpa using hr
    have hst : qOp P ops C k (wpQuiet P ops C Lq l) a := by unfold qOp; simp only [h0]; exact h
    obtain ⟨v, hy, hK⟩ := yieldsIn_of_qOp h0 hst
    exact headQ_first h0 (Region.noSelect_spec hsel) hs hc hn (by omega) (fun listed' a' hL => seqB_ready hL.1) l.length listed a inv (Region.free_spec h0 hf) hr' hy
      (ih (k + 1) _ _ (fun j hj => by have := hl (j + 1) (by simp; omega); simpa [Nat.add_assoc, Nat.add_comm 1 j] using this) (by omega) (inv.set hr' (by omega)) hB' hK)

/-- n operations that read or call, then a tail in one order. -/
theorem wp_region_ext_tail {id : Nat} {Q : Exit → Act → World → Prop} {a : Act} {w : World} {l : List Oper} (n B : Nat) (hm : P.follows .mixedOrders = true) (hB : Region.lexTailB .any l.toArray n = true)
    (h : wpQuiet P l.toArray (fun w' => ∃ x : Ext B w, w' = x.val) (fun a' => ∀ w', Below B w w' → wpList P l.toArray Q (l.drop n) a' w') (l.take n) a) : (Code.region id l.toArray true).wp P Q a w := by
  simp only [Region.lexTailB, Bool.and_eq_true, decide_eq_true_eq] at hB
  obtain ⟨⟨⟨⟨hsel, hn⟩, hs⟩, hc⟩, hlex⟩ := hB
  have hn' : n < l.length := by simpa using hn
  have htl : (l.take n).length = n := by simp; omega
  have hdl : (l.drop n).length = l.toArray.size - n := by simp
  have inv0 : HeadInv .any l.toArray n (Array.replicate l.toArray.size false) :=
    ⟨by simp, fun j oj _ hl => (by rw [getD_replicate_false] at hl; cases hl), fun t _ ht => getD_in (by simpa using ht) (getD_replicate_false _ _)⟩
  have H := headQ_lex (C := fun w' => ∃ x : Ext B w, w' = x.val) (md := .any) (g := l.toArray.size - n) hsel hs hc hn (l.take n) 0 _ a (fun j hj => by
    have hj' : j < n := by rw [htl] at hj; exact hj
    simp [hj']) (by simpa using htl) inv0 (by rw [htl]; exact hlex) h
  refine wp_region_any hm ?_
  have key := headQ_wp (C := fun w' => ∃ x : Ext B w, w' = x.val) (Q := Q) (g := l.toArray.size - n) (fun listed a' hL w' hw' => by
    obtain ⟨x, rfl⟩ := hw'
    have := wpAny_of_seq (P := P) (md := .any) (Q' := Q) (l.drop n) n listed a' x.val (fun j => by simp [List.getElem?_drop]) (by rw [hdl]; exact hL.1) (hL.2 _ x.property)
    rwa [hdl] at this) _ _ _ H { w with drawn := w.drawn + 1 } ⟨⟨_, (Below.refl B w).drew⟩, rfl⟩
  rw [htl, show n + (l.toArray.size - n) = l.toArray.size by omega] at key
  exact key
end
end Go.Proofs.YtegmmaaapdgocaaGreat
