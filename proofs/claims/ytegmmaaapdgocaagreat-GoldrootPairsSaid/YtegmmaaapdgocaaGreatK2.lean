/- SEVERAL TEXTS of the seat, one behind the other: each says at its head what it proves. -/
import Derived.Test.YtegmmaaapdgocaaGreatK1
import Derived.StillTail
import Derived.Test.YtegmmaaapdgocaaGreatRows
/- A REGION THAT DRAWS ITS ORDER AND STORES INTO BLOCKS OF THE CALL's OWN, at whatever place of the order ('return out, f(out) != a': the store of the first result may come before or behind the second's reckoning). One walk in the order of the text serves every order: the stores are passed over; behind the region each block that is stored into holds what the last frame says. What is asked: no two operations that may change places touch one temporary (the library's own Bool), the stores' addresses are laid ahead of the region, each stored value is made by operations that its store waits for, and nothing in the region reads the blocks that are stored into. -/
namespace Go.Proofs.YtegmmaaapdgocaaGreat
open Go Go.RowKit

def isStore (o : Oper) : Bool := match o.op with | .store _ _ _ => true | _ => false
/-- A block that is stored into, its type, and the operand that is stored. -/
structure Aim where
  block : Nat
  type : TypeId
  val : Operand
/-- The worlds that came of w: below B all but the blocks of R is as it was; those are still cells, of as many. -/
structure ExtR (B : Nat) (R : List Aim) (w : World) : Type where
  val : World
  os : val.os = w.os
  tape : val.tape = w.tape
  output : val.output = w.output
  size : w.heap.size ≤ val.heap.size
  block : ∀ k, k < B → (∀ r ∈ R, k ≠ r.block) → val.heap[k]? = w.heap[k]?
def ExtR.self (B : Nat) (R : List Aim) (w : World) : ExtR B R w := ⟨w, rfl, rfl, rfl, Nat.le_refl _, fun _ _ _ => rfl⟩
instance (B : Nat) (R : List Aim) (w : World) : Nonempty (ExtR B R w) := ⟨ExtR.self B R w⟩
/-- A value of so many cells, each of which is one. -/
def Fits (P : Program) (v : Value) (t : TypeId) : Prop := (P.info? t).map (·.size) = some v.cells.size ∧ v.cells.all (·.oneCell') = true

section
variable {P : Program} {ops : Array Oper} {md : Region.Mode} {C : World → Prop}
def Oper.calm (P : Program) (o : Oper) (a : Act) (C : World → Prop) (next : Act → Prop) : Prop := ∃ v, (∀ w, C w → Oper.quietUpon P (Below w.heap.size w) w v ((execOp a.eval o).run P w)) ∧ next (a.put o.dst v)
def wpCalm (P : Program) (ops : Array Oper) (C : World → Prop) (Q : Act → Prop) : List Oper → Act → Prop
  | [], a => Q a
  | o :: rest, a => if isStore o = true then wpCalm P ops C Q rest a else if Region.wanted o (yielded ops a.tmps) then Oper.calm P o a C (wpCalm P ops C Q rest) else wpCalm P ops C Q rest (a.put o.dst undef)
def cOp (P : Program) (ops : Array Oper) (C : World → Prop) (i : Nat) (K : Act → Prop) (a : Act) : Prop :=
  match ops[i]? with
  | none => K a
  | some o => if isStore o = true then K a else if Region.wanted o (yielded ops a.tmps) then Oper.calm P o a C K else K (a.put o.dst undef)
theorem Oper.calm_mono {o : Oper} {a : Act} {K K' : Act → Prop} (h : ∀ a, K a → K' a) (hh : Oper.calm P o a C K) : Oper.calm P o a C K' :=
  let ⟨v, h1, h2⟩ := hh
  ⟨v, h1, h _ h2⟩
theorem cOp_mono {i : Nat} {a : Act} {K K' : Act → Prop} (h : ∀ a, K a → K' a) (hh : cOp P ops C i K a) : cOp P ops C i K' a := by
  unfold cOp at *
  cases ho : ops[i]? with
  | none => simp only [ho] at hh ⊢; exact h _ hh
  | some o =>
    simp only [ho] at hh ⊢
    split
    · rename_i hs; simp only [hs, if_true] at hh; exact h _ hh
    · rename_i hs
      simp only [hs] at hh
      split
      · rename_i hw; simp only [hw, if_true] at hh; exact Oper.calm_mono h hh
      · rename_i hw; simp only [hw] at hh; exact h _ hh
def anyC (P : Program) (md : Region.Mode) (ops : Array Oper) (C : World → Prop) (Q : Act → Prop) : Nat → Array Bool → Act → Prop
  | 0, listed, a => Region.ready md ops listed = [] ∧ Q a
  | fuel + 1, listed, a => (Region.ready md ops listed = [] → Q a) ∧ ∀ i ∈ Region.ready md ops listed, cOp P ops C i (anyC P md ops C Q fuel (listed.setIfInBounds i true)) a
/-- In state a operation o leaves v in its temporary (a store: nothing). -/
def YieldsC (P : Program) (ops : Array Oper) (C : World → Prop) (o : Oper) (v : Value) (a : Act) : Prop :=
  (isStore o = true ∧ o.dst = none) ∨
  (isStore o = false ∧ Region.wanted o (yielded ops a.tmps) = true ∧ ∀ w, C w → Oper.quietUpon P (Below w.heap.size w) w v ((execOp a.eval o).run P w)) ∨
  (isStore o = false ∧ Region.wanted o (yielded ops a.tmps) = false ∧ v = undef)
theorem YieldsC.cOp {i : Nat} {o : Oper} {v : Value} {a : Act} (hi : ops[i]? = some o) (hy : YieldsC P ops C o v a) {K : Act → Prop} (h : K (a.put o.dst v)) : cOp P ops C i K a := by
  unfold Proofs.YtegmmaaapdgocaaGreat.cOp
  simp only [hi]
  rcases hy with ⟨hs, hd⟩ | ⟨hs, hw, hv⟩ | ⟨hs, hw, rfl⟩
  · rw [if_pos hs]
    rw [hd] at h
    exact h
  · rw [if_neg (by rw [hs]; exact Bool.false_ne_true), if_pos hw]
    exact ⟨v, hv, h⟩
  · rw [if_neg (by rw [hs]; exact Bool.false_ne_true), if_neg (by rw [hw]; exact Bool.false_ne_true)]
    exact h
theorem YieldsC.of_same {o : Oper} {v : Value} {a a' : Act} (hy : YieldsC P ops C o v a) (he : execOp a'.eval o = execOp a.eval o)
    (hw : Region.wanted o (yielded ops a'.tmps) = Region.wanted o (yielded ops a.tmps)) : YieldsC P ops C o v a' := by
  unfold YieldsC at *
  rw [he, hw]
  exact hy
theorem yieldsC_of_cOp {i : Nat} {o : Oper} {a : Act} {K : Act → Prop} (hi : ops[i]? = some o) (hst : isStore o = true → o.dst = none) (h : cOp P ops C i K a) : ∃ v, YieldsC P ops C o v a ∧ K (a.put o.dst v) := by
  unfold cOp at h
  simp only [hi] at h
  by_cases hs : isStore o = true
  · rw [if_pos hs] at h
    exact ⟨undef, .inl ⟨hs, hst hs⟩, by rw [hst hs]; exact h⟩
  · rw [if_neg hs] at h
    have hs' : isStore o = false := by simpa using hs
    by_cases hw : Region.wanted o (yielded ops a.tmps) = true
    · rw [if_pos hw] at h
      obtain ⟨v, h1, h2⟩ := h
      exact ⟨v, .inr (.inl ⟨hs', hw, h1⟩), h2⟩
    · rw [if_neg hw] at h
      exact ⟨undef, .inr (.inr ⟨hs', by simpa using hw, rfl⟩), h⟩
theorem cOp_put {j : Nat} {oi oj : Oper} {v : Value} (hj : ops[j]? = some oj) (hap : oi.apart ops oj = true) (hsi : ∀ cs b, oi.op ≠ .select cs b) (hsj : ∀ cs b, oj.op ≠ .select cs b) {K : Act → Prop} {a : Act}
    (hy : YieldsC P ops C oi v a) (h : cOp P ops C j K (a.put oi.dst v)) : cOp P ops C j (fun a' => YieldsC P ops C oi v a' ∧ K (a'.put oi.dst v)) a := by
  obtain ⟨h1, h2, h3⟩ := Oper.apart_spec hap
  have keep : ∀ (a : Act), YieldsC P ops C oi v a → ∀ u, YieldsC P ops C oi v (a.put oj.dst u) := fun a hy u =>
    hy.of_same (execOp_put oi hsi a oj.dst u h3) (wanted_put oi a oj.dst u h3)
  unfold cOp at *
  simp only [hj] at *
  rw [wanted_put oj a oi.dst v h1] at h
  by_cases hs : isStore oj = true
  · rw [if_pos hs] at h ⊢
    exact ⟨hy, h⟩
  · rw [if_neg hs] at h ⊢
    by_cases hw : Region.wanted oj (yielded ops a.tmps) = true
    · rw [if_pos hw] at h ⊢
      obtain ⟨u, hu, hn⟩ := h
      refine ⟨u, fun w hw' => ?_, keep a hy u, by rw [← Act.put_comm a v u h2]; exact hn⟩
      have := hu w hw'
      rwa [execOp_put oj hsj a oi.dst v h1] at this
    · rw [if_neg hw] at h ⊢
      exact ⟨keep a hy _, by rw [← Act.put_comm a v undef h2]; exact h⟩
theorem anyC_first {Q : Act → Prop} {i : Nat} {oi : Oper} {v : Value} (hi : ops[i]? = some oi) (hsel : ∀ (j : Nat) (o : Oper) cs b, ops[j]? = some o → o.op ≠ .select cs b) :
    ∀ (fuel : Nat) (listed : Array Bool) (a : Act), (∀ j oj, ops[j]? = some oj → j ≠ i → listed.getD j true = false → (∀ e ∈ oj.after, Region.binds md e = true → e.on ≠ i) → oi.apart ops oj = true) →
      i ∈ Region.ready md ops listed → YieldsC P ops C oi v a → anyC P md ops C Q fuel (listed.setIfInBounds i true) (a.put oi.dst v) → anyC P md ops C Q (fuel + 1) listed a := by
  intro fuel
  induction fuel with
  | zero =>
    intro listed a _ hr hy H
    refine ⟨fun h => (by rw [h] at hr; cases hr), fun j hj => ?_⟩
    by_cases hji : j = i
    · subst hji
      exact hy.cOp hi H
    · have := ready_mono hj hji
      rw [H.1] at this
      cases this
  | succ fuel ih =>
    intro listed a hfree hr hy H
    refine ⟨fun h => (by rw [h] at hr; cases hr), fun j hj => ?_⟩
    by_cases hji : j = i
    · subst hji
      exact hy.cOp hi H
    · have h1 := H.2 j (ready_mono hj hji)
      obtain ⟨hjun, oj, hoj, hall⟩ := mem_ready.1 hj
      have hun := (mem_ready.1 hr).1
      have hnot : ∀ e ∈ oj.after, Region.binds md e = true → e.on ≠ i := fun e he hb heq => by
        have h1 := hall e he hb
        rw [heq, getD_both hun] at h1
        cases h1
      have h2 := cOp_put hoj (hfree j oj hoj hji hjun hnot) (fun cs b => hsel i oi cs b hi) (fun cs b => hsel j oj cs b hoj) hy h1
      have hfree' : ∀ k ok, ops[k]? = some ok → k ≠ i → (listed.setIfInBounds j true).getD k true = false → (∀ e ∈ ok.after, Region.binds md e = true → e.on ≠ i) → oi.apart ops ok = true := fun k ok hk hki hun hno => by
        refine hfree k ok hk hki ?_ hno
        by_cases hjk : j = k
        · subst hjk; exact hjun
        · rw [getD_set_ne true hjk] at hun; exact hun
      refine cOp_mono (fun a' h3 => ih (listed.setIfInBounds j true) a' hfree' (ready_mono hr (Ne.symm hji)) h3.1 ?_) h2
      rw [Array.setIfInBounds_comm _ _ hji]
      exact h3.2
theorem anyC_lex {Q : Act → Prop} (hs : Region.noSelect ops = true) (hst : ∀ o ∈ ops.toList, isStore o = true → o.dst = none) : ∀ (l : List Oper) (k : Nat) (listed : Array Bool) (a : Act), (∀ j, l[j]? = ops[k + j]?) →
    Region.lexFrom md ops l.length k listed = true → wpCalm P ops C Q l a → anyC P md ops C Q l.length listed a := by
  intro l
  induction l with
  | nil => intro k listed a _ hB h; exact ⟨by simpa [Region.lexFrom] using hB, h⟩
  | cons o l ih =>
    intro k listed a hl hB h
    have h0 : ops[k]? = some o := by simpa using (hl 0).symm
    simp only [List.length_cons, Region.lexFrom, Bool.and_eq_true] at hB
    obtain ⟨⟨hr, hf⟩, hB'⟩ := hB
    have hcop : cOp P ops C k (wpCalm P ops C Q l) a := by unfold cOp; simp only [h0]; exact h
    obtain ⟨v, hy, hK⟩ := yieldsC_of_cOp h0 (hst o (by rw [← Array.getElem?_toList] at h0; exact List.mem_of_getElem? h0)) hcop
    exact anyC_first h0 (Region.noSelect_spec hs) l.length listed a (Region.free_spec h0 hf) (by simpa using hr) hy
      (ih (k + 1) _ _ (fun j => by have := hl (j + 1); simpa [Nat.add_assoc, Nat.add_comm 1 j] using this) hB' hK)

/-- Each operation that makes the operand has come up. -/
def Ripe (ops : Array Oper) (listed : Array Bool) (x : Operand) : Prop := ∀ (j : Nat) (o : Oper) (d : Tmp), ops[j]? = some o → o.dst = some d → x = .tmp d → listed.getD j true = true
theorem Ripe.put {listed : Array Bool} {x : Operand} {i : Nat} {o : Oper} {a : Act} {v : Value} (h : Ripe ops listed x) (hi : ops[i]? = some o) (hu : listed.getD i true = false) : (a.put o.dst v).eval x = a.eval x := by
  refine Act.eval_put fun d hd hx => ?_
  have := h i o d hi hd hx
  rw [hu] at this
  cases this
theorem getD_set_t {listed : Array Bool} {i j : Nat} (h : listed.getD j true = true) : (listed.setIfInBounds i true).getD j true = true := by
  by_cases hij : i = j
  · subst hij
    by_cases hlt : i < listed.size <;> simp [hlt]
  · rw [getD_set_ne true hij]; exact h
theorem Ripe.set {listed : Array Bool} {x : Operand} (h : Ripe ops listed x) (i : Nat) : Ripe ops (listed.setIfInBounds i true) x := fun j o d hj hd hx => getD_set_t (h j o d hj hd hx)
/-- What the end says of a ripe operand holds of it now. -/
theorem good_now {Q : Act → Prop} {x : Operand} {G : Value → Prop} (hst : ∀ o ∈ ops.toList, isStore o = true → o.dst = none) (hQ : ∀ a, Q a → G (a.eval x)) : ∀ (fuel : Nat) (listed : Array Bool) (a : Act), anyC P md ops C Q fuel listed a → Ripe ops listed x → G (a.eval x) := by
  intro fuel
  induction fuel with
  | zero => intro listed a h _; exact hQ _ h.2
  | succ fuel ih =>
    intro listed a h hr
    cases hl : Region.ready md ops listed with
    | nil => exact hQ _ (h.1 hl)
    | cons i rest =>
      have hi : i ∈ Region.ready md ops listed := by rw [hl]; exact List.mem_cons_self ..
      have h1 := h.2 i hi
      obtain ⟨hun, o, ho, _⟩ := mem_ready.1 hi
      obtain ⟨v, _, hK⟩ := yieldsC_of_cOp ho (hst o (by rw [← Array.getElem?_toList] at ho; exact List.mem_of_getElem? ho)) h1
      have := ih _ _ hK (hr.set i)
      rwa [hr.put ho hun] at this

/-- The stores of a region: each is aimed at a block of R, at an address that lies ready, waits for what makes its value, and is no two. -/
structure Aimed (md : Region.Mode) (ops : Array Oper) (R : List Aim) (a : Act) : Prop where
  store : ∀ (i : Nat) (o : Oper), ops[i]? = some o → isStore o = true → o.dst = none ∧ o.guard = none ∧ ∃ T p x r, o.op = .store T p x ∧ a.eval p = .pointer (some ⟨r, 0, none⟩) ∧ (⟨r, T, x⟩ : Aim) ∈ R ∧
    (∀ (j : Nat) (oj : Oper) d, ops[j]? = some oj → oj.dst = some d → p ≠ .tmp d) ∧
    (∀ (j : Nat) (oj : Oper) d, ops[j]? = some oj → oj.dst = some d → x = .tmp d → ∃ e ∈ o.after, Region.binds md e = true ∧ e.on = j) ∧
    (∀ (j : Nat) (oj : Oper), ops[j]? = some oj → isStore oj = true → j ≠ i → ∀ T' p' x', oj.op = .store T' p' x' → a.eval p' ≠ .pointer (some ⟨r, 0, none⟩))
  all : ∀ r ∈ R, ∃ (i : Nat) (o : Oper) (p : Operand), ops[i]? = some o ∧ o.op = .store r.type p r.val ∧ a.eval p = .pointer (some ⟨r.block, 0, none⟩)

theorem below_ext {B : Nat} {R : List Aim} {w : World} (hB : B ≤ w.heap.size) (x : ExtR B R w) {w' : World} (h : Below x.val.heap.size x.val w') : ∃ y : ExtR B R w, y.val = w' :=
  ⟨⟨w', h.os.trans x.os, h.tape.trans x.tape, h.output.trans x.output, Nat.le_trans x.size h.size, fun k hk hr => (h.block k (Nat.lt_of_lt_of_le hk (Nat.le_trans hB x.size))).trans (x.block k hk hr)⟩, rfl⟩

/-- The state's law: of the stores that have come up, the block holds what the frame says, and the value is ripe; the blocks of the others are cells of the right number. -/
structure Kept (P : Program) (ops : Array Oper) (B : Nat) (R : List Aim) (w0 : World) (a0 : Act) (listed : Array Bool) (a : Act) (w : World) : Prop where
  ext : ∃ x : ExtR B R w0, x.val = w
  addr : ∀ (i : Nat) (o : Oper) T p y, ops[i]? = some o → o.op = .store T p y → a.eval p = a0.eval p
  cells : ∀ r ∈ R, ∃ cs, w.heap[r.block]? = some (.cells cs r.type (0, 0)) ∧ (P.info? r.type).map (·.size) = some cs.size
  done : ∀ (i : Nat) (o : Oper) T p y r, ops[i]? = some o → o.op = .store T p y → a0.eval p = .pointer (some ⟨r, 0, none⟩) → listed.getD i true = true → Ripe ops listed y ∧ w.heap[r]? = some (.cells (a.eval y).cells T (0, 0))

theorem store_run {a : Act} {o : Oper} {T : TypeId} {p x : Operand} {r : Nat} {w : World} {cs : Array Value} (ho : o.op = .store T p x) (hp : a.eval p = .pointer (some ⟨r, 0, none⟩))
    (hc : w.heap[r]? = some (.cells cs T (0, 0))) (hs : (P.info? T).map (·.size) = some cs.size) (hf : Fits P (a.eval x) T) : (execOp a.eval o).run P w = .ok .skip (w.setRow r (a.eval x).cells) := by
  obtain ⟨h1, h2⟩ := hf
  have hsz : cs.size = (a.eval x).cells.size := by rw [hs] at h1; simpa using h1
  have hrun : (storeVar T ⟨r, 0, none⟩ (a.eval x)).run P w = .ok () (w.setRow r (a.eval x).cells) := by
    have hcell : (storeCells ⟨r, 0, none⟩ (a.eval x).cells.toList).run P w = .ok () (w.setRow r (a.eval x).cells) := by
      have := run_storeCells_from (P := P) r T (a.eval x).cells.toList 0 cs w hc (by simp [hsz]) (by
        intro v hv
        rw [Array.all_eq_true'] at h2
        exact h2 v (by simpa using hv))
      simpa using this
    cases hq : P.info? T with
    | none => simp [hq] at h1
    | some inf =>
      have hs' : (a.eval x).cells.size = inf.size := by simp [hq] at h1; omega
      simp [storeVar, sizeOf, typeInfo, hq, hs', hcell]
  unfold execOp
  simp [ho, hp, Instr.storeAt, Instr.sureAddr, hrun]

theorem anyC_wp {B : Nat} {R : List Aim} {w0 : World} {a0 : Act} {Q : Exit → Act → World → Prop} (hB : B ≤ w0.heap.size)
    (hA : Aimed md ops R a0) :
    ∀ (fuel : Nat) (listed : Array Bool) (a : Act) (w : World), Kept P ops B R w0 a0 listed a w →
    anyC P md ops (fun w' => ∃ x : ExtR B R w0, w' = x.val) (fun a' => (∀ r ∈ R, Fits P (a'.eval r.val) r.type) ∧ ∀ x : ExtR B R w0, (∀ r ∈ R, x.val.heap[r.block]? = some (.cells (a'.eval r.val).cells r.type (0, 0))) → Q .normal a' x.val) fuel listed a →
    (∀ listed', Region.ready md ops listed' = [] → (∀ j, listed.getD j true = true → listed'.getD j true = true) → listed'.size = ops.size → ∀ (i : Nat) (o : Oper), ops[i]? = some o → listed'.getD i true = true) → listed.size = ops.size →
    wpAny P md ops Q fuel listed a w := by
  have hst : ∀ o ∈ ops.toList, isStore o = true → o.dst = none := by
    intro o ho hs
    obtain ⟨i, hi⟩ := List.getElem?_of_mem ho
    rw [Array.getElem?_toList] at hi
    exact (hA.store i o hi hs).1
  have fin : ∀ (listed : Array Bool) (a : Act) (w : World), Kept P ops B R w0 a0 listed a w → Region.ready md ops listed = [] → listed.size = ops.size →
      (∀ listed', Region.ready md ops listed' = [] → (∀ j, listed.getD j true = true → listed'.getD j true = true) → listed'.size = ops.size → ∀ (i : Nat) (o : Oper), ops[i]? = some o → listed'.getD i true = true) →
      ((∀ r ∈ R, Fits P (a.eval r.val) r.type) ∧ ∀ x : ExtR B R w0, (∀ r ∈ R, x.val.heap[r.block]? = some (.cells (a.eval r.val).cells r.type (0, 0))) → Q .normal a x.val) → Q .normal a w := by
    intro listed a w hk hr hsz hall ⟨_, hq⟩
    obtain ⟨x, rfl⟩ := hk.ext
    refine hq x fun r hr' => ?_
    obtain ⟨i, o, p, hi, hop, hp⟩ := hA.all r hr'
    exact (hk.done i o _ _ _ _ hi hop hp (hall listed hr (fun _ h => h) hsz i o hi)).2
  intro fuel
  induction fuel with
  | zero => intro listed a w hk h hall hsz; exact ⟨h.1, fin listed a w hk h.1 hsz hall h.2⟩
  | succ fuel ih =>
    intro listed a w hk h hall hsz
    refine ⟨fun h0 => fin listed a w hk h0 hsz hall (h.1 h0), fun i hi => ?_⟩
    have h1 := h.2 i hi
    obtain ⟨hun, o, ho, hready⟩ := mem_ready.1 hi
    have hall' : ∀ listed', Region.ready md ops listed' = [] → (∀ j, (listed.setIfInBounds i true).getD j true = true → listed'.getD j true = true) → listed'.size = ops.size → ∀ (i : Nat) (o : Oper), ops[i]? = some o → listed'.getD i true = true :=
      fun listed' hr hm hs => hall listed' hr (fun j hj => hm j (getD_set_t hj)) hs
    have hsz' : (listed.setIfInBounds i true).size = ops.size := by simpa using hsz
    -- what is kept when a temporary is filled, and the world grows
    have keep : ∀ (v : Value) (w' : World), isStore o = false → (∃ x : ExtR B R w0, x.val = w') → (∀ k, k < w.heap.size → w'.heap[k]? = w.heap[k]?) → Kept P ops B R w0 a0 (listed.setIfInBounds i true) (a.put o.dst v) w' := by
      intro v w' hs hx hb
      have hrs : ∀ r ∈ R, r.block < w.heap.size := fun r hr => by obtain ⟨cs, hc, _⟩ := hk.cells r hr; exact lt_of_heap hc
      refine ⟨hx, ?_, ?_, ?_⟩
      · intro j oj T p y hj hop
        have hsj : isStore oj = true := by unfold isStore; rw [hop]
        obtain ⟨_, _, T', p', x', r', hop', _, _, hp', _⟩ := hA.store j oj hj hsj
        rw [hop] at hop'
        obtain ⟨rfl, rfl, rfl⟩ := Op.store.inj hop'
        rw [Act.eval_put (fun d hd hx => hp' i o d ho hd hx)]
        exact hk.addr j oj T p y hj hop
      · intro r hr
        obtain ⟨cs, hc, hcs⟩ := hk.cells r hr
        exact ⟨cs, (hb _ (hrs r hr)).trans hc, hcs⟩
      · intro j oj T p y r hj hop hp hl
        by_cases hij : i = j
        · subst hij
          rw [ho] at hj
          obtain rfl := Option.some.inj hj
          exfalso
          unfold isStore at hs
          rw [hop] at hs
          cases hs
        · rw [getD_set_ne true hij] at hl
          obtain ⟨h3, h4⟩ := hk.done j oj T p y r hj hop hp hl
          exact ⟨h3.set i, by rw [h3.put ho hun]; exact (hb r (lt_of_heap h4)).trans h4⟩
    unfold wpOp
    unfold cOp at h1
    simp only [ho] at h1 ⊢
    by_cases hs : isStore o = true
    · rw [if_pos hs] at h1
      obtain ⟨hd, hg, T, p, x, r, hop, hp, hr, hpd, hxd, hone⟩ := hA.store i o ho hs
      have hwant : Region.wanted o (yielded ops a.tmps) = true := by unfold Region.wanted; rw [hg]
      rw [if_pos hwant]
      have hripe : Ripe ops listed x := fun j oj d hj hdj hx => by
        obtain ⟨e, he, hbi, hon⟩ := hxd j oj d hj hdj hx
        have := hready e he hbi
        rw [hon] at this
        by_cases hlt : j < listed.size
        · simp [hlt] at this ⊢; exact this
        · simp [hlt] at this
      have hfit : Fits P (a.eval x) T := good_now (G := fun v => Fits P v T) hst (fun a' hq => hq.1 _ hr) fuel _ a h1 (hripe.set i)
      obtain ⟨cs, hc, hcs⟩ := hk.cells _ hr
      have hp' : a.eval p = .pointer (some ⟨r, 0, none⟩) := by rw [hk.addr i o T p x ho hop]; exact hp
      refine .inl ?_
      unfold Oper.wp
      rw [store_run hop hp' hc hcs hfit]
      simp only [Oper.upon]
      rw [hd]
      show wpAny P md ops Q fuel _ a _
      refine ih _ _ _ ?_ h1 hall' hsz'
      refine ⟨?_, hk.addr, ?_, ?_⟩
      · obtain ⟨y, hy⟩ := hk.ext
        subst hy
        exact ⟨⟨y.val.setRow r (a.eval x).cells, y.os, y.tape, y.output, by simpa using y.size, fun k hk' hkr => by rw [setRow_other _ _ _ _ (hkr _ hr)]; exact y.block k hk' hkr⟩, rfl⟩
      · intro r' hr'
        obtain ⟨cs', hc', hcs'⟩ := hk.cells _ hr'
        by_cases he : r'.block = r
        · refine ⟨(a.eval x).cells, ?_, ?_⟩
          · rw [he] at hc' ⊢
            have ht : r'.type = T := by
              simp only at hc
              rw [hc] at hc'
              simp only [Option.some.injEq, Obj.cells.injEq] at hc'
              exact hc'.2.1.symm
            rw [ht]
            exact setRow_heap w r cs _ T (0, 0) hc
          · have ht : r'.type = T := by
              rw [he] at hc'
              simp only at hc
              rw [hc] at hc'
              simp only [Option.some.injEq, Obj.cells.injEq] at hc'
              exact hc'.2.1.symm
            rw [ht]
            exact hfit.1
        · exact ⟨cs', by rw [setRow_other _ _ _ _ he]; exact hc', hcs'⟩
      · intro j oj T' p' y' r' hj hop' hp'' hl
        by_cases hij : i = j
        · subst hij
          rw [ho] at hj
          obtain rfl := Option.some.inj hj
          rw [hop] at hop'
          obtain ⟨rfl, rfl, rfl⟩ := Op.store.inj hop'
          rw [hp] at hp''
          simp only [Value.pointer.injEq, Option.some.injEq, Addr.mk.injEq, and_true] at hp''
          subst hp''
          exact ⟨hripe.set i, setRow_heap w r cs _ T (0, 0) hc⟩
        · rw [getD_set_ne true hij] at hl
          obtain ⟨h3, h4⟩ := hk.done j oj T' p' y' r' hj hop' hp'' hl
          have hne : r' ≠ r := fun e => by
            subst e
            exact hone j oj hj (by unfold isStore; rw [hop']) (Ne.symm hij) T' p' y' hop' hp''
          exact ⟨h3.set i, by rw [setRow_other _ _ _ _ hne]; exact h4⟩
    · rw [if_neg hs] at h1
      have hs' : isStore o = false := by simpa using hs
      by_cases hw : Region.wanted o (yielded ops a.tmps) = true
      · rw [if_pos hw] at h1 ⊢
        obtain ⟨v, hv, hn⟩ := h1
        refine .inl ?_
        obtain ⟨x, hx⟩ := hk.ext
        have h3 := hv w ⟨x, hx.symm⟩
        unfold Oper.wp
        generalize (execOp a.eval o).run P w = res at *
        cases res with
        | ok n w' =>
          cases n <;> simp only [Oper.quietUpon] at h3 <;> simp only [Oper.upon]
          case value u =>
            obtain ⟨rfl, rfl⟩ := h3
            exact ih _ _ _ (keep _ _ hs' ⟨x, hx⟩ (fun _ _ => rfl)) hn hall' hsz'
          case skip =>
            obtain ⟨rfl, rfl⟩ := h3
            exact ih _ _ _ (keep _ _ hs' ⟨x, hx⟩ (fun _ _ => rfl)) hn hall' hsz'
          case enter f args =>
            obtain ⟨rfl, hcall⟩ := h3
            refine hcall.mono fun e w'' ⟨he, hb⟩ => ?_
            subst he
            have hb' : Below x.val.heap.size x.val w'' := by rw [hx]; exact hb
            exact ih _ _ _ (keep _ _ hs' (below_ext hB x hb') (fun k hk' => hb.block k hk')) hn hall' hsz'
        | halt y w' => simp only [Oper.quietUpon] at h3
      · rw [if_neg hw] at h1 ⊢
        exact ih _ _ _ (keep _ _ hs' hk.ext (fun _ _ => rfl)) h1 hall' hsz'

def isTmp (p : Operand) (d : Option Tmp) : Bool := match p, d with | .tmp t, some d => t == d | _, _ => false
theorem isTmp_spec {p : Operand} {d : Option Tmp} (h : isTmp p d = false) : ∀ d', d = some d' → p ≠ .tmp d' := by
  intro d' hd hp
  subst hd hp
  simp [isTmp] at h
/-- What a region's stores must be, by its text alone. -/
def stB (md : Region.Mode) (ops : Array Oper) : Bool :=
  (List.range ops.size).all fun i => match ops[i]? with
    | none => true
    | some o => (o.after.all fun e => !Region.binds md e || decide (e.on < i)) && match o.op with
      | .store _ p x => o.dst.isNone && o.guard.isNone && (List.range ops.size).all fun j => match ops[j]? with
        | none => true
        | some oj => !isTmp p oj.dst && (!isTmp x oj.dst || o.after.any fun e => Region.binds md e && e.on == j)
      | _ => true
/-- Where a region's stores go, by the frame ahead of it. -/
def aims (a : Act) : List Oper → Option (List Aim)
  | [] => some []
  | o :: l => match o.op with
    | .store T p x => match a.eval p, aims a l with
      | .pointer (some ⟨r, 0, none⟩), some R => some (⟨r, T, x⟩ :: R)
      | _, _ => none
    | _ => aims a l
theorem aims_of {a : Act} : ∀ (l : List Oper) (R : List Aim), aims a l = some R →
    (∀ (i : Nat) (o : Oper) T p x, l[i]? = some o → o.op = .store T p x → ∃ r k, a.eval p = .pointer (some ⟨r, 0, none⟩) ∧ R[k]? = some ⟨r, T, x⟩ ∧ k = ((l.take i).filter isStore).length) ∧
    (∀ r ∈ R, ∃ (i : Nat) (o : Oper) (p : Operand), l[i]? = some o ∧ o.op = .store r.type p r.val ∧ a.eval p = .pointer (some ⟨r.block, 0, none⟩)) := by
  intro l
  induction l with
  | nil =>
    intro R h
    simp only [aims, Option.some.injEq] at h
    subst h
    exact ⟨fun i o T p x hi _ => by simp at hi, fun r hr => by cases hr⟩
  | cons o l ih =>
    intro R h
    by_cases hs : isStore o = true
    · obtain ⟨T, p, x, hop⟩ : ∃ T p x, o.op = .store T p x := by
        unfold isStore at hs
        split at hs
        · exact ⟨_, _, _, by assumption⟩
        · cases hs
      unfold aims at h
      simp only [hop] at h
      split at h
      · rename_i r R' hp hR
        simp only [Option.some.injEq] at h
        subst h
        obtain ⟨h1, h2⟩ := ih _ hR
        refine ⟨fun i o' T' p' x' hi hop' => ?_, fun r' hr' => ?_⟩
        · cases i with
          | zero =>
            simp only [List.getElem?_cons_zero, Option.some.injEq] at hi
            subst hi
            rw [hop] at hop'
            obtain ⟨rfl, rfl, rfl⟩ := Op.store.inj hop'
            exact ⟨r, 0, hp, by simp, by simp⟩
          | succ i =>
            simp only [List.getElem?_cons_succ] at hi
            obtain ⟨r', k, h3, h4, h5⟩ := h1 i o' T' p' x' hi hop'
            exact ⟨r', k + 1, h3, by simpa using h4, by simp [hs, h5]⟩
        · rcases List.mem_cons.1 hr' with rfl | hr'
          · exact ⟨0, o, p, by simp, hop, hp⟩
          · obtain ⟨i, o', p', h3, h4, h5⟩ := h2 r' hr'
            exact ⟨i + 1, o', p', by simpa using h3, h4, h5⟩
      · cases h
    · have hne : ∀ T p x, o.op ≠ .store T p x := fun T p x hop => hs (by unfold isStore; rw [hop])
      have h' : aims a l = some R := by
        unfold aims at h
        split at h
        · rename_i T p x hop; exact absurd hop (hne T p x)
        · exact h
      obtain ⟨h1, h2⟩ := ih _ h'
      refine ⟨fun i o' T' p' x' hi hop' => ?_, fun r' hr' => ?_⟩
      · cases i with
        | zero =>
          simp only [List.getElem?_cons_zero, Option.some.injEq] at hi
          subst hi
          exact absurd hop' (hne _ _ _)
        | succ i =>
          simp only [List.getElem?_cons_succ] at hi
          obtain ⟨r', k, h3, h4, h5⟩ := h1 i o' T' p' x' hi hop'
          exact ⟨r', k, h3, h4, by simp [hs, h5]⟩
      · obtain ⟨i, o', p', h3, h4, h5⟩ := h2 r' hr'
        exact ⟨i + 1, o', p', by simpa using h3, h4, h5⟩
theorem stB_spec (h : stB md ops = true) (i : Nat) (o : Oper) (hi : ops[i]? = some o) : (∀ e ∈ o.after, Region.binds md e = true → e.on < i) ∧ (∀ T p x, o.op = .store T p x → o.dst = none ∧ o.guard = none ∧
    (∀ (j : Nat) (oj : Oper) d, ops[j]? = some oj → oj.dst = some d → p ≠ .tmp d) ∧ (∀ (j : Nat) (oj : Oper) d, ops[j]? = some oj → oj.dst = some d → x = .tmp d → ∃ e ∈ o.after, Region.binds md e = true ∧ e.on = j)) := by
  have hlt : i < ops.size := (Array.getElem?_eq_some_iff.1 hi).1
  have h1 := List.all_eq_true.1 h i (List.mem_range.2 hlt)
  simp only [hi, Bool.and_eq_true] at h1
  refine ⟨fun e he hb => ?_, fun T p x hop => ?_⟩
  · have := Array.all_eq_true'.1 h1.1 e he
    simpa [hb] using this
  · have h2 := h1.2
    simp only [hop, Bool.and_eq_true, Option.isNone_iff_eq_none] at h2
    obtain ⟨⟨hd, hg⟩, h3⟩ := h2
    refine ⟨hd, hg, fun j oj d hj hdj => ?_, fun j oj d hj hdj hx => ?_⟩
    · have h4 := List.all_eq_true.1 h3 j (List.mem_range.2 (Array.getElem?_eq_some_iff.1 hj).1)
      simp only [hj, Bool.and_eq_true, Bool.not_eq_true'] at h4
      exact isTmp_spec h4.1 d hdj
    · have h4 := List.all_eq_true.1 h3 j (List.mem_range.2 (Array.getElem?_eq_some_iff.1 hj).1)
      simp only [hj, Bool.and_eq_true] at h4
      have h5 : isTmp x oj.dst = true := by rw [hx, hdj]; simp [isTmp]
      have h6 := h4.2
      rw [h5] at h6
      simp only [Bool.not_true, Bool.false_or] at h6
      obtain ⟨e, he, hb⟩ := Array.any_eq_true'.1 h6
      simp only [Bool.and_eq_true, beq_iff_eq] at hb
      exact ⟨e, he, hb.1, hb.2⟩

/-- ONE WALK SERVES EVERY ORDER, STORES AMONG THE OPERATIONS. -/
theorem wp_region_store {id : Nat} {Q : Exit → Act → World → Prop} {a : Act} {w : World} {l : List Oper} (R : List Aim) (hm : P.follows .mixedOrders = true) (hB : Region.lexB .any l.toArray = true) (hS : stB .any l.toArray = true)
    (hR : aims a l = some R) (hN : R.Pairwise fun r s => r.block ≠ s.block) (hc : ∀ r ∈ R, ∃ cs, w.heap[r.block]? = some (.cells cs r.type (0, 0)) ∧ (P.info? r.type).map (·.size) = some cs.size)
    (h : wpCalm P l.toArray (fun w' => ∃ x : ExtR w.heap.size R w, w' = x.val)
      (fun a' => (∀ r ∈ R, Fits P (a'.eval r.val) r.type) ∧ ∀ x : ExtR w.heap.size R w, (∀ r ∈ R, x.val.heap[r.block]? = some (.cells (a'.eval r.val).cells r.type (0, 0))) → Q .normal a' x.val) l a) :
    (Code.region id l.toArray true).wp P Q a w := by
  have hB' := hB
  simp only [Region.lexB, Bool.and_eq_true] at hB'
  obtain ⟨hAs, hAr⟩ := aims_of l R hR
  have hA : Aimed .any l.toArray R a := by
    refine ⟨fun i o hi hs => ?_, fun r hr => ?_⟩
    · obtain ⟨T, p, x, hop⟩ : ∃ T p x, o.op = .store T p x := by
        unfold isStore at hs
        split at hs
        · exact ⟨_, _, _, by assumption⟩
        · cases hs
      obtain ⟨_, h2⟩ := stB_spec hS i o hi
      obtain ⟨hd, hg, hp, hx⟩ := h2 T p x hop
      obtain ⟨r, k, h3, h4, h5⟩ := hAs i o T p x (by simpa using hi) hop
      refine ⟨hd, hg, T, p, x, r, hop, h3, List.mem_of_getElem? h4, hp, hx, ?_⟩
      intro j oj hj hsj hne T' p' x' hop' he
      obtain ⟨r', k', h6, h7, h8⟩ := hAs j oj T' p' x' (by simpa using hj) hop'
      rw [h6] at he
      simp only [Value.pointer.injEq, Option.some.injEq, Addr.mk.injEq, and_true] at he
      subst he
      have key : ∀ (i j : Nat) (o : Oper), i < j → l[i]? = some o → isStore o = true → ((l.take i).filter isStore).length < ((l.take j).filter isStore).length := by
        intro i j o hij hi hs
        have hp : l.take (i + 1) <+: l.take j := List.take_prefix_take_left (by omega)
        have h1 := (hp.filter isStore).length_le
        have : l.take (i + 1) = l.take i ++ [o] := by
          have hil : i < l.length := (List.getElem?_eq_some_iff.1 hi).1
          rw [List.take_succ_eq_append_getElem hil]
          congr 2
          exact (List.getElem?_eq_some_iff.1 hi).2
        rw [this, List.filter_append] at h1
        simp [hs] at h1
        omega
      have hkk : k ≠ k' := by
        rcases Nat.lt_or_gt_of_ne hne with hlt | hlt
        · have := key j i oj hlt (by simpa using hj) hsj; omega
        · have := key i j o hlt (by simpa using hi) hs; omega
      have hk1 : k < R.length := (List.getElem?_eq_some_iff.1 h4).1
      have hk2 : k' < R.length := (List.getElem?_eq_some_iff.1 h7).1
      have e1 : R[k] = ⟨r', T, x⟩ := (List.getElem?_eq_some_iff.1 h4).2
      have e2 : R[k'] = ⟨r', T', x'⟩ := (List.getElem?_eq_some_iff.1 h7).2
      rcases Nat.lt_or_gt_of_ne hkk with hlt | hlt
      · have := List.pairwise_iff_getElem.1 hN k k' hk1 hk2 hlt
        rw [e1, e2] at this
        exact this rfl
      · have := List.pairwise_iff_getElem.1 hN k' k hk2 hk1 hlt
        rw [e1, e2] at this
        exact this rfl
    · obtain ⟨i, o, p, h1, h2, h3⟩ := hAr r hr
      exact ⟨i, o, p, by simpa using h1, h2, h3⟩
  refine wp_region_any hm ?_
  have hst : ∀ o ∈ l.toArray.toList, isStore o = true → o.dst = none := by
    intro o ho hs
    obtain ⟨i, hi⟩ := List.getElem?_of_mem ho
    rw [Array.getElem?_toList] at hi
    exact (hA.store i o hi hs).1
  have H := anyC_lex (P := P) (C := fun w' => ∃ x : ExtR w.heap.size R w, w' = x.val) (md := .any) hB'.1 hst l 0 (Array.replicate l.toArray.size false) a (by simp) (by simpa using hB'.2) h
  have key := anyC_wp (P := P) (B := w.heap.size) (R := R) (w0 := w) (a0 := a) (Q := Q) (Nat.le_refl _) hA l.length (Array.replicate l.toArray.size false) a { w with drawn := w.drawn + 1 } ?_ H ?_ (by simp)
  · simpa using key
  · refine ⟨⟨⟨{ w with drawn := w.drawn + 1 }, rfl, rfl, rfl, Nat.le_refl _, fun _ _ _ => rfl⟩, rfl⟩, fun _ _ _ _ _ _ _ => rfl, hc, fun i o T p y r hi _ _ hl => ?_⟩
    have hlt : i < l.toArray.size := (Array.getElem?_eq_some_iff.1 hi).1
    have := getD_in (listed := Array.replicate l.toArray.size false) (i := i) (by simpa using hlt) (getD_replicate_false _ _)
    rw [this] at hl
    cases hl
  · intro listed' hr _ hsz i o hi
    -- the least one that has not come up would be ready
    have hlt : i < l.toArray.size := (Array.getElem?_eq_some_iff.1 hi).1
    have main : ∀ n, n < l.toArray.size → listed'.getD n true = true := by
      intro n
      induction n using Nat.strongRecOn with
      | _ n ih =>
        intro hn
        cases hg : listed'.getD n true with
        | true => rfl
        | false =>
          exfalso
          have : n ∈ Region.ready .any l.toArray listed' := by
            refine mem_ready.2 ⟨hg, l.toArray[n], by simp, fun e he hb => ?_⟩
            have hlt' := (stB_spec hS n l.toArray[n] (by simp)).1 e he hb
            have h2 := ih e.on hlt' (by omega)
            have : e.on < listed'.size := by omega
            simp [this] at h2 ⊢
            exact h2
          rw [hr] at this
          cases this
    exact main i hlt
theorem wpCalm_step {Q : Act → Prop} {a : Act} {o : Oper} {rest : List Oper}
    (h : ∀ K : Act → Prop, (∀ a, wpCalm P ops C Q rest a → K a) → if isStore o = true then K a else if Region.wanted o (yielded ops a.tmps) then Oper.calm P o a C K else K (a.put o.dst undef)) : wpCalm P ops C Q (o :: rest) a :=
  h _ (fun _ h => h)
theorem wpCalm_nil {Q : Act → Prop} {a : Act} (h : Q a) : wpCalm P ops C Q [] a := h
theorem extR_row {B : Nat} {R : List Aim} {w : World} {p : Nat} {cs : Array Value} {t : TypeId} {f : Nat × Nat} (h : w.heap[p]? = some (.cells cs t f)) (hp : p < B) (hn : ∀ r ∈ R, p ≠ r.block) : ∀ (x : ExtR B R w) (j : Nat), x.val.cell? ⟨p, j, none⟩ = cs[j]? :=
  fun x j => cell_row ((x.block p hp hn).trans h) j
theorem fits_wv {P : Program} {t : TypeId} (h : (P.info? t).map (·.size) = some 8) (n : Nat) : Fits P (wv n) t :=
  ⟨h, by simp [wcells, Value.cells, Value.oneCell']⟩
/-- Behind such a region: what was below B and not stored into is as it was. -/
theorem extR_block {B : Nat} {R : List Aim} {w : World} (x : ExtR B R w) {p : Nat} {o : Obj} (h : w.heap[p]? = some o) (hp : p < B) (hn : ∀ r ∈ R, p ≠ r.block) : x.val.heap[p]? = some o := (x.block p hp hn).trans h
theorem extR_below {B B' : Nat} {R : List Aim} {w W : World} (x : ExtR B R w) (h : Below B' W w) (hB : B' ≤ B) (hn : ∀ r ∈ R, B' ≤ r.block) : Below B' W x.val :=
  h.trans ⟨x.os, x.tape, x.output, x.size, fun k hk => x.block k (by omega) (fun r hr e => by have := hn r hr; omega)⟩
end
attribute [go_sem] Oper.calm isStore
end Go.Proofs.YtegmmaaapdgocaaGreat

/- '==' on arrays of whole numbers. -/
namespace Go.Proofs.YtegmmaaapdgocaaGreat
open Go Go.RowKit
variable {P : Program}
theorem run_part_int {elem : TypeId} {k : IntKind} (he : P.underlying elem = some (.int k)) (cs : Array Value) (off : Nat) (v : Value) (h : cs[off]? = some v) (w : World) : (part elem cs off).run P w = .ok v w := by
  have : (isAgg elem).run P w = .ok false w := by simp [isAgg, run_underlying he]
  simp [part, Sem.run_bind, this, h]
def eqFrom (x y : Nat → Int) : Nat → Nat → Bool
  | _, 0 => true
  | i, n + 1 => decide (x i = y i) && eqFrom x y (i + 1) n
theorem eqFrom_iff (x y : Nat → Int) : ∀ (n i : Nat), eqFrom x y i n = true ↔ ∀ j, i ≤ j → j < i + n → x j = y j := by
  intro n
  induction n with
  | zero => intro i; simp only [eqFrom, true_iff]; intro j h1 h2; omega
  | succ n ih =>
    intro i
    simp only [eqFrom, Bool.and_eq_true, decide_eq_true_eq, ih]
    constructor
    · intro ⟨h0, h⟩ j h1 h2
      by_cases hj : i = j
      · subst hj; exact h0
      · exact h j (by omega) (by omega)
    · intro h
      exact ⟨h i (Nat.le_refl _) (by omega), fun j h1 h2 => h j (by omega) (by omega)⟩
theorem run_eq_ints {d len : Nat} {t elem : TypeId} {k : IntKind} (ht : P.underlying t = some (.array len elem)) (he : P.underlying elem = some (.int k)) (hs : (P.info? elem).map (·.size) = some 1)
    (xs ys : Array Value) (x y : Nat → Int) (hx : ∀ i, i < len → xs[i]? = some (.int k (x i))) (hy : ∀ i, i < len → ys[i]? = some (.int k (y i))) (w : World) :
    (Op.equalIn (d + 2) t (.agg xs) (.agg ys)).run P w = .ok (decide (∀ i, i < len → x i = y i)) w := by
  have hsz : (sizeOf elem).run P w = .ok 1 w := by
    cases hi : P.info? elem with
    | none => simp [hi] at hs
    | some i => simp [hi] at hs; simp [sizeOf, typeInfo, hi, hs]
  rw [Op.equalIn]
  simp only [Sem.run_bind, run_underlying ht, Result.andThen_ok, hsz]
  rw [Std.Legacy.Range.forIn_eq_forIn_range']
  have key : ∀ (n i : Nat), i + n = len → (Sem.run P (forIn (List.range' i n) ((none : Option Bool), ()) fun i (_ : Option Bool × Unit) => do
            let a ← part elem xs (i * 1)
            let b ← part elem ys (i * 1)
            let c ← Op.equalIn (d + 1) elem a b
            if (!c) = true then pure (ForInStep.done (some false, ())) else pure (ForInStep.yield (none, ()))) w) = .ok ((if eqFrom x y i n = true then none else some false), ()) w := by
    intro n
    induction n with
    | zero =>
      intro i hi
      simp [eqFrom]
    | succ n ih =>
      intro i hi
      rw [List.range'_succ]
      simp only [List.forIn_cons, Sem.run_bind, Nat.mul_one]
      rw [run_part_int he xs i _ (hx i (by omega))]
      simp only [Result.andThen_ok]
      rw [run_part_int he ys i _ (hy i (by omega))]
      simp only [Result.andThen_ok]
      rw [run_equalIn_int w d elem k k (x i) (y i) he]
      simp only [Result.andThen_ok]
      by_cases hxy : x i = y i
      · have : (x i == y i) = true := by simp [hxy]
        simp only [this, Bool.not_true, Bool.false_eq_true, if_false, Sem.run_pure, Result.andThen_ok]
        have h1 := ih (i + 1) (by omega)
        simp only [Nat.mul_one] at h1
        rw [h1]
        simp [eqFrom, hxy]
      · have : (x i == y i) = false := by simp [hxy]
        simp only [this, Bool.not_false, if_true, Sem.run_pure, Result.andThen_ok]
        simp [eqFrom, hxy]
  have h0 := key len 0 (by omega)
  have hsize : (Std.Legacy.Range.size [:len]) = len := by simp [Std.Legacy.Range.size]
  simp only [hsize] at h0 ⊢
  rw [h0]
  simp only [Result.andThen_ok]
  have hiff := eqFrom_iff x y len 0
  by_cases hall : ∀ j, j < len → x j = y j
  · rw [if_pos (hiff.2 fun j _ h => hall j (by omega)), decide_eq_true hall]
    rfl
  · rw [if_neg (fun h => hall fun j h1 => hiff.1 h j (Nat.zero_le _) (by omega)), decide_eq_false hall]
    rfl
end Go.Proofs.YtegmmaaapdgocaaGreat

/- '==' on numbers of 512 bits. -/
namespace Go.Proofs.YtegmmaaapdgocaaGreat
open Go Go.RowKit
theorem same_wide (a b : Nat) : (∀ i, i < 8 → ((limb a i : Nat) : Int) = (limb b i : Nat)) ↔ a % M = b % M := by
  constructor
  · intro h
    refine limb_ext (Nat.mod_lt _ M_pos) (Nat.mod_lt _ M_pos) fun i hi => ?_
    rw [limb_mod _ _ hi, limb_mod _ _ hi]
    have := h i hi
    omega
  · intro h i hi
    rw [← limb_mod a i hi, ← limb_mod b i hi, h]
@[go_sem] theorem eq_wide (a b : Nat) (w : World) : (Op.equalIn 10000 24 (.agg (wcells a)) (.agg (wcells b))).run Tryz.prog w = .ok (decide (a % M = b % M)) w := by
  rw [run_eq_ints (d := 9998) Tryz.underlying24 Tryz.underlying22 (by kernel_rfl) _ _ (fun i => (limb a i : Nat)) (fun i => (limb b i : Nat)) (fun i hi => wcells_get a i hi) (fun i hi => wcells_get b i hi)]
  congr 1
  exact decide_eq_decide.2 (same_wide a b)
end Go.Proofs.YtegmmaaapdgocaaGreat
