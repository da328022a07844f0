/- STEPS of the one walk over a region that draws its order and makes memory: what an operation may leave; a step for each kind. -/
import Derived.Test.YtffengboblekpaaLoose
namespace Go.Proofs.Ytffengboblekpaa
open Go Go.RowKit

/-- What an operation leaves, of whatever world; it lasts while the world only grows. -/
structure Lft where
  G : Value → World → Prop
  st : ∀ v w w', G v w → Below w.heap.size w w' → G v w'
def Lft.val (v : Value) : Lft := ⟨fun u _ => u = v, fun _ _ _ h _ => h⟩
/-- The block that a slice, or a pointer, leads to. -/
def rowAt : Value → Nat
  | .slice (some a) _ _ => a.block
  | .pointer (some a) => a.block
  | _ => 0
def Lft.row (mk : Nat → Value) (o : Obj) : Lft := ⟨fun u w => u = mk (rowAt u) ∧ w.heap[rowAt u]? = some o, fun _ _ _ ⟨h1, h2⟩ hb => ⟨h1, (hb.block _ (lt_of_heap h2)).trans h2⟩⟩
def looseR (l : List Lft) : Nat → Value → World → Prop := fun i => (l.getD i (Lft.val undef)).G
theorem looseR_st (l : List Lft) : ∀ i v w w', looseR l i v w → Below w.heap.size w w' → looseR l i v w' := fun i v w w' h hb => (l.getD i (Lft.val undef)).st v w w' h hb
def pureL (l : List Nat) : Nat → Bool := fun i => l.contains i
section
variable {P : Program} {ops : Array Oper} {C : World → Prop} {B : Nat} {pu : Nat → Bool} {R : Nat → Value → World → Prop} {Q : Act → Array Bool → Prop} {n k : Nat} {a : Act} {ran : Array Bool} {o : Oper}
theorem wpL_store (ho : ops[k]? = some o) (hs : isStore o = true) (h : wpL P ops C B pu R Q n (k + 1) a ran) : wpL P ops C B pu R Q (n + 1) k a ran := by
  unfold wpL lOp
  simp only [ho, hs, if_true]
  exact h
theorem wpL_alloc (ho : ops[k]? = some o) (hs : isStore o = false) (hal : isAllocO o = true) (hg : o.guard = none)
    (h : ∀ g, B ≤ g → wpL P ops C B pu R Q n (k + 1) (a.put o.dst (.pointer (some ⟨g, 0, none⟩))) (ran.setIfInBounds k true)) : wpL P ops C B pu R Q (n + 1) k a ran := by
  have hw : Region.wanted o (yielded ops a.tmps) = true := by unfold Region.wanted; rw [hg]
  unfold wpL lOp
  simp only [ho, hs, hw, if_true, Bool.false_eq_true, if_false]
  unfold preL postL
  simp only [hal, if_true]
  exact ⟨trivial, ⟨_, B, Nat.le_refl _, rfl⟩, fun v ⟨g, hg1, hv⟩ => by subst hv; exact h g hg1⟩
/-- An operation that leaves a known value in whatever world the region may come to. -/
theorem wpL_calm (w0 : World) (ho : ops[k]? = some o) (hs : isStore o = false) (hal : isAllocO o = false) (hp : pu k = false)
    (h : ∀ K : Value → Act → Prop, (∀ v a', a' = a.put o.dst v → R k = (Lft.val v).G → wpL P ops C B pu R Q n (k + 1) a' (ran.setIfInBounds k true) → K v a') → ∀ K0 : Act → Prop, (∀ a', a' = a.put o.dst undef → wpL P ops C B pu R Q n (k + 1) a' ran → K0 a') →
      if Region.wanted o (yielded ops a.tmps) = true then ∃ v, (∀ w, C w → Oper.quietUpon P (Below w.heap.size w) w v ((execOp a.eval o).run P w)) ∧ K v (a.put o.dst v) else K0 (a.put o.dst undef)) :
    wpL P ops C B pu R Q (n + 1) k a ran := by
  unfold wpL lOp
  simp only [ho, hs, Bool.false_eq_true, if_false]
  have H := h (fun v a' => a' = a.put o.dst v ∧ R k = (Lft.val v).G ∧ wpL P ops C B pu R Q n (k + 1) a' (ran.setIfInBounds k true)) (fun v a' h1 h2 h3 => ⟨h1, h2, h3⟩) (fun a' => wpL P ops C B pu R Q n (k + 1) a' ran) (fun a' _ h2 => h2)
  by_cases hw : Region.wanted o (yielded ops a.tmps) = true
  · rw [if_pos hw] at H ⊢
    obtain ⟨v, hv, _, hR, hK⟩ := H
    unfold preL postL
    simp only [hal, hp, Bool.false_eq_true, if_false]
    refine ⟨fun w hC _ => ?_, ⟨v, w0, by rw [hR]; rfl⟩, fun u ⟨w, hu⟩ => ?_⟩
    · have := hv w hC
      rw [hR]
      generalize (execOp a.eval o).run P w = res at *
      cases res with
      | ok nx w' =>
        cases nx <;> simp only [Oper.quietUpon] at this <;> simp only [looseUpon]
        case value u => obtain ⟨rfl, rfl⟩ := this; exact ⟨Below.refl _ _, rfl⟩
        case skip => obtain ⟨rfl, rfl⟩ := this; exact ⟨Below.refl _ _, rfl⟩
        case enter f args =>
          obtain ⟨rfl, hc⟩ := this
          exact ⟨rfl, hc.mono fun e w'' ⟨he, hb⟩ => ⟨v, he, hb, rfl⟩⟩
      | halt y w' => simp only [Oper.quietUpon] at this
    · rw [hR] at hu
      have hu' : u = v := hu
      rw [hu']
      exact hK
  · rw [if_neg hw] at H ⊢
    exact H
/-- An operation that asks nothing of the world. -/
theorem wpL_pure (w0 : World) (ho : ops[k]? = some o) (hs : isStore o = false) (hal : isAllocO o = false) (hp : pu k = true)
    (h : ∀ K : Value → Act → Prop, (∀ v a', a' = a.put o.dst v → R k = (Lft.val v).G → wpL P ops C B pu R Q n (k + 1) a' (ran.setIfInBounds k true) → K v a') → ∀ K0 : Act → Prop, (∀ a', a' = a.put o.dst undef → wpL P ops C B pu R Q n (k + 1) a' ran → K0 a') →
      if Region.wanted o (yielded ops a.tmps) = true then ∃ v, (∀ w, (execOp a.eval o).run P w = .ok (.value v) w) ∧ K v (a.put o.dst v) else K0 (a.put o.dst undef)) :
    wpL P ops C B pu R Q (n + 1) k a ran := by
  unfold wpL lOp
  simp only [ho, hs, Bool.false_eq_true, if_false]
  have H := h (fun v a' => a' = a.put o.dst v ∧ R k = (Lft.val v).G ∧ wpL P ops C B pu R Q n (k + 1) a' (ran.setIfInBounds k true)) (fun v a' h1 h2 h3 => ⟨h1, h2, h3⟩) (fun a' => wpL P ops C B pu R Q n (k + 1) a' ran) (fun a' _ h2 => h2)
  by_cases hw : Region.wanted o (yielded ops a.tmps) = true
  · rw [if_pos hw] at H ⊢
    obtain ⟨v, hv, _, hR, hK⟩ := H
    unfold preL postL
    simp only [hal, hp, if_true, Bool.false_eq_true, if_false]
    refine ⟨⟨v, hv, fun w => by rw [hR]; rfl⟩, ⟨v, w0, by rw [hR]; rfl⟩, fun u ⟨w, hu⟩ => ?_⟩
    rw [hR] at hu
    have hu' : u = v := hu
    rw [hu']
    exact hK
  · rw [if_neg hw] at H ⊢
    exact H
/-- A row that is made: a literal's slice. -/
theorem wpL_row (w0 : World) (mk : Nat → Value) (obj : Obj) (hmk : ∀ g, rowAt (mk g) = g) (ho : ops[k]? = some o) (hs : isStore o = false) (hal : isAllocO o = false) (hp : pu k = false) (hw : Region.wanted o (yielded ops a.tmps) = true) (hR : R k = (Lft.row mk obj).G)
    (h1 : ∀ w, C w → (execOp a.eval o).run P w = .ok (.value (mk w.heap.size)) (w.alloc obj))
    (h : ∀ g, wpL P ops C B pu R Q n (k + 1) (a.put o.dst (mk g)) (ran.setIfInBounds k true)) :
    wpL P ops C B pu R Q (n + 1) k a ran := by
  unfold wpL lOp
  simp only [ho, hs, hw, if_true, Bool.false_eq_true, if_false]
  unfold preL postL
  simp only [hal, hp, Bool.false_eq_true, if_false]
  refine ⟨fun w hC _ => ?_, ⟨mk w0.heap.size, w0.alloc obj, by rw [hR]; exact ⟨by rw [hmk], by rw [hmk]; exact alloc_new _ _⟩⟩, fun u ⟨w, hu⟩ => ?_⟩
  · rw [h1 w hC, hR]
    exact ⟨(Below.refl _ _).alloc (Nat.le_refl _) _, by rw [hmk], by rw [hmk]; exact alloc_new _ _⟩
  · rw [hR] at hu
    rw [hu.1]
    exact h (rowAt u)
/-- A call: what it reads of others' work is told; what it leaves. -/
theorem wpL_call (F : Lft) (hne : ∃ v w, F.G v w) (ho : ops[k]? = some o) (hs : isStore o = false) (hal : isAllocO o = false) (hp : pu k = false) (hw : Region.wanted o (yielded ops a.tmps) = true) (hR : R k = F.G)
    (h1 : ∀ w, C w → FactsL ops R o ran a w → looseUpon P F.G w ((execOp a.eval o).run P w))
    (h : ∀ v, (∃ w, F.G v w) → wpL P ops C B pu R Q n (k + 1) (a.put o.dst v) (ran.setIfInBounds k true)) :
    wpL P ops C B pu R Q (n + 1) k a ran := by
  unfold wpL lOp
  simp only [ho, hs, hw, if_true, Bool.false_eq_true, if_false]
  unfold preL postL
  simp only [hal, hp, Bool.false_eq_true, if_false]
  rw [hR]
  exact ⟨h1, hne, fun u hu => h u hu⟩
theorem wpL_nil (h : Q a ran) : wpL P ops C B pu R Q 0 k a ran := h
theorem looseUpon_enter {G : Value → World → Prop} {w : World} {f : FuncId} {args : Array Value} (h : Calls P f args w fun e w'' => ∃ v, e = .returned v ∧ Below w.heap.size w w'' ∧ G v w'') : looseUpon P G w (.ok (.enter f args) w) := ⟨rfl, h⟩
/-- The stores of a region, in order. -/
def storesL : List Oper → List (TypeId × Operand × Operand)
  | [] => []
  | o :: l => match o.op with | .store T p y => (T, p, y) :: storesL l | _ => storesL l
theorem storesL_mem : ∀ (l : List Oper) (s : Nat) (os : Oper) T p y, l[s]? = some os → os.op = .store T p y → (T, p, y) ∈ storesL l := by
  intro l
  induction l with
  | nil => intro s os T p y h; simp at h
  | cons o l ih =>
    intro s os T p y h hop
    cases s with
    | zero =>
      simp only [List.getElem?_cons_zero, Option.some.injEq] at h
      subst h
      unfold storesL
      simp only [hop]
      exact List.mem_cons_self
    | succ s =>
      simp only [List.getElem?_cons_succ] at h
      have := ih s os T p y h hop
      unfold storesL
      split
      · exact List.mem_cons_of_mem _ this
      · exact this
theorem storesL_nil : ∀ (l : List Oper), storesL l = [] → ∀ o ∈ l, isStore o = false := by
  intro l
  induction l with
  | nil => intro _ o ho; cases ho
  | cons o l ih =>
    intro h o' ho'
    unfold storesL at h
    split at h
    · cases h
    · rename_i hne
      rcases List.mem_cons.1 ho' with rfl | ho'
      · unfold isStore
        split
        · rename_i T p y hop
          exact absurd hop (hne T p y)
        · rfl
      · exact ih h o' ho'
theorem endL {l : List Oper} {w0 : World} {Q : Exit → Act → World → Prop} (S : List (TypeId × Operand × Operand)) (hS : storesL l = S) (hfit : ∀ q ∈ S, Fits P (a.eval q.2.2) q.1)
    (h : ∀ w, Below B w0 w → (∀ (s : Nat) (os : Oper) T p y g, l.toArray[s]? = some os → os.op = .store T p y → a.eval p = .pointer (some ⟨g, 0, none⟩) → w.heap[g]? = some (.cells (a.eval y).cells T (0, 0))) →
      (∀ (j : Nat) (oj : Oper) d T (k : Nat) (ok : Oper) e U, l.toArray[j]? = some oj → oj.op = .alloc T → oj.dst = some d → l.toArray[k]? = some ok → ok.op = .alloc U → ok.dst = some e → j ≠ k → a.eval (.tmp d) ≠ a.eval (.tmp e)) →
      (S = [] → ∀ (j : Nat) (oj : Oper) d, l.toArray[j]? = some oj → isAllocO oj = false → ran.getD j false = true → oj.dst = some d → R j (a.eval (.tmp d)) w) → Q .normal a w) : EndL P l.toArray B R w0 Q a ran :=
  ⟨fun s os T p y hs hop => hfit (T, p, y) (hS ▸ storesL_mem l s os T p y (by simpa using hs) hop), fun w hb h1 h2 h3 => h w hb h1 h2 fun hS0 => h3 fun o ho => storesL_nil l (hS.trans hS0) o (by simpa using ho)⟩
/-- The types of what a region makes, in order. -/
def allocsL : List Oper → List TypeId
  | [] => []
  | o :: l => match o.op with | .alloc T => T :: allocsL l | _ => allocsL l
theorem allocsL_mem : ∀ (l : List Oper) (s : Nat) (os : Oper) T, l[s]? = some os → os.op = .alloc T → T ∈ allocsL l := by
  intro l
  induction l with
  | nil => intro s os T h; simp at h
  | cons o l ih =>
    intro s os T h hop
    cases s with
    | zero =>
      simp only [List.getElem?_cons_zero, Option.some.injEq] at h
      subst h
      unfold allocsL
      simp only [hop]
      exact List.mem_cons_self
    | succ s =>
      simp only [List.getElem?_cons_succ] at h
      have := ih s os T h hop
      unfold allocsL
      split
      · exact List.mem_cons_of_mem _ this
      · exact this
/-- A new variable of a type. -/
def Makes (P : Program) (T : TypeId) : Prop := ∀ w : World, ∃ cs, (Instr.alloc T true (.tuple #[])).run P w = .ok (.pointer (some ⟨w.heap.size, 0, none⟩)) (w.alloc (.cells cs T)) ∧ (P.info? T).map (·.size) = some cs.size
theorem allocs_ok {l : List Oper} (A : List TypeId) (hA : allocsL l = A) (h : ∀ T ∈ A, Makes P T) :
    ∀ (i : Nat) (o : Oper) T, l.toArray[i]? = some o → o.op = .alloc T → ∀ w : World, ∃ cs, (Instr.alloc T true (.tuple #[])).run P w = .ok (.pointer (some ⟨w.heap.size, 0, none⟩)) (w.alloc (.cells cs T)) ∧ (P.info? T).map (·.size) = some cs.size :=
  fun i o T hi hop => h T (hA ▸ allocsL_mem l i o T (by simpa using hi) hop)
end
attribute [go_sem] isAllocO looseUpon
theorem makes_wide : Makes Try.prog 24 := fun w => ⟨wcells 0, by go_simp, by kernel_rfl⟩
end Go.Proofs.Ytffengboblekpaa
