/- SEVERAL TEXTS of the seat, one behind the other: each says at its head what it proves. -/
import Derived.Test.YtegmmaaapdgocaaGreatK2
import Derived.Test.YtegmmaaapdgocaaGreatK9
import Derived.Test.YtegmmaaapdgocaaGreatK22
/- A REGION THAT DRAWS ITS ORDER, WHOSE OPERATIONS MAKE MEMORY (a literal's slice, a callee's list, a new variable that is stored into at the region's end): ONE WALK, IN THE ORDER OF THE TEXT, SERVES EVERY ORDER. Of each operation the walk says once what it leaves ('R i'), of whatever world; what an operation reads of another it is told. -/
namespace Go.Proofs.YtegmmaaapdgocaaGreat
open Go Go.RowKit

def isAllocO (o : Oper) : Bool := match o.op with | .alloc _ => true | _ => false
/-- What an operation leaves: a value, in a world that only grew. -/
def looseUpon (P : Program) (G : Value → World → Prop) (w : World) : Result Next → Prop
  | .ok (.value u) w' => Below w.heap.size w w' ∧ G u w'
  | .ok .skip w' => Below w.heap.size w w' ∧ G undef w'
  | .ok (.enter f args) w' => w' = w ∧ Calls P f args w (fun e w'' => ∃ v, e = .returned v ∧ Below w.heap.size w w'' ∧ G v w'')
  | _ => False
section
variable {P : Program} {ops : Array Oper} {md : Region.Mode} {C : World → Prop} {B : Nat} {pu : Nat → Bool} {R : Nat → Value → World → Prop}
/-- What is known of the operands of an operation that others have made. -/
def FactsL (ops : Array Oper) (R : Nat → Value → World → Prop) (o : Oper) (ran : Array Bool) (a : Act) (w : World) : Prop :=
  ∀ (j : Nat) (oj : Oper) (d : Tmp), ops[j]? = some oj → isAllocO oj = false → ran.getD j false = true → oj.dst = some d → d ∈ o.looksAt ops → R j (a.eval (.tmp d)) w
def preL (P : Program) (ops : Array Oper) (C : World → Prop) (pu : Nat → Bool) (R : Nat → Value → World → Prop) (i : Nat) (o : Oper) (ran : Array Bool) (a : Act) : Prop :=
  if isAllocO o = true then True
  else if pu i = true then ∃ v, (∀ w, (execOp a.eval o).run P w = .ok (.value v) w) ∧ ∀ w, R i v w
  else ∀ w, C w → FactsL ops R o ran a w → looseUpon P (R i) w ((execOp a.eval o).run P w)
def postL (B : Nat) (R : Nat → Value → World → Prop) (i : Nat) (o : Oper) (v : Value) : Prop :=
  if isAllocO o = true then ∃ g, B ≤ g ∧ v = .pointer (some ⟨g, 0, none⟩) else ∃ w, R i v w
def lOp (P : Program) (ops : Array Oper) (C : World → Prop) (B : Nat) (pu : Nat → Bool) (R : Nat → Value → World → Prop) (i : Nat) (K : Act → Array Bool → Prop) (a : Act) (ran : Array Bool) : Prop :=
  match ops[i]? with
  | none => K a ran
  | some o => if isStore o = true then K a ran
    else if Region.wanted o (yielded ops a.tmps) = true then preL P ops C pu R i o ran a ∧ (∃ v, postL B R i o v) ∧ ∀ v, postL B R i o v → K (a.put o.dst v) (ran.setIfInBounds i true)
    else K (a.put o.dst undef) ran
def anyL (P : Program) (md : Region.Mode) (ops : Array Oper) (C : World → Prop) (B : Nat) (pu : Nat → Bool) (R : Nat → Value → World → Prop) (Q : Act → Array Bool → Prop) : Nat → Array Bool → Act → Array Bool → Prop
  | 0, listed, a, ran => Region.ready md ops listed = [] ∧ Q a ran
  | fuel + 1, listed, a, ran => (Region.ready md ops listed = [] → Q a ran) ∧ ∀ i ∈ Region.ready md ops listed, lOp P ops C B pu R i (anyL P md ops C B pu R Q fuel (listed.setIfInBounds i true)) a ran
/-- The walk in the order of the text. -/
def wpL (P : Program) (ops : Array Oper) (C : World → Prop) (B : Nat) (pu : Nat → Bool) (R : Nat → Value → World → Prop) (Q : Act → Array Bool → Prop) : Nat → Nat → Act → Array Bool → Prop
  | 0, _, a, ran => Q a ran
  | n + 1, k, a, ran => lOp P ops C B pu R k (wpL P ops C B pu R Q n (k + 1)) a ran

theorem lOp_mono {i : Nat} {K K' : Act → Array Bool → Prop} {a : Act} {ran : Array Bool} (h : ∀ a ran, K a ran → K' a ran) (hh : lOp P ops C B pu R i K a ran) : lOp P ops C B pu R i K' a ran := by
  unfold lOp at *
  cases ho : ops[i]? with
  | none => simp only [ho] at hh ⊢; exact h _ _ hh
  | some o =>
    simp only [ho] at hh ⊢
    split
    · rename_i hs; simp only [hs, if_true] at hh; exact h _ _ hh
    · rename_i hs
      simp only [hs] at hh
      split
      · rename_i hw
        simp only [hw, if_true] at hh
        exact ⟨hh.1, hh.2.1, fun v hv => h _ _ (hh.2.2 v hv)⟩
      · rename_i hw; simp only [hw] at hh; exact h _ _ hh
theorem eval_tmp_put {a : Act} {dst : Option Tmp} {v : Value} {d : Tmp} (h : dst ≠ some d) : (a.put dst v).eval (.tmp d) = a.eval (.tmp d) :=
  Act.eval_put fun d' hd hx => by
    simp only [Operand.tmp.injEq] at hx
    subst hx
    exact h hd
theorem factsL_put {i : Nat} {oi oj : Oper} {ran : Array Bool} {a : Act} {v : Value} {w : World} (hi : ops[i]? = some oi) (h : ∀ d, oi.dst = some d → d ∉ oj.looksAt ops) :
    FactsL ops R oj (ran.setIfInBounds i true) (a.put oi.dst v) w ↔ FactsL ops R oj ran a w := by
  constructor
  · intro H k ok d hk hal hrk hd hl
    have hne : oi.dst ≠ some d := fun e => h d e hl
    have := H k ok d hk hal (getD_set_true hrk) hd hl
    rwa [eval_tmp_put hne] at this
  · intro H k ok d hk hal hrk hd hl
    have hne : oi.dst ≠ some d := fun e => h d e hl
    have hik : i ≠ k := fun e => by
      subst e
      rw [hi] at hk
      obtain rfl := Option.some.inj hk
      exact hne hd
    rw [getD_set_ne false hik] at hrk
    rw [eval_tmp_put hne]
    exact H k ok d hk hal hrk hd hl
theorem factsL_put0 {oi oj : Oper} {ran : Array Bool} {a : Act} {v : Value} {w : World} (h : ∀ d, oi.dst = some d → d ∉ oj.looksAt ops) :
    FactsL ops R oj ran (a.put oi.dst v) w ↔ FactsL ops R oj ran a w := by
  constructor
  · intro H k ok d hk hal hrk hd hl
    have hne : oi.dst ≠ some d := fun e => h d e hl
    have := H k ok d hk hal hrk hd hl
    rwa [eval_tmp_put hne] at this
  · intro H k ok d hk hal hrk hd hl
    have hne : oi.dst ≠ some d := fun e => h d e hl
    rw [eval_tmp_put hne]
    exact H k ok d hk hal hrk hd hl
theorem preL_put {i j : Nat} {oi oj : Oper} {ran : Array Bool} {a : Act} {v : Value} (hi : ops[i]? = some oi) (hsj : ∀ cs b, oj.op ≠ .select cs b) (h : ∀ d, oi.dst = some d → d ∉ oj.looksAt ops) :
    preL P ops C pu R j oj (ran.setIfInBounds i true) (a.put oi.dst v) ↔ preL P ops C pu R j oj ran a := by
  unfold preL
  rw [execOp_put oj hsj a oi.dst v h]
  split
  · exact Iff.rfl
  · split
    · exact Iff.rfl
    · exact forall_congr' fun w => forall_congr' fun _ => by rw [factsL_put hi h]
theorem preL_put0 {j : Nat} {oi oj : Oper} {ran : Array Bool} {a : Act} {v : Value} (hsj : ∀ cs b, oj.op ≠ .select cs b) (h : ∀ d, oi.dst = some d → d ∉ oj.looksAt ops) :
    preL P ops C pu R j oj ran (a.put oi.dst v) ↔ preL P ops C pu R j oj ran a := by
  unfold preL
  rw [execOp_put oj hsj a oi.dst v h]
  split
  · exact Iff.rfl
  · split
    · exact Iff.rfl
    · exact forall_congr' fun w => forall_congr' fun _ => by rw [factsL_put0 h]
/-- Two operations that do not touch come up in either order. -/
theorem lOp_swap {i j : Nat} {oi oj : Oper} {K : Act → Array Bool → Prop} {a : Act} {ran : Array Bool} (hi : ops[i]? = some oi) (hj : ops[j]? = some oj) (hij : i ≠ j) (hap : oi.apart ops oj = true)
    (hsi : ∀ cs b, oi.op ≠ .select cs b) (hsj : ∀ cs b, oj.op ≠ .select cs b) (h : lOp P ops C B pu R i (lOp P ops C B pu R j K) a ran) : lOp P ops C B pu R j (lOp P ops C B pu R i K) a ran := by
  obtain ⟨h1, h2, h3⟩ := Oper.apart_spec hap
  unfold lOp at *
  simp only [hi, hj] at h ⊢
  by_cases hsti : isStore oi = true
  · simp only [hsti, if_true] at h ⊢
    exact h
  · simp only [hsti] at h ⊢
    by_cases hstj : isStore oj = true
    · simp only [hstj, if_true] at h ⊢
      exact h
    · simp only [hstj] at h ⊢
      by_cases hwi : Region.wanted oi (yielded ops a.tmps) = true
      · simp only [hwi, if_true] at h
        obtain ⟨hp, ⟨v0, hv0⟩, hv⟩ := h
        by_cases hwj : Region.wanted oj (yielded ops a.tmps) = true
        · have hwj' : ∀ v, Region.wanted oj (yielded ops (a.put oi.dst v).tmps) = true := fun v => by rw [wanted_put oj a oi.dst v h1]; exact hwj
          have hwi' : ∀ v, Region.wanted oi (yielded ops (a.put oj.dst v).tmps) = true := fun v => by rw [wanted_put oi a oj.dst v h3]; exact hwi
          simp only [hwj, if_true]
          have hK0 := hv v0 hv0
          simp only [hwj', if_true] at hK0
          refine ⟨(preL_put hi hsj h1).1 hK0.1, hK0.2.1, fun u hu => ?_⟩
          simp only [hwi', if_true]
          refine ⟨(preL_put hj hsi h3).2 hp, ⟨v0, hv0⟩, fun v hv' => ?_⟩
          have hKv := hv v hv'
          simp only [hwj', if_true] at hKv
          have := hKv.2.2 u hu
          rw [Act.put_comm a v u h2, Array.setIfInBounds_comm _ _ hij] at this
          exact this
        · have hwj' : ∀ v, ¬ Region.wanted oj (yielded ops (a.put oi.dst v).tmps) = true := fun v => by rw [wanted_put oj a oi.dst v h1]; exact hwj
          have hwi' : Region.wanted oi (yielded ops (a.put oj.dst undef).tmps) = true := by rw [wanted_put oi a oj.dst undef h3]; exact hwi
          simp only [hwj, hwi', if_true]
          refine ⟨(preL_put0 hsi h3).2 hp, ⟨v0, hv0⟩, fun v hv' => ?_⟩
          have hKv := hv v hv'
          simp only [hwj'] at hKv
          have hKv' : K ((a.put oi.dst v).put oj.dst undef) (ran.setIfInBounds i true) := by simpa using hKv
          rw [Act.put_comm a v undef h2] at hKv'
          exact hKv'
      · simp only [hwi] at h
        by_cases hwj : Region.wanted oj (yielded ops a.tmps) = true
        · have hwj' : Region.wanted oj (yielded ops (a.put oi.dst undef).tmps) = true := by rw [wanted_put oj a oi.dst undef h1]; exact hwj
          have hwi' : ∀ v, ¬ Region.wanted oi (yielded ops (a.put oj.dst v).tmps) = true := fun v => by rw [wanted_put oi a oj.dst v h3]; exact hwi
          simp only [hwj', if_true] at h
          simp only [hwj, if_true]
          have h' : preL P ops C pu R j oj ran (a.put oi.dst undef) ∧ (∃ v, postL B R j oj v) ∧ ∀ v, postL B R j oj v → K ((a.put oi.dst undef).put oj.dst v) (ran.setIfInBounds j true) := by simpa using h
          refine ⟨(preL_put0 hsj h1).1 h'.1, h'.2.1, fun u hu => ?_⟩
          simp only [hwi']
          have := h'.2.2 u hu
          rw [Act.put_comm a undef u h2] at this
          simpa using this
        · have hwj' : ¬ Region.wanted oj (yielded ops (a.put oi.dst undef).tmps) = true := by rw [wanted_put oj a oi.dst undef h1]; exact hwj
          have hwi' : ¬ Region.wanted oi (yielded ops (a.put oj.dst undef).tmps) = true := by rw [wanted_put oi a oj.dst undef h3]; exact hwi
          simp only [hwj, hwi', hwj'] at h ⊢
          have h' : K ((a.put oi.dst undef).put oj.dst undef) ran := by simpa using h
          rw [Act.put_comm a undef undef h2] at h'
          simpa using h'
theorem anyL_first {Q : Act → Array Bool → Prop} {i : Nat} {oi : Oper} (hi : ops[i]? = some oi) (hsel : ∀ (j : Nat) (o : Oper) cs b, ops[j]? = some o → o.op ≠ .select cs b) :
    ∀ (fuel : Nat) (listed : Array Bool) (a : Act) (ran : Array Bool), (∀ j oj, ops[j]? = some oj → j ≠ i → listed.getD j true = false → (∀ e ∈ oj.after, Region.binds md e = true → e.on ≠ i) → oi.apart ops oj = true) →
      i ∈ Region.ready md ops listed → lOp P ops C B pu R i (anyL P md ops C B pu R Q fuel (listed.setIfInBounds i true)) a ran → anyL P md ops C B pu R Q (fuel + 1) listed a ran := by
  intro fuel
  induction fuel with
  | zero =>
    intro listed a ran _ hr H
    refine ⟨fun h => (by rw [h] at hr; cases hr), fun j hj => ?_⟩
    by_cases hji : j = i
    · subst hji; exact H
    · exfalso
      have hemp : Region.ready md ops (listed.setIfInBounds i true) = [] := by
        unfold lOp at H
        simp only [hi] at H
        split at H
        · exact H.1
        · split at H
          · obtain ⟨_, ⟨v, hv⟩, hK⟩ := H
            exact (hK v hv).1
          · exact H.1
      have := ready_mono hj hji
      rw [hemp] at this
      cases this
  | succ fuel ih =>
    intro listed a ran hfree hr H
    refine ⟨fun h => (by rw [h] at hr; cases hr), fun j hj => ?_⟩
    by_cases hji : j = i
    · subst hji; exact H
    · obtain ⟨hjun, oj, hoj, hall⟩ := mem_ready.1 hj
      have hun := (mem_ready.1 hr).1
      have hnot : ∀ e ∈ oj.after, Region.binds md e = true → e.on ≠ i := fun e he hb heq => by
        have h1 := hall e he hb
        rw [heq, getD_both hun] at h1
        cases h1
      have H2 : lOp P ops C B pu R i (lOp P ops C B pu R j (anyL P md ops C B pu R Q fuel ((listed.setIfInBounds i true).setIfInBounds j true))) a ran :=
        lOp_mono (fun a' ran' h => h.2 j (ready_mono hj hji)) H
      have H3 := lOp_swap hi hoj (Ne.symm hji) (hfree j oj hoj hji hjun hnot) (fun cs b => hsel i oi cs b hi) (fun cs b => hsel j oj cs b hoj) H2
      have hfree' : ∀ k ok, ops[k]? = some ok → k ≠ i → (listed.setIfInBounds j true).getD k true = false → (∀ e ∈ ok.after, Region.binds md e = true → e.on ≠ i) → oi.apart ops ok = true := fun k ok hk hki hun hno => by
        refine hfree k ok hk hki ?_ hno
        by_cases hjk : j = k
        · subst hjk; exact hjun
        · rw [getD_set_ne true hjk] at hun; exact hun
      refine lOp_mono (fun a' ran' h => ih (listed.setIfInBounds j true) a' ran' hfree' (ready_mono hr (Ne.symm hji)) ?_) H3
      rw [Array.setIfInBounds_comm _ _ hji]
      exact h
theorem anyL_lex {Q : Act → Array Bool → Prop} (hs : Region.noSelect ops = true) : ∀ (n k : Nat) (listed : Array Bool) (a : Act) (ran : Array Bool), k + n = ops.size →
    Region.lexFrom md ops n k listed = true → wpL P ops C B pu R Q n k a ran → anyL P md ops C B pu R Q n listed a ran := by
  intro n
  induction n with
  | zero => intro k listed a ran _ hB h; exact ⟨by simpa [Region.lexFrom] using hB, h⟩
  | succ n ih =>
    intro k listed a ran hk hB h
    simp only [Region.lexFrom, Bool.and_eq_true] at hB
    obtain ⟨⟨hr, hf⟩, hB'⟩ := hB
    obtain ⟨o, h0⟩ : ∃ o, ops[k]? = some o := ⟨ops[k]'(by omega), Array.getElem?_eq_getElem _⟩
    exact anyL_first h0 (Region.noSelect_spec hs) n listed a ran (Region.free_spec h0 hf) (by simpa using hr)
      (lOp_mono (fun a' ran' h' => ih (k + 1) _ a' ran' (by omega) hB' h') h)

/-- What a region must be by its text: each edge leads back; each store goes to what an operation ahead of it has made, is the one store there, and stands behind all that may make memory; no two operations share a temporary. -/
def looseB (md : Region.Mode) (ops : Array Oper) (pu : Nat → Bool) (n : Nat) : Bool :=
  (List.range ops.size).all fun i => match ops[i]? with
    | none => true
    | some o => (o.after.all fun e => !Region.binds md e || decide (e.on < i)) &&
      (match o.dst with | some d => decide (d < n) | none => true) &&
      ((List.range ops.size).all fun j => match ops[j]? with
        | none => true
        | some oj => decide (i = j) || match o.dst, oj.dst with | some d, some e => d != e | _, _ => true) &&
      match o.op with
      | .alloc _ => o.guard.isNone && o.dst.isSome
      | .store T p y => o.dst.isNone && o.guard.isNone && match p with
        | .tmp d => ((List.range ops.size).any fun k => match ops[k]? with
            | none => false
            | some ok => ok.dst == some d && (match ok.op with | .alloc T' => T' == T | _ => false) && o.after.any fun e => Region.binds md e && e.on == k) &&
          (List.range ops.size).all fun j => match ops[j]? with
            | none => true
            | some oj => (!isTmp y oj.dst || o.after.any fun e => Region.binds md e && e.on == j) && (isStore oj || pu j || o.after.any fun e => Region.binds md e && e.on == j) &&
              (decide (i = j) || match oj.op with | .store _ p' _ => !isTmp p' (some d) | _ => true)
        | _ => false
      | _ => true
structure LooseOk (md : Region.Mode) (ops : Array Oper) (pu : Nat → Bool) (n : Nat) : Prop where
  back : ∀ (i : Nat) (o : Oper), ops[i]? = some o → ∀ e ∈ o.after, Region.binds md e = true → e.on < i
  room : ∀ (i : Nat) (o : Oper) d, ops[i]? = some o → o.dst = some d → d < n
  own : ∀ (i j : Nat) (o oj : Oper) d, ops[i]? = some o → ops[j]? = some oj → o.dst = some d → oj.dst = some d → i = j
  alloc : ∀ (i : Nat) (o : Oper) T, ops[i]? = some o → o.op = .alloc T → o.guard = none ∧ ∃ d, o.dst = some d
  store : ∀ (i : Nat) (o : Oper) T p y, ops[i]? = some o → o.op = .store T p y → o.dst = none ∧ o.guard = none ∧ ∃ d, p = .tmp d ∧
    (∃ (k : Nat) (ok : Oper), ops[k]? = some ok ∧ ok.dst = some d ∧ ok.op = .alloc T ∧ ∃ e ∈ o.after, Region.binds md e = true ∧ e.on = k) ∧
    (∀ (j : Nat) (oj : Oper) d', ops[j]? = some oj → oj.dst = some d' → y = .tmp d' → ∃ e ∈ o.after, Region.binds md e = true ∧ e.on = j) ∧
    (∀ (j : Nat) (oj : Oper), ops[j]? = some oj → isStore oj = false → pu j = false → ∃ e ∈ o.after, Region.binds md e = true ∧ e.on = j) ∧
    (∀ (j : Nat) (oj : Oper) T' p' y', ops[j]? = some oj → oj.op = .store T' p' y' → i ≠ j → p' ≠ p)
theorem looseB_spec {n : Nat} (h : looseB md ops pu n = true) : LooseOk md ops pu n := by
  have each : ∀ (i : Nat) (o : Oper), ops[i]? = some o → _ := fun i o hi => by
    have h1 := List.all_eq_true.1 h i (List.mem_range.2 (Array.getElem?_eq_some_iff.1 hi).1)
    simp only [hi, Bool.and_eq_true] at h1
    exact h1
  have edge : ∀ (o : Oper) (j : Nat), (o.after.any fun e => Region.binds md e && e.on == j) = true → ∃ e ∈ o.after, Region.binds md e = true ∧ e.on = j := fun o j hb => by
    obtain ⟨e, he, hb⟩ := Array.any_eq_true'.1 hb
    simp only [Bool.and_eq_true, beq_iff_eq] at hb
    exact ⟨e, he, hb.1, hb.2⟩
  refine ⟨?_, ?_, ?_, ?_, ?_⟩
  · intro i o hi e he hb
    have := Array.all_eq_true'.1 (each i o hi).1.1.1 e he
    simpa [hb] using this
  · intro i o d hi hd
    have := (each i o hi).1.1.2
    simpa [hd] using this
  · intro i j o oj d hi hj hd he
    have h1 := List.all_eq_true.1 (each i o hi).1.2 j (List.mem_range.2 (Array.getElem?_eq_some_iff.1 hj).1)
    simp only [hj, hd, he] at h1
    simpa using h1
  · intro i o T hi hop
    have h1 := (each i o hi).2
    simp only [hop, Bool.and_eq_true, Option.isNone_iff_eq_none, Option.isSome_iff_exists] at h1
    exact h1
  · intro i o T p y hi hop
    have h1 := (each i o hi).2
    simp only [hop, Bool.and_eq_true, Option.isNone_iff_eq_none] at h1
    obtain ⟨⟨hd, hg⟩, h2⟩ := h1
    refine ⟨hd, hg, ?_⟩
    cases p with
    | tmp d =>
      simp only [Bool.and_eq_true] at h2
      obtain ⟨h3, h4⟩ := h2
      have h5 : ∀ (j : Nat) (oj : Oper), ops[j]? = some oj → _ := fun j oj hj => by
        have h6 := List.all_eq_true.1 h4 j (List.mem_range.2 (Array.getElem?_eq_some_iff.1 hj).1)
        simp only [hj, Bool.and_eq_true, Bool.or_eq_true] at h6
        exact h6
      refine ⟨d, rfl, ?_, ?_, ?_, ?_⟩
      · obtain ⟨k, hk, h6⟩ := List.any_eq_true.1 h3
        cases hok : ops[k]? with
        | none => simp [hok] at h6
        | some ok =>
          simp only [hok, Bool.and_eq_true, beq_iff_eq] at h6
          obtain ⟨⟨h7, h8⟩, h9⟩ := h6
          cases hopk : ok.op <;> simp only [hopk] at h8 <;> try (cases h8)
          rename_i T'
          have hT : T' = T := by simpa using h8
          subst hT
          exact ⟨k, ok, hok, h7, hopk, edge o k h9⟩
      · intro j oj d' hj hdj hy
        have h6 := (h5 j oj hj).1.1
        rcases h6 with h6 | h6
        · exfalso
          rw [hy, hdj] at h6
          simp [isTmp] at h6
        · exact edge o j h6
      · intro j oj hj hs hp
        have h6 := (h5 j oj hj).1.2
        rcases h6 with (h6 | h6) | h6
        · rw [hs] at h6; cases h6
        · rw [hp] at h6; cases h6
        · exact edge o j h6
      · intro j oj T' p' y' hj hop' hne
        have h6 := (h5 j oj hj).2
        rcases h6 with h6 | h6
        · exact absurd (by simpa using h6) hne
        · simp only [hop', Bool.not_eq_true'] at h6
          exact isTmp_spec h6 d rfl
    | _ => simp at h2
theorem goodL {Q : Act → Array Bool → Prop} {y : Operand} {G : Value → Prop} (hQ : ∀ a ran, Q a ran → G (a.eval y)) :
    ∀ (fuel : Nat) (listed : Array Bool) (a : Act) (ran : Array Bool), anyL P md ops C B pu R Q fuel listed a ran → Ripe ops listed y → G (a.eval y) := by
  intro fuel
  induction fuel with
  | zero => intro listed a ran h _; exact hQ _ _ h.2
  | succ fuel ih =>
    intro listed a ran h hr
    cases hl : Region.ready md ops listed with
    | nil => exact hQ _ _ (h.1 hl)
    | cons i rest =>
      have hi : i ∈ Region.ready md ops listed := by rw [hl]; exact List.mem_cons_self ..
      have h1 := h.2 i hi
      obtain ⟨hun, o, ho, _⟩ := mem_ready.1 hi
      unfold lOp at h1
      simp only [ho] at h1
      split at h1
      · exact ih _ _ _ h1 (hr.set i)
      · split at h1
        · obtain ⟨_, ⟨v, hv⟩, hK⟩ := h1
          have := ih _ _ _ (hK v hv) (hr.set i)
          rwa [hr.put ho hun] at this
        · have := ih _ _ _ h1 (hr.set i)
          rwa [hr.put ho hun] at this

/-- The state's law. -/
structure KeptL (P : Program) (md : Region.Mode) (ops : Array Oper) (B n : Nat) (R : Nat → Value → World → Prop) (w0 : World) (listed ran : Array Bool) (a : Act) (w : World) : Prop where
  ext : ∃ x : Ext B w0, x.val = w
  room : a.tmps.size = n
  closed : ∀ (s : Nat) (os : Oper) e, ops[s]? = some os → listed.getD s true = true → e ∈ os.after → Region.binds md e = true → listed.getD e.on false = true
  rans : ∀ j, ran.getD j false = true → listed.getD j true = true
  facts : (∀ (s : Nat) (os : Oper), ops[s]? = some os → isStore os = true → listed.getD s true = false) → ∀ (j : Nat) (oj : Oper) d, ops[j]? = some oj → isAllocO oj = false → ran.getD j false = true → oj.dst = some d → R j (a.eval (.tmp d)) w
  made : ∀ (j : Nat) (oj : Oper) d T, ops[j]? = some oj → oj.op = .alloc T → oj.dst = some d → listed.getD j true = true → ∃ g cs, a.eval (.tmp d) = .pointer (some ⟨g, 0, none⟩) ∧ B ≤ g ∧ w.heap[g]? = some (.cells cs T (0, 0)) ∧ (P.info? T).map (·.size) = some cs.size
  apart : ∀ (j : Nat) (oj : Oper) d T (k : Nat) (ok : Oper) e U, ops[j]? = some oj → oj.op = .alloc T → oj.dst = some d → listed.getD j true = true → ops[k]? = some ok → ok.op = .alloc U → ok.dst = some e → listed.getD k true = true → j ≠ k → a.eval (.tmp d) ≠ a.eval (.tmp e)
  done : ∀ (s : Nat) (os : Oper) T p y g, ops[s]? = some os → os.op = .store T p y → listed.getD s true = true → a.eval p = .pointer (some ⟨g, 0, none⟩) → Ripe ops listed y ∧ w.heap[g]? = some (.cells (a.eval y).cells T (0, 0))
/-- What the walk must say at its end. -/
def EndL (P : Program) (ops : Array Oper) (B : Nat) (R : Nat → Value → World → Prop) (w0 : World) (Q : Exit → Act → World → Prop) (a : Act) (ran : Array Bool) : Prop :=
  (∀ (s : Nat) (os : Oper) T p y, ops[s]? = some os → os.op = .store T p y → Fits P (a.eval y) T) ∧
  ∀ w, Below B w0 w → (∀ (s : Nat) (os : Oper) T p y g, ops[s]? = some os → os.op = .store T p y → a.eval p = .pointer (some ⟨g, 0, none⟩) → w.heap[g]? = some (.cells (a.eval y).cells T (0, 0))) →
    (∀ (j : Nat) (oj : Oper) d T (k : Nat) (ok : Oper) e U, ops[j]? = some oj → oj.op = .alloc T → oj.dst = some d → ops[k]? = some ok → ok.op = .alloc U → ok.dst = some e → j ≠ k → a.eval (.tmp d) ≠ a.eval (.tmp e)) →
    ((∀ o ∈ ops.toList, isStore o = false) → ∀ (j : Nat) (oj : Oper) d, ops[j]? = some oj → isAllocO oj = false → ran.getD j false = true → oj.dst = some d → R j (a.eval (.tmp d)) w) → Q .normal a w
theorem size_put (a : Act) (d : Option Tmp) (v : Value) : (a.put d v).tmps.size = a.tmps.size := by cases d <;> simp [Act.put]
theorem eval_own {a : Act} {d : Tmp} {v : Value} (h : d < a.tmps.size) : (a.put (some d) v).eval (.tmp d) = v := by simp [Act.put, Act.eval, Array.getD, h]
theorem getD_false_true {l : Array Bool} {i : Nat} (h : l.getD i false = true) : l.getD i true = true := by
  rcases Nat.lt_or_ge i l.size with h' | h'
  · simp [h'] at h ⊢; exact h
  · simp [Array.getElem?_eq_none h']
theorem getD_true_false {l : Array Bool} {i : Nat} (hi : i < l.size) (h : l.getD i true = true) : l.getD i false = true := by
  simp [hi] at h ⊢; exact h
theorem anyL_wp {n : Nat} {w0 : World} {Q : Exit → Act → World → Prop} (hL : LooseOk md ops pu n) (hB : B ≤ w0.heap.size)
    (hR : ∀ i v w w', R i v w → Below w.heap.size w w' → R i v w')
    (hA : ∀ (i : Nat) (o : Oper) T, ops[i]? = some o → o.op = .alloc T → ∀ w : World, ∃ cs, (Instr.alloc T true (.tuple #[])).run P w = .ok (.pointer (some ⟨w.heap.size, 0, none⟩)) (w.alloc (.cells cs T)) ∧ (P.info? T).map (·.size) = some cs.size) :
    ∀ (fuel : Nat) (listed : Array Bool) (a : Act) (ran : Array Bool) (w : World), KeptL P md ops B n R w0 listed ran a w → listed.size = ops.size →
    anyL P md ops (fun w' => ∃ x : Ext B w0, w' = x.val) B pu R (EndL P ops B R w0 Q) fuel listed a ran → wpAny P md ops Q fuel listed a w := by
  have fin : ∀ (listed : Array Bool) (a : Act) (ran : Array Bool) (w : World), KeptL P md ops B n R w0 listed ran a w → listed.size = ops.size → Region.ready md ops listed = [] → EndL P ops B R w0 Q a ran → Q .normal a w := by
    intro listed a ran w hk hsz hr ⟨_, hq⟩
    obtain ⟨x, rfl⟩ := hk.ext
    have all : ∀ i, i < ops.size → listed.getD i true = true := by
      intro i
      induction i using Nat.strongRecOn with
      | _ i ih =>
        intro hi
        cases hg : listed.getD i true with
        | true => rfl
        | false =>
          exfalso
          have : i ∈ Region.ready md ops listed := by
            refine mem_ready.2 ⟨hg, ops[i], by simp, fun e he hb => ?_⟩
            have hlt := hL.back i ops[i] (by simp) e he hb
            exact getD_true_false (by omega) (ih e.on hlt (by omega))
          rw [hr] at this
          cases this
    have all' : ∀ (i : Nat) (o : Oper), ops[i]? = some o → listed.getD i true = true := fun i o hi => all i (Array.getElem?_eq_some_iff.1 hi).1
    refine hq x.val x.property (fun s os T p y g hs hop hp => (hk.done s os T p y g hs hop (all' s os hs) hp).2) (fun j oj d T k ok e U hj hoj hd hk' hok he hne => hk.apart j oj d T k ok e U hj hoj hd (all' j oj hj) hk' hok he (all' k ok hk') hne) ?_
    intro hns
    exact hk.facts fun s os hs hst => by
      have := hns os (by rw [← Array.getElem?_toList] at hs; exact List.mem_of_getElem? hs)
      rw [this] at hst
      cases hst
  intro fuel
  induction fuel with
  | zero => intro listed a ran w hk hsz h; exact ⟨h.1, fin listed a ran w hk hsz h.1 h.2⟩
  | succ fuel ih =>
    intro listed a ran w hk hsz h
    refine ⟨fun h0 => fin listed a ran w hk hsz h0 (h.1 h0), fun i hi => ?_⟩
    have h1 := h.2 i hi
    obtain ⟨hun, o, ho, hready⟩ := mem_ready.1 hi
    have hilt : i < ops.size := (Array.getElem?_eq_some_iff.1 ho).1
    have hsz' : (listed.setIfInBounds i true).size = ops.size := by simpa using hsz
    have hnow : (listed.setIfInBounds i true).getD i true = true := by simp [show i < listed.size by omega]
    have hback : ∀ j, j ≠ i → (listed.setIfInBounds i true).getD j true = true → listed.getD j true = true := fun j hj hl => by rwa [getD_set_ne true (Ne.symm hj)] at hl
    have hclosed : ∀ (s : Nat) (os : Oper) e, ops[s]? = some os → (listed.setIfInBounds i true).getD s true = true → e ∈ os.after → Region.binds md e = true → (listed.setIfInBounds i true).getD e.on false = true := by
      intro s os e hs hl he hb
      by_cases hsi : s = i
      · subst hsi
        rw [ho] at hs
        obtain rfl := Option.some.inj hs
        exact getD_set_true (hready e he hb)
      · exact getD_set_true (hk.closed s os e hs (hback s hsi hl) he hb)
    -- a store has come up: then so has all that may make memory
    have late : isStore o = false → pu i = false → ∀ (s : Nat) (os : Oper), ops[s]? = some os → isStore os = true → listed.getD s true = false := by
      intro hso hpo s os hs hst
      cases hl : listed.getD s true with
      | false => rfl
      | true =>
        exfalso
        obtain ⟨T, p, y, hop⟩ : ∃ T p y, os.op = .store T p y := by
          unfold isStore at hst
          split at hst
          · exact ⟨_, _, _, by assumption⟩
          · cases hst
        obtain ⟨_, _, d, _, _, _, h5, _⟩ := hL.store s os T p y hs hop
        obtain ⟨e, he, hb, hon⟩ := h5 i o ho hso hpo
        have h6 := hk.closed s os e hs hl he hb
        rw [hon, getD_both hun] at h6
        cases h6
    -- what is kept when a temporary is filled, and the world grows
    have keep : ∀ (v : Value) (ran' : Array Bool) (w' : World), isStore o = false → isAllocO o = false → (∃ x : Ext B w0, x.val = w') → Below w.heap.size w w' →
        (ran' = ran ∨ ran' = ran.setIfInBounds i true) → ((∀ (s : Nat) (os : Oper), ops[s]? = some os → isStore os = true → listed.getD s true = false) → ran' = ran ∨ R i v w') →
        KeptL P md ops B n R w0 (listed.setIfInBounds i true) ran' (a.put o.dst v) w' := by
      intro v ran' w' hso hal hx hb hran hfact
      have hev : ∀ (j : Nat) (oj : Oper) d, ops[j]? = some oj → oj.dst = some d → j ≠ i → (a.put o.dst v).eval (.tmp d) = a.eval (.tmp d) := fun j oj d hj hd hji => eval_tmp_put fun e => hji (hL.own j i oj o d hj ho hd e)
      have hranl : ∀ j, j ≠ i → ran'.getD j false = true → ran.getD j false = true := fun j hji hr => by
        rcases hran with rfl | rfl
        · exact hr
        · rwa [getD_set_ne false (Ne.symm hji)] at hr
      have hni : ∀ (T : TypeId) (j : Nat) (oj : Oper), ops[j]? = some oj → oj.op = .alloc T → j ≠ i := fun T j oj hj hop hji => by
        subst hji
        rw [ho] at hj
        obtain rfl := Option.some.inj hj
        unfold isAllocO at hal
        rw [hop] at hal
        cases hal
      refine ⟨hx, by rw [size_put]; exact hk.room, hclosed, ?_, ?_, ?_, ?_, ?_⟩
      · intro j hr
        by_cases hji : j = i
        · subst hji; exact hnow
        · exact getD_set_t (hk.rans j (hranl j hji hr))
      · intro hns j oj d hj haj hr hd
        have hns' : ∀ (s : Nat) (os : Oper), ops[s]? = some os → isStore os = true → listed.getD s true = false := fun s os hs hst => by
          have := hns s os hs hst
          by_cases hsi : s = i
          · subst hsi; exact hun
          · rwa [getD_set_ne true (Ne.symm hsi)] at this
        by_cases hji : j = i
        · subst hji
          rw [ho] at hj
          obtain rfl := Option.some.inj hj
          rw [hd, eval_own (by rw [hk.room]; exact hL.room j o d ho hd)]
          rcases hfact hns' with h2 | h2
          · exfalso
            rw [h2] at hr
            have := hk.rans j hr
            rw [hun] at this
            cases this
          · exact h2
        · rw [hev j oj d hj hd hji]
          exact hR _ _ _ _ (hk.facts hns' j oj d hj haj (hranl j hji hr) hd) hb
      · intro j oj d T hj hop hd hl
        have hji := hni T j oj hj hop
        obtain ⟨g, cs, h2, h3, h4, h5⟩ := hk.made j oj d T hj hop hd (hback j hji hl)
        exact ⟨g, cs, by rw [hev j oj d hj hd hji]; exact h2, h3, (hb.block g (lt_of_heap h4)).trans h4, h5⟩
      · intro j oj d T k ok e U hj hoj hd hl hk' hok he hl' hne
        have hji := hni T j oj hj hoj
        have hki := hni U k ok hk' hok
        rw [hev j oj d hj hd hji, hev k ok e hk' he hki]
        exact hk.apart j oj d T k ok e U hj hoj hd (hback j hji hl) hk' hok he (hback k hki hl') hne
      · intro s os T p y g hs hop hl hp
        have hsi : s ≠ i := fun hsi => by
          subst hsi
          rw [ho] at hs
          obtain rfl := Option.some.inj hs
          unfold isStore at hso
          rw [hop] at hso
          cases hso
        obtain ⟨_, _, d, rfl, ⟨k, ok, hk', hkd, _, e, he, heb, hek⟩, _⟩ := hL.store s os T p y hs hop
        have hlk : listed.getD k false = true := by rw [← hek]; exact hk.closed s os e hs (hback s hsi hl) he heb
        have hki : k ≠ i := fun h => by subst h; rw [getD_both hun] at hlk; cases hlk
        rw [hev k ok d hk' hkd hki] at hp
        obtain ⟨h2, h3⟩ := hk.done s os T (.tmp d) y g hs hop (hback s hsi hl) hp
        exact ⟨h2.set i, by rw [h2.put ho hun]; exact (hb.block g (lt_of_heap h3)).trans h3⟩
    unfold wpOp
    unfold lOp at h1
    simp only [ho] at h1 ⊢
    by_cases hs : isStore o = true
    · rw [if_pos hs] at h1
      obtain ⟨T, p, y, hop⟩ : ∃ T p y, o.op = .store T p y := by
        unfold isStore at hs
        split at hs
        · exact ⟨_, _, _, by assumption⟩
        · cases hs
      obtain ⟨hd, hg, d, rfl, ⟨k, ok, hk', hkd, hkop, e, he, heb, hek⟩, hy, _, hone⟩ := hL.store i o T p y ho hop
      have hwant : Region.wanted o (yielded ops a.tmps) = true := by unfold Region.wanted; rw [hg]
      rw [if_pos hwant]
      have hlk : listed.getD k true = true := by
        have := hready e he heb
        rw [hek] at this
        exact getD_false_true this
      obtain ⟨g, cs, hgp, hBg, hgc, hgs⟩ := hk.made k ok d T hk' hkop hkd hlk
      have hripe : Ripe ops listed y := fun j oj d' hj hdj hx => by
        obtain ⟨e', he', hb', hon⟩ := hy j oj d' hj hdj hx
        have := hready e' he' hb'
        rw [hon] at this
        exact getD_false_true this
      have hfit : Fits P (a.eval y) T := goodL (G := fun v => Fits P v T) (fun a' ran' hq => hq.1 i o T (.tmp d) y ho hop |> fun h => h) fuel _ a ran h1 (hripe.set i)
      refine .inl ?_
      unfold Oper.wp
      rw [store_run hop hgp hgc hgs hfit]
      simp only [Oper.upon]
      rw [hd]
      show wpAny P md ops Q fuel _ a _
      refine ih _ _ ran _ ?_ hsz' h1
      have hother : ∀ (j : Nat) (oj : Oper) d' T', ops[j]? = some oj → oj.op = .alloc T' → oj.dst = some d' → (listed.setIfInBounds i true).getD j true = true → j ≠ k → ∀ g', a.eval (.tmp d') = .pointer (some ⟨g', 0, none⟩) → g' ≠ g := by
        intro j oj d' T' hj hoj hdj hl hjk g' hg' hgg
        subst hgg
        have hji : j ≠ i := fun h => by
          subst h
          rw [ho] at hj
          obtain rfl := Option.some.inj hj
          rw [hop] at hoj
          cases hoj
        exact hk.apart j oj d' T' k ok d T hj hoj hdj (hback j hji hl) hk' hkop hkd hlk hjk (by rw [hg', hgp])
      refine ⟨?_, hk.room, hclosed, fun j hr => getD_set_t (hk.rans j hr), ?_, ?_, ?_, ?_⟩
      · obtain ⟨x, rfl⟩ := hk.ext
        exact ⟨⟨x.val.setRow g (a.eval y).cells, below_setRow' x.property hBg _⟩, rfl⟩
      · intro hns
        have := hns i o ho hs
        rw [hnow] at this
        cases this
      · intro j oj d' T' hj hoj hdj hl
        have hji : j ≠ i := fun h => by
          subst h
          rw [ho] at hj
          obtain rfl := Option.some.inj hj
          rw [hop] at hoj
          cases hoj
        obtain ⟨g', cs', h2, h3, h4, h5⟩ := hk.made j oj d' T' hj hoj hdj (hback j hji hl)
        by_cases hjk : j = k
        · subst hjk
          rw [hk'] at hj
          obtain rfl := Option.some.inj hj
          rw [hkop] at hoj
          obtain rfl := Op.alloc.inj hoj
          rw [hkd] at hdj
          obtain rfl := Option.some.inj hdj
          rw [hgp] at h2
          simp only [Value.pointer.injEq, Option.some.injEq, Addr.mk.injEq, and_true] at h2
          subst h2
          exact ⟨g, _, hgp, hBg, setRow_heap w g cs _ T (0, 0) hgc, hfit.1⟩
        · have hne := hother j oj d' T' hj hoj hdj hl hjk g' h2
          exact ⟨g', cs', h2, h3, by rw [setRow_other _ _ _ _ hne]; exact h4, h5⟩
      · intro j oj d1 T1 k1 ok1 e1 U1 hj hoj hdj hl hk1 hok1 he1 hl1 hne
        have hni : ∀ (T : TypeId) (j : Nat) (oj : Oper), ops[j]? = some oj → oj.op = .alloc T → j ≠ i := fun T j oj hj hop' hji => by
          subst hji
          rw [ho] at hj
          obtain rfl := Option.some.inj hj
          rw [hop] at hop'
          cases hop'
        exact hk.apart j oj d1 T1 k1 ok1 e1 U1 hj hoj hdj (hback j (hni T1 j oj hj hoj) hl) hk1 hok1 he1 (hback k1 (hni U1 k1 ok1 hk1 hok1) hl1) hne
      · intro s os T' p' y' g' hs' hop' hl hp'
        by_cases hsi : s = i
        · subst hsi
          rw [ho] at hs'
          obtain rfl := Option.some.inj hs'
          rw [hop] at hop'
          obtain ⟨rfl, rfl, rfl⟩ := Op.store.inj hop'
          rw [hgp] at hp'
          simp only [Value.pointer.injEq, Option.some.injEq, Addr.mk.injEq, and_true] at hp'
          subst hp'
          exact ⟨hripe.set s, setRow_heap w g cs _ T (0, 0) hgc⟩
        · obtain ⟨_, _, d', rfl, ⟨k2, ok2, hk2, hkd2, hkop2, e2, he2, heb2, hek2⟩, _⟩ := hL.store s os T' p' y' hs' hop'
          have hl2 : listed.getD k2 true = true := by
            have := hk.closed s os e2 hs' (hback s hsi hl) he2 heb2
            rw [hek2] at this
            exact getD_false_true this
          have hkk : k2 ≠ k := fun h => by
            subst h
            rw [hk'] at hk2
            obtain rfl := Option.some.inj hk2
            rw [hkd] at hkd2
            obtain rfl := Option.some.inj hkd2
            exact hone s os T' (.tmp d) y' hs' hop' (Ne.symm hsi) rfl
          obtain ⟨h3, h4⟩ := hk.done s os T' (.tmp d') y' g' hs' hop' (hback s hsi hl) hp'
          have hne := hother k2 ok2 d' T' hk2 hkop2 hkd2 (getD_set_t hl2) hkk g' hp'
          exact ⟨h3.set i, by rw [setRow_other _ _ _ _ hne]; exact h4⟩
    · rw [if_neg hs] at h1
      have hs' : isStore o = false := by simpa using hs
      by_cases hw : Region.wanted o (yielded ops a.tmps) = true
      · rw [if_pos hw] at h1 ⊢
        obtain ⟨hpre, _, hK⟩ := h1
        refine .inl ?_
        unfold preL at hpre
        unfold postL at hK
        by_cases hal : isAllocO o = true
        · simp only [hal, if_true] at hK
          obtain ⟨T, hop⟩ : ∃ T, o.op = .alloc T := by
            unfold isAllocO at hal
            split at hal
            · exact ⟨_, by assumption⟩
            · cases hal
          obtain ⟨_, d, hd⟩ := hL.alloc i o T ho hop
          obtain ⟨cs, hrun, hcs⟩ := hA i o T ho hop w
          unfold Oper.wp
          have hex : (execOp a.eval o).run P w = .ok (.value (.pointer (some ⟨w.heap.size, 0, none⟩))) (w.alloc (.cells cs T)) := by
            unfold execOp
            simp [hop, hrun]
          rw [hex]
          simp only [Oper.upon]
          obtain ⟨x, rfl⟩ := hk.ext
          have hBw : B ≤ x.val.heap.size := Nat.le_trans hB x.property.size
          refine ih _ _ _ _ ?_ hsz' (hK _ ⟨_, hBw, rfl⟩)
          have hev : ∀ (j : Nat) (oj : Oper) d', ops[j]? = some oj → oj.dst = some d' → j ≠ i → ∀ v, (a.put o.dst v).eval (.tmp d') = a.eval (.tmp d') := fun j oj d' hj hd' hji v => eval_tmp_put fun e => hji (hL.own j i oj o d' hj ho hd' e)
          have hpi : ∀ (s : Nat) (os : Oper), ops[s]? = some os → isStore os = true → s ≠ i := fun s os hs1 hst h => by
            subst h
            rw [ho] at hs1
            obtain rfl := Option.some.inj hs1
            rw [hs'] at hst
            cases hst
          have hown : (a.put o.dst (.pointer (some ⟨x.val.heap.size, 0, none⟩))).eval (.tmp d) = .pointer (some ⟨x.val.heap.size, 0, none⟩) := by
            rw [hd]; exact eval_own (by rw [hk.room]; exact hL.room i o d ho hd)
          refine ⟨⟨⟨_, x.property.alloc hBw (.cells cs T)⟩, rfl⟩, by rw [size_put]; exact hk.room, hclosed, ?_, ?_, ?_, ?_, ?_⟩
          · intro j hr
            by_cases hji : j = i
            · subst hji; exact hnow
            · rw [getD_set_ne false (Ne.symm hji)] at hr; exact getD_set_t (hk.rans j hr)
          · intro hns j oj d' hj haj hr hd'
            have hji : j ≠ i := fun h => by
              subst h
              rw [ho] at hj
              obtain rfl := Option.some.inj hj
              rw [hal] at haj
              cases haj
            rw [getD_set_ne false (Ne.symm hji)] at hr
            rw [hev j oj d' hj hd' hji]
            refine hR _ _ _ _ (hk.facts (fun s os hs1 hst => ?_) j oj d' hj haj hr hd') ((Below.refl _ _).alloc (Nat.le_refl _) _)
            have := hns s os hs1 hst
            rwa [getD_set_ne true (Ne.symm (hpi s os hs1 hst))] at this
          · intro j oj d' T' hj hoj hd' hl
            by_cases hji : j = i
            · subst hji
              rw [ho] at hj
              obtain rfl := Option.some.inj hj
              rw [hop] at hoj
              obtain rfl := Op.alloc.inj hoj
              rw [hd] at hd'
              obtain rfl := Option.some.inj hd'
              exact ⟨_, cs, hown, hBw, alloc_new _ _, hcs⟩
            · obtain ⟨g', cs', h2, h3, h4, h5⟩ := hk.made j oj d' T' hj hoj hd' (hback j hji hl)
              exact ⟨g', cs', by rw [hev j oj d' hj hd' hji]; exact h2, h3, keepAl h4, h5⟩
          · intro j oj d1 T1 k1 ok1 e1 U1 hj hoj hdj hl hk1 hok1 he1 hl1 hne
            have fresh : ∀ (j : Nat) (oj : Oper) d1 T1, ops[j]? = some oj → oj.op = .alloc T1 → oj.dst = some d1 → (listed.setIfInBounds i true).getD j true = true → j ≠ i → (a.put o.dst (.pointer (some ⟨x.val.heap.size, 0, none⟩))).eval (.tmp d1) ≠ .pointer (some ⟨x.val.heap.size, 0, none⟩) := by
              intro j oj d1 T1 hj hoj hdj hl hji heq
              obtain ⟨g', cs', h2, h3, h4, h5⟩ := hk.made j oj d1 T1 hj hoj hdj (hback j hji hl)
              rw [hev j oj d1 hj hdj hji, h2] at heq
              simp only [Value.pointer.injEq, Option.some.injEq, Addr.mk.injEq, and_true] at heq
              have := lt_of_heap h4
              omega
            by_cases hji : j = i
            · subst hji
              rw [ho] at hj
              obtain rfl := Option.some.inj hj
              rw [hd] at hdj
              obtain rfl := Option.some.inj hdj
              rw [hown]
              exact fun h => fresh k1 ok1 e1 U1 hk1 hok1 he1 hl1 (Ne.symm hne) h.symm
            · by_cases hki : k1 = i
              · subst hki
                rw [ho] at hk1
                obtain rfl := Option.some.inj hk1
                rw [hd] at he1
                obtain rfl := Option.some.inj he1
                rw [hown]
                exact fresh j oj d1 T1 hj hoj hdj hl hji
              · rw [hev j oj d1 hj hdj hji, hev k1 ok1 e1 hk1 he1 hki]
                exact hk.apart j oj d1 T1 k1 ok1 e1 U1 hj hoj hdj (hback j hji hl) hk1 hok1 he1 (hback k1 hki hl1) hne
          · intro s os T' p y g hs1 hop' hl hp
            have hsi := hpi s os hs1 (by unfold isStore; rw [hop'])
            obtain ⟨_, _, d2, rfl, ⟨k2, ok2, hk2, hkd2, _, e2, he2, heb2, hek2⟩, _⟩ := hL.store s os T' p y hs1 hop'
            have hlk : listed.getD k2 false = true := by rw [← hek2]; exact hk.closed s os e2 hs1 (hback s hsi hl) he2 heb2
            have hki : k2 ≠ i := fun h => by subst h; rw [getD_both hun] at hlk; cases hlk
            rw [hev k2 ok2 d2 hk2 hkd2 hki] at hp
            obtain ⟨h2, h3⟩ := hk.done s os T' (.tmp d2) y g hs1 hop' (hback s hsi hl) hp
            exact ⟨h2.set i, by rw [h2.put ho hun]; exact keepAl h3⟩
        · have hal' : isAllocO o = false := by simpa using hal
          simp only [hal', Bool.false_eq_true, if_false] at hpre hK
          by_cases hp : pu i = true
          · simp only [hp, if_true] at hpre
            obtain ⟨v, hv, hRv⟩ := hpre
            unfold Oper.wp
            rw [hv w]
            simp only [Oper.upon]
            exact ih _ _ _ _ (keep v _ w hs' hal' hk.ext (Below.refl _ _) (Or.inr rfl) (fun _ => Or.inr (hRv w))) hsz' (hK v ⟨w, hRv w⟩)
          · have hp' : pu i = false := by simpa using hp
            simp only [hp', Bool.false_eq_true, if_false] at hpre
            obtain ⟨x, hx⟩ := hk.ext
            have hns := late hs' hp'
            have h3 := hpre w ⟨x, hx.symm⟩ (fun j oj d hj haj hr hd _ => hk.facts hns j oj d hj haj hr hd)
            have hext : ∀ w', Below w.heap.size w w' → ∃ y : Ext B w0, y.val = w' := fun w' hb => by
              subst hx
              exact ⟨⟨w', x.property.trans (hb.mono (Nat.le_trans hB x.property.size))⟩, rfl⟩
            unfold Oper.wp
            generalize (execOp a.eval o).run P w = res at *
            cases res with
            | ok nx w' =>
              cases nx <;> simp only [looseUpon] at h3 <;> simp only [Oper.upon]
              case value u => exact ih _ _ _ _ (keep u _ w' hs' hal' (hext w' h3.1) h3.1 (Or.inr rfl) (fun _ => Or.inr h3.2)) hsz' (hK u ⟨w', h3.2⟩)
              case skip => exact ih _ _ _ _ (keep undef _ w' hs' hal' (hext w' h3.1) h3.1 (Or.inr rfl) (fun _ => Or.inr h3.2)) hsz' (hK undef ⟨w', h3.2⟩)
              case enter f args =>
                obtain ⟨rfl, hcall⟩ := h3
                refine hcall.mono fun e w'' he => ?_
                obtain ⟨v, rfl, hb, hg⟩ := he
                exact ih _ _ _ _ (keep v _ w'' hs' hal' (hext w'' hb) hb (Or.inr rfl) (fun _ => Or.inr hg)) hsz' (hK v ⟨w'', hg⟩)
            | halt y w' => simp only [looseUpon] at h3
      · rw [if_neg hw] at h1 ⊢
        have hal' : isAllocO o = false := by
          cases hal : isAllocO o with
          | false => rfl
          | true =>
            exfalso
            obtain ⟨T, hop⟩ : ∃ T, o.op = .alloc T := by
              unfold isAllocO at hal
              split at hal
              · exact ⟨_, by assumption⟩
              · cases hal
            obtain ⟨hg, _⟩ := hL.alloc i o T ho hop
            exact hw (by unfold Region.wanted; rw [hg])
        exact ih _ _ _ _ (keep undef _ w hs' hal' hk.ext (Below.refl _ _) (Or.inl rfl) (fun _ => Or.inl rfl)) hsz' h1

/-- ONE WALK SERVES EVERY ORDER. -/
theorem wp_region_loose {id : Nat} {Q : Exit → Act → World → Prop} {a : Act} {w : World} {l : List Oper} (R : Nat → Value → World → Prop) (pu : Nat → Bool) (hm : P.follows .mixedOrders = true) (hB : Region.lexB .any l.toArray = true)
    (hS : looseB .any l.toArray pu a.tmps.size = true)
    (hA : ∀ (i : Nat) (o : Oper) T, l.toArray[i]? = some o → o.op = .alloc T → ∀ w : World, ∃ cs, (Instr.alloc T true (.tuple #[])).run P w = .ok (.pointer (some ⟨w.heap.size, 0, none⟩)) (w.alloc (.cells cs T)) ∧ (P.info? T).map (·.size) = some cs.size)
    (hR : ∀ i v w w', R i v w → Below w.heap.size w w' → R i v w')
    (h : wpL P l.toArray (fun w' => ∃ x : Ext w.heap.size w, w' = x.val) w.heap.size pu R (EndL P l.toArray w.heap.size R w Q) l.length 0 a (Array.replicate l.length false)) :
    (Code.region id l.toArray true).wp P Q a w := by
  have hB' := hB
  simp only [Region.lexB, Bool.and_eq_true] at hB'
  have hL := looseB_spec hS
  refine wp_region_any hm ?_
  have H := anyL_lex (P := P) (C := fun w' => ∃ x : Ext w.heap.size w, w' = x.val) (B := w.heap.size) (pu := pu) (R := R) (md := .any) hB'.1 l.length 0 (Array.replicate l.toArray.size false) a (Array.replicate l.length false) (by simp) (by simpa using hB'.2) h
  have hfalse : ∀ j, (Array.replicate l.toArray.size false).getD j false = false := fun j => getD_replicate_false _ _
  have hnot : ∀ (j : Nat) (o : Oper), l.toArray[j]? = some o → ¬ (Array.replicate l.toArray.size false).getD j true = true := fun j o hj hl => by
    have hlt : j < l.toArray.size := (Array.getElem?_eq_some_iff.1 hj).1
    have := getD_in (listed := Array.replicate l.toArray.size false) (i := j) (by simpa using hlt) (hfalse j)
    rw [this] at hl
    cases hl
  have key := anyL_wp (P := P) (B := w.heap.size) (pu := pu) (R := R) (w0 := w) (Q := Q) hL (Nat.le_refl _) hR hA l.length (Array.replicate l.toArray.size false) a (Array.replicate l.length false) { w with drawn := w.drawn + 1 } ?_ (by simp) H
  · simpa using key
  · refine ⟨⟨⟨{ w with drawn := w.drawn + 1 }, (Below.refl _ w).drew⟩, rfl⟩, rfl, fun s os e hs hl => absurd hl (hnot s os hs), fun j hr => ?_, fun _ j oj d _ _ hr => ?_, fun j oj d T hj _ _ hl => absurd hl (hnot j oj hj), fun j oj d T k ok e U hj _ _ hl => absurd hl (hnot j oj hj), fun s os T p y g hs _ hl => absurd hl (hnot s os hs)⟩
    · rw [getD_replicate_false] at hr; cases hr
    · rw [getD_replicate_false] at hr; cases hr
end
end Go.Proofs.YtegmmaaapdgocaaGreat

/- STEPS of the one walk over a region that draws its order and makes memory: what an operation may leave; a step for each kind. -/
namespace Go.Proofs.YtegmmaaapdgocaaGreat
open Go Go.RowKit

/-- What an operation leaves, of whatever world; it lasts while the world only grows. -/
structure Lft where
  G : Value → World → Prop
  st : ∀ v w w', G v w → Below w.heap.size w w' → G v w'
def Lft.val (v : Value) : Lft := ⟨fun u _ => u = v, fun _ _ _ h _ => h⟩
/-- The block that a slice, or a pointer, leads to. -/
def rowAt : Value → Nat
  | .slice (some a) _ _ => a.block
  | .pointer (some a) => a.block
  | _ => 0
def Lft.row (mk : Nat → Value) (o : Obj) : Lft := ⟨fun u w => u = mk (rowAt u) ∧ w.heap[rowAt u]? = some o, fun _ _ _ ⟨h1, h2⟩ hb => ⟨h1, (hb.block _ (lt_of_heap h2)).trans h2⟩⟩
def looseR (l : List Lft) : Nat → Value → World → Prop := fun i => (l.getD i (Lft.val undef)).G
theorem looseR_st (l : List Lft) : ∀ i v w w', looseR l i v w → Below w.heap.size w w' → looseR l i v w' := fun i v w w' h hb => (l.getD i (Lft.val undef)).st v w w' h hb
def pureL (l : List Nat) : Nat → Bool := fun i => l.contains i
section
variable {P : Program} {ops : Array Oper} {C : World → Prop} {B : Nat} {pu : Nat → Bool} {R : Nat → Value → World → Prop} {Q : Act → Array Bool → Prop} {n k : Nat} {a : Act} {ran : Array Bool} {o : Oper}
theorem wpL_store (ho : ops[k]? = some o) (hs : isStore o = true) (h : wpL P ops C B pu R Q n (k + 1) a ran) : wpL P ops C B pu R Q (n + 1) k a ran := by
  unfold wpL lOp
  simp only [ho, hs, if_true]
  exact h
theorem wpL_alloc (ho : ops[k]? = some o) (hs : isStore o = false) (hal : isAllocO o = true) (hg : o.guard = none)
    (h : ∀ g, B ≤ g → wpL P ops C B pu R Q n (k + 1) (a.put o.dst (.pointer (some ⟨g, 0, none⟩))) (ran.setIfInBounds k true)) : wpL P ops C B pu R Q (n + 1) k a ran := by
  have hw : Region.wanted o (yielded ops a.tmps) = true := by unfold Region.wanted; rw [hg]
  unfold wpL lOp
  simp only [ho, hs, hw, if_true, Bool.false_eq_true, if_false]
  unfold preL postL
  simp only [hal, if_true]
  exact ⟨trivial, ⟨_, B, Nat.le_refl _, rfl⟩, fun v ⟨g, hg1, hv⟩ => by subst hv; exact h g hg1⟩
/-- An operation that leaves a known value in whatever world the region may come to. -/
theorem wpL_calm (w0 : World) (ho : ops[k]? = some o) (hs : isStore o = false) (hal : isAllocO o = false) (hp : pu k = false)
    (h : ∀ K : Value → Act → Prop, (∀ v a', a' = a.put o.dst v → R k = (Lft.val v).G → wpL P ops C B pu R Q n (k + 1) a' (ran.setIfInBounds k true) → K v a') → ∀ K0 : Act → Prop, (∀ a', a' = a.put o.dst undef → wpL P ops C B pu R Q n (k + 1) a' ran → K0 a') →
      if Region.wanted o (yielded ops a.tmps) = true then ∃ v, (∀ w, C w → Oper.quietUpon P (Below w.heap.size w) w v ((execOp a.eval o).run P w)) ∧ K v (a.put o.dst v) else K0 (a.put o.dst undef)) :
    wpL P ops C B pu R Q (n + 1) k a ran := by
  unfold wpL lOp
  simp only [ho, hs, Bool.false_eq_true, if_false]
  have H := h (fun v a' => a' = a.put o.dst v ∧ R k = (Lft.val v).G ∧ wpL P ops C B pu R Q n (k + 1) a' (ran.setIfInBounds k true)) (fun v a' h1 h2 h3 => ⟨h1, h2, h3⟩) (fun a' => wpL P ops C B pu R Q n (k + 1) a' ran) (fun a' _ h2 => h2)
  by_cases hw : Region.wanted o (yielded ops a.tmps) = true
  · rw [if_pos hw] at H ⊢
    obtain ⟨v, hv, _, hR, hK⟩ := H
    unfold preL postL
    simp only [hal, hp, Bool.false_eq_true, if_false]
    refine ⟨fun w hC _ => ?_, ⟨v, w0, by rw [hR]; rfl⟩, fun u ⟨w, hu⟩ => ?_⟩
    · have := hv w hC
      rw [hR]
      generalize (execOp a.eval o).run P w = res at *
      cases res with
      | ok nx w' =>
        cases nx <;> simp only [Oper.quietUpon] at this <;> simp only [looseUpon]
        case value u => obtain ⟨rfl, rfl⟩ := this; exact ⟨Below.refl _ _, rfl⟩
        case skip => obtain ⟨rfl, rfl⟩ := this; exact ⟨Below.refl _ _, rfl⟩
        case enter f args =>
          obtain ⟨rfl, hc⟩ := this
          exact ⟨rfl, hc.mono fun e w'' ⟨he, hb⟩ => ⟨v, he, hb, rfl⟩⟩
      | halt y w' => simp only [Oper.quietUpon] at this
    · rw [hR] at hu
      have hu' : u = v := hu
      rw [hu']
      exact hK
  · rw [if_neg hw] at H ⊢
    exact H
/-- An operation that asks nothing of the world. -/
theorem wpL_pure (w0 : World) (ho : ops[k]? = some o) (hs : isStore o = false) (hal : isAllocO o = false) (hp : pu k = true)
    (h : ∀ K : Value → Act → Prop, (∀ v a', a' = a.put o.dst v → R k = (Lft.val v).G → wpL P ops C B pu R Q n (k + 1) a' (ran.setIfInBounds k true) → K v a') → ∀ K0 : Act → Prop, (∀ a', a' = a.put o.dst undef → wpL P ops C B pu R Q n (k + 1) a' ran → K0 a') →
      if Region.wanted o (yielded ops a.tmps) = true then ∃ v, (∀ w, (execOp a.eval o).run P w = .ok (.value v) w) ∧ K v (a.put o.dst v) else K0 (a.put o.dst undef)) :
    wpL P ops C B pu R Q (n + 1) k a ran := by
  unfold wpL lOp
  simp only [ho, hs, Bool.false_eq_true, if_false]
  have H := h (fun v a' => a' = a.put o.dst v ∧ R k = (Lft.val v).G ∧ wpL P ops C B pu R Q n (k + 1) a' (ran.setIfInBounds k true)) (fun v a' h1 h2 h3 => ⟨h1, h2, h3⟩) (fun a' => wpL P ops C B pu R Q n (k + 1) a' ran) (fun a' _ h2 => h2)
  by_cases hw : Region.wanted o (yielded ops a.tmps) = true
  · rw [if_pos hw] at H ⊢
    obtain ⟨v, hv, _, hR, hK⟩ := H
    unfold preL postL
    simp only [hal, hp, if_true, Bool.false_eq_true, if_false]
    refine ⟨⟨v, hv, fun w => by rw [hR]; rfl⟩, ⟨v, w0, by rw [hR]; rfl⟩, fun u ⟨w, hu⟩ => ?_⟩
    rw [hR] at hu
    have hu' : u = v := hu
    rw [hu']
    exact hK
  · rw [if_neg hw] at H ⊢
    exact H
/-- A row that is made: a literal's slice. -/
theorem wpL_row (w0 : World) (mk : Nat → Value) (obj : Obj) (hmk : ∀ g, rowAt (mk g) = g) (ho : ops[k]? = some o) (hs : isStore o = false) (hal : isAllocO o = false) (hp : pu k = false) (hw : Region.wanted o (yielded ops a.tmps) = true) (hR : R k = (Lft.row mk obj).G)
    (h1 : ∀ w, C w → (execOp a.eval o).run P w = .ok (.value (mk w.heap.size)) (w.alloc obj))
    (h : ∀ g, wpL P ops C B pu R Q n (k + 1) (a.put o.dst (mk g)) (ran.setIfInBounds k true)) :
    wpL P ops C B pu R Q (n + 1) k a ran := by
  unfold wpL lOp
  simp only [ho, hs, hw, if_true, Bool.false_eq_true, if_false]
  unfold preL postL
  simp only [hal, hp, Bool.false_eq_true, if_false]
  refine ⟨fun w hC _ => ?_, ⟨mk w0.heap.size, w0.alloc obj, by rw [hR]; exact ⟨by rw [hmk], by rw [hmk]; exact alloc_new _ _⟩⟩, fun u ⟨w, hu⟩ => ?_⟩
  · rw [h1 w hC, hR]
    exact ⟨(Below.refl _ _).alloc (Nat.le_refl _) _, by rw [hmk], by rw [hmk]; exact alloc_new _ _⟩
  · rw [hR] at hu
    rw [hu.1]
    exact h (rowAt u)
/-- A call: what it reads of others' work is told; what it leaves. -/
theorem wpL_call (F : Lft) (hne : ∃ v w, F.G v w) (ho : ops[k]? = some o) (hs : isStore o = false) (hal : isAllocO o = false) (hp : pu k = false) (hw : Region.wanted o (yielded ops a.tmps) = true) (hR : R k = F.G)
    (h1 : ∀ w, C w → FactsL ops R o ran a w → looseUpon P F.G w ((execOp a.eval o).run P w))
    (h : ∀ v, (∃ w, F.G v w) → wpL P ops C B pu R Q n (k + 1) (a.put o.dst v) (ran.setIfInBounds k true)) :
    wpL P ops C B pu R Q (n + 1) k a ran := by
  unfold wpL lOp
  simp only [ho, hs, hw, if_true, Bool.false_eq_true, if_false]
  unfold preL postL
  simp only [hal, hp, Bool.false_eq_true, if_false]
  rw [hR]
  exact ⟨h1, hne, fun u hu => h u hu⟩
theorem wpL_nil (h : Q a ran) : wpL P ops C B pu R Q 0 k a ran := h
theorem looseUpon_enter {G : Value → World → Prop} {w : World} {f : FuncId} {args : Array Value} (h : Calls P f args w fun e w'' => ∃ v, e = .returned v ∧ Below w.heap.size w w'' ∧ G v w'') : looseUpon P G w (.ok (.enter f args) w) := ⟨rfl, h⟩
/-- The stores of a region, in order. -/
def storesL : List Oper → List (TypeId × Operand × Operand)
  | [] => []
  | o :: l => match o.op with | .store T p y => (T, p, y) :: storesL l | _ => storesL l
theorem storesL_mem : ∀ (l : List Oper) (s : Nat) (os : Oper) T p y, l[s]? = some os → os.op = .store T p y → (T, p, y) ∈ storesL l := by
  intro l
  induction l with
  | nil => intro s os T p y h; simp at h
  | cons o l ih =>
    intro s os T p y h hop
    cases s with
    | zero =>
      simp only [List.getElem?_cons_zero, Option.some.injEq] at h
      subst h
      unfold storesL
      simp only [hop]
      exact List.mem_cons_self
    | succ s =>
      simp only [List.getElem?_cons_succ] at h
      have := ih s os T p y h hop
      unfold storesL
      split
      · exact List.mem_cons_of_mem _ this
      · exact this
theorem storesL_nil : ∀ (l : List Oper), storesL l = [] → ∀ o ∈ l, isStore o = false := by
  intro l
  induction l with
  | nil => intro _ o ho; cases ho
  | cons o l ih =>
    intro h o' ho'
    unfold storesL at h
    split at h
    · cases h
    · rename_i hne
      rcases List.mem_cons.1 ho' with rfl | ho'
      · unfold isStore
        split
        · rename_i T p y hop
          exact absurd hop (hne T p y)
        · rfl
      · exact ih h o' ho'
theorem endL {l : List Oper} {w0 : World} {Q : Exit → Act → World → Prop} (S : List (TypeId × Operand × Operand)) (hS : storesL l = S) (hfit : ∀ q ∈ S, Fits P (a.eval q.2.2) q.1)
    (h : ∀ w, Below B w0 w → (∀ (s : Nat) (os : Oper) T p y g, l.toArray[s]? = some os → os.op = .store T p y → a.eval p = .pointer (some ⟨g, 0, none⟩) → w.heap[g]? = some (.cells (a.eval y).cells T (0, 0))) →
      (∀ (j : Nat) (oj : Oper) d T (k : Nat) (ok : Oper) e U, l.toArray[j]? = some oj → oj.op = .alloc T → oj.dst = some d → l.toArray[k]? = some ok → ok.op = .alloc U → ok.dst = some e → j ≠ k → a.eval (.tmp d) ≠ a.eval (.tmp e)) →
      (S = [] → ∀ (j : Nat) (oj : Oper) d, l.toArray[j]? = some oj → isAllocO oj = false → ran.getD j false = true → oj.dst = some d → R j (a.eval (.tmp d)) w) → Q .normal a w) : EndL P l.toArray B R w0 Q a ran :=
  ⟨fun s os T p y hs hop => hfit (T, p, y) (hS ▸ storesL_mem l s os T p y (by simpa using hs) hop), fun w hb h1 h2 h3 => h w hb h1 h2 fun hS0 => h3 fun o ho => storesL_nil l (hS.trans hS0) o (by simpa using ho)⟩
/-- The types of what a region makes, in order. -/
def allocsL : List Oper → List TypeId
  | [] => []
  | o :: l => match o.op with | .alloc T => T :: allocsL l | _ => allocsL l
theorem allocsL_mem : ∀ (l : List Oper) (s : Nat) (os : Oper) T, l[s]? = some os → os.op = .alloc T → T ∈ allocsL l := by
  intro l
  induction l with
  | nil => intro s os T h; simp at h
  | cons o l ih =>
    intro s os T h hop
    cases s with
    | zero =>
      simp only [List.getElem?_cons_zero, Option.some.injEq] at h
      subst h
      unfold allocsL
      simp only [hop]
      exact List.mem_cons_self
    | succ s =>
      simp only [List.getElem?_cons_succ] at h
      have := ih s os T h hop
      unfold allocsL
      split
      · exact List.mem_cons_of_mem _ this
      · exact this
/-- A new variable of a type. -/
def Makes (P : Program) (T : TypeId) : Prop := ∀ w : World, ∃ cs, (Instr.alloc T true (.tuple #[])).run P w = .ok (.pointer (some ⟨w.heap.size, 0, none⟩)) (w.alloc (.cells cs T)) ∧ (P.info? T).map (·.size) = some cs.size
theorem allocs_ok {l : List Oper} (A : List TypeId) (hA : allocsL l = A) (h : ∀ T ∈ A, Makes P T) :
    ∀ (i : Nat) (o : Oper) T, l.toArray[i]? = some o → o.op = .alloc T → ∀ w : World, ∃ cs, (Instr.alloc T true (.tuple #[])).run P w = .ok (.pointer (some ⟨w.heap.size, 0, none⟩)) (w.alloc (.cells cs T)) ∧ (P.info? T).map (·.size) = some cs.size :=
  fun i o T hi hop => h T (hA ▸ allocsL_mem l i o T (by simpa using hi) hop)
end
attribute [go_sem] isAllocO looseUpon
theorem makes_wide : Makes Tryz.prog 24 := fun w => ⟨wcells 0, by go_simp, by kernel_rfl⟩
end Go.Proofs.YtegmmaaapdgocaaGreat

/- WHAT AN OPERATION MAY LEAVE in the one walk over a region: a number of whatever size; and that there are such. -/
namespace Go.Proofs.YtegmmaaapdgocaaGreat
open Go Go.RowKit

def Lft.big (n : Nat) : Lft := ⟨fun v w => IsBig w v n, fun _ _ _ h hb => h.below hb⟩
theorem big_some (w0 : World) (n : Nat) : ∃ v w, (Lft.big n).G v w := by
  obtain ⟨L, h1, h2⟩ : ∃ L, n < P2 (32 * L) ∧ (L ≠ 0 → P2 (32 * (L - 1)) ≤ n) := by
    refine ⟨(blen n + 31) / 32, lt_of_blen (by omega), fun hL => ?_⟩
    have hn : n ≠ 0 := fun h => by subst h; rw [blen_zero] at hL; exact hL rfl
    exact Nat.le_trans (P2_le (by omega)) (blen_le hn)
  refine ⟨.slice (some ⟨w0.heap.size, 0, none⟩) L L, w0.alloc (.cells ((List.range L).map fun i => Value.int .u32 (dig n i : Nat)).toArray 80), L, ⟨⟨_, L, rfl, Nat.le_refl _, fun _ => ⟨w0.heap.size, 0, rfl, ⟨_, _, alloc_new w0 _⟩, fun i hi => ?_⟩⟩, h1⟩, h2⟩
  rw [cell_row (alloc_new w0 _)]
  simp [hi]
theorem gives_loose {P : Program} {f : FuncId} {args : Array Value} {w : World} {n : Nat} (h : Calls P f args w (GivesBig n w)) : Calls P f args w fun e w'' => ∃ v, e = .returned v ∧ Below w.heap.size w w'' ∧ (Lft.big n).G v w'' :=
  h.mono fun _ _ ⟨r, h1, h2, h3⟩ => ⟨r, h1, h3, h2⟩
theorem val_loose {P : Program} {f : FuncId} {args : Array Value} {w : World} {v : Value} (h : Calls P f args w fun e w' => e = .returned v ∧ Below w.heap.size w w') : Calls P f args w fun e w'' => ∃ u, e = .returned u ∧ Below w.heap.size w w'' ∧ (Lft.val v).G u w'' :=
  h.mono fun _ _ ⟨h1, h2⟩ => ⟨v, h1, h2, rfl⟩
theorem val_some (w0 : World) (v : Value) : ∃ u w, (Lft.val v).G u w := ⟨v, w0, rfl⟩
end Go.Proofs.YtegmmaaapdgocaaGreat
