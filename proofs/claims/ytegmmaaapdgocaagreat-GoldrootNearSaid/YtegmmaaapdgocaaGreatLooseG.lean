/- A REGION THAT DRAWS ITS ORDER, one of whose callees turns ONE block besides its own memory: a rom's, which is made once. One walk, in the order of the text, serves every order. PRINTED by gen_looseg.py out of my texts Loose and Loose2. -/
import Derived.Test.YtegmmaaapdgocaaGreatK16
import Derived.Test.YtegmmaaapdgocaaGreatK24
import Derived.Test.YtegmmaaapdgocaaGreatK1
namespace Go.Proofs.YtegmmaaapdgocaaGreat
open Go Go.RowKit

/-- A step: all but the block g is as it was; a rom in g stays one. -/
structure StepG (g : Nat) (w w' : World) : Prop where
  but : But (· = g) w w'
  rom : IsRom w g → IsRom w' g
theorem StepG.refl (g : Nat) (w : World) : StepG g w w := ⟨But.refl _ w, fun h => h⟩
theorem StepG.al {g : Nat} {w w' : World} (h : StepG g w w') (o : Obj) : StepG g w (w'.alloc o) := ⟨h.but.al o, fun hr => (h.rom hr).keep (alloc_old _ _ _ (h.rom hr).lt)⟩
/-- The worlds that came of w: below B all but g is as it was; g is a rom. -/
structure BelowG (g B : Nat) (w0 w : World) : Prop where
  os : w.os = w0.os
  tape : w.tape = w0.tape
  output : w.output = w0.output
  size : w0.heap.size ≤ w.heap.size
  block : ∀ k, k < B → k ≠ g → w.heap[k]? = w0.heap[k]?
  rom : IsRom w g
theorem BelowG.refl {g : Nat} {w : World} (h : IsRom w g) (B : Nat) : BelowG g B w w := ⟨rfl, rfl, rfl, Nat.le_refl _, fun _ _ _ => rfl, h⟩
theorem BelowG.drew {g B : Nat} {w0 w : World} (h : BelowG g B w0 w) : BelowG g B w0 w.drew := ⟨h.os, h.tape, h.output, h.size, h.block, h.rom.keep rfl⟩
theorem BelowG.step {g : Nat} {w0 w w' : World} {B : Nat} (h : BelowG g B w0 w) (hb : StepG g w w') (hB : B ≤ w.heap.size := by assumption) : BelowG g B w0 w' :=
  ⟨hb.but.os.trans h.os, hb.but.tape.trans h.tape, hb.but.output.trans h.output, Nat.le_trans h.size hb.but.size, fun k hk hg => (hb.but.block k (by omega) hg).trans (h.block k hk hg), hb.rom h.rom⟩
theorem BelowG.al {g B : Nat} {w0 w : World} (h : BelowG g B w0 w) (o : Obj) (hB : B ≤ w.heap.size := by assumption) : BelowG g B w0 (w.alloc o) := h.step ((StepG.refl g w).al o) hB
theorem BelowG.setRow {g B : Nat} {w0 w : World} (h : BelowG g B w0 w) (hg : g < B) {p : Nat} (hp : B ≤ p) (cs : Array Value) : BelowG g B w0 (w.setRow p cs) :=
  ⟨h.os, h.tape, h.output, by simpa using h.size, fun k hk hn => by rw [setRow_other _ _ _ _ (by omega)]; exact h.block k hk hn, h.rom.keep (setRow_other _ _ _ _ (by omega))⟩
theorem BelowG.but {g : Nat} {w0 w : World} (h : BelowG g w0.heap.size w0 w) : But (· = g) w0 w := ⟨h.os, h.tape, h.output, h.size, h.block⟩
structure ExtG (g B : Nat) (w : World) : Type where
  val : World
  property : BelowG g B w val
/-- A call that makes memory of its own alone, a call that makes a rom's tables: each is a step. -/
theorem Calls.stepG {P : Program} {f : FuncId} {args : Array Value} {w : World} {v : Value} (g : Nat) (h : Calls P f args w fun e w' => e = .returned v ∧ Below w.heap.size w w') : Calls P f args w fun e w' => e = .returned v ∧ StepG g w w' :=
  h.mono fun _ _ ⟨he, hb⟩ => ⟨he, But.of_below hb, fun hr => hr.older hb⟩
theorem Calls.stepR {P : Program} {f : FuncId} {args : Array Value} {w : World} {v : Value} {g : Nat} (h : Calls P f args w fun e w' => e = .returned v ∧ RomOk w' g ∧ But (· = g) w w') : Calls P f args w fun e w' => e = .returned v ∧ StepG g w w' :=
  h.mono fun _ _ ⟨he, hr, hb⟩ => ⟨he, hb, fun _ => Or.inr hr⟩
theorem Calls.quietG {P : Program} {f : FuncId} {args : Array Value} {g B : Nat} {w : World} {x : ExtG g B w} {v : Value} (hB : B ≤ w.heap.size)
    (h : Calls P f args x.val fun e w' => e = .returned v ∧ StepG g x.val w') : Calls P f args x.val fun e w'' => e = .returned v ∧ ∃ y : ExtG g B w, w'' = y.val :=
  h.mono fun _ _ ⟨he, hb⟩ => ⟨he, ⟨_, x.property.step hb (Nat.le_trans hB x.property.size)⟩, rfl⟩
theorem extg_block {g B : Nat} {w : World} {p : Nat} {o : Obj} (h : w.heap[p]? = some o) (hp : p < B) (hn : p ≠ g) (x : ExtG g B w) : x.val.heap[p]? = some o := (x.property.block p hp hn).trans h
theorem extg_row {g B : Nat} {w : World} {p : Nat} {cs : Array Value} {t : TypeId} {f : Nat × Nat} (h : w.heap[p]? = some (.cells cs t f)) (hp : p < B) (hn : p ≠ g) : ∀ (x : ExtG g B w) (j : Nat), x.val.cell? ⟨p, j, none⟩ = cs[j]? :=
  fun x j => cell_row (extg_block h hp hn x) j
theorem extg_rom {g B : Nat} {w : World} (x : ExtG g B w) : IsRom x.val g := x.property.rom
section
variable {P : Program} {ops : Array Oper} {md : Region.Mode} {C : World → Prop} {B : Nat} {pu : Nat → Bool} {R : Nat → Value → World → Prop} {gR : Nat}
/-- n operations that read or call, then a tail in one order. -/
theorem wp_region_tailG {id : Nat} {Q : Exit → Act → World → Prop} {a : Act} {w : World} {l : List Oper} (g n B : Nat) (hI : IsRom w g) (hm : P.follows .mixedOrders = true) (hB : Region.lexTailB .any l.toArray n = true)
    (h : wpQuiet P l.toArray (fun w' => ∃ x : ExtG g B w, w' = x.val) (fun a' => ∀ w', BelowG g B w w' → wpList P l.toArray Q (l.drop n) a' w') (l.take n) a) : (Code.region id l.toArray true).wp P Q a w := by
  simp only [Region.lexTailB, Bool.and_eq_true, decide_eq_true_eq] at hB
  obtain ⟨⟨⟨⟨hsel, hn⟩, hs⟩, hc⟩, hlex⟩ := hB
  have hn' : n < l.length := by simpa using hn
  have htl : (l.take n).length = n := by simp; omega
  have hdl : (l.drop n).length = l.toArray.size - n := by simp
  have inv0 : HeadInv .any l.toArray n (Array.replicate l.toArray.size false) :=
    ⟨by simp, fun j oj _ hl => (by rw [getD_replicate_false] at hl; cases hl), fun t _ ht => getD_in (by simpa using ht) (getD_replicate_false _ _)⟩
  have H := headQ_lex (C := fun w' => ∃ x : ExtG g B w, w' = x.val) (md := .any) (g := l.toArray.size - n) hsel hs hc hn (l.take n) 0 _ a (fun j hj => by
    have hj' : j < n := by rw [htl] at hj; exact hj
    simp [hj']) (by simpa using htl) inv0 (by rw [htl]; exact hlex) h
  refine wp_region_any hm ?_
  have key := headQ_wp (C := fun w' => ∃ x : ExtG g B w, w' = x.val) (Q := Q) (g := l.toArray.size - n) (fun listed a' hL w' hw' => by
    obtain ⟨x, rfl⟩ := hw'
    have := wpAny_of_seq (P := P) (md := .any) (Q' := Q) (l.drop n) n listed a' x.val (fun j => by simp [List.getElem?_drop]) (by rw [hdl]; exact hL.1) (hL.2 _ x.property)
    rwa [hdl] at this) _ _ _ H { w with drawn := w.drawn + 1 } ⟨⟨_, (BelowG.refl hI B).drew⟩, rfl⟩
  rw [htl, show n + (l.toArray.size - n) = l.toArray.size by omega] at key
  exact key
/-- What an operation leaves: a value, in a world that only grew. -/
def looseUponG (gR : Nat) (P : Program) (G : Value → World → Prop) (w : World) : Result Next → Prop
  | .ok (.value u) w' => StepG gR w w' ∧ G u w'
  | .ok .skip w' => StepG gR w w' ∧ G undef w'
  | .ok (.enter f args) w' => w' = w ∧ Calls P f args w (fun e w'' => ∃ v, e = .returned v ∧ StepG gR w w'' ∧ G v w'')
  | _ => False

def preLG (gR : Nat) (P : Program) (ops : Array Oper) (C : World → Prop) (pu : Nat → Bool) (R : Nat → Value → World → Prop) (i : Nat) (o : Oper) (ran : Array Bool) (a : Act) : Prop :=
  if isAllocO o = true then True
  else if pu i = true then ∃ v, (∀ w, (execOp a.eval o).run P w = .ok (.value v) w) ∧ ∀ w, R i v w
  else ∀ w, C w → FactsL ops R o ran a w → looseUponG gR P (R i) w ((execOp a.eval o).run P w)

def lOpG (gR : Nat) (P : Program) (ops : Array Oper) (C : World → Prop) (B : Nat) (pu : Nat → Bool) (R : Nat → Value → World → Prop) (i : Nat) (K : Act → Array Bool → Prop) (a : Act) (ran : Array Bool) : Prop :=
  match ops[i]? with
  | none => K a ran
  | some o => if isStore o = true then K a ran
    else if Region.wanted o (yielded ops a.tmps) = true then preLG gR P ops C pu R i o ran a ∧ (∃ v, postL B R i o v) ∧ ∀ v, postL B R i o v → K (a.put o.dst v) (ran.setIfInBounds i true)
    else K (a.put o.dst undef) ran

def anyLG (gR : Nat) (P : Program) (md : Region.Mode) (ops : Array Oper) (C : World → Prop) (B : Nat) (pu : Nat → Bool) (R : Nat → Value → World → Prop) (Q : Act → Array Bool → Prop) : Nat → Array Bool → Act → Array Bool → Prop
  | 0, listed, a, ran => Region.ready md ops listed = [] ∧ Q a ran
  | fuel + 1, listed, a, ran => (Region.ready md ops listed = [] → Q a ran) ∧ ∀ i ∈ Region.ready md ops listed, lOpG gR P ops C B pu R i (anyLG gR P md ops C B pu R Q fuel (listed.setIfInBounds i true)) a ran

/-- The walk in the order of the text. -/
def wpLG (gR : Nat) (P : Program) (ops : Array Oper) (C : World → Prop) (B : Nat) (pu : Nat → Bool) (R : Nat → Value → World → Prop) (Q : Act → Array Bool → Prop) : Nat → Nat → Act → Array Bool → Prop
  | 0, _, a, ran => Q a ran
  | n + 1, k, a, ran => lOpG gR P ops C B pu R k (wpLG gR P ops C B pu R Q n (k + 1)) a ran


theorem lOp_monoG {i : Nat} {K K' : Act → Array Bool → Prop} {a : Act} {ran : Array Bool} (h : ∀ a ran, K a ran → K' a ran) (hh : lOpG gR P ops C B pu R i K a ran) : lOpG gR P ops C B pu R i K' a ran := by
  unfold lOpG at *
  cases ho : ops[i]? with
  | none => simp only [ho] at hh ⊢; exact h _ _ hh
  | some o =>
    simp only [ho] at hh ⊢
    split
    · rename_i hs; simp only [hs, if_true] at hh; exact h _ _ hh
    · rename_i hs
      simp only [hs] at hh
      split
      · rename_i hw
        simp only [hw, if_true] at hh
        exact ⟨hh.1, hh.2.1, fun v hv => h _ _ (hh.2.2 v hv)⟩
      · rename_i hw; simp only [hw] at hh; exact h _ _ hh

theorem preL_putG {i j : Nat} {oi oj : Oper} {ran : Array Bool} {a : Act} {v : Value} (hi : ops[i]? = some oi) (hsj : ∀ cs b, oj.op ≠ .select cs b) (h : ∀ d, oi.dst = some d → d ∉ oj.looksAt ops) :
    preLG gR P ops C pu R j oj (ran.setIfInBounds i true) (a.put oi.dst v) ↔ preLG gR P ops C pu R j oj ran a := by
  unfold preLG
  rw [execOp_put oj hsj a oi.dst v h]
  split
  · exact Iff.rfl
  · split
    · exact Iff.rfl
    · exact forall_congr' fun w => forall_congr' fun _ => by rw [factsL_put hi h]

theorem preL_put0G {j : Nat} {oi oj : Oper} {ran : Array Bool} {a : Act} {v : Value} (hsj : ∀ cs b, oj.op ≠ .select cs b) (h : ∀ d, oi.dst = some d → d ∉ oj.looksAt ops) :
    preLG gR P ops C pu R j oj ran (a.put oi.dst v) ↔ preLG gR P ops C pu R j oj ran a := by
  unfold preLG
  rw [execOp_put oj hsj a oi.dst v h]
  split
  · exact Iff.rfl
  · split
    · exact Iff.rfl
    · exact forall_congr' fun w => forall_congr' fun _ => by rw [factsL_put0 h]

/-- Two operations that do not touch come up in either order. -/
theorem lOp_swapG {i j : Nat} {oi oj : Oper} {K : Act → Array Bool → Prop} {a : Act} {ran : Array Bool} (hi : ops[i]? = some oi) (hj : ops[j]? = some oj) (hij : i ≠ j) (hap : oi.apart ops oj = true)
    (hsi : ∀ cs b, oi.op ≠ .select cs b) (hsj : ∀ cs b, oj.op ≠ .select cs b) (h : lOpG gR P ops C B pu R i (lOpG gR P ops C B pu R j K) a ran) : lOpG gR P ops C B pu R j (lOpG gR P ops C B pu R i K) a ran := by
  obtain ⟨h1, h2, h3⟩ := Oper.apart_spec hap
  unfold lOpG at *
  simp only [hi, hj] at h ⊢
  by_cases hsti : isStore oi = true
  · simp only [hsti, if_true] at h ⊢
    exact h
  · simp only [hsti] at h ⊢
    by_cases hstj : isStore oj = true
    · simp only [hstj, if_true] at h ⊢
      exact h
    · simp only [hstj] at h ⊢
      by_cases hwi : Region.wanted oi (yielded ops a.tmps) = true
      · simp only [hwi, if_true] at h
        obtain ⟨hp, ⟨v0, hv0⟩, hv⟩ := h
        by_cases hwj : Region.wanted oj (yielded ops a.tmps) = true
        · have hwj' : ∀ v, Region.wanted oj (yielded ops (a.put oi.dst v).tmps) = true := fun v => by rw [wanted_put oj a oi.dst v h1]; exact hwj
          have hwi' : ∀ v, Region.wanted oi (yielded ops (a.put oj.dst v).tmps) = true := fun v => by rw [wanted_put oi a oj.dst v h3]; exact hwi
          simp only [hwj, if_true]
          have hK0 := hv v0 hv0
          simp only [hwj', if_true] at hK0
          refine ⟨(preL_putG hi hsj h1).1 hK0.1, hK0.2.1, fun u hu => ?_⟩
          simp only [hwi', if_true]
          refine ⟨(preL_putG hj hsi h3).2 hp, ⟨v0, hv0⟩, fun v hv' => ?_⟩
          have hKv := hv v hv'
          simp only [hwj', if_true] at hKv
          have := hKv.2.2 u hu
          rw [Act.put_comm a v u h2, Array.setIfInBounds_comm _ _ hij] at this
          exact this
        · have hwj' : ∀ v, ¬ Region.wanted oj (yielded ops (a.put oi.dst v).tmps) = true := fun v => by rw [wanted_put oj a oi.dst v h1]; exact hwj
          have hwi' : Region.wanted oi (yielded ops (a.put oj.dst undef).tmps) = true := by rw [wanted_put oi a oj.dst undef h3]; exact hwi
          simp only [hwj, hwi', if_true]
          refine ⟨(preL_put0G hsi h3).2 hp, ⟨v0, hv0⟩, fun v hv' => ?_⟩
          have hKv := hv v hv'
          simp only [hwj'] at hKv
          have hKv' : K ((a.put oi.dst v).put oj.dst undef) (ran.setIfInBounds i true) := by simpa using hKv
          rw [Act.put_comm a v undef h2] at hKv'
          exact hKv'
      · simp only [hwi] at h
        by_cases hwj : Region.wanted oj (yielded ops a.tmps) = true
        · have hwj' : Region.wanted oj (yielded ops (a.put oi.dst undef).tmps) = true := by rw [wanted_put oj a oi.dst undef h1]; exact hwj
          have hwi' : ∀ v, ¬ Region.wanted oi (yielded ops (a.put oj.dst v).tmps) = true := fun v => by rw [wanted_put oi a oj.dst v h3]; exact hwi
          simp only [hwj', if_true] at h
          simp only [hwj, if_true]
          have h' : preLG gR P ops C pu R j oj ran (a.put oi.dst undef) ∧ (∃ v, postL B R j oj v) ∧ ∀ v, postL B R j oj v → K ((a.put oi.dst undef).put oj.dst v) (ran.setIfInBounds j true) := by simpa using h
          refine ⟨(preL_put0G hsj h1).1 h'.1, h'.2.1, fun u hu => ?_⟩
          simp only [hwi']
          have := h'.2.2 u hu
          rw [Act.put_comm a undef u h2] at this
          simpa using this
        · have hwj' : ¬ Region.wanted oj (yielded ops (a.put oi.dst undef).tmps) = true := by rw [wanted_put oj a oi.dst undef h1]; exact hwj
          have hwi' : ¬ Region.wanted oi (yielded ops (a.put oj.dst undef).tmps) = true := by rw [wanted_put oi a oj.dst undef h3]; exact hwi
          simp only [hwj, hwi', hwj'] at h ⊢
          have h' : K ((a.put oi.dst undef).put oj.dst undef) ran := by simpa using h
          rw [Act.put_comm a undef undef h2] at h'
          simpa using h'

theorem anyL_firstG {Q : Act → Array Bool → Prop} {i : Nat} {oi : Oper} (hi : ops[i]? = some oi) (hsel : ∀ (j : Nat) (o : Oper) cs b, ops[j]? = some o → o.op ≠ .select cs b) :
    ∀ (fuel : Nat) (listed : Array Bool) (a : Act) (ran : Array Bool), (∀ j oj, ops[j]? = some oj → j ≠ i → listed.getD j true = false → (∀ e ∈ oj.after, Region.binds md e = true → e.on ≠ i) → oi.apart ops oj = true) →
      i ∈ Region.ready md ops listed → lOpG gR P ops C B pu R i (anyLG gR P md ops C B pu R Q fuel (listed.setIfInBounds i true)) a ran → anyLG gR P md ops C B pu R Q (fuel + 1) listed a ran := by
  intro fuel
  induction fuel with
  | zero =>
    intro listed a ran _ hr H
    refine ⟨fun h => (by rw [h] at hr; cases hr), fun j hj => ?_⟩
    by_cases hji : j = i
    · subst hji; exact H
    · exfalso
      have hemp : Region.ready md ops (listed.setIfInBounds i true) = [] := by
        unfold lOpG at H
        simp only [hi] at H
        split at H
        · exact H.1
        · split at H
          · obtain ⟨_, ⟨v, hv⟩, hK⟩ := H
            exact (hK v hv).1
          · exact H.1
      have := ready_mono hj hji
      rw [hemp] at this
      cases this
  | succ fuel ih =>
    intro listed a ran hfree hr H
    refine ⟨fun h => (by rw [h] at hr; cases hr), fun j hj => ?_⟩
    by_cases hji : j = i
    · subst hji; exact H
    · obtain ⟨hjun, oj, hoj, hall⟩ := mem_ready.1 hj
      have hun := (mem_ready.1 hr).1
      have hnot : ∀ e ∈ oj.after, Region.binds md e = true → e.on ≠ i := fun e he hb heq => by
        have h1 := hall e he hb
        rw [heq, getD_both hun] at h1
        cases h1
      have H2 : lOpG gR P ops C B pu R i (lOpG gR P ops C B pu R j (anyLG gR P md ops C B pu R Q fuel ((listed.setIfInBounds i true).setIfInBounds j true))) a ran :=
        lOp_monoG (fun a' ran' h => h.2 j (ready_mono hj hji)) H
      have H3 := lOp_swapG hi hoj (Ne.symm hji) (hfree j oj hoj hji hjun hnot) (fun cs b => hsel i oi cs b hi) (fun cs b => hsel j oj cs b hoj) H2
      have hfree' : ∀ k ok, ops[k]? = some ok → k ≠ i → (listed.setIfInBounds j true).getD k true = false → (∀ e ∈ ok.after, Region.binds md e = true → e.on ≠ i) → oi.apart ops ok = true := fun k ok hk hki hun hno => by
        refine hfree k ok hk hki ?_ hno
        by_cases hjk : j = k
        · subst hjk; exact hjun
        · rw [getD_set_ne true hjk] at hun; exact hun
      refine lOp_monoG (fun a' ran' h => ih (listed.setIfInBounds j true) a' ran' hfree' (ready_mono hr (Ne.symm hji)) ?_) H3
      rw [Array.setIfInBounds_comm _ _ hji]
      exact h

theorem anyL_lexG {Q : Act → Array Bool → Prop} (hs : Region.noSelect ops = true) : ∀ (n k : Nat) (listed : Array Bool) (a : Act) (ran : Array Bool), k + n = ops.size →
    Region.lexFrom md ops n k listed = true → wpLG gR P ops C B pu R Q n k a ran → anyLG gR P md ops C B pu R Q n listed a ran := by
  intro n
  induction n with
  | zero => intro k listed a ran _ hB h; exact ⟨by simpa [Region.lexFrom] using hB, h⟩
  | succ n ih =>
    intro k listed a ran hk hB h
    simp only [Region.lexFrom, Bool.and_eq_true] at hB
    obtain ⟨⟨hr, hf⟩, hB'⟩ := hB
    obtain ⟨o, h0⟩ : ∃ o, ops[k]? = some o := ⟨ops[k]'(by omega), Array.getElem?_eq_getElem _⟩
    exact anyL_firstG h0 (Region.noSelect_spec hs) n listed a ran (Region.free_spec h0 hf) (by simpa using hr)
      (lOp_monoG (fun a' ran' h' => ih (k + 1) _ a' ran' (by omega) hB' h') h)


theorem goodLG {Q : Act → Array Bool → Prop} {y : Operand} {G : Value → Prop} (hQ : ∀ a ran, Q a ran → G (a.eval y)) :
    ∀ (fuel : Nat) (listed : Array Bool) (a : Act) (ran : Array Bool), anyLG gR P md ops C B pu R Q fuel listed a ran → Ripe ops listed y → G (a.eval y) := by
  intro fuel
  induction fuel with
  | zero => intro listed a ran h _; exact hQ _ _ h.2
  | succ fuel ih =>
    intro listed a ran h hr
    cases hl : Region.ready md ops listed with
    | nil => exact hQ _ _ (h.1 hl)
    | cons i rest =>
      have hi : i ∈ Region.ready md ops listed := by rw [hl]; exact List.mem_cons_self ..
      have h1 := h.2 i hi
      obtain ⟨hun, o, ho, _⟩ := mem_ready.1 hi
      unfold lOpG at h1
      simp only [ho] at h1
      split at h1
      · exact ih _ _ _ h1 (hr.set i)
      · split at h1
        · obtain ⟨_, ⟨v, hv⟩, hK⟩ := h1
          have := ih _ _ _ (hK v hv) (hr.set i)
          rwa [hr.put ho hun] at this
        · have := ih _ _ _ h1 (hr.set i)
          rwa [hr.put ho hun] at this


/-- The state's law. -/
structure KeptLG (gR : Nat) (P : Program) (md : Region.Mode) (ops : Array Oper) (B n : Nat) (R : Nat → Value → World → Prop) (w0 : World) (listed ran : Array Bool) (a : Act) (w : World) : Prop where
  ext : ∃ x : ExtG gR B w0, x.val = w
  room : a.tmps.size = n
  closed : ∀ (s : Nat) (os : Oper) e, ops[s]? = some os → listed.getD s true = true → e ∈ os.after → Region.binds md e = true → listed.getD e.on false = true
  rans : ∀ j, ran.getD j false = true → listed.getD j true = true
  facts : (∀ (s : Nat) (os : Oper), ops[s]? = some os → isStore os = true → listed.getD s true = false) → ∀ (j : Nat) (oj : Oper) d, ops[j]? = some oj → isAllocO oj = false → ran.getD j false = true → oj.dst = some d → R j (a.eval (.tmp d)) w
  made : ∀ (j : Nat) (oj : Oper) d T, ops[j]? = some oj → oj.op = .alloc T → oj.dst = some d → listed.getD j true = true → ∃ g cs, a.eval (.tmp d) = .pointer (some ⟨g, 0, none⟩) ∧ B ≤ g ∧ w.heap[g]? = some (.cells cs T (0, 0)) ∧ (P.info? T).map (·.size) = some cs.size
  apart : ∀ (j : Nat) (oj : Oper) d T (k : Nat) (ok : Oper) e U, ops[j]? = some oj → oj.op = .alloc T → oj.dst = some d → listed.getD j true = true → ops[k]? = some ok → ok.op = .alloc U → ok.dst = some e → listed.getD k true = true → j ≠ k → a.eval (.tmp d) ≠ a.eval (.tmp e)
  done : ∀ (s : Nat) (os : Oper) T p y g, ops[s]? = some os → os.op = .store T p y → listed.getD s true = true → a.eval p = .pointer (some ⟨g, 0, none⟩) → Ripe ops listed y ∧ w.heap[g]? = some (.cells (a.eval y).cells T (0, 0))

/-- What the walk must say at its end. -/
def EndLG (gR : Nat) (P : Program) (ops : Array Oper) (B : Nat) (R : Nat → Value → World → Prop) (w0 : World) (Q : Exit → Act → World → Prop) (a : Act) (ran : Array Bool) : Prop :=
  (∀ (s : Nat) (os : Oper) T p y, ops[s]? = some os → os.op = .store T p y → Fits P (a.eval y) T) ∧
  ∀ w, BelowG gR B w0 w → (∀ (s : Nat) (os : Oper) T p y g, ops[s]? = some os → os.op = .store T p y → a.eval p = .pointer (some ⟨g, 0, none⟩) → w.heap[g]? = some (.cells (a.eval y).cells T (0, 0))) →
    (∀ (j : Nat) (oj : Oper) d T (k : Nat) (ok : Oper) e U, ops[j]? = some oj → oj.op = .alloc T → oj.dst = some d → ops[k]? = some ok → ok.op = .alloc U → ok.dst = some e → j ≠ k → a.eval (.tmp d) ≠ a.eval (.tmp e)) →
    ((∀ o ∈ ops.toList, isStore o = false) → ∀ (j : Nat) (oj : Oper) d, ops[j]? = some oj → isAllocO oj = false → ran.getD j false = true → oj.dst = some d → R j (a.eval (.tmp d)) w) → Q .normal a w

theorem anyL_wpG {n : Nat} {w0 : World} {Q : Exit → Act → World → Prop} (hL : LooseOk md ops pu n) (hB : B ≤ w0.heap.size) (hgB : gR < B)
    (hR : ∀ i v w w', R i v w → StepG gR w w' → R i v w')
    (hA : ∀ (i : Nat) (o : Oper) T, ops[i]? = some o → o.op = .alloc T → ∀ w : World, ∃ cs, (Instr.alloc T true (.tuple #[])).run P w = .ok (.pointer (some ⟨w.heap.size, 0, none⟩)) (w.alloc (.cells cs T)) ∧ (P.info? T).map (·.size) = some cs.size) :
    ∀ (fuel : Nat) (listed : Array Bool) (a : Act) (ran : Array Bool) (w : World), KeptLG gR P md ops B n R w0 listed ran a w → listed.size = ops.size →
    anyLG gR P md ops (fun w' => ∃ x : ExtG gR B w0, w' = x.val) B pu R (EndLG gR P ops B R w0 Q) fuel listed a ran → wpAny P md ops Q fuel listed a w := by
  have fin : ∀ (listed : Array Bool) (a : Act) (ran : Array Bool) (w : World), KeptLG gR P md ops B n R w0 listed ran a w → listed.size = ops.size → Region.ready md ops listed = [] → EndLG gR P ops B R w0 Q a ran → Q .normal a w := by
    intro listed a ran w hk hsz hr ⟨_, hq⟩
    obtain ⟨x, rfl⟩ := hk.ext
    have all : ∀ i, i < ops.size → listed.getD i true = true := by
      intro i
      induction i using Nat.strongRecOn with
      | _ i ih =>
        intro hi
        cases hg : listed.getD i true with
        | true => rfl
        | false =>
          exfalso
          have : i ∈ Region.ready md ops listed := by
            refine mem_ready.2 ⟨hg, ops[i], by simp, fun e he hb => ?_⟩
            have hlt := hL.back i ops[i] (by simp) e he hb
            exact getD_true_false (by omega) (ih e.on hlt (by omega))
          rw [hr] at this
          cases this
    have all' : ∀ (i : Nat) (o : Oper), ops[i]? = some o → listed.getD i true = true := fun i o hi => all i (Array.getElem?_eq_some_iff.1 hi).1
    refine hq x.val x.property (fun s os T p y g hs hop hp => (hk.done s os T p y g hs hop (all' s os hs) hp).2) (fun j oj d T k ok e U hj hoj hd hk' hok he hne => hk.apart j oj d T k ok e U hj hoj hd (all' j oj hj) hk' hok he (all' k ok hk') hne) ?_
    intro hns
    exact hk.facts fun s os hs hst => by
      have := hns os (by rw [← Array.getElem?_toList] at hs; exact List.mem_of_getElem? hs)
      rw [this] at hst
      cases hst
  intro fuel
  induction fuel with
  | zero => intro listed a ran w hk hsz h; exact ⟨h.1, fin listed a ran w hk hsz h.1 h.2⟩
  | succ fuel ih =>
    intro listed a ran w hk hsz h
    refine ⟨fun h0 => fin listed a ran w hk hsz h0 (h.1 h0), fun i hi => ?_⟩
    have h1 := h.2 i hi
    obtain ⟨hun, o, ho, hready⟩ := mem_ready.1 hi
    have hilt : i < ops.size := (Array.getElem?_eq_some_iff.1 ho).1
    have hsz' : (listed.setIfInBounds i true).size = ops.size := by simpa using hsz
    have hnow : (listed.setIfInBounds i true).getD i true = true := by simp [show i < listed.size by omega]
    have hback : ∀ j, j ≠ i → (listed.setIfInBounds i true).getD j true = true → listed.getD j true = true := fun j hj hl => by rwa [getD_set_ne true (Ne.symm hj)] at hl
    have hclosed : ∀ (s : Nat) (os : Oper) e, ops[s]? = some os → (listed.setIfInBounds i true).getD s true = true → e ∈ os.after → Region.binds md e = true → (listed.setIfInBounds i true).getD e.on false = true := by
      intro s os e hs hl he hb
      by_cases hsi : s = i
      · subst hsi
        rw [ho] at hs
        obtain rfl := Option.some.inj hs
        exact getD_set_true (hready e he hb)
      · exact getD_set_true (hk.closed s os e hs (hback s hsi hl) he hb)
    -- a store has come up: then so has all that may make memory
    have late : isStore o = false → pu i = false → ∀ (s : Nat) (os : Oper), ops[s]? = some os → isStore os = true → listed.getD s true = false := by
      intro hso hpo s os hs hst
      cases hl : listed.getD s true with
      | false => rfl
      | true =>
        exfalso
        obtain ⟨T, p, y, hop⟩ : ∃ T p y, os.op = .store T p y := by
          unfold isStore at hst
          split at hst
          · exact ⟨_, _, _, by assumption⟩
          · cases hst
        obtain ⟨_, _, d, _, _, _, h5, _⟩ := hL.store s os T p y hs hop
        obtain ⟨e, he, hb, hon⟩ := h5 i o ho hso hpo
        have h6 := hk.closed s os e hs hl he hb
        rw [hon, getD_both hun] at h6
        cases h6
    -- what is kept when a temporary is filled, and the world grows
    have keep : ∀ (v : Value) (ran' : Array Bool) (w' : World), isStore o = false → isAllocO o = false → (∃ x : ExtG gR B w0, x.val = w') → StepG gR w w' →
        (ran' = ran ∨ ran' = ran.setIfInBounds i true) → ((∀ (s : Nat) (os : Oper), ops[s]? = some os → isStore os = true → listed.getD s true = false) → ran' = ran ∨ R i v w') →
        KeptLG gR P md ops B n R w0 (listed.setIfInBounds i true) ran' (a.put o.dst v) w' := by
      intro v ran' w' hso hal hx hb hran hfact
      have hev : ∀ (j : Nat) (oj : Oper) d, ops[j]? = some oj → oj.dst = some d → j ≠ i → (a.put o.dst v).eval (.tmp d) = a.eval (.tmp d) := fun j oj d hj hd hji => eval_tmp_put fun e => hji (hL.own j i oj o d hj ho hd e)
      have hranl : ∀ j, j ≠ i → ran'.getD j false = true → ran.getD j false = true := fun j hji hr => by
        rcases hran with rfl | rfl
        · exact hr
        · rwa [getD_set_ne false (Ne.symm hji)] at hr
      have hni : ∀ (T : TypeId) (j : Nat) (oj : Oper), ops[j]? = some oj → oj.op = .alloc T → j ≠ i := fun T j oj hj hop hji => by
        subst hji
        rw [ho] at hj
        obtain rfl := Option.some.inj hj
        unfold isAllocO at hal
        rw [hop] at hal
        cases hal
      refine ⟨hx, by rw [size_put]; exact hk.room, hclosed, ?_, ?_, ?_, ?_, ?_⟩
      · intro j hr
        by_cases hji : j = i
        · subst hji; exact hnow
        · exact getD_set_t (hk.rans j (hranl j hji hr))
      · intro hns j oj d hj haj hr hd
        have hns' : ∀ (s : Nat) (os : Oper), ops[s]? = some os → isStore os = true → listed.getD s true = false := fun s os hs hst => by
          have := hns s os hs hst
          by_cases hsi : s = i
          · subst hsi; exact hun
          · rwa [getD_set_ne true (Ne.symm hsi)] at this
        by_cases hji : j = i
        · subst hji
          rw [ho] at hj
          obtain rfl := Option.some.inj hj
          rw [hd, eval_own (by rw [hk.room]; exact hL.room j o d ho hd)]
          rcases hfact hns' with h2 | h2
          · exfalso
            rw [h2] at hr
            have := hk.rans j hr
            rw [hun] at this
            cases this
          · exact h2
        · rw [hev j oj d hj hd hji]
          exact hR _ _ _ _ (hk.facts hns' j oj d hj haj (hranl j hji hr) hd) hb
      · intro j oj d T hj hop hd hl
        have hji := hni T j oj hj hop
        obtain ⟨g, cs, h2, h3, h4, h5⟩ := hk.made j oj d T hj hop hd (hback j hji hl)
        exact ⟨g, cs, by rw [hev j oj d hj hd hji]; exact h2, h3, (hb.but.block g (lt_of_heap h4) (show ¬ g = gR by omega)).trans h4, h5⟩
      · intro j oj d T k ok e U hj hoj hd hl hk' hok he hl' hne
        have hji := hni T j oj hj hoj
        have hki := hni U k ok hk' hok
        rw [hev j oj d hj hd hji, hev k ok e hk' he hki]
        exact hk.apart j oj d T k ok e U hj hoj hd (hback j hji hl) hk' hok he (hback k hki hl') hne
      · intro s os T p y g hs hop hl hp
        have hsi : s ≠ i := fun hsi => by
          subst hsi
          rw [ho] at hs
          obtain rfl := Option.some.inj hs
          unfold isStore at hso
          rw [hop] at hso
          cases hso
        obtain ⟨_, _, d, rfl, ⟨k, ok, hk', hkd, hkop, e, he, heb, hek⟩, _⟩ := hL.store s os T p y hs hop
        have hlk : listed.getD k false = true := by rw [← hek]; exact hk.closed s os e hs (hback s hsi hl) he heb
        have hki : k ≠ i := fun h => by subst h; rw [getD_both hun] at hlk; cases hlk
        rw [hev k ok d hk' hkd hki] at hp
        obtain ⟨h2, h3⟩ := hk.done s os T (.tmp d) y g hs hop (hback s hsi hl) hp
        obtain ⟨g', cs', h4, h5, _⟩ := hk.made k ok d T hk' hkop hkd (getD_false_true hlk)
        have hgg : g' = g := by
          rw [hp] at h4
          simp only [Value.pointer.injEq, Option.some.injEq, Addr.mk.injEq, and_true] at h4
          exact h4.symm
        exact ⟨h2.set i, by rw [h2.put ho hun]; exact (hb.but.block g (lt_of_heap h3) (show ¬ g = gR by omega)).trans h3⟩
    unfold wpOp
    unfold lOpG at h1
    simp only [ho] at h1 ⊢
    by_cases hs : isStore o = true
    · rw [if_pos hs] at h1
      obtain ⟨T, p, y, hop⟩ : ∃ T p y, o.op = .store T p y := by
        unfold isStore at hs
        split at hs
        · exact ⟨_, _, _, by assumption⟩
        · cases hs
      obtain ⟨hd, hg, d, rfl, ⟨k, ok, hk', hkd, hkop, e, he, heb, hek⟩, hy, _, hone⟩ := hL.store i o T p y ho hop
      have hwant : Region.wanted o (yielded ops a.tmps) = true := by unfold Region.wanted; rw [hg]
      rw [if_pos hwant]
      have hlk : listed.getD k true = true := by
        have := hready e he heb
        rw [hek] at this
        exact getD_false_true this
      obtain ⟨g, cs, hgp, hBg, hgc, hgs⟩ := hk.made k ok d T hk' hkop hkd hlk
      have hripe : Ripe ops listed y := fun j oj d' hj hdj hx => by
        obtain ⟨e', he', hb', hon⟩ := hy j oj d' hj hdj hx
        have := hready e' he' hb'
        rw [hon] at this
        exact getD_false_true this
      have hfit : Fits P (a.eval y) T := goodLG (G := fun v => Fits P v T) (fun a' ran' hq => hq.1 i o T (.tmp d) y ho hop |> fun h => h) fuel _ a ran h1 (hripe.set i)
      refine .inl ?_
      unfold Oper.wp
      rw [store_run hop hgp hgc hgs hfit]
      simp only [Oper.upon]
      rw [hd]
      show wpAny P md ops Q fuel _ a _
      refine ih _ _ ran _ ?_ hsz' h1
      have hother : ∀ (j : Nat) (oj : Oper) d' T', ops[j]? = some oj → oj.op = .alloc T' → oj.dst = some d' → (listed.setIfInBounds i true).getD j true = true → j ≠ k → ∀ g', a.eval (.tmp d') = .pointer (some ⟨g', 0, none⟩) → g' ≠ g := by
        intro j oj d' T' hj hoj hdj hl hjk g' hg' hgg
        subst hgg
        have hji : j ≠ i := fun h => by
          subst h
          rw [ho] at hj
          obtain rfl := Option.some.inj hj
          rw [hop] at hoj
          cases hoj
        exact hk.apart j oj d' T' k ok d T hj hoj hdj (hback j hji hl) hk' hkop hkd hlk hjk (by rw [hg', hgp])
      refine ⟨?_, hk.room, hclosed, fun j hr => getD_set_t (hk.rans j hr), ?_, ?_, ?_, ?_⟩
      · obtain ⟨x, rfl⟩ := hk.ext
        exact ⟨⟨x.val.setRow g (a.eval y).cells, x.property.setRow hgB hBg _⟩, rfl⟩
      · intro hns
        have := hns i o ho hs
        rw [hnow] at this
        cases this
      · intro j oj d' T' hj hoj hdj hl
        have hji : j ≠ i := fun h => by
          subst h
          rw [ho] at hj
          obtain rfl := Option.some.inj hj
          rw [hop] at hoj
          cases hoj
        obtain ⟨g', cs', h2, h3, h4, h5⟩ := hk.made j oj d' T' hj hoj hdj (hback j hji hl)
        by_cases hjk : j = k
        · subst hjk
          rw [hk'] at hj
          obtain rfl := Option.some.inj hj
          rw [hkop] at hoj
          obtain rfl := Op.alloc.inj hoj
          rw [hkd] at hdj
          obtain rfl := Option.some.inj hdj
          rw [hgp] at h2
          simp only [Value.pointer.injEq, Option.some.injEq, Addr.mk.injEq, and_true] at h2
          subst h2
          exact ⟨g, _, hgp, hBg, setRow_heap w g cs _ T (0, 0) hgc, hfit.1⟩
        · have hne := hother j oj d' T' hj hoj hdj hl hjk g' h2
          exact ⟨g', cs', h2, h3, by rw [setRow_other _ _ _ _ hne]; exact h4, h5⟩
      · intro j oj d1 T1 k1 ok1 e1 U1 hj hoj hdj hl hk1 hok1 he1 hl1 hne
        have hni : ∀ (T : TypeId) (j : Nat) (oj : Oper), ops[j]? = some oj → oj.op = .alloc T → j ≠ i := fun T j oj hj hop' hji => by
          subst hji
          rw [ho] at hj
          obtain rfl := Option.some.inj hj
          rw [hop] at hop'
          cases hop'
        exact hk.apart j oj d1 T1 k1 ok1 e1 U1 hj hoj hdj (hback j (hni T1 j oj hj hoj) hl) hk1 hok1 he1 (hback k1 (hni U1 k1 ok1 hk1 hok1) hl1) hne
      · intro s os T' p' y' g' hs' hop' hl hp'
        by_cases hsi : s = i
        · subst hsi
          rw [ho] at hs'
          obtain rfl := Option.some.inj hs'
          rw [hop] at hop'
          obtain ⟨rfl, rfl, rfl⟩ := Op.store.inj hop'
          rw [hgp] at hp'
          simp only [Value.pointer.injEq, Option.some.injEq, Addr.mk.injEq, and_true] at hp'
          subst hp'
          exact ⟨hripe.set s, setRow_heap w g cs _ T (0, 0) hgc⟩
        · obtain ⟨_, _, d', rfl, ⟨k2, ok2, hk2, hkd2, hkop2, e2, he2, heb2, hek2⟩, _⟩ := hL.store s os T' p' y' hs' hop'
          have hl2 : listed.getD k2 true = true := by
            have := hk.closed s os e2 hs' (hback s hsi hl) he2 heb2
            rw [hek2] at this
            exact getD_false_true this
          have hkk : k2 ≠ k := fun h => by
            subst h
            rw [hk'] at hk2
            obtain rfl := Option.some.inj hk2
            rw [hkd] at hkd2
            obtain rfl := Option.some.inj hkd2
            exact hone s os T' (.tmp d) y' hs' hop' (Ne.symm hsi) rfl
          obtain ⟨h3, h4⟩ := hk.done s os T' (.tmp d') y' g' hs' hop' (hback s hsi hl) hp'
          have hne := hother k2 ok2 d' T' hk2 hkop2 hkd2 (getD_set_t hl2) hkk g' hp'
          exact ⟨h3.set i, by rw [setRow_other _ _ _ _ hne]; exact h4⟩
    · rw [if_neg hs] at h1
      have hs' : isStore o = false := by simpa using hs
      by_cases hw : Region.wanted o (yielded ops a.tmps) = true
      · rw [if_pos hw] at h1 ⊢
        obtain ⟨hpre, _, hK⟩ := h1
        refine .inl ?_
        unfold preLG at hpre
        unfold postL at hK
        by_cases hal : isAllocO o = true
        · simp only [hal, if_true] at hK
          obtain ⟨T, hop⟩ : ∃ T, o.op = .alloc T := by
            unfold isAllocO at hal
            split at hal
            · exact ⟨_, by assumption⟩
            · cases hal
          obtain ⟨_, d, hd⟩ := hL.alloc i o T ho hop
          obtain ⟨cs, hrun, hcs⟩ := hA i o T ho hop w
          unfold Oper.wp
          have hex : (execOp a.eval o).run P w = .ok (.value (.pointer (some ⟨w.heap.size, 0, none⟩))) (w.alloc (.cells cs T)) := by
            unfold execOp
            simp [hop, hrun]
          rw [hex]
          simp only [Oper.upon]
          obtain ⟨x, rfl⟩ := hk.ext
          have hBw : B ≤ x.val.heap.size := Nat.le_trans hB x.property.size
          refine ih _ _ _ _ ?_ hsz' (hK _ ⟨_, hBw, rfl⟩)
          have hev : ∀ (j : Nat) (oj : Oper) d', ops[j]? = some oj → oj.dst = some d' → j ≠ i → ∀ v, (a.put o.dst v).eval (.tmp d') = a.eval (.tmp d') := fun j oj d' hj hd' hji v => eval_tmp_put fun e => hji (hL.own j i oj o d' hj ho hd' e)
          have hpi : ∀ (s : Nat) (os : Oper), ops[s]? = some os → isStore os = true → s ≠ i := fun s os hs1 hst h => by
            subst h
            rw [ho] at hs1
            obtain rfl := Option.some.inj hs1
            rw [hs'] at hst
            cases hst
          have hown : (a.put o.dst (.pointer (some ⟨x.val.heap.size, 0, none⟩))).eval (.tmp d) = .pointer (some ⟨x.val.heap.size, 0, none⟩) := by
            rw [hd]; exact eval_own (by rw [hk.room]; exact hL.room i o d ho hd)
          refine ⟨⟨⟨_, x.property.al (.cells cs T)⟩, rfl⟩, by rw [size_put]; exact hk.room, hclosed, ?_, ?_, ?_, ?_, ?_⟩
          · intro j hr
            by_cases hji : j = i
            · subst hji; exact hnow
            · rw [getD_set_ne false (Ne.symm hji)] at hr; exact getD_set_t (hk.rans j hr)
          · intro hns j oj d' hj haj hr hd'
            have hji : j ≠ i := fun h => by
              subst h
              rw [ho] at hj
              obtain rfl := Option.some.inj hj
              rw [hal] at haj
              cases haj
            rw [getD_set_ne false (Ne.symm hji)] at hr
            rw [hev j oj d' hj hd' hji]
            refine hR _ _ _ _ (hk.facts (fun s os hs1 hst => ?_) j oj d' hj haj hr hd') ((StepG.refl _ _).al _)
            have := hns s os hs1 hst
            rwa [getD_set_ne true (Ne.symm (hpi s os hs1 hst))] at this
          · intro j oj d' T' hj hoj hd' hl
            by_cases hji : j = i
            · subst hji
              rw [ho] at hj
              obtain rfl := Option.some.inj hj
              rw [hop] at hoj
              obtain rfl := Op.alloc.inj hoj
              rw [hd] at hd'
              obtain rfl := Option.some.inj hd'
              exact ⟨_, cs, hown, hBw, alloc_new _ _, hcs⟩
            · obtain ⟨g', cs', h2, h3, h4, h5⟩ := hk.made j oj d' T' hj hoj hd' (hback j hji hl)
              exact ⟨g', cs', by rw [hev j oj d' hj hd' hji]; exact h2, h3, keepAl h4, h5⟩
          · intro j oj d1 T1 k1 ok1 e1 U1 hj hoj hdj hl hk1 hok1 he1 hl1 hne
            have fresh : ∀ (j : Nat) (oj : Oper) d1 T1, ops[j]? = some oj → oj.op = .alloc T1 → oj.dst = some d1 → (listed.setIfInBounds i true).getD j true = true → j ≠ i → (a.put o.dst (.pointer (some ⟨x.val.heap.size, 0, none⟩))).eval (.tmp d1) ≠ .pointer (some ⟨x.val.heap.size, 0, none⟩) := by
              intro j oj d1 T1 hj hoj hdj hl hji heq
              obtain ⟨g', cs', h2, h3, h4, h5⟩ := hk.made j oj d1 T1 hj hoj hdj (hback j hji hl)
              rw [hev j oj d1 hj hdj hji, h2] at heq
              simp only [Value.pointer.injEq, Option.some.injEq, Addr.mk.injEq, and_true] at heq
              have := lt_of_heap h4
              omega
            by_cases hji : j = i
            · subst hji
              rw [ho] at hj
              obtain rfl := Option.some.inj hj
              rw [hd] at hdj
              obtain rfl := Option.some.inj hdj
              rw [hown]
              exact fun h => fresh k1 ok1 e1 U1 hk1 hok1 he1 hl1 (Ne.symm hne) h.symm
            · by_cases hki : k1 = i
              · subst hki
                rw [ho] at hk1
                obtain rfl := Option.some.inj hk1
                rw [hd] at he1
                obtain rfl := Option.some.inj he1
                rw [hown]
                exact fresh j oj d1 T1 hj hoj hdj hl hji
              · rw [hev j oj d1 hj hdj hji, hev k1 ok1 e1 hk1 he1 hki]
                exact hk.apart j oj d1 T1 k1 ok1 e1 U1 hj hoj hdj (hback j hji hl) hk1 hok1 he1 (hback k1 hki hl1) hne
          · intro s os T' p y g hs1 hop' hl hp
            have hsi := hpi s os hs1 (by unfold isStore; rw [hop'])
            obtain ⟨_, _, d2, rfl, ⟨k2, ok2, hk2, hkd2, _, e2, he2, heb2, hek2⟩, _⟩ := hL.store s os T' p y hs1 hop'
            have hlk : listed.getD k2 false = true := by rw [← hek2]; exact hk.closed s os e2 hs1 (hback s hsi hl) he2 heb2
            have hki : k2 ≠ i := fun h => by subst h; rw [getD_both hun] at hlk; cases hlk
            rw [hev k2 ok2 d2 hk2 hkd2 hki] at hp
            obtain ⟨h2, h3⟩ := hk.done s os T' (.tmp d2) y g hs1 hop' (hback s hsi hl) hp
            exact ⟨h2.set i, by rw [h2.put ho hun]; exact keepAl h3⟩
        · have hal' : isAllocO o = false := by simpa using hal
          simp only [hal', Bool.false_eq_true, if_false] at hpre hK
          by_cases hp : pu i = true
          · simp only [hp, if_true] at hpre
            obtain ⟨v, hv, hRv⟩ := hpre
            unfold Oper.wp
            rw [hv w]
            simp only [Oper.upon]
            exact ih _ _ _ _ (keep v _ w hs' hal' hk.ext (StepG.refl _ _) (Or.inr rfl) (fun _ => Or.inr (hRv w))) hsz' (hK v ⟨w, hRv w⟩)
          · have hp' : pu i = false := by simpa using hp
            simp only [hp', Bool.false_eq_true, if_false] at hpre
            obtain ⟨x, hx⟩ := hk.ext
            have hns := late hs' hp'
            have h3 := hpre w ⟨x, hx.symm⟩ (fun j oj d hj haj hr hd _ => hk.facts hns j oj d hj haj hr hd)
            have hext : ∀ w', StepG gR w w' → ∃ y : ExtG gR B w0, y.val = w' := fun w' hb => by
              subst hx
              exact ⟨⟨w', x.property.step hb (Nat.le_trans hB x.property.size)⟩, rfl⟩
            unfold Oper.wp
            generalize (execOp a.eval o).run P w = res at *
            cases res with
            | ok nx w' =>
              cases nx <;> simp only [looseUponG] at h3 <;> simp only [Oper.upon]
              case value u => exact ih _ _ _ _ (keep u _ w' hs' hal' (hext w' h3.1) h3.1 (Or.inr rfl) (fun _ => Or.inr h3.2)) hsz' (hK u ⟨w', h3.2⟩)
              case skip => exact ih _ _ _ _ (keep undef _ w' hs' hal' (hext w' h3.1) h3.1 (Or.inr rfl) (fun _ => Or.inr h3.2)) hsz' (hK undef ⟨w', h3.2⟩)
              case enter f args =>
                obtain ⟨rfl, hcall⟩ := h3
                refine hcall.mono fun e w'' he => ?_
                obtain ⟨v, rfl, hb, hg⟩ := he
                exact ih _ _ _ _ (keep v _ w'' hs' hal' (hext w'' hb) hb (Or.inr rfl) (fun _ => Or.inr hg)) hsz' (hK v ⟨w'', hg⟩)
            | halt y w' => simp only [looseUponG] at h3
      · rw [if_neg hw] at h1 ⊢
        have hal' : isAllocO o = false := by
          cases hal : isAllocO o with
          | false => rfl
          | true =>
            exfalso
            obtain ⟨T, hop⟩ : ∃ T, o.op = .alloc T := by
              unfold isAllocO at hal
              split at hal
              · exact ⟨_, by assumption⟩
              · cases hal
            obtain ⟨hg, _⟩ := hL.alloc i o T ho hop
            exact hw (by unfold Region.wanted; rw [hg])
        exact ih _ _ _ _ (keep undef _ w hs' hal' hk.ext (StepG.refl _ _) (Or.inl rfl) (fun _ => Or.inl rfl)) hsz' h1


/-- ONE WALK SERVES EVERY ORDER. -/
theorem wp_region_looseG {id : Nat} {Q : Exit → Act → World → Prop} {a : Act} {w : World} {l : List Oper} (hI : IsRom w gR) (R : Nat → Value → World → Prop) (pu : Nat → Bool) (hm : P.follows .mixedOrders = true) (hB : Region.lexB .any l.toArray = true)
    (hS : looseB .any l.toArray pu a.tmps.size = true)
    (hA : ∀ (i : Nat) (o : Oper) T, l.toArray[i]? = some o → o.op = .alloc T → ∀ w : World, ∃ cs, (Instr.alloc T true (.tuple #[])).run P w = .ok (.pointer (some ⟨w.heap.size, 0, none⟩)) (w.alloc (.cells cs T)) ∧ (P.info? T).map (·.size) = some cs.size)
    (hR : ∀ i v w w', R i v w → StepG gR w w' → R i v w')
    (h : wpLG gR P l.toArray (fun w' => ∃ x : ExtG gR w.heap.size w, w' = x.val) w.heap.size pu R (EndLG gR P l.toArray w.heap.size R w Q) l.length 0 a (Array.replicate l.length false)) :
    (Code.region id l.toArray true).wp P Q a w := by
  have hB' := hB
  simp only [Region.lexB, Bool.and_eq_true] at hB'
  have hL := looseB_spec hS
  refine wp_region_any hm ?_
  have H := anyL_lexG (P := P) (C := fun w' => ∃ x : ExtG gR w.heap.size w, w' = x.val) (B := w.heap.size) (pu := pu) (R := R) (md := .any) hB'.1 l.length 0 (Array.replicate l.toArray.size false) a (Array.replicate l.length false) (by simp) (by simpa using hB'.2) h
  have hfalse : ∀ j, (Array.replicate l.toArray.size false).getD j false = false := fun j => getD_replicate_false _ _
  have hnot : ∀ (j : Nat) (o : Oper), l.toArray[j]? = some o → ¬ (Array.replicate l.toArray.size false).getD j true = true := fun j o hj hl => by
    have hlt : j < l.toArray.size := (Array.getElem?_eq_some_iff.1 hj).1
    have := getD_in (listed := Array.replicate l.toArray.size false) (i := j) (by simpa using hlt) (hfalse j)
    rw [this] at hl
    cases hl
  have key := anyL_wpG (P := P) (B := w.heap.size) (pu := pu) (R := R) (w0 := w) (Q := Q) hL (Nat.le_refl _) (hI.lt) hR hA l.length (Array.replicate l.toArray.size false) a (Array.replicate l.length false) { w with drawn := w.drawn + 1 } ?_ (by simp) H
  · simpa using key
  · refine ⟨⟨⟨{ w with drawn := w.drawn + 1 }, (BelowG.refl hI _).drew⟩, rfl⟩, rfl, fun s os e hs hl => absurd hl (hnot s os hs), fun j hr => ?_, fun _ j oj d _ _ hr => ?_, fun j oj d T hj _ _ hl => absurd hl (hnot j oj hj), fun j oj d T k ok e U hj _ _ hl => absurd hl (hnot j oj hj), fun s os T p y g hs _ hl => absurd hl (hnot s os hs)⟩
    · rw [getD_replicate_false] at hr; cases hr
    · rw [getD_replicate_false] at hr; cases hr

section
variable {Q : Act → Array Bool → Prop} {n k : Nat} {a : Act} {ran : Array Bool} {o : Oper}
theorem wpL_storeG (ho : ops[k]? = some o) (hs : isStore o = true) (h : wpLG gR P ops C B pu R Q n (k + 1) a ran) : wpLG gR P ops C B pu R Q (n + 1) k a ran := by
  unfold wpLG lOpG
  simp only [ho, hs, if_true]
  exact h

theorem wpL_allocG (ho : ops[k]? = some o) (hs : isStore o = false) (hal : isAllocO o = true) (hg : o.guard = none)
    (h : ∀ g, B ≤ g → wpLG gR P ops C B pu R Q n (k + 1) (a.put o.dst (.pointer (some ⟨g, 0, none⟩))) (ran.setIfInBounds k true)) : wpLG gR P ops C B pu R Q (n + 1) k a ran := by
  have hw : Region.wanted o (yielded ops a.tmps) = true := by unfold Region.wanted; rw [hg]
  unfold wpLG lOpG
  simp only [ho, hs, hw, if_true, Bool.false_eq_true, if_false]
  unfold preLG postL
  simp only [hal, if_true]
  exact ⟨trivial, ⟨_, B, Nat.le_refl _, rfl⟩, fun v ⟨g, hg1, hv⟩ => by subst hv; exact h g hg1⟩

/-- An operation that leaves a known value in whatever world the region may come to. -/
theorem wpL_calmG (w0 : World) (ho : ops[k]? = some o) (hs : isStore o = false) (hal : isAllocO o = false) (hp : pu k = false)
    (h : ∀ K : Value → Act → Prop, (∀ v a', a' = a.put o.dst v → R k = (Lft.val v).G → wpLG gR P ops C B pu R Q n (k + 1) a' (ran.setIfInBounds k true) → K v a') → ∀ K0 : Act → Prop, (∀ a', a' = a.put o.dst undef → wpLG gR P ops C B pu R Q n (k + 1) a' ran → K0 a') →
      if Region.wanted o (yielded ops a.tmps) = true then ∃ v, (∀ w, C w → Oper.quietUpon P (StepG gR w) w v ((execOp a.eval o).run P w)) ∧ K v (a.put o.dst v) else K0 (a.put o.dst undef)) :
    wpLG gR P ops C B pu R Q (n + 1) k a ran := by
  unfold wpLG lOpG
  simp only [ho, hs, Bool.false_eq_true, if_false]
  have H := h (fun v a' => a' = a.put o.dst v ∧ R k = (Lft.val v).G ∧ wpLG gR P ops C B pu R Q n (k + 1) a' (ran.setIfInBounds k true)) (fun v a' h1 h2 h3 => ⟨h1, h2, h3⟩) (fun a' => wpLG gR P ops C B pu R Q n (k + 1) a' ran) (fun a' _ h2 => h2)
  by_cases hw : Region.wanted o (yielded ops a.tmps) = true
  · rw [if_pos hw] at H ⊢
    obtain ⟨v, hv, _, hR, hK⟩ := H
    unfold preLG postL
    simp only [hal, hp, Bool.false_eq_true, if_false]
    refine ⟨fun w hC _ => ?_, ⟨v, w0, by rw [hR]; rfl⟩, fun u ⟨w, hu⟩ => ?_⟩
    · have := hv w hC
      rw [hR]
      generalize (execOp a.eval o).run P w = res at *
      cases res with
      | ok nx w' =>
        cases nx <;> simp only [Oper.quietUpon] at this <;> simp only [looseUponG]
        case value u => obtain ⟨rfl, rfl⟩ := this; exact ⟨StepG.refl _ _, rfl⟩
        case skip => obtain ⟨rfl, rfl⟩ := this; exact ⟨StepG.refl _ _, rfl⟩
        case enter f args =>
          obtain ⟨rfl, hc⟩ := this
          exact ⟨rfl, hc.mono fun e w'' ⟨he, hb⟩ => ⟨v, he, hb, rfl⟩⟩
      | halt y w' => simp only [Oper.quietUpon] at this
    · rw [hR] at hu
      have hu' : u = v := hu
      rw [hu']
      exact hK
  · rw [if_neg hw] at H ⊢
    exact H

/-- An operation that asks nothing of the world. -/
theorem wpL_pureG (w0 : World) (ho : ops[k]? = some o) (hs : isStore o = false) (hal : isAllocO o = false) (hp : pu k = true)
    (h : ∀ K : Value → Act → Prop, (∀ v a', a' = a.put o.dst v → R k = (Lft.val v).G → wpLG gR P ops C B pu R Q n (k + 1) a' (ran.setIfInBounds k true) → K v a') → ∀ K0 : Act → Prop, (∀ a', a' = a.put o.dst undef → wpLG gR P ops C B pu R Q n (k + 1) a' ran → K0 a') →
      if Region.wanted o (yielded ops a.tmps) = true then ∃ v, (∀ w, (execOp a.eval o).run P w = .ok (.value v) w) ∧ K v (a.put o.dst v) else K0 (a.put o.dst undef)) :
    wpLG gR P ops C B pu R Q (n + 1) k a ran := by
  unfold wpLG lOpG
  simp only [ho, hs, Bool.false_eq_true, if_false]
  have H := h (fun v a' => a' = a.put o.dst v ∧ R k = (Lft.val v).G ∧ wpLG gR P ops C B pu R Q n (k + 1) a' (ran.setIfInBounds k true)) (fun v a' h1 h2 h3 => ⟨h1, h2, h3⟩) (fun a' => wpLG gR P ops C B pu R Q n (k + 1) a' ran) (fun a' _ h2 => h2)
  by_cases hw : Region.wanted o (yielded ops a.tmps) = true
  · rw [if_pos hw] at H ⊢
    obtain ⟨v, hv, _, hR, hK⟩ := H
    unfold preLG postL
    simp only [hal, hp, if_true, Bool.false_eq_true, if_false]
    refine ⟨⟨v, hv, fun w => by rw [hR]; rfl⟩, ⟨v, w0, by rw [hR]; rfl⟩, fun u ⟨w, hu⟩ => ?_⟩
    rw [hR] at hu
    have hu' : u = v := hu
    rw [hu']
    exact hK
  · rw [if_neg hw] at H ⊢
    exact H

/-- A call: what it reads of others' work is told; what it leaves. -/
theorem wpL_callG (F : Lft) (hne : ∃ v w, F.G v w) (ho : ops[k]? = some o) (hs : isStore o = false) (hal : isAllocO o = false) (hp : pu k = false) (hw : Region.wanted o (yielded ops a.tmps) = true) (hR : R k = F.G)
    (h1 : ∀ w, C w → FactsL ops R o ran a w → looseUponG gR P F.G w ((execOp a.eval o).run P w))
    (h : ∀ v, (∃ w, F.G v w) → wpLG gR P ops C B pu R Q n (k + 1) (a.put o.dst v) (ran.setIfInBounds k true)) :
    wpLG gR P ops C B pu R Q (n + 1) k a ran := by
  unfold wpLG lOpG
  simp only [ho, hs, hw, if_true, Bool.false_eq_true, if_false]
  unfold preLG postL
  simp only [hal, hp, Bool.false_eq_true, if_false]
  rw [hR]
  exact ⟨h1, hne, fun u hu => h u hu⟩

theorem wpL_nilG (h : Q a ran) : wpLG gR P ops C B pu R Q 0 k a ran := h

theorem looseUpon_enterG {G : Value → World → Prop} {w : World} {f : FuncId} {args : Array Value} (h : Calls P f args w fun e w'' => ∃ v, e = .returned v ∧ StepG gR w w'' ∧ G v w'') : looseUponG gR P G w (.ok (.enter f args) w) := ⟨rfl, h⟩

theorem endLG {l : List Oper} {w0 : World} {Q : Exit → Act → World → Prop} (S : List (TypeId × Operand × Operand)) (hS : storesL l = S) (hfit : ∀ q ∈ S, Fits P (a.eval q.2.2) q.1)
    (h : ∀ w, BelowG gR B w0 w → (∀ (s : Nat) (os : Oper) T p y g, l.toArray[s]? = some os → os.op = .store T p y → a.eval p = .pointer (some ⟨g, 0, none⟩) → w.heap[g]? = some (.cells (a.eval y).cells T (0, 0))) →
      (∀ (j : Nat) (oj : Oper) d T (k : Nat) (ok : Oper) e U, l.toArray[j]? = some oj → oj.op = .alloc T → oj.dst = some d → l.toArray[k]? = some ok → ok.op = .alloc U → ok.dst = some e → j ≠ k → a.eval (.tmp d) ≠ a.eval (.tmp e)) →
      (S = [] → ∀ (j : Nat) (oj : Oper) d, l.toArray[j]? = some oj → isAllocO oj = false → ran.getD j false = true → oj.dst = some d → R j (a.eval (.tmp d)) w) → Q .normal a w) : EndLG gR P l.toArray B R w0 Q a ran :=
  ⟨fun s os T p y hs hop => hfit (T, p, y) (hS ▸ storesL_mem l s os T p y (by simpa using hs) hop), fun w hb h1 h2 h3 => h w hb h1 h2 fun hS0 => h3 fun o ho => storesL_nil l (hS.trans hS0) o (by simpa using ho)⟩
end
end
attribute [go_sem] looseUponG
def looseRV (l : List Value) : Nat → Value → World → Prop := fun i => (Lft.val (l.getD i undef)).G
theorem looseRV_st (l : List Value) (g : Nat) : ∀ i v w w', looseRV l i v w → StepG g w w' → looseRV l i v w' := fun _ _ _ _ h _ => h
/-- Of a function that has a rom: the rom alone has turned, and is one. -/
structure VG (g : Nat) (w0 w : World) : Prop where
  bel : BelowG g w0.heap.size w0 w
  lt : g < w0.heap.size
theorem VG.refl {g : Nat} {w : World} (h : IsRom w g) : VG g w w := ⟨BelowG.refl h _, h.lt⟩
theorem VG.rom {g : Nat} {w0 w : World} (h : VG g w0 w) : IsRom w g := h.bel.rom
theorem VG.below {g : Nat} {w0 w w' : World} (h : VG g w0 w) (hb : Below w.heap.size w w') : VG g w0 w' := ⟨h.bel.step ⟨But.of_below hb, fun hr => hr.older hb⟩ h.bel.size, h.lt⟩
theorem VG.al {g : Nat} {w0 w : World} (h : VG g w0 w) (o : Obj) : VG g w0 (w.alloc o) := ⟨h.bel.al o h.bel.size, h.lt⟩
theorem VG.drew {g : Nat} {w0 w : World} (h : VG g w0 w) : VG g w0 w.drew := ⟨h.bel.drew, h.lt⟩
theorem VG.row {g : Nat} {w0 w : World} (h : VG g w0 w) {p : Nat} (hp : w0.heap.size ≤ p) (cs : Array Value) : VG g w0 (w.setRow p cs) := ⟨h.bel.setRow h.lt hp cs, h.lt⟩
theorem VG.trans' {g : Nat} {w0 w w' : World} (h : VG g w0 w) (k : BelowG g w.heap.size w w') : VG g w0 w' := ⟨h.bel.step ⟨k.but, fun _ => k.rom⟩ h.bel.size, h.lt⟩
theorem VG.trans {g : Nat} {w0 w w' : World} (h : VG g w0 w) (k : VG g w w') : VG g w0 w' := h.trans' k.bel
theorem VG.rok {g : Nat} {w0 w w' : World} (h : VG g w0 w) (hr : RomOk w' g) (hb : But (· = g) w w') : VG g w0 w' := ⟨h.bel.step ⟨hb, fun _ => Or.inr hr⟩ h.bel.size, h.lt⟩
theorem VG.extR {g : Nat} {w0 w : World} {R : List Aim} (h : VG g w0 w) (x : ExtR w.heap.size R w) (hs : ∀ r ∈ R, w0.heap.size ≤ r.block) : VG g w0 x.val := by
  have h1 := h.bel.size
  have h2 := h.lt
  refine ⟨⟨x.os.trans h.bel.os, x.tape.trans h.bel.tape, x.output.trans h.bel.output, Nat.le_trans h1 x.size, fun k hk hn => (x.block k (by omega) fun r hr e => ?_).trans (h.bel.block k hk hn), h.rom.keep (x.block g (by omega) fun r hr e => ?_)⟩, h2⟩
  · have := hs r hr; omega
  · have := hs r hr; omega
theorem VG.heap {g : Nat} {w0 w : World} (h : VG g w0 w) {p : Nat} {o : Obj} (hp : w0.heap[p]? = some o) (hn : p ≠ g) : w.heap[p]? = some o := (h.bel.block p (lt_of_heap hp) hn).trans hp
/-- Seen from where the rom isn't yet: below B nothing has turned. -/
theorem VG.out {g B : Nat} {W w w' : World} (h : VG g w w') (hb : Below B W w) (hB : B ≤ g) : Below B W w' :=
  ⟨h.bel.os.trans hb.os, h.bel.tape.trans hb.tape, h.bel.output.trans hb.output, Nat.le_trans hb.size h.bel.size, fun k hk => (h.bel.block k (by have := h.lt; omega) (by omega)).trans (hb.block k hk)⟩
theorem Calls.stepV {P : Program} {f : FuncId} {args : Array Value} {w : World} {v : Value} {g : Nat} (h : Calls P f args w fun e w' => e = .returned v ∧ VG g w w') : Calls P f args w fun e w' => e = .returned v ∧ StepG g w w' :=
  h.mono fun _ _ ⟨he, hv⟩ => ⟨he, hv.bel.but, fun _ => hv.rom⟩
theorem Calls.vOk {P : Program} {f : FuncId} {args : Array Value} {w : World} {v : Value} {g : Nat} (hI : IsRom w g) (h : Calls P f args w fun e w' => e = .returned v ∧ RomOk w' g ∧ But (· = g) w w') : Calls P f args w fun e w' => e = .returned v ∧ VG g w w' :=
  h.mono fun _ _ ⟨he, hr, hb⟩ => ⟨he, (VG.refl hI).rok hr hb⟩
end Go.Proofs.YtegmmaaapdgocaaGreat
