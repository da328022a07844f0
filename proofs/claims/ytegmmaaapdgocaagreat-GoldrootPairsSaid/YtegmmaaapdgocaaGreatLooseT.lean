/- A REGION THAT DRAWS ITS ORDER, whose operations make rows and call, and that ends in stores into blocks that were there: one walk in the order of the text serves every order of the head; the tail comes in one order, behind all others. -/
import Derived.Test.YtegmmaaapdgocaaGreatLooseG
namespace Go.Proofs.YtegmmaaapdgocaaGreat
open Go Go.RowKit
section
variable {P : Program} {ops : Array Oper} {md : Region.Mode} {C : World → Prop} {B : Nat} {pu : Nat → Bool} {R : Nat → Value → World → Prop} {gR : Nat}

/-- f operations below n come up in whatever order; then L. -/
def headL (gR : Nat) (P : Program) (md : Region.Mode) (ops : Array Oper) (C : World → Prop) (B : Nat) (pu : Nat → Bool) (R : Nat → Value → World → Prop) (n : Nat) (L : Array Bool → Act → Array Bool → Prop) : Nat → Array Bool → Act → Array Bool → Prop
  | 0, listed, a, ran => L listed a ran
  | f + 1, listed, a, ran => Region.ready md ops listed ≠ [] ∧ ∀ i ∈ Region.ready md ops listed, i < n ∧ lOpG gR P ops C B pu R i (headL gR P md ops C B pu R n L f (listed.setIfInBounds i true)) a ran

theorem lOp_someG {i : Nat} {o : Oper} {K : Act → Array Bool → Prop} {a : Act} {ran : Array Bool} (h0 : ops[i]? = some o) (h : lOpG gR P ops C B pu R i K a ran) : ∃ a' ran', K a' ran' := by
  unfold lOpG at h
  simp only [h0] at h
  split at h
  · exact ⟨_, _, h⟩
  · split at h
    · obtain ⟨_, ⟨v, hv⟩, hK⟩ := h
      exact ⟨_, _, hK v hv⟩
    · exact ⟨_, _, h⟩
theorem headL_first {n i : Nat} {oi : Oper} {L : Array Bool → Act → Array Bool → Prop} (hi : ops[i]? = some oi) (hsel : ∀ (j : Nat) (o : Oper) cs b, ops[j]? = some o → o.op ≠ .select cs b)
    (hs : Region.sinkB md ops n = true) (hc : Region.chainB md ops n = true) (hn : n < ops.size) (hin : i < n) (hdone : ∀ listed a ran, L listed a ran → ∀ j ∈ Region.ready md ops listed, n ≤ j) :
    ∀ (f : Nat) (listed : Array Bool) (a : Act) (ran : Array Bool), HeadInv md ops n listed →
      (∀ j oj, ops[j]? = some oj → j ≠ i → listed.getD j true = false → (∀ e ∈ oj.after, Region.binds md e = true → e.on ≠ i) → oi.apart ops oj = true) →
      i ∈ Region.ready md ops listed → lOpG gR P ops C B pu R i (headL gR P md ops C B pu R n L f (listed.setIfInBounds i true)) a ran → headL gR P md ops C B pu R n L (f + 1) listed a ran := by
  intro f
  induction f with
  | zero =>
    intro listed a ran inv _ hr H
    have hun := (mem_ready.1 hr).1
    refine ⟨fun h => (by rw [h] at hr; cases hr), fun j hj => ?_⟩
    have hjn : j < n := Nat.lt_of_not_le fun h => tail_waits hs hc hn inv _ i rfl hin hun j h hj
    refine ⟨hjn, ?_⟩
    by_cases hji : j = i
    · subst hji
      exact H
    · obtain ⟨a', ran', hK⟩ := lOp_someG hi H
      have := hdone _ _ _ hK j (ready_mono hj hji)
      omega
  | succ f ih =>
    intro listed a ran inv hfree hr H
    have hun := (mem_ready.1 hr).1
    refine ⟨fun h => (by rw [h] at hr; cases hr), fun j hj => ?_⟩
    have hjn : j < n := Nat.lt_of_not_le fun h => tail_waits hs hc hn inv _ i rfl hin hun j h hj
    refine ⟨hjn, ?_⟩
    by_cases hji : j = i
    · subst hji
      exact H
    · obtain ⟨hjun, oj, hoj, hall⟩ := mem_ready.1 hj
      have hnot : ∀ e ∈ oj.after, Region.binds md e = true → e.on ≠ i := fun e he hb heq => by
        have h1 := hall e he hb
        rw [heq, getD_both hun] at h1
        cases h1
      have H2 : lOpG gR P ops C B pu R i (lOpG gR P ops C B pu R j (headL gR P md ops C B pu R n L f ((listed.setIfInBounds i true).setIfInBounds j true))) a ran :=
        lOp_monoG (fun a' ran' h => (h.2 j (ready_mono hj hji)).2) H
      have H3 := lOp_swapG hi hoj (Ne.symm hji) (hfree j oj hoj hji hjun hnot) (fun cs b => hsel i oi cs b hi) (fun cs b => hsel j oj cs b hoj) H2
      have hfree' : ∀ k ok, ops[k]? = some ok → k ≠ i → (listed.setIfInBounds j true).getD k true = false → (∀ e ∈ ok.after, Region.binds md e = true → e.on ≠ i) → oi.apart ops ok = true := fun k ok hk hki hun hno => by
        refine hfree k ok hk hki ?_ hno
        by_cases hjk : j = k
        · subst hjk; exact hjun
        · rw [getD_set_ne true hjk] at hun; exact hun
      refine lOp_monoG (fun a' ran' h => ih (listed.setIfInBounds j true) a' ran' (inv.set hj hjn) hfree' (ready_mono hr (Ne.symm hji)) ?_) H3
      rw [Array.setIfInBounds_comm _ _ hji]
      exact h
theorem headL_lex {n g : Nat} {Lq : Act → Array Bool → Prop} (hsel : Region.noSelect ops = true) (hs : Region.sinkB md ops n = true) (hc : Region.chainB md ops n = true) (hn : n < ops.size) :
    ∀ (m k : Nat) (listed : Array Bool) (a : Act) (ran : Array Bool), k + m = n → HeadInv md ops n listed → Region.lexHead md ops g m k listed = true → wpLG gR P ops C B pu R Lq m k a ran →
    headL gR P md ops C B pu R n (fun listed' a' ran' => Region.seqB md ops g n listed' = true ∧ Lq a' ran') m listed a ran := by
  intro m
  induction m with
  | zero =>
    intro k listed a ran hk _ hB h
    obtain rfl : k = n := by simpa using hk
    exact ⟨by simpa [Region.lexHead] using hB, h⟩
  | succ m ih =>
    intro k listed a ran hk inv hB h
    simp only [Region.lexHead, Bool.and_eq_true] at hB
    obtain ⟨⟨hr, hf⟩, hB'⟩ := hB
    have hr' : k ∈ Region.ready md ops listed := by simpa using hr
    obtain ⟨o, h0⟩ : ∃ o, ops[k]? = some o := ⟨ops[k]'(by omega), Array.getElem?_eq_getElem _⟩
    exact headL_first h0 (Region.noSelect_spec hsel) hs hc hn (by omega) (fun listed' a' ran' hL => seqB_ready hL.1) m listed a ran inv (Region.free_spec h0 hf) hr'
      (lOp_monoG (fun a' ran' h' => ih (k + 1) _ a' ran' (by omega) (inv.set hr' (by omega)) hB' h') h)
/-- What the head must be, by its text: no store, no new variable; no two operations share a temporary. -/
def headB (ops : Array Oper) (n z : Nat) : Bool :=
  (List.range ops.size).all fun i => match ops[i]? with
    | none => true
    | some o => (match o.dst with | some d => decide (d < z) | none => true) &&
      ((List.range ops.size).all fun j => match ops[j]? with
        | none => true
        | some oj => decide (i = j) || match o.dst, oj.dst with | some d, some e => d != e | _, _ => true) &&
      (decide (n ≤ i) || (!isStore o && !isAllocO o))
theorem headB_spec {n z : Nat} (h : headB ops n z = true) :
    (∀ (i : Nat) (o : Oper) d, ops[i]? = some o → o.dst = some d → d < z) ∧ (∀ (i j : Nat) (o oj : Oper) d, ops[i]? = some o → ops[j]? = some oj → o.dst = some d → oj.dst = some d → i = j) ∧
    (∀ (i : Nat) (o : Oper), ops[i]? = some o → i < n → isStore o = false ∧ isAllocO o = false) := by
  have each : ∀ (i : Nat) (o : Oper), ops[i]? = some o → _ := fun i o hi => by
    have h1 := List.all_eq_true.1 h i (List.mem_range.2 (Array.getElem?_eq_some_iff.1 hi).1)
    simp only [hi, Bool.and_eq_true] at h1
    exact h1
  refine ⟨?_, ?_, ?_⟩
  · intro i o d hi hd
    have := (each i o hi).1.1
    simpa [hd] using this
  · intro i j o oj d hi hj hd he
    have h1 := List.all_eq_true.1 (each i o hi).1.2 j (List.mem_range.2 (Array.getElem?_eq_some_iff.1 hj).1)
    simp only [hj, hd, he] at h1
    simpa using h1
  · intro i o hi hin
    have h1 := (each i o hi).2
    simp only [Bool.or_eq_true, Bool.and_eq_true, Bool.not_eq_true', decide_eq_true_eq] at h1
    rcases h1 with h1 | h1
    · omega
    · exact h1
/-- The state's law. -/
structure KeptH (gR : Nat) (ops : Array Oper) (B z : Nat) (R : Nat → Value → World → Prop) (w0 : World) (listed ran : Array Bool) (a : Act) (w : World) : Prop where
  ext : BelowG gR B w0 w
  room : a.tmps.size = z
  rans : ∀ j, ran.getD j false = true → listed.getD j true = true
  facts : ∀ (j : Nat) (oj : Oper) d, ops[j]? = some oj → ran.getD j false = true → oj.dst = some d → R j (a.eval (.tmp d)) w
theorem headL_wp {n g z : Nat} {w0 : World} {L : Array Bool → Act → Array Bool → Prop} {Q : Exit → Act → World → Prop} (hH : headB ops n z = true) (hB : B ≤ w0.heap.size)
    (hR : ∀ i v w w', R i v w → StepG gR w w' → R i v w')
    (hL : ∀ listed a ran w, L listed a ran → KeptH gR ops B z R w0 listed ran a w → wpAny P md ops Q g listed a w) :
    ∀ (f : Nat) (listed : Array Bool) (a : Act) (ran : Array Bool) (w : World), KeptH gR ops B z R w0 listed ran a w → listed.size = ops.size →
    headL gR P md ops (fun w' => ∃ x : ExtG gR B w0, w' = x.val) B pu R n L f listed a ran → wpAny P md ops Q (f + g) listed a w := by
  obtain ⟨hroom, hown, hkind⟩ := headB_spec hH
  intro f
  induction f with
  | zero => intro listed a ran w hk _ h; rw [Nat.zero_add]; exact hL _ _ _ _ h hk
  | succ f ih =>
    intro listed a ran w hk hsz h
    rw [show f + 1 + g = (f + g) + 1 by omega]
    refine ⟨fun h0 => absurd h0 h.1, fun i hi => ?_⟩
    obtain ⟨hin, h1⟩ := h.2 i hi
    obtain ⟨hun, o, ho, hready⟩ := mem_ready.1 hi
    obtain ⟨hso, hal⟩ := hkind i o ho hin
    have hsz' : (listed.setIfInBounds i true).size = ops.size := by simpa using hsz
    have hilt : i < ops.size := (Array.getElem?_eq_some_iff.1 ho).1
    have hnow : (listed.setIfInBounds i true).getD i true = true := by simp [show i < listed.size by omega]
    have hsize := hk.ext.size
    have keep : ∀ (v : Value) (ran' : Array Bool) (w' : World), StepG gR w w' → (ran' = ran ∨ (ran' = ran.setIfInBounds i true ∧ R i v w')) → KeptH gR ops B z R w0 (listed.setIfInBounds i true) ran' (a.put o.dst v) w' := by
      intro v ran' w' hb hran
      have hranl : ∀ j, j ≠ i → ran'.getD j false = true → ran.getD j false = true := fun j hji hr => by
        rcases hran with rfl | ⟨rfl, _⟩
        · exact hr
        · rwa [getD_set_ne false (Ne.symm hji)] at hr
      refine ⟨hk.ext.step hb (by omega), by rw [size_put]; exact hk.room, ?_, ?_⟩
      · intro j hr
        by_cases hji : j = i
        · subst hji; exact hnow
        · exact getD_set_t (hk.rans j (hranl j hji hr))
      · intro j oj d hj hr hd
        by_cases hji : j = i
        · subst hji
          rw [ho] at hj
          obtain rfl := Option.some.inj hj
          rw [hd, eval_own (by rw [hk.room]; exact hroom j o d ho hd)]
          rcases hran with rfl | ⟨_, h2⟩
          · exfalso
            have := hk.rans j hr
            rw [hun] at this
            cases this
          · exact h2
        · rw [eval_tmp_put fun e => hji (hown j i oj o d hj ho hd e)]
          exact hR _ _ _ _ (hk.facts j oj d hj (hranl j hji hr) hd) hb
    unfold wpOp
    unfold lOpG at h1
    simp only [ho] at h1 ⊢
    rw [if_neg (by rw [hso]; decide)] at h1
    by_cases hw : Region.wanted o (yielded ops a.tmps) = true
    · rw [if_pos hw] at h1 ⊢
      obtain ⟨hpre, _, hK⟩ := h1
      refine .inl ?_
      unfold preLG at hpre
      unfold postL at hK
      simp only [hal, Bool.false_eq_true, if_false] at hpre hK
      by_cases hp : pu i = true
      · simp only [hp, if_true] at hpre
        obtain ⟨v, hv, hRv⟩ := hpre
        unfold Oper.wp
        rw [hv w]
        simp only [Oper.upon]
        exact ih _ _ _ _ (keep v _ w (StepG.refl _ _) (Or.inr ⟨rfl, hRv w⟩)) hsz' (hK v ⟨w, hRv w⟩)
      · have hp' : pu i = false := by simpa using hp
        simp only [hp', Bool.false_eq_true, if_false] at hpre
        have h3 := hpre w ⟨⟨w, hk.ext⟩, rfl⟩ (fun j oj d hj _ hr hd _ => hk.facts j oj d hj hr hd)
        unfold Oper.wp
        generalize (execOp a.eval o).run P w = res at *
        cases res with
        | ok nx w' =>
          cases nx <;> simp only [looseUponG] at h3 <;> simp only [Oper.upon]
          case value u => exact ih _ _ _ _ (keep u _ w' h3.1 (Or.inr ⟨rfl, h3.2⟩)) hsz' (hK u ⟨w', h3.2⟩)
          case skip => exact ih _ _ _ _ (keep undef _ w' h3.1 (Or.inr ⟨rfl, h3.2⟩)) hsz' (hK undef ⟨w', h3.2⟩)
          case enter f args =>
            obtain ⟨rfl, hcall⟩ := h3
            refine hcall.mono fun e w'' he => ?_
            obtain ⟨v, rfl, hb, hg⟩ := he
            exact ih _ _ _ _ (keep v _ w'' hb (Or.inr ⟨rfl, hg⟩)) hsz' (hK v ⟨w'', hg⟩)
        | halt y w' => simp only [looseUponG] at h3
    · rw [if_neg hw] at h1 ⊢
      exact ih _ _ _ _ (keep undef _ w (StepG.refl _ _) (Or.inl rfl)) hsz' h1
/-- ONE WALK SERVES EVERY ORDER of the head; then the tail. -/
theorem wp_region_headG {w : World} (gR n : Nat) (hI : IsRom w gR) {id : Nat} {Q : Exit → Act → World → Prop} {a : Act} {l : List Oper} (R : Nat → Value → World → Prop) (pu : Nat → Bool) (hm : P.follows .mixedOrders = true) (hB : Region.lexTailB .any l.toArray n = true)
    (hH : headB l.toArray n a.tmps.size = true)
    (hR : ∀ i v w w', R i v w → StepG gR w w' → R i v w')
    (h : wpLG gR P l.toArray (fun w' => ∃ x : ExtG gR w.heap.size w, w' = x.val) w.heap.size pu R (fun a' _ => ∀ w', BelowG gR w.heap.size w w' → wpList P l.toArray Q (l.drop n) a' w') n 0 a (Array.replicate l.length false)) :
    (Code.region id l.toArray true).wp P Q a w := by
  simp only [Region.lexTailB, Bool.and_eq_true, decide_eq_true_eq] at hB
  obtain ⟨⟨⟨⟨hsel, hn⟩, hs⟩, hc⟩, hlex⟩ := hB
  have hn' : n < l.length := by simpa using hn
  have hdl : (l.drop n).length = l.toArray.size - n := by simp
  have inv0 : HeadInv .any l.toArray n (Array.replicate l.toArray.size false) :=
    ⟨by simp, fun j oj _ hl => (by rw [getD_replicate_false] at hl; cases hl), fun t _ ht => getD_in (by simpa using ht) (getD_replicate_false _ _)⟩
  have H := headL_lex (gR := gR) (P := P) (C := fun w' => ∃ x : ExtG gR w.heap.size w, w' = x.val) (B := w.heap.size) (pu := pu) (R := R) (md := .any) (g := l.toArray.size - n) hsel hs hc hn n 0 _ a (Array.replicate l.length false) (by omega) inv0 hlex h
  refine wp_region_any hm ?_
  have key := headL_wp (gR := gR) (P := P) (B := w.heap.size) (pu := pu) (R := R) (w0 := w) (Q := Q) (g := l.toArray.size - n) (md := .any) hH (Nat.le_refl _) hR (fun listed a' ran w' hL hk => by
    have := wpAny_of_seq (P := P) (md := .any) (Q' := Q) (l.drop n) n listed a' w' (fun j => by simp [List.getElem?_drop]) (by rw [hdl]; exact hL.1) (hL.2 _ hk.ext)
    rwa [hdl] at this) _ _ _ _ { w with drawn := w.drawn + 1 } ?_ (by simp) H
  · rw [show n + (l.toArray.size - n) = l.toArray.size by omega] at key
    exact key
  · exact ⟨(BelowG.refl hI _).drew, rfl, fun j hr => (by rw [getD_replicate_false] at hr; cases hr), fun j oj d _ hr => (by rw [getD_replicate_false] at hr; cases hr)⟩
/-- What an operation leaves, of whatever world; it lasts past a step. -/
structure LftG (g : Nat) where
  G : Value → World → Prop
  st : ∀ v w w', G v w → StepG g w w' → G v w'
def LftG.val (g : Nat) (v : Value) : LftG g := ⟨fun u _ => u = v, fun _ _ _ h _ => h⟩
def LftG.row (g : Nat) (mk : Nat → Value) (obj : Obj) : LftG g := ⟨fun v w => g < rowAt v ∧ v = mk (rowAt v) ∧ w.heap[rowAt v]? = some obj,
  fun _ _ _ h hb => ⟨h.1, h.2.1, (hb.but.block _ (lt_of_heap h.2.2) (show ¬ _ = g by have := h.1; omega)).trans h.2.2⟩⟩
def looseRG {g : Nat} (l : List (LftG g)) : Nat → Value → World → Prop := fun i => (l.getD i (LftG.val g undef)).G
theorem looseRG_st {g : Nat} (l : List (LftG g)) : ∀ i v w w', looseRG l i v w → StepG g w w' → looseRG l i v w' := fun i v w w' h hb => (l.getD i (LftG.val g undef)).st v w w' h hb
section
variable {Q : Act → Array Bool → Prop} {n k : Nat} {a : Act} {ran : Array Bool} {o : Oper}
theorem wpL_calmT (w0 : World) (ho : ops[k]? = some o) (hs : isStore o = false) (hal : isAllocO o = false) (hp : pu k = false)
    (h : ∀ K : Value → Act → Prop, (∀ v a', a' = a.put o.dst v → R k = (LftG.val gR v).G → wpLG gR P ops C B pu R Q n (k + 1) a' (ran.setIfInBounds k true) → K v a') → ∀ K0 : Act → Prop, (∀ a', a' = a.put o.dst undef → wpLG gR P ops C B pu R Q n (k + 1) a' ran → K0 a') →
      if Region.wanted o (yielded ops a.tmps) = true then ∃ v, (∀ w, C w → Oper.quietUpon P (StepG gR w) w v ((execOp a.eval o).run P w)) ∧ K v (a.put o.dst v) else K0 (a.put o.dst undef)) :
    wpLG gR P ops C B pu R Q (n + 1) k a ran := wpL_calmG w0 ho hs hal hp h
theorem wpL_pureT (w0 : World) (ho : ops[k]? = some o) (hs : isStore o = false) (hal : isAllocO o = false) (hp : pu k = true)
    (h : ∀ K : Value → Act → Prop, (∀ v a', a' = a.put o.dst v → R k = (LftG.val gR v).G → wpLG gR P ops C B pu R Q n (k + 1) a' (ran.setIfInBounds k true) → K v a') → ∀ K0 : Act → Prop, (∀ a', a' = a.put o.dst undef → wpLG gR P ops C B pu R Q n (k + 1) a' ran → K0 a') →
      if Region.wanted o (yielded ops a.tmps) = true then ∃ v, (∀ w, (execOp a.eval o).run P w = .ok (.value v) w) ∧ K v (a.put o.dst v) else K0 (a.put o.dst undef)) :
    wpLG gR P ops C B pu R Q (n + 1) k a ran := wpL_pureG w0 ho hs hal hp h
/-- A row that is made: a literal's slice. -/
theorem wpL_rowT (w0 : World) (mk : Nat → Value) (obj : Obj) (hmk : ∀ g, rowAt (mk g) = g) (ho : ops[k]? = some o) (hs : isStore o = false) (hal : isAllocO o = false) (hp : pu k = false) (hw : Region.wanted o (yielded ops a.tmps) = true) (hR : R k = (LftG.row gR mk obj).G)
    (h1 : ∀ w, C w → (execOp a.eval o).run P w = .ok (.value (mk w.heap.size)) (w.alloc obj)) (h2 : ∀ w, C w → gR < w.heap.size)
    (h : ∀ g, wpLG gR P ops C B pu R Q n (k + 1) (a.put o.dst (mk g)) (ran.setIfInBounds k true)) :
    wpLG gR P ops C B pu R Q (n + 1) k a ran := by
  unfold wpLG lOpG
  simp only [ho, hs, hw, if_true, Bool.false_eq_true, if_false]
  unfold preLG postL
  simp only [hal, hp, Bool.false_eq_true, if_false]
  refine ⟨fun w hC _ => ?_, ?_, fun u ⟨w, hu⟩ => ?_⟩
  · rw [h1 w hC, hR]
    exact ⟨(StepG.refl _ _).al _, by rw [hmk]; exact h2 w hC, by rw [hmk], by rw [hmk]; exact alloc_new _ _⟩
  · rw [hR]
    obtain ⟨m, hm⟩ : ∃ m : World, gR < m.heap.size := ⟨{ w0 with heap := Array.replicate (gR + 1) obj }, by simp⟩
    exact ⟨mk m.heap.size, m.alloc obj, by rw [hmk]; exact hm, by rw [hmk], by rw [hmk]; exact alloc_new _ _⟩
  · rw [hR] at hu
    rw [hu.2.1]
    exact h (rowAt u)
/-- A call whose value is known: what it reads of others' work is told. -/
theorem wpL_vcallT (v : Value) (w0 : World) (ho : ops[k]? = some o) (hs : isStore o = false) (hal : isAllocO o = false) (hp : pu k = false) (hw : Region.wanted o (yielded ops a.tmps) = true) (hR : R k = (LftG.val gR v).G)
    (h1 : ∀ w, C w → FactsL ops R o ran a w → looseUponG gR P (LftG.val gR v).G w ((execOp a.eval o).run P w))
    (h : wpLG gR P ops C B pu R Q n (k + 1) (a.put o.dst v) (ran.setIfInBounds k true)) :
    wpLG gR P ops C B pu R Q (n + 1) k a ran :=
  wpL_callG (Lft.val v) ⟨v, w0, rfl⟩ ho hs hal hp hw hR h1 fun u ⟨_, hu⟩ => by
    have hu' : u = v := hu
    subst hu'
    exact h
end
theorem valG {f : FuncId} {args : Array Value} {w : World} {v : Value} (g : Nat) (h : Calls P f args w fun e w' => e = .returned v ∧ Below w.heap.size w w') : Calls P f args w fun e w'' => ∃ u, e = .returned u ∧ StepG g w w'' ∧ (LftG.val g v).G u w'' :=
  (Calls.stepG g h).mono fun _ _ ⟨h1, h2⟩ => ⟨v, h1, h2, rfl⟩
end
end Go.Proofs.YtegmmaaapdgocaaGreat
