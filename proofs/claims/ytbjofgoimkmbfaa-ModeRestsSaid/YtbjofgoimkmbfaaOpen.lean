/- WHAT AN ARGUMENT LOOKS LIKE that is made of whole numbers and bools alone (arrays and structs of these, to any depth); and what a law's row asks behind its walk. -/
import Derived.Test.YtbjofgoimkmbfaaBase
import Derived.ProofKit
import Derived.OpenShut
namespace Go.Proofs.Ytbjofgoimkmbfaa
open Go Go.RowKit Go.ChangeShapes Go.WideShapes Go.ChangeAt

inductive Leaf where
  | int (k : IntKind)
  | bool
def leafFields (F : TypeId → Option (List Leaf)) : List Field → Nat → Option (List Leaf)
  | [], _ => some []
  | f :: rest, off => if f.offset = off then (F f.type).bind fun l => (leafFields F rest (off + l.length)).map fun r => l ++ r else none
/-- The leaves of a type, in the order of its cells. -/
def leafs (P : Program) : Nat → TypeId → Option (List Leaf)
  | 0, _ => none
  | d + 1, t =>
    (match P.underlying t with
    | some .bool => some [Leaf.bool]
    | some (.int k) => some [Leaf.int k]
    | some (.array n e) => (leafs P d e).bind fun l => if P.cellsOf e = l.length then some (List.replicate n l).flatten else none
    | some (.struct fs) => if fs.all (fun f => (leafs P d f.type).any fun (l : List Leaf) => P.cellsOf f.type == l.length) then leafFields (leafs P d) fs.toList 0 else none
    | _ => (none : Option (List Leaf))).bind fun ls => if P.cellsOf t = ls.length then some ls else none
def LeafIs : Leaf → Value → Prop
  | .int k, v => ∃ n, v = .int k n ∧ (Lit.int k n).wf = true
  | .bool, v => ∃ b, v = .bool b
def Leaves : List Leaf → List Value → Prop
  | [], vs => vs = []
  | l :: ls, vs => ∃ v rest, vs = v :: rest ∧ LeafIs l v ∧ Leaves ls rest
theorem leaves_append : ∀ (a b : List Leaf) (cs : List Value), Leaves a (cs.take a.length) → Leaves b (cs.drop a.length) → Leaves (a ++ b) cs := by
  intro a
  induction a with
  | nil => intro b cs _ h; simpa using h
  | cons l a ih =>
    intro b cs ⟨v, rest, h1, h2, h3⟩ h4
    cases cs with
    | nil => simp at h1
    | cons c cs =>
      simp only [List.length_cons, List.take_succ_cons, List.cons.injEq] at h1
      obtain ⟨rfl, rfl⟩ := h1
      exact ⟨c, cs, rfl, h2, ih b cs h3 (by simpa using h4)⟩
theorem leaves_length : ∀ (a : List Leaf) (cs : List Value), Leaves a cs → cs.length = a.length := by
  intro a
  induction a with
  | nil => intro cs h; rw [h]; rfl
  | cons l a ih =>
    intro cs ⟨v, rest, h1, _, h3⟩
    rw [h1]
    simp [ih rest h3]
theorem leaves_array (l : List Leaf) : ∀ (n : Nat) (cs : List Value), cs.length = n * l.length → (∀ i, i < n → Leaves l ((cs.drop (i * l.length)).take l.length)) → Leaves (List.replicate n l).flatten cs := by
  intro n
  induction n with
  | zero => intro cs h _; simp at h; simp [Leaves, h]
  | succ n ih =>
    intro cs h hp
    rw [List.replicate_succ, List.flatten_cons]
    refine leaves_append _ _ _ (by simpa using hp 0 (by omega)) (ih _ (by rw [List.length_drop, h, Nat.add_mul]; omega) fun i hi => ?_)
    have := hp (i + 1) (by omega)
    rwa [List.drop_drop, show l.length + i * l.length = (i + 1) * l.length from by rw [Nat.add_mul]; omega]
theorem leaves_of {H : Type} {enc : TypeId × Value → H} {P : Program} {w : World} {base : Nat} {sp : Nat → Bool} {held : Bool} : ∀ (d fuel : Nat) (t : TypeId) (ls : List Leaf) (cs : List Value) (x : DataW H × List MemPlace),
    leafs P d t = some ls → DataW.trod enc P w base sp held fuel t cs = some x → Leaves ls cs := by
  intro d
  induction d with
  | zero => intro _ _ _ _ _ h; cases h
  | succ d ih =>
    intro fuel t ls cs x h hx
    unfold leafs at h
    obtain ⟨ls', h1, h2⟩ := Option.bind_eq_some_iff.1 h
    split at h2
    · rename_i hcells
      simp only [Option.some.injEq] at h2
      subst h2
      split at h1
      · rename_i ht
        simp only [Option.some.injEq] at h1
        subst h1
        cases fuel with
        | zero => simp [DataW.trod] at hx
        | succ n =>
          unfold DataW.trod at hx
          rw [ht] at hx
          split at hx <;> simp_all [Leaves, LeafIs]
      · rename_i k ht
        simp only [Option.some.injEq] at h1
        subst h1
        obtain ⟨n, rfl, _, hw⟩ := DataW.trod_int ht hx
        exact ⟨_, _, rfl, ⟨n, rfl, hw⟩, rfl⟩
      · rename_i n e ht
        obtain ⟨l, h3, h4⟩ := Option.bind_eq_some_iff.1 h1
        split at h4
        · rename_i hce
          simp only [Option.some.injEq] at h4
          subst h4
          obtain ⟨xs, m, _, _, hl, hxl, hel⟩ := DataW.trod_array ht hx
          refine leaves_array l n cs ?_ fun i hi => ?_
          · rw [hl, hcells]; simp
          · have := hel i hi
            rw [hce] at this
            rw [List.getElem?_eq_getElem (by omega)] at this
            exact ih m e l _ _ h3 this
        · cases h4
      · rename_i fs ht
        split at h1
        · rename_i hall
          obtain ⟨xs, m, _, _, hl, hxl, hel⟩ := DataW.trod_struct ht hx
          have main : ∀ (fl : List Field) (k off : Nat) (r : List Leaf), (∀ j, fl[j]? = fs[k + j]?) → leafFields (leafs P d) fl off = some r → cs.length = off + r.length → Leaves r (cs.drop off) := by
            intro fl
            induction fl with
            | nil =>
              intro k off r _ hr hlen
              simp only [leafFields, Option.some.injEq] at hr
              subst hr
              simp at hlen
              simp [Leaves, hlen]
            | cons f fl ihf =>
              intro k off r hfl hr hlen
              have hf : fs[k]? = some f := by simpa using (hfl 0).symm
              unfold leafFields at hr
              split at hr
              · rename_i hoff
                obtain ⟨l, h5, h6⟩ := Option.bind_eq_some_iff.1 hr
                obtain ⟨r', h7, rfl⟩ := Option.map_eq_some_iff.1 h6
                have hk : k < fs.size := (Array.getElem?_eq_some_iff.1 hf).1
                have hsz : P.cellsOf f.type = l.length := by
                  have := Array.all_eq_true'.1 hall f (Array.mem_of_getElem? hf)
                  rw [h5] at this
                  simpa using this
                have h8 := hel k f hf
                rw [List.getElem?_eq_getElem (by omega), hsz, hoff] at h8
                have h9 := ih m f.type l _ _ h5 h8
                have hlen' : cs.length = off + l.length + r'.length := by simpa [Nat.add_assoc] using hlen
                refine leaves_append _ _ _ h9 ?_
                rw [List.drop_drop]
                exact ihf (k + 1) (off + l.length) r' (fun j => by have := hfl (j + 1); simpa [Nat.add_assoc, Nat.add_comm 1 j] using this) h7 hlen'
              · cases hr
          have := main fs.toList 0 0 _ (fun j => by simp) h1 (by rw [hl, hcells]; simp)
          simpa using this
        · cases h1
      · cases h1
    · cases h2
/-- An argument of such a type, that is no lone number. -/
theorem open_flat {H : Type} {enc : TypeId × Value → H} {P : Program} {w : World} {base : Nat} {sp : Nat → Bool} {held : Bool} {r : Reach} {b0 : Nat} {t : TypeId} {v : Value} {d : DataW H} {ps : List MemPlace} (ls : List Leaf) (depth : Nat)
    (hl : leafs P depth t = some ls) (hagg : (match P.underlying t with | some (.struct _) | some (.array _ _) => true | _ => false) = true) (hval : Value.okWide P w r b0 t v) (hd : DataW.Trod enc P w base sp held t v d ps) :
    ∃ cs : List Value, v = .agg cs.toArray ∧ Leaves ls cs := by
  obtain ⟨cs, rfl⟩ : ∃ cs, v = .agg cs := by
    unfold Value.okWide at hval
    split at hagg
    · rename_i fs ht; rw [ht] at hval; obtain ⟨cs, h, _⟩ := hval; exact ⟨cs, h⟩
    · rename_i n e ht; rw [ht] at hval; obtain ⟨cs, h, _⟩ := hval; exact ⟨cs, h⟩
    · cases hagg
  obtain ⟨fuel, hf⟩ := hd
  exact ⟨cs.toList, by simp, leaves_of depth fuel t ls _ _ hl (by simpa [Value.cells] using hf)⟩

/-- WHAT A LAW's ROW ASKS: it returned true, and below the heap's old size all is as it was. -/
theorem law_post {H : Type} {enc : TypeId × Value → H} {P : Program} (hl : laidOutB P = true) {f : Func} {s : ChangeSpec} {W W' : World} {args : Array Value} {ds gs : List (DataW H)} {before : List MemPlace} {b : TypeId}
    (hts : f.params.toList.all (fun t => P.readableRec t && decide (t < P.types.size)) = true) (hrt : f.resultTypes = #[b]) (hb : P.underlying b = some .bool) (hsv : s.vars = [])
    (hW : DataW.Whole enc P f.params.toList s.vars false W args.toList ds gs before) (hbel : Below W.heap.size W W')
    (hres : (s.fn H (ds ++ gs)).results = [.lit (.bool true)]) (hargs : (s.fn H (ds ++ gs)).args = ds) (hvars : (s.fn H (ds ++ gs)).vars = []) :
    s.post enc P f false true false false W args (.bool true) W' := by
  have hlt := hW.lt
  have hW0 := hW
  obtain ⟨p, q, hA, hV, rfl, hnf, hnd⟩ := hW
  clear hnf hnd
  refine ⟨ds, gs, p ++ q, [], p, [], hW0, ?_, ?_, ?_, Below.frame hbel _, fun h => by cases h⟩
  · rw [hres, hrt]
    exact ⟨[], [], shut_bool hb true, rfl, rfl⟩
  · rw [hargs]
    have hlt' : ∀ x ∈ p, x.block < W.heap.size := fun x hx => hlt x (List.mem_append_left _ hx)
    clear hW0 hlt hV hres hargs hvars
    revert hA hts hlt'
    generalize f.params.toList = ts
    generalize args.toList = vs
    intro hts hA hlt'
    induction ts generalizing vs ds p with
    | nil => cases vs <;> cases ds <;> simp [DataW.TrodAll] at hA ⊢; exact hA
    | cons t ts ih =>
      obtain ⟨v, vs', d, ds', p1, p2, rfl, rfl, rfl, h1, h2⟩ := trodAll_cons hA
      simp only [List.all_cons, Bool.and_eq_true, decide_eq_true_eq] at hts
      refine ⟨p1, p2, Below.trod hl hts.1.1 hts.1.2 h1 hbel (fun x hx => hlt' x (List.mem_append_left _ hx)), ih _ _ hts.2 h2 (fun x hx => hlt' x (List.mem_append_right _ hx)), rfl⟩
  · rw [hvars, hsv]
    rfl
end Go.Proofs.Ytbjofgoimkmbfaa
