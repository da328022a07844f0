/- SEVERAL TEXTS of the seat, one behind the other: each says at its head what it proves. -/
import Derived.Test.YtegmmaaapdgocaaGreatK1
import Derived.ProofKit
import Derived.OpenShut
import Derived.ChangeSlices
/- WHAT AN ARGUMENT LOOKS LIKE that is made of whole numbers and bools alone (arrays and structs of these, to any depth); and what a law's row asks behind its walk. -/
namespace Go.Proofs.YtegmmaaapdgocaaGreat
open Go Go.RowKit Go.ChangeShapes Go.WideShapes Go.ChangeAt

inductive Leaf where
  | int (k : IntKind)
  | bool
def leafFields (F : TypeId → Option (List Leaf)) : List Field → Nat → Option (List Leaf)
  | [], _ => some []
  | f :: rest, off => if f.offset = off then (F f.type).bind fun l => (leafFields F rest (off + l.length)).map fun r => l ++ r else none
/-- The leaves of a type, in the order of its cells. -/
def leafs (P : Program) : Nat → TypeId → Option (List Leaf)
  | 0, _ => none
  | d + 1, t =>
    (match P.underlying t with
    | some .bool => some [Leaf.bool]
    | some (.int k) => some [Leaf.int k]
    | some (.array n e) => (leafs P d e).bind fun l => if P.cellsOf e = l.length then some (List.replicate n l).flatten else none
    | some (.struct fs) => if fs.all (fun f => (leafs P d f.type).any fun (l : List Leaf) => P.cellsOf f.type == l.length) then leafFields (leafs P d) fs.toList 0 else none
    | _ => (none : Option (List Leaf))).bind fun ls => if P.cellsOf t = ls.length then some ls else none
def LeafIs : Leaf → Value → Prop
  | .int k, v => ∃ n, v = .int k n ∧ (Lit.int k n).wf = true
  | .bool, v => ∃ b, v = .bool b
def Leaves : List Leaf → List Value → Prop
  | [], vs => vs = []
  | l :: ls, vs => ∃ v rest, vs = v :: rest ∧ LeafIs l v ∧ Leaves ls rest
theorem leaves_append : ∀ (a b : List Leaf) (cs : List Value), Leaves a (cs.take a.length) → Leaves b (cs.drop a.length) → Leaves (a ++ b) cs := by
  intro a
  induction a with
  | nil => intro b cs _ h; simpa using h
  | cons l a ih =>
    intro b cs ⟨v, rest, h1, h2, h3⟩ h4
    cases cs with
    | nil => simp at h1
    | cons c cs =>
      simp only [List.length_cons, List.take_succ_cons, List.cons.injEq] at h1
      obtain ⟨rfl, rfl⟩ := h1
      exact ⟨c, cs, rfl, h2, ih b cs h3 (by simpa using h4)⟩
theorem leaves_length : ∀ (a : List Leaf) (cs : List Value), Leaves a cs → cs.length = a.length := by
  intro a
  induction a with
  | nil => intro cs h; rw [h]; rfl
  | cons l a ih =>
    intro cs ⟨v, rest, h1, _, h3⟩
    rw [h1]
    simp [ih rest h3]
theorem leaves_array (l : List Leaf) : ∀ (n : Nat) (cs : List Value), cs.length = n * l.length → (∀ i, i < n → Leaves l ((cs.drop (i * l.length)).take l.length)) → Leaves (List.replicate n l).flatten cs := by
  intro n
  induction n with
  | zero => intro cs h _; simp at h; simp [Leaves, h]
  | succ n ih =>
    intro cs h hp
    rw [List.replicate_succ, List.flatten_cons]
    refine leaves_append _ _ _ (by simpa using hp 0 (by omega)) (ih _ (by rw [List.length_drop, h, Nat.add_mul]; omega) fun i hi => ?_)
    have := hp (i + 1) (by omega)
    rwa [List.drop_drop, show l.length + i * l.length = (i + 1) * l.length from by rw [Nat.add_mul]; omega]
theorem leaves_of {H : Type} {enc : TypeId × Value → H} {P : Program} {w : World} {base : Nat} {sp : Nat → Bool} {held : Bool} : ∀ (d fuel : Nat) (t : TypeId) (ls : List Leaf) (cs : List Value) (x : DataW H × List MemPlace),
    leafs P d t = some ls → DataW.trod enc P w base sp held fuel t cs = some x → Leaves ls cs := by
  intro d
  induction d with
  | zero => intro _ _ _ _ _ h; cases h
  | succ d ih =>
    intro fuel t ls cs x h hx
    unfold leafs at h
    obtain ⟨ls', h1, h2⟩ := Option.bind_eq_some_iff.1 h
    split at h2
    · rename_i hcells
      simp only [Option.some.injEq] at h2
      subst h2
      split at h1
      · rename_i ht
        simp only [Option.some.injEq] at h1
        subst h1
        cases fuel with
        | zero => simp [DataW.trod] at hx
        | succ n =>
          unfold DataW.trod at hx
          rw [ht] at hx
          split at hx <;> simp_all [Leaves, LeafIs]
      · rename_i k ht
        simp only [Option.some.injEq] at h1
        subst h1
        obtain ⟨n, rfl, _, hw⟩ := DataW.trod_int ht hx
        exact ⟨_, _, rfl, ⟨n, rfl, hw⟩, rfl⟩
      · rename_i n e ht
        obtain ⟨l, h3, h4⟩ := Option.bind_eq_some_iff.1 h1
        split at h4
        · rename_i hce
          simp only [Option.some.injEq] at h4
          subst h4
          obtain ⟨xs, m, _, _, hl, hxl, hel⟩ := DataW.trod_array ht hx
          refine leaves_array l n cs ?_ fun i hi => ?_
          · rw [hl, hcells]; simp
          · have := hel i hi
            rw [hce] at this
            rw [List.getElem?_eq_getElem (by omega)] at this
            exact ih m e l _ _ h3 this
        · cases h4
      · rename_i fs ht
        split at h1
        · rename_i hall
          obtain ⟨xs, m, _, _, hl, hxl, hel⟩ := DataW.trod_struct ht hx
          have main : ∀ (fl : List Field) (k off : Nat) (r : List Leaf), (∀ j, fl[j]? = fs[k + j]?) → leafFields (leafs P d) fl off = some r → cs.length = off + r.length → Leaves r (cs.drop off) := by
            intro fl
            induction fl with
            | nil =>
              intro k off r _ hr hlen
              simp only [leafFields, Option.some.injEq] at hr
              subst hr
              simp at hlen
              simp [Leaves, hlen]
            | cons f fl ihf =>
              intro k off r hfl hr hlen
              have hf : fs[k]? = some f := by simpa using (hfl 0).symm
              unfold leafFields at hr
              split at hr
              · rename_i hoff
                obtain ⟨l, h5, h6⟩ := Option.bind_eq_some_iff.1 hr
                obtain ⟨r', h7, rfl⟩ := Option.map_eq_some_iff.1 h6
                have hk : k < fs.size := (Array.getElem?_eq_some_iff.1 hf).1
                have hsz : P.cellsOf f.type = l.length := by
                  have := Array.all_eq_true'.1 hall f (Array.mem_of_getElem? hf)
                  rw [h5] at this
                  simpa using this
                have h8 := hel k f hf
                rw [List.getElem?_eq_getElem (by omega), hsz, hoff] at h8
                have h9 := ih m f.type l _ _ h5 h8
                have hlen' : cs.length = off + l.length + r'.length := by simpa [Nat.add_assoc] using hlen
                refine leaves_append _ _ _ h9 ?_
                rw [List.drop_drop]
                exact ihf (k + 1) (off + l.length) r' (fun j => by have := hfl (j + 1); simpa [Nat.add_assoc, Nat.add_comm 1 j] using this) h7 hlen'
              · cases hr
          have := main fs.toList 0 0 _ (fun j => by simp) h1 (by rw [hl, hcells]; simp)
          simpa using this
        · cases h1
      · cases h1
    · cases h2
/-- An argument of such a type, that is no lone number. -/
theorem open_flat {H : Type} {enc : TypeId × Value → H} {P : Program} {w : World} {base : Nat} {sp : Nat → Bool} {held : Bool} {r : Reach} {b0 : Nat} {t : TypeId} {v : Value} {d : DataW H} {ps : List MemPlace} (ls : List Leaf) (depth : Nat)
    (hl : leafs P depth t = some ls) (hagg : (match P.underlying t with | some (.struct _) | some (.array _ _) => true | _ => false) = true) (hval : Value.okWide P w r b0 t v) (hd : DataW.Trod enc P w base sp held t v d ps) :
    ∃ cs : List Value, v = .agg cs.toArray ∧ Leaves ls cs := by
  obtain ⟨cs, rfl⟩ : ∃ cs, v = .agg cs := by
    unfold Value.okWide at hval
    split at hagg
    · rename_i fs ht; rw [ht] at hval; obtain ⟨cs, h, _⟩ := hval; exact ⟨cs, h⟩
    · rename_i n e ht; rw [ht] at hval; obtain ⟨cs, h, _⟩ := hval; exact ⟨cs, h⟩
    · cases hagg
  obtain ⟨fuel, hf⟩ := hd
  exact ⟨cs.toList, by simp, leaves_of depth fuel t ls _ _ hl (by simpa [Value.cells] using hf)⟩

/-- WHAT A LAW's ROW ASKS: it returned true, and below the heap's old size all is as it was. -/
theorem law_post {H : Type} {enc : TypeId × Value → H} {P : Program} (hl : laidOutB P = true) {f : Func} {s : ChangeSpec} {W W' : World} {args : Array Value} {ds gs : List (DataW H)} {before : List MemPlace} {b : TypeId}
    (hts : f.params.toList.all (fun t => P.readableRec t && decide (t < P.types.size)) = true) (hrt : f.resultTypes = #[b]) (hb : P.underlying b = some .bool) (hsv : s.vars = [])
    (hW : DataW.Whole enc P f.params.toList s.vars false W args.toList ds gs before) (hbel : Below W.heap.size W W')
    (hres : (s.fn H (ds ++ gs)).results = [.lit (.bool true)]) (hargs : (s.fn H (ds ++ gs)).args = ds) (hvars : (s.fn H (ds ++ gs)).vars = []) :
    s.post enc P f false true false false W args (.bool true) W' := by
  have hlt := hW.lt
  have hW0 := hW
  obtain ⟨p, q, hA, hV, rfl, hnf, hnd⟩ := hW
  clear hnf hnd
  refine ⟨ds, gs, p ++ q, [], p, [], hW0, ?_, ?_, ?_, Below.frame hbel _, fun h => by cases h⟩
  · rw [hres, hrt]
    exact ⟨[], [], shut_bool hb true, rfl, rfl⟩
  · rw [hargs]
    have hlt' : ∀ x ∈ p, x.block < W.heap.size := fun x hx => hlt x (List.mem_append_left _ hx)
    clear hW0 hlt hV hres hargs hvars
    revert hA hts hlt'
    generalize f.params.toList = ts
    generalize args.toList = vs
    intro hts hA hlt'
    induction ts generalizing vs ds p with
    | nil => cases vs <;> cases ds <;> simp [DataW.TrodAll] at hA ⊢; exact hA
    | cons t ts ih =>
      obtain ⟨v, vs', d, ds', p1, p2, rfl, rfl, rfl, h1, h2⟩ := trodAll_cons hA
      simp only [List.all_cons, Bool.and_eq_true, decide_eq_true_eq] at hts
      refine ⟨p1, p2, Below.trod hl hts.1.1 hts.1.2 h1 hbel (fun x hx => hlt' x (List.mem_append_left _ hx)), ih _ _ hts.2 h2 (fun x hx => hlt' x (List.mem_append_right _ hx)), rfl⟩
  · rw [hvars, hsv]
    rfl
end Go.Proofs.YtegmmaaapdgocaaGreat

/- ARGUMENTS that are numbers of 512 bits, words, lists of limbs. -/
namespace Go.Proofs.YtegmmaaapdgocaaGreat
open Go Go.RowKit Go.ChangeShapes Go.WideShapes Go.ChangeAt

/-- A number out of its limbs. -/
theorem limbs_make : ∀ (xs : List Nat), (∀ x ∈ xs, x < P2 64) → ∃ n, n < P2 (64 * xs.length) ∧ ∀ i x, xs[i]? = some x → limb n i = x := by
  intro xs
  induction xs with
  | nil => intro _; exact ⟨0, P2_pos _, fun i x h => by simp at h⟩
  | cons x xs ih =>
    intro hx
    obtain ⟨n, hn, hl⟩ := ih fun y hy => hx y (List.mem_cons_of_mem _ hy)
    have h0 := hx x List.mem_cons_self
    refine ⟨x + P2 64 * n, ?_, ?_⟩
    · rw [List.length_cons, show 64 * (xs.length + 1) = 64 + 64 * xs.length by omega, P2_add]
      have : P2 64 * (n + 1) ≤ P2 64 * P2 (64 * xs.length) := Nat.mul_le_mul_left _ hn
      rw [Nat.mul_add] at this
      omega
    · intro i y hy
      rcases i with _ | i
      · simp only [List.getElem?_cons_zero, Option.some.injEq] at hy
        subst hy
        unfold limb
        rw [show P2 (64 * 0) = 1 by rw [P2_eq], Nat.div_one, Nat.add_mul_mod_self_left, Nat.mod_eq_of_lt h0]
      · simp only [List.getElem?_cons_succ] at hy
        rw [← hl i y hy]
        unfold limb
        rw [show 64 * (i + 1) = 64 + 64 * i by omega, P2_add, ← Nat.div_div_eq_div_mul, Nat.add_mul_div_left _ _ (P2_pos _), Nat.div_eq_of_lt h0, Nat.zero_add]
theorem u64_bounds {n : Int} (h : (Lit.int .u64 n).wf = true) : ∃ k : Nat, n = (k : Int) ∧ k < P2 64 := by
  have h1 := bounds_u64 h
  obtain ⟨k, rfl⟩ := Int.eq_ofNat_of_zero_le h1.1
  exact ⟨k, rfl, by rw [P2_64]; omega⟩
/-- A list of limbs that came as an argument. -/
theorem open_limbs {H : Type} {enc : TypeId × Value → H} {P : Program} {w : World} {base : Nat} {r : Reach} {b0 : Nat} {t e : TypeId} {v : Value} {d : DataW H} {ps : List MemPlace} (ht : P.underlying t = some (.slice e)) (he : P.underlying e = some (.int .u64)) (hc : P.cellsOf e = 1)
    (hval : Value.okWide P w r b0 t v) (hd : DataW.Trod enc P w base (fun _ => true) true t v d ps) : ∃ n L, IsLimbs w v n L := by
  obtain ⟨a0, len, cap, rfl⟩ := okWide_slice ht hval
  obtain ⟨fuel, hf⟩ := hd
  rcases open_ints ht he hc hf with ⟨hcs, _⟩ | ⟨a, len', cap', zs, hcs, _, hl, hm, hz, _, hcell, hwz⟩
  · simp [Value.cells] at hcs
    obtain ⟨rfl, rfl, rfl⟩ := hcs
    exact ⟨0, 0, ⟨⟨none, 0, rfl, Nat.le_refl _, fun h => absurd h (by omega)⟩, P2_pos _⟩⟩
  · simp [Value.cells] at hcs
    obtain ⟨rfl, rfl, rfl⟩ := hcs
    simp only [if_true] at hz
    obtain ⟨n, hn, hlim⟩ := limbs_make ((zs.take len).map Int.toNat) (by
      intro x hx
      obtain ⟨z, hz1, rfl⟩ := List.mem_map.1 hx
      obtain ⟨k, rfl, hk⟩ := u64_bounds (hwz z (List.mem_of_mem_take hz1))
      exact hk)
    have hlen : ((zs.take len).map Int.toNat).length = len := by simp; omega
    rw [hlen] at hn
    refine ⟨n, len, ⟨⟨_, cap, rfl, hl, fun h0 => ?_⟩, hn⟩⟩
    obtain ⟨b, off, spot⟩ := a
    have c0 := hcell 0 (by omega)
    have hspot : spot = none := by simpa [Addr.add] using World.cell?_spot c0
    subst hspot
    refine ⟨b, off, rfl, block_lt_of_cell (a := ⟨b, off, none⟩) (by simpa [Addr.add] using c0), fun i hi => ?_⟩
    have ci := hcell i (by omega)
    rw [Addr.add_lit] at ci
    rw [ci]
    have hiz : i < zs.length := by omega
    obtain ⟨k, hk, hk2⟩ := u64_bounds (hwz (zs.getD i 0) (by rw [List.getD_eq_getElem?_getD, List.getElem?_eq_getElem hiz]; exact List.getElem_mem hiz))
    have := hlim i k (by
      rw [List.getElem?_map, List.getElem?_take, if_pos hi, List.getElem?_eq_getElem hiz]
      rw [List.getD_eq_getElem?_getD, List.getElem?_eq_getElem hiz] at hk
      simp only [Option.getD_some] at hk
      simp [hk])
    rw [this, hk]
theorem wide_of {cs : List Value} (h : Leaves [.int .u64, .int .u64, .int .u64, .int .u64, .int .u64, .int .u64, .int .u64, .int .u64] cs) : ∃ n, n < M ∧ cs.toArray = wcells n := by
  obtain ⟨_, _, rfl, ⟨x0, rfl, w0⟩, _, _, rfl, ⟨x1, rfl, w1⟩, _, _, rfl, ⟨x2, rfl, w2⟩, _, _, rfl, ⟨x3, rfl, w3⟩, _, _, rfl, ⟨x4, rfl, w4⟩, _, _, rfl, ⟨x5, rfl, w5⟩, _, _, rfl, ⟨x6, rfl, w6⟩, _, _, rfl, ⟨x7, rfl, w7⟩, hE⟩ := h
  obtain rfl := hE
  obtain ⟨k0, rfl, h0⟩ := u64_bounds w0
  obtain ⟨k1, rfl, h1⟩ := u64_bounds w1
  obtain ⟨k2, rfl, h2⟩ := u64_bounds w2
  obtain ⟨k3, rfl, h3⟩ := u64_bounds w3
  obtain ⟨k4, rfl, h4⟩ := u64_bounds w4
  obtain ⟨k5, rfl, h5⟩ := u64_bounds w5
  obtain ⟨k6, rfl, h6⟩ := u64_bounds w6
  obtain ⟨k7, rfl, h7⟩ := u64_bounds w7
  obtain ⟨n, hn, hl⟩ := limbs_make [k0, k1, k2, k3, k4, k5, k6, k7] (by simp [h0, h1, h2, h3, h4, h5, h6, h7])
  refine ⟨n, by rw [M_eq]; exact hn, ?_⟩
  unfold wcells
  rw [hl 0 k0 rfl, hl 1 k1 rfl, hl 2 k2 rfl, hl 3 k3 rfl, hl 4 k4 rfl, hl 5 k5 rfl, hl 6 k6 rfl, hl 7 k7 rfl]
theorem word_of {cs : List Value} (h : Leaves [.int .u64, .int .u64] cs) : ∃ x y : Nat, x ≤ 18446744073709551615 ∧ y ≤ 18446744073709551615 ∧ cs.toArray = #[.int .u64 x, .int .u64 y] := by
  obtain ⟨_, _, rfl, ⟨x0, rfl, w0⟩, _, _, rfl, ⟨x1, rfl, w1⟩, hE⟩ := h
  obtain rfl := hE
  obtain ⟨k0, rfl, h0⟩ := u64_bounds w0
  obtain ⟨k1, rfl, h1⟩ := u64_bounds w1
  rw [P2_64] at h0 h1
  exact ⟨k0, k1, by omega, by omega, rfl⟩
end Go.Proofs.YtegmmaaapdgocaaGreat
