/- THE WALK of radix2's steps, as far as they are wanted. -/
import Derived.Test.YtenkaobgoknlhaaR2g
import Derived.Test.YtenkaobgoknlhaaWRow
import Derived.Maps.AppendAt
namespace Go.Proofs.Ytenkaobgoknlhaa
open Go Go.RowKit

theorem infoWide : (Try.prog.info? 26).map (fun i => (i.zero, i.size, i.bytes)) = some (some (wv 0), 8, 64) := by kernel_rfl
/-- The cells of a list of numbers. -/
def rowsL (xs : List Nat) : List Value := xs.flatMap fun x => (wcells x).toList
theorem rowsL_snoc (xs : List Nat) (x : Nat) : rowsL (xs ++ [x]) = rowsL xs ++ (wcells x).toList := by unfold rowsL; simp
theorem rowsL_length (xs : List Nat) : (rowsL xs).length = xs.length * 8 := by
  induction xs with
  | nil => rfl
  | cons x xs ih =>
    have : rowsL (x :: xs) = (wcells x).toList ++ rowsL xs := rfl
    rw [this, List.length_append, ih, List.length_cons]
    have : (wcells x).toList.length = 8 := rfl
    omega
theorem rowsL_get (xs : List Nat) : ∀ (i x j : Nat), xs[i]? = some x → j < 8 → (rowsL xs)[i * 8 + j]? = some (.int .u64 (limb x j : Nat)) := by
  induction xs with
  | nil => intro i x j h; simp at h
  | cons y xs ih =>
    intro i x j h hj
    have e : rowsL (y :: xs) = (wcells y).toList ++ rowsL xs := rfl
    have hl : (wcells y).toList.length = 8 := rfl
    rw [e]
    cases i with
    | zero =>
      simp only [List.getElem?_cons_zero, Option.some.injEq] at h
      subst h
      rw [List.getElem?_append_left (by omega), Array.getElem?_toList, Nat.zero_mul, Nat.zero_add, wcells_get _ _ hj]
    | succ i =>
      simp only [List.getElem?_cons_succ] at h
      rw [List.getElem?_append_right (by omega), hl, show (i + 1) * 8 + j - 8 = i * 8 + j by omega]
      exact ih i x j h hj
theorem wides_of_own {w : World} {base : Nat} {e : TypeId} {v : Value} {xs : List Nat} {n : Nat} (hn : n = xs.length) (h : w.ownsRow base e 8 v n (rowsL xs)) : IsWides w v xs := by
  subst hn
  rcases h.2 with ⟨rfl, h0⟩ | ⟨g, cap, cur, rfl, _, hg, hc, _, _, ht⟩
  · exact ⟨none, 0, by rw [h0], by omega, fun h => by omega⟩
  · refine ⟨_, cap, rfl, hc, fun h0 => ⟨g, 0, rfl, lt_of_heap hg, fun i x hi j hj => ?_⟩⟩
    have := h.cells (g := g) rfl (i * 8 + j) _ (rowsL_get xs i x j hi hj)
    rw [Addr.add_lit] at this
    rw [← this]
    congr 2
    omega

theorem ownsRow_but' {S : Nat → Prop} {w w' : World} {base : Nat} {e : TypeId} {size : Nat} {v : Value} {n : Nat} {xs : List Value} (h : w.ownsRow base e size v n xs) (hb : But S w w') (hS : ∀ k, v.ownBlock = some k → ¬ S k) : w'.ownsRow base e size v n xs := by
  refine ⟨h.1, ?_⟩
  rcases h.2 with hn | ⟨g, cap, cur, rfl, h1, hg, rest⟩
  · exact .inl hn
  · exact .inr ⟨g, cap, cur, rfl, h1, (hb.block g (lt_of_heap hg) (hS g rfl)).trans hg, rest⟩
attribute [local go_sem ↓] Go.wp_at_zero Go.wp_at_succ
set_option maxRecDepth 100000 in
set_option maxHeartbeats 2000000 in
/-- The step that is taken: one more is wanted. -/
theorem stepFun_yes (Ob Mb g0 l n : Nat) (dg most : Int) (v : Value) (xs : List Nat) (w : World) (hO : w.heap[Ob]? = some (.cells #[v] 103 (0, 0))) (hMo : w.heap[Mb]? = some (.cells #[.int .i64 most] 3 (0, 0))) (hown : w.ownsRow 0 26 8 v n (rowsL xs)) (hg0 : v.ownBlock = some g0) (hgO : g0 ≠ Ob) (hn : n ≤ 1000) (hne : (n : Int) ≠ most)  :
    Calls Try.prog 138 #[.agg (scells dg l), .pointer (some ⟨Ob, 0, none⟩), .pointer (some ⟨Mb, 0, none⟩)] w fun e w' => e = .returned (.bool true) ∧ ∃ v', w'.heap[Ob]? = some (.cells #[v'] 103 (0, 0)) ∧ w'.ownsRow 0 26 8 v' (n + 1) (rowsL (xs ++ [l])) ∧ (∃ g', v'.ownBlock = some g' ∧ (g' = g0 ∨ w.heap.size ≤ g')) ∧ But (fun k => k = Ob ∨ k = g0) w w' := by
  obtain ⟨a0, cap0, rfl⟩ := own_slice hown
  have HOl := Lib.hid (lt_of_heap hO)
  have GO := Lib.hid hO; have GM := Lib.hid hMo; have HOW := Lib.hid hown; have HG := Lib.hid hg0; have HGO := Lib.hid hgO; have HN := Lib.hid hn
  have hb1 : ((n : Int) == most) = false := by simp [hne]
  clear hO hMo hown hg0 hgO hn hne
  go_enter Try.func138, Try.ntmps138
  have HB := Lib.hid (Below.refl w.heap.size w)
  replace GO := Lib.hid (keepAl (o' := .cells (scells dg l) 137) GO.out)
  replace GM := Lib.hid (keepAl (o' := .cells (scells dg l) 137) GM.out)
  have Gs := Lib.hid (alloc_new (w) (.cells (scells dg l) 137))
  replace HB := Lib.hid (below_al HB.out (.cells (scells dg l) 137))
  have cGO := cell_row GO.out
  have cGM := cell_row GM.out
  have cGs := cell_row Gs.out
  have HO1 := Lib.hid (HOW.out.alloc (.cells (scells dg l) 137))
  go_wp2_with (at_builtin; obtain ⟨i0, hi, hz0, hz1, hz2⟩ := info_parts infoWide; refine wpList_append_own_at _ rfl _ _ 103 rfl 0 26 i0 (wv 0) 8 64 Try.underlying103 hi hz0 hz1 hz2 rfl (by decide) _ _ _ rfl (HO1.out.alloc _) ⟨w.heap.size + 1, 0, none⟩ 1 1 (wcells l).toList rfl rfl ?c1 ?c2 ?c3 ?c4 ?c5 ?_)
  case c1 =>
    intro j u hj
    rw [Array.getElem?_toList] at hj
    rw [Addr.add_lit, Nat.zero_add, cell_row (alloc_new' _ (by simp))]
    exact hj
  case c2 => intro u hu; simp [wcells] at hu; rcases hu with rfl | rfl | rfl | rfl | rfl | rfl | rfl | rfl <;> rfl
  case c3 => have := HN.out; unfold maxLen; omega
  case c4 => have := HN.out; omega
  case c5 => exact Nat.zero_le _
  intro v' w3 hown3 hgrow _ hat
  obtain ⟨a', cap', rfl⟩ := own_slice hown3
  have GO2 : Hid (w3.heap[Ob]? = some (.cells #[.slice a0 n cap0] 103 (0, 0))) := Lib.hid ((hgrow.block Ob (lt_of_heap (keepAl GO.out)) (fun e => by rw [HG.out] at e; exact HGO.out (Option.some.inj e).symm)).trans (keepAl GO.out))
  have HBu : Hid (But (fun k => k = Ob ∨ k = g0) w w3) := Lib.hid ((((But.refl _ w).al _).al _).grown hgrow fun k hk => by rw [HG.out] at hk; exact Or.inr (Option.some.inj hk).symm)
  rw [← rowsL_snoc] at hown3
  have HO3 := Lib.hid hown3
  have HAT : Hid (∃ g', (Value.slice a' (n + 1) cap').ownBlock = some g' ∧ (g' = g0 ∨ w.heap.size ≤ g') ∧ g' ≠ Ob) := Lib.hid (by
    rcases hat with h | h
    · exact ⟨g0, h.trans HG.out, Or.inl rfl, HGO.out⟩
    · have hGO := HOl.out
      exact ⟨_, h, Or.inr (by omega), by omega⟩)
  clear cGO cGM cGs hgrow hown3 hat
  have c0 := cell_row GO2.out
  have f0 := free_row GO2.out
  have GO3 : Hid ((w3.setCell ⟨Ob, 0, none⟩ (.slice a' (n + 1) cap')).heap[Ob]? = some (.cells #[.slice a' (n + 1) cap'] 103 (0, 0))) := Lib.hid (set_row GO2.out 0 _)
  have HO4 := Lib.hid (ownsRow_but' HO3.out (But.set (S := (· = Ob)) (But.refl _ w3) rfl 0 (.slice a' (n + 1) cap')) (fun k hk e => by obtain ⟨g', h1, _, h3⟩ := HAT.out; rw [h1] at hk; exact h3 ((Option.some.inj hk).trans e)))
  have HBu2 := Lib.hid (But.set (S := fun k => k = Ob ∨ k = g0) HBu.out (Or.inl rfl) 0 (.slice a' (n + 1) cap'))
  go_wp2
  go_ret
  obtain ⟨g', h1, h2, _⟩ := HAT.out
  exact ⟨rfl, _, GO3.out, HO4.out, ⟨g', h1, h2⟩, HBu2.out⟩
set_option maxRecDepth 100000 in
set_option maxHeartbeats 2000000 in
/-- The step that is not: there are enough. -/
theorem stepFun_no (Ob Mb l n : Nat) (dg : Int) (a0 : Option Addr) (cap0 : Nat) (w : World) (hO : w.heap[Ob]? = some (.cells #[.slice a0 n cap0] 103 (0, 0))) (hMo : w.heap[Mb]? = some (.cells #[.int .i64 (n : Int)] 3 (0, 0))) :
    Calls Try.prog 138 #[.agg (scells dg l), .pointer (some ⟨Ob, 0, none⟩), .pointer (some ⟨Mb, 0, none⟩)] w fun e w' => e = .returned (.bool false) ∧ Below w.heap.size w w' := by
  have GO := Lib.hid hO; have GM := Lib.hid hMo
  clear hO hMo
  go_enter Try.func138, Try.ntmps138
  have HB := Lib.hid (Below.refl w.heap.size w)
  replace GO := Lib.hid (keepAl (o' := .cells (scells dg l) 137) GO.out)
  replace GM := Lib.hid (keepAl (o' := .cells (scells dg l) 137) GM.out)
  have Gs := Lib.hid (alloc_new (w) (.cells (scells dg l) 137))
  replace HB := Lib.hid (below_al HB.out (.cells (scells dg l) 137))
  have cGO := cell_row GO.out
  have cGM := cell_row GM.out
  have cGs := cell_row Gs.out
  go_wp2
  go_ret
  exact ⟨rfl, HB.out⟩

theorem enters_stp : Enters Try.prog 138 := fun args w => by simp [go_sem]
/-- What is left behind 0, 1, .. steps. -/
def stL (n d e : Nat) : List Nat := (List.range e).map (lftN n d)
theorem stL_succ (n d e : Nat) : stL n d (e + 1) = stL n d e ++ [lftN n d e] := by unfold stL; rw [List.range_succ, List.map_append]; rfl
theorem stL_length (n d e : Nat) : (stL n d e).length = e := by unfold stL; rw [List.length_map, List.length_range]
structure StpIn (n d Ob Mb S0 : Nat) (most : Int) (wq : World) (i : Nat) (w' : World) : Prop where
  o : ∃ v g, w'.heap[Ob]? = some (.cells #[v] 103 (0, 0)) ∧ w'.ownsRow 0 26 8 v (min (i + 1) most.toNat) (rowsL (stL n d (min (i + 1) most.toNat))) ∧ v.ownBlock = some g ∧ (g = S0 ∨ wq.heap.size + 3 ≤ g)
  m : w'.heap[Mb]? = some (.cells #[.int .i64 most] 3 (0, 0))
  but : But (fun k => k = Ob ∨ k = S0 ∨ wq.heap.size ≤ k) wq w'
set_option maxRecDepth 100000 in
set_option maxHeartbeats 1000000 in
theorem stpRun_any (n d Ob Mb S0 : Nat) (most : Int) (w : World) (hn : n < M) (hd0 : 0 < d) (hd : d < P2 120) (hnd : n < d * P2 128) (hm1 : 1 ≤ most) (hOb : Ob < w.heap.size) (hMb : Mb < w.heap.size) (hS0 : S0 < w.heap.size) (hOM : Ob ≠ Mb) (hSO : S0 ≠ Ob) (hSM : S0 ≠ Mb)
    (hO : w.heap[Ob]? = some (.cells #[.slice (some ⟨S0, 0, none⟩) 1 1] 103 (0, 0))) (hM : w.heap[Mb]? = some (.cells #[.int .i64 most] 3 (0, 0))) (hS : w.heap[S0]? = some (.cells (wcells n) 26 (0, 0))) :
    Calls Try.prog 128 #[wv n, wv d, .func (.func 138) #[] #[.pointer (some ⟨Ob, 0, none⟩), .pointer (some ⟨Mb, 0, none⟩)]] w fun e w' => e = .returned (.tuple #[]) ∧ ∃ K, min (K + 1) most.toNat = min 129 most.toNat ∧ StpIn n d Ob Mb S0 most w K w' := by
  obtain ⟨K, hK⟩ : ∃ K, K = min 128 most.toNat := ⟨_, rfl⟩
  refine (run2_any 138 #[.pointer (some ⟨Ob, 0, none⟩), .pointer (some ⟨Mb, 0, none⟩)] n d K (fun i => decide (((i + 1 : Nat) : Int) ≠ most)) (StpIn n d Ob Mb S0 most w) w hn hd0 hd hnd (by omega) (by omega) enters_stp (fun i hi => decide_eq_true (by omega)) ?_ ?_ ?_ ?_).mono ?_
  · rcases (show K = 128 ∨ (K : Int) = most by omega) with h | h
    · exact Or.inl h
    · exact Or.inr (decide_eq_false (by omega))
  · intro i w1 w2 h hb
    obtain ⟨v, g, h1, h2, h3, h4⟩ := h.o
    exact ⟨⟨v, g, hb.heap h1 (by omega), ownsRow_but' h2 hb (fun k hk e => by rw [h3] at hk; have := Option.some.inj hk; omega), h3, h4⟩, hb.heap h.m (by omega), h.but.trans (hb.mono fun k _ hk => Or.inr (Or.inr (by omega)))⟩
  · intro i w' hi hsz h
    obtain ⟨v, g, h1, h2, h3, h4⟩ := h.o
    have e1 : min (i + 1) most.toNat = i + 1 := by omega
    rw [e1] at h2
    by_cases hlast : ((i + 1 : Nat) : Int) = most
    · obtain ⟨a0, cap0, rfl⟩ := own_slice h2
      have hm := h.m
      rw [← hlast] at hm
      have := stepFun_no Ob Mb (lftN n d (i + 1)) (i + 1) (digN n d i : Nat) a0 cap0 w' h1 hm
      refine (show Calls Try.prog 138 (#[.agg (scells (digN n d i : Nat) (lftN n d (i + 1)))] ++ #[.pointer (some ⟨Ob, 0, none⟩), .pointer (some ⟨Mb, 0, none⟩)]) w' _ from this).mono ?_
      rintro e w'' ⟨rfl, hb⟩
      refine ⟨by rw [decide_eq_false (fun hh => hh hlast)], ⟨⟨_, g, (hb.block _ (lt_of_heap h1)).trans h1, ?_, h3, h4⟩, (hb.block _ (lt_of_heap h.m)).trans h.m, h.but.trans (But.of_below hb)⟩, But.of_below hb⟩
      have e2 : min (i + 1 + 1) most.toNat = i + 1 := by omega
      rw [e2]
      exact ownsRow_below h2 hb
    · have e2 : min (i + 1 + 1) most.toNat = i + 1 + 1 := by omega
      have := stepFun_yes Ob Mb g (lftN n d (i + 1)) (i + 1) (digN n d i : Nat) most v _ w' h1 h.m h2 h3 (by rcases h4 with h | h <;> omega) (by omega) hlast
      refine (show Calls Try.prog 138 (#[.agg (scells (digN n d i : Nat) (lftN n d (i + 1)))] ++ #[.pointer (some ⟨Ob, 0, none⟩), .pointer (some ⟨Mb, 0, none⟩)]) w' _ from this).mono ?_
      rintro e w'' ⟨rfl, v', g1, g2, ⟨g', g3, g4⟩, g5⟩
      refine ⟨by rw [decide_eq_true hlast], ⟨⟨v', g', g1, by rw [e2, stL_succ]; exact g2, g3, ?_⟩, g5.heap h.m (by rcases h4 with h | h <;> omega), h.but.trans (g5.mono fun k _ hk => ?_)⟩, g5.mono fun k _ hk => ?_⟩
      · rcases g4 with h | h
        · rw [h]; exact h4
        · right; omega
      · rcases hk with hk | hk
        · exact Or.inl hk
        · rcases h4 with h | h
          · exact Or.inr (Or.inl (hk.trans h))
          · exact Or.inr (Or.inr (by omega))
      · rcases hk with hk | hk
        · omega
        · rcases h4 with h | h <;> omega
  · have e0 : min (0 + 1) most.toNat = 1 := by omega
    refine ⟨⟨_, S0, hO, ?_, rfl, Or.inl rfl⟩, hM, But.refl _ _⟩
    rw [e0]
    have e1 : rowsL (stL n d 1) = (wcells n).toList := by
      have : stL n d 1 = [n] := by
        have := lft_start hnd
        show [lftN n d 0] = [n]
        rw [this]
      rw [this]
      unfold rowsL
      simp
    rw [e1]
    exact ⟨rfl, .inr ⟨S0, 1, wcells n, rfl, Nat.zero_le _, hS, Nat.le_refl _, by unfold maxLen; omega, rfl, rfl⟩⟩
  · rintro e w' ⟨rfl, h, _⟩
    exact ⟨rfl, K, by omega, h⟩

set_option maxRecDepth 100000 in
set_option maxHeartbeats 2000000 in
theorem steps_no (n d : Nat) (most : Int) (hn : n < M) (hd : d < M) (hm : mayN n d ≠ 0 ∨ most < 1) (w : World) :
    Calls Try.prog 93 #[wv n, wv d, .int .i64 most] w fun e w' => e = .returned (.tuple #[.slice none 0 0, .int .i64 (mayN n d)]) ∧ Below w.heap.size w w' := by
  have S1 := Lib.hid (fun w' => may_w n d hn hd w')
  obtain ⟨E, hE⟩ : ∃ x, x = mayN n d := ⟨_, rfl⟩
  rw [← hE] at S1 hm ⊢
  by_cases h0 : E = 0
  · have hm1 : most < 1 := by rcases hm with h | h <;> omega
    subst h0
    clear hn hd hE hm
    go_enter Try.func93, Try.ntmps93
    have HB := Lib.hid (Below.refl w.heap.size w)
    have Gn := Lib.hid (alloc_new (w) (.cells (wcells n) 26))
    replace HB := Lib.hid (below_al HB.out (.cells (wcells n) 26))
    replace Gn := Lib.hid (keepAl (o' := .cells (wcells d) 26) Gn.out)
    have Gd := Lib.hid (alloc_new' (w := (w).alloc (.cells (wcells n) 26)) (n := w.heap.size + 1) (.cells (wcells d) 26) (by simp))
    replace HB := Lib.hid (below_al HB.out (.cells (wcells d) 26))
    replace Gn := Lib.hid (keepAl (o' := .cells #[.int .i64 most] 3) Gn.out)
    replace Gd := Lib.hid (keepAl (o' := .cells #[.int .i64 most] 3) Gd.out)
    have Gm := Lib.hid (alloc_new' (w := ((w).alloc (.cells (wcells n) 26)).alloc (.cells (wcells d) 26)) (n := w.heap.size + 1 + 1) (.cells #[.int .i64 most] 3) (by simp))
    replace HB := Lib.hid (below_al HB.out (.cells #[.int .i64 most] 3))
    have cGn := cell_row Gn.out
    have cGd := cell_row Gd.out
    have cGm := cell_row Gm.out
    go_wp2_with fail
    refine (S1.out _).mono ?_
    rintro e w1 ⟨rfl, hb⟩
    clear cGn cGd cGm
    replace HB := Lib.hid (below_then HB.out hb)
    replace Gn := Lib.hid ((hb.block _ (lt_of_heap Gn.out)).trans Gn.out)
    replace Gd := Lib.hid ((hb.block _ (lt_of_heap Gd.out)).trans Gd.out)
    replace Gm := Lib.hid ((hb.block _ (lt_of_heap Gm.out)).trans Gm.out)
    clear hb
    have cGn := cell_row Gn.out
    have cGd := cell_row Gd.out
    have cGm := cell_row Gm.out
    go_wp2
    exact bodyPost_ret (v := .tuple #[.slice none 0 0, .int .i64 0]) (by simp [results, Try.results93, go_sem]) rfl ⟨rfl, HB.out⟩
  · have hb : (E == 0) = false := by simp [h0]
    clear hn hd hE hm h0
    go_enter Try.func93, Try.ntmps93
    have HB := Lib.hid (Below.refl w.heap.size w)
    have Gn := Lib.hid (alloc_new (w) (.cells (wcells n) 26))
    replace HB := Lib.hid (below_al HB.out (.cells (wcells n) 26))
    replace Gn := Lib.hid (keepAl (o' := .cells (wcells d) 26) Gn.out)
    have Gd := Lib.hid (alloc_new' (w := (w).alloc (.cells (wcells n) 26)) (n := w.heap.size + 1) (.cells (wcells d) 26) (by simp))
    replace HB := Lib.hid (below_al HB.out (.cells (wcells d) 26))
    replace Gn := Lib.hid (keepAl (o' := .cells #[.int .i64 most] 3) Gn.out)
    replace Gd := Lib.hid (keepAl (o' := .cells #[.int .i64 most] 3) Gd.out)
    have Gm := Lib.hid (alloc_new' (w := ((w).alloc (.cells (wcells n) 26)).alloc (.cells (wcells d) 26)) (n := w.heap.size + 1 + 1) (.cells #[.int .i64 most] 3) (by simp))
    replace HB := Lib.hid (below_al HB.out (.cells #[.int .i64 most] 3))
    have cGn := cell_row Gn.out
    have cGd := cell_row Gd.out
    have cGm := cell_row Gm.out
    go_wp2_with fail
    refine (S1.out _).mono ?_
    rintro e w2 ⟨rfl, hb⟩
    clear cGn cGd cGm
    replace HB := Lib.hid (below_then HB.out hb)
    replace Gn := Lib.hid ((hb.block _ (lt_of_heap Gn.out)).trans Gn.out)
    replace Gd := Lib.hid ((hb.block _ (lt_of_heap Gd.out)).trans Gd.out)
    replace Gm := Lib.hid ((hb.block _ (lt_of_heap Gm.out)).trans Gm.out)
    clear hb
    have cGn := cell_row Gn.out
    have cGd := cell_row Gd.out
    have cGm := cell_row Gm.out
    go_wp2
    exact bodyPost_ret (v := .tuple #[.slice none 0 0, .int .i64 E]) (by simp [results, Try.results93, go_sem]) rfl ⟨rfl, HB.out⟩
set_option maxRecDepth 100000 in
set_option maxHeartbeats 2000000 in
theorem steps_yes (n d : Nat) (most : Int) (hn : n < M) (hd : d < M) (hm : mayN n d = 0) (h1m : 1 ≤ most) (w : World) :
    Calls Try.prog 93 #[wv n, wv d, .int .i64 most] w fun e w' => ∃ v, e = .returned (.tuple #[v, .int .i64 0]) ∧ IsWides w' v (stL n d (min 129 most.toNat)) ∧ Below w.heap.size w w' := by
  have S1 := Lib.hid (fun w' => may_w n d hn hd w')
  obtain ⟨h1, h2, h3⟩ := may_ok hm
  have S2 := Lib.hid (fun Ob Mb S0 w' hOb hMb hS0 hOM hSO hSM hO hM hS => stpRun_any n d Ob Mb S0 most w' hn h1 h2 h3 h1m hOb hMb hS0 hOM hSO hSM hO hM hS)
  rw [hm] at S1
  have hm1 : ¬ most < 1 := by omega
  clear hn hd hm h1 h2 h3 h1m
  go_enter Try.func93, Try.ntmps93
  have HB := Lib.hid (Below.refl w.heap.size w)
  have Gn := Lib.hid (alloc_new (w) (.cells (wcells n) 26))
  replace HB := Lib.hid (below_al HB.out (.cells (wcells n) 26))
  replace Gn := Lib.hid (keepAl (o' := .cells (wcells d) 26) Gn.out)
  have Gd := Lib.hid (alloc_new' (w := (w).alloc (.cells (wcells n) 26)) (n := w.heap.size + 1) (.cells (wcells d) 26) (by simp))
  replace HB := Lib.hid (below_al HB.out (.cells (wcells d) 26))
  replace Gn := Lib.hid (keepAl (o' := .cells #[.int .i64 most] 3) Gn.out)
  replace Gd := Lib.hid (keepAl (o' := .cells #[.int .i64 most] 3) Gd.out)
  have Gm := Lib.hid (alloc_new' (w := ((w).alloc (.cells (wcells n) 26)).alloc (.cells (wcells d) 26)) (n := w.heap.size + 1 + 1) (.cells #[.int .i64 most] 3) (by simp))
  replace HB := Lib.hid (below_al HB.out (.cells #[.int .i64 most] 3))
  have cGn := cell_row Gn.out
  have cGd := cell_row Gd.out
  have cGm := cell_row Gm.out
  go_wp2_with fail
  refine (S1.out _).mono ?_
  rintro e w3 ⟨rfl, hb⟩
  clear cGn cGd cGm
  replace HB := Lib.hid (below_then HB.out hb)
  replace Gn := Lib.hid ((hb.block _ (lt_of_heap Gn.out)).trans Gn.out)
  replace Gd := Lib.hid ((hb.block _ (lt_of_heap Gd.out)).trans Gd.out)
  replace Gm := Lib.hid ((hb.block _ (lt_of_heap Gm.out)).trans Gm.out)
  clear hb
  have HO := Lib.hid HB.out
  have HD := Lib.hid (lt_of_heap Gm.out)
  have c9 := cell_row Gn.out
  have c8 := cell_row Gm.out
  replace Gn := Lib.hid (keepAl (o' := .cells (wcells n) 26) Gn.out)
  replace Gd := Lib.hid (keepAl (o' := .cells (wcells n) 26) Gd.out)
  replace Gm := Lib.hid (keepAl (o' := .cells (wcells n) 26) Gm.out)
  have Gs := Lib.hid (alloc_new (w3) (.cells (wcells n) 26))
  replace HB := Lib.hid (below_al HB.out (.cells (wcells n) 26))
  replace Gn := Lib.hid (keepAl (o' := .cells #[.slice (some ⟨w3.heap.size, 0, none⟩) 1 1] 103) Gn.out)
  replace Gd := Lib.hid (keepAl (o' := .cells #[.slice (some ⟨w3.heap.size, 0, none⟩) 1 1] 103) Gd.out)
  replace Gm := Lib.hid (keepAl (o' := .cells #[.slice (some ⟨w3.heap.size, 0, none⟩) 1 1] 103) Gm.out)
  replace Gs := Lib.hid (keepAl (o' := .cells #[.slice (some ⟨w3.heap.size, 0, none⟩) 1 1] 103) Gs.out)
  have Go := Lib.hid (alloc_new' (w := (w3).alloc (.cells (wcells n) 26)) (n := w3.heap.size + 1) (.cells #[.slice (some ⟨w3.heap.size, 0, none⟩) 1 1] 103) (by simp))
  replace HB := Lib.hid (below_al HB.out (.cells #[.slice (some ⟨w3.heap.size, 0, none⟩) 1 1] 103))
  have cGn := cell_row Gn.out
  have cGd := cell_row Gd.out
  have cGm := cell_row Gm.out
  have cGs := cell_row Gs.out
  have cGo := cell_row Go.out
  go_wp2_with fail
  clear cGn cGd cGm cGs cGo
  obtain ⟨wq, hw⟩ : ∃ wx, wx = ((w3).alloc (.cells (wcells n) 26)).alloc (.cells #[.slice (some ⟨w3.heap.size, 0, none⟩) 1 1] 103) := ⟨_, rfl⟩
  rw [← hw] at Gn Gd Gm Gs Go HB ⊢
  clear hw
  have hz := HO.out.size
  have hz1 := HD.out
  refine (S2.out (w3.heap.size + 1) (w.heap.size + 1 + 1) (w3.heap.size) _ ?_ ?_ ?_ (by omega) (by omega) (by omega) Go.out Gm.out Gs.out).mono ?_
  · exact lt_of_heap Go.out
  · exact lt_of_heap Gm.out
  · exact lt_of_heap Gs.out
  rintro e w9 ⟨rfl, K, hK, ⟨⟨v, g, hv, hown, hvg, hg⟩, _, hbut⟩⟩
  rw [hK] at hown
  obtain ⟨a', cap', rfl⟩ := own_slice hown
  have hz3 := lt_of_heap Go.out
  have HI : Hid (IsWides w9 (.slice a' (min 129 most.toNat) cap') (stL n d (min 129 most.toNat))) := Lib.hid (wides_of_own (n := min 129 most.toNat) (stL_length _ _ _).symm hown)
  replace HB := Lib.hid (But.below HB.out hbut (by omega) (fun i hi => by omega))
  have c0 := cell_row hv
  clear hown hbut hv hz hz1 hz3 hvg hg hK Gn Gd Gm Gs Go HO HD
  go_wp2
  exact bodyPost_ret (v := .tuple #[.slice a' (min 129 most.toNat) cap', .int .i64 0]) (by simp [results, Try.results93, go_sem]) rfl ⟨_, rfl, HI.out, HB.out⟩
end Go.Proofs.Ytenkaobgoknlhaa
