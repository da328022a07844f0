/- THE WALK of radix2's digits. -/
import Derived.Test.YtenkaobgoknlhaaR2e
import Derived.Test.YtenkaobgoknlhaaK8
namespace Go.Proofs.Ytenkaobgoknlhaa
open Go Go.RowKit

theorem infoInt : (Try.prog.info? 3).map (fun i => (i.zero, i.size, i.bytes)) = some (some (.int .i64 0), 1, 8) := by kernel_rfl
theorem ownsRow_but {S : Nat → Prop} {w w' : World} {base : Nat} {e : TypeId} {size : Nat} {v : Value} {n : Nat} {xs : List Value} (h : w.ownsRow base e size v n xs) (hb : But S w w') (hS : ∀ k, base ≤ k → ¬ S k) : w'.ownsRow base e size v n xs := by
  refine ⟨h.1, ?_⟩
  rcases h.2 with hn | ⟨g, cap, cur, hv, h1, hg, rest⟩
  · exact .inl hn
  · exact .inr ⟨g, cap, cur, hv, h1, (hb.block g (lt_of_heap hg) (hS g h1)).trans hg, rest⟩
theorem own_slice {w : World} {base : Nat} {e : TypeId} {size : Nat} {v : Value} {n : Nat} {xs : List Value} (h : w.ownsRow base e size v n xs) : ∃ a cap, v = .slice a n cap := by
  rcases h.2 with ⟨rfl, rfl⟩ | ⟨g, cap, cur, hv, _⟩
  · exact ⟨none, 0, rfl⟩
  · exact ⟨_, cap, hv⟩
theorem But.grown {S : Nat → Prop} {w w1 w2 : World} {row : Option Nat} (h : But S w w1) (hg : w1.grownBy w2 row) (hS : ∀ k, row = some k → S k) : But S w w2 :=
  h.trans ⟨hg.os, hg.tape, hg.output, hg.size, fun i hi hs => hg.block i hi fun e => hs (hS i e.symm)⟩

attribute [local go_sem ↓] Go.wp_at_zero Go.wp_at_succ
set_option maxRecDepth 100000 in
set_option maxHeartbeats 2000000 in
theorem digFun_any (Ob base l dg n : Nat) (v : Value) (xs : List Value) (w : World) (hO : w.heap[Ob]? = some (.cells #[v] 55 (0, 0))) (hown : w.ownsRow base 3 1 v n xs) (hOb : Ob < base) (hb : base ≤ w.heap.size) (hn : n ≤ 1000) (hdg : dg ≤ 1) :
    Calls Try.prog 137 #[.agg (scells (dg : Int) l), .pointer (some ⟨Ob, 0, none⟩)] w fun e w' => e = .returned (.bool true) ∧ ∃ v', w'.heap[Ob]? = some (.cells #[v'] 55 (0, 0)) ∧ w'.ownsRow base 3 1 v' (n + 1) (xs ++ [.int .i64 (dg : Int)]) ∧ But (fun k => k = Ob ∨ base ≤ k) w w' := by
  have GO := Lib.hid hO; have HOW := Lib.hid hown; have HOb := Lib.hid hOb; have Hb := Lib.hid hb; have HN := Lib.hid hn
  have hb0 : (0 : Int) ≤ (dg : Int) := by omega
  have hb1 : (dg : Int) ≤ 1 := by omega
  clear hO hown hOb hb hn hdg
  go_enter Try.func137, Try.ntmps137
  have HB := Lib.hid (Below.refl w.heap.size w)
  replace GO := Lib.hid (keepAl (o' := .cells (scells (dg : Int) l) 137) GO.out)
  have Gs := Lib.hid (alloc_new (w) (.cells (scells (dg : Int) l) 137))
  replace HB := Lib.hid (below_al HB.out (.cells (scells (dg : Int) l) 137))
  have cGO := cell_row GO.out
  have cGs := cell_row Gs.out
  have HO1 := Lib.hid (HOW.out.alloc (.cells (scells (dg : Int) l) 137))
  go_wp2_with (at_builtin; obtain ⟨i0, hi, hz0, hz1, hz2⟩ := info_parts infoInt; refine wpList_append_own _ rfl _ _ 55 rfl base 3 i0 (.int .i64 0) 1 8 Try.underlying55 hi hz0 hz1 hz2 rfl (by decide) _ _ _ rfl (HO1.out.alloc _) ⟨w.heap.size + 1, 0, none⟩ 1 1 [.int .i64 (dg : Int)] rfl rfl ?c1 ?c2 ?c3 ?c4 ?c5 ?_)
  case c1 =>
    intro j u hj
    match j, hj with
    | 0, hj => simp at hj; subst hj; simp [Addr.add]
  case c2 => intro u hu; simp at hu; subst hu; rfl
  case c3 => have := HN.out; unfold maxLen; omega
  case c4 => have := HN.out; omega
  case c5 => have := Hb.out; simp; omega
  intro v' w3 hown3 hgrow _
  obtain ⟨a', cap', rfl⟩ := own_slice hown3
  have GO2 : Hid (w3.heap[Ob]? = some (.cells #[v] 55 (0, 0))) := Lib.hid ((hgrow.block Ob (lt_of_heap (keepAl GO.out)) (fun e => by have := (HOW.out.lt Ob e.symm).1; have := HOb.out; omega)).trans (keepAl GO.out))
  have HBu : Hid (But (fun k => k = Ob ∨ base ≤ k) w w3) := Lib.hid ((((But.refl _ w).al _).al _).grown hgrow fun k hk => Or.inr (HOW.out.lt k hk).1)
  have HO3 := Lib.hid hown3
  clear cGO cGs hgrow hown3
  have c0 := cell_row GO2.out
  have f0 := free_row GO2.out
  have GO3 : Hid ((w3.setCell ⟨Ob, 0, none⟩ (.slice a' (n + 1) cap')).heap[Ob]? = some (.cells #[.slice a' (n + 1) cap'] 55 (0, 0))) := Lib.hid (set_row GO2.out 0 _)
  have HO4 := Lib.hid (ownsRow_but HO3.out (But.set (S := (· = Ob)) (But.refl _ w3) rfl 0 (.slice a' (n + 1) cap')) (fun k hk => by have := HOb.out; omega))
  have HBu2 := Lib.hid (But.set (S := fun k => k = Ob ∨ base ≤ k) HBu.out (Or.inl rfl) 0 (.slice a' (n + 1) cap'))
  go_wp2
  go_ret
  exact ⟨rfl, _, GO3.out, HO4.out, HBu2.out⟩

theorem enters_dig : Enters Try.prog 137 := fun args w => by simp [go_sem]
def digsL (n d i : Nat) : List Value := (List.range i).map fun j => .int .i64 (digN n d j : Nat)
theorem digsL_succ (n d i : Nat) : digsL n d (i + 1) = digsL n d i ++ [.int .i64 (digN n d i : Nat)] := by unfold digsL; rw [List.range_succ, List.map_append]; rfl
structure DigIn (n d Ob : Nat) (wq : World) (i : Nat) (w' : World) : Prop where
  o : ∃ v, w'.heap[Ob]? = some (.cells #[v] 55 (0, 0)) ∧ w'.ownsRow (wq.heap.size + 3) 3 1 v i (digsL n d i)
  but : But (fun k => k = Ob ∨ wq.heap.size ≤ k) wq w'
set_option maxRecDepth 100000 in
set_option maxHeartbeats 1000000 in
theorem digRun_any (n d Ob : Nat) (w : World) (hn : n < M) (hd0 : 0 < d) (hd : d < P2 120) (hnd : n < d * P2 128) (hOb : Ob < w.heap.size) (hO : w.heap[Ob]? = some (.cells #[.slice none 0 0] 55 (0, 0))) :
    Calls Try.prog 128 #[wv n, wv d, .func (.func 137) #[] #[.pointer (some ⟨Ob, 0, none⟩)]] w fun e w' => e = .returned (.tuple #[]) ∧ DigIn n d Ob w 128 w' := by
  refine (run2_any 137 #[.pointer (some ⟨Ob, 0, none⟩)] n d 128 (fun _ => true) (DigIn n d Ob w) w hn hd0 hd hnd (Nat.le_refl _) (by decide) enters_dig (fun _ _ => rfl) (Or.inl rfl) ?_ ?_ ?_).mono ?_
  · intro i w1 w2 h hb
    obtain ⟨v, h1, h2⟩ := h.o
    exact ⟨⟨v, hb.heap h1 (by omega), ownsRow_but h2 hb (fun k hk => by omega)⟩, h.but.trans (hb.mono fun k _ hk => Or.inr (by omega))⟩
  · intro i w' hi hsz h
    obtain ⟨v, h1, h2⟩ := h.o
    have := digFun_any Ob (w.heap.size + 3) (lftN n d (i + 1)) (digN n d i) i v _ w' h1 h2 (by omega) hsz (by omega) (dig_le1 n d i)
    refine (show Calls Try.prog 137 (#[.agg (scells (digN n d i : Nat) (lftN n d (i + 1)))] ++ #[.pointer (some ⟨Ob, 0, none⟩)]) w' _ from this).mono ?_
    rintro e w'' ⟨rfl, v', g1, g2, g3⟩
    refine ⟨rfl, ⟨⟨v', g1, by rw [digsL_succ]; exact g2⟩, h.but.trans (g3.mono fun k _ hk => ?_)⟩, g3.mono fun k _ hk => ?_⟩
    · rcases hk with hk | hk
      · exact Or.inl hk
      · exact Or.inr (by omega)
    · rcases hk with hk | hk <;> omega
  · exact ⟨⟨_, hO, World.ownsRow_nil _ _ _ _⟩, But.refl _ _⟩
  · rintro e w' ⟨rfl, h, _⟩
    exact ⟨rfl, h⟩
/-- A list of whole numbers, in a world. -/
def IsIntsN (w : World) (v : Value) (zs : List Int) : Prop := ∃ a cap, v = .slice a zs.length cap ∧ zs.length ≤ cap ∧
  (0 < zs.length → ∃ b o, a = some ⟨b, o, none⟩ ∧ b < w.heap.size ∧ ∀ i z, zs[i]? = some z → w.cell? ⟨b, o + i, none⟩ = some (.int .i64 z))
theorem IsIntsN.older {w w' : World} {v : Value} {zs : List Int} (h : IsIntsN w v zs) (hb : Below w.heap.size w w') : IsIntsN w' v zs := by
  obtain ⟨a, cap, rfl, hc, hx⟩ := h
  refine ⟨a, cap, rfl, hc, fun h0 => ?_⟩
  obtain ⟨b, o, rfl, hbl, hcell⟩ := hx h0
  exact ⟨b, o, rfl, Nat.lt_of_lt_of_le hbl hb.size, fun i z hi => (hb.cell (p := ⟨b, o + i, none⟩) hbl).trans (hcell i z hi)⟩
theorem ints_of_own {w : World} {base : Nat} {e : TypeId} {v : Value} {zs : List Int} {n : Nat} (hn : n = zs.length) (h : w.ownsRow base e 1 v n (zs.map fun z => .int .i64 z)) : IsIntsN w v zs := by
  subst hn
  rcases h.2 with ⟨rfl, h0⟩ | ⟨g, cap, cur, rfl, _, hg, hc, _, _, ht⟩
  · exact ⟨none, 0, by rw [h0], by omega, fun h => by omega⟩
  · refine ⟨_, cap, rfl, hc, fun h0 => ⟨g, 0, rfl, lt_of_heap hg, fun i z hi => ?_⟩⟩
    have := h.cells (g := g) rfl i (.int .i64 z) (by rw [List.getElem?_map, hi]; rfl)
    rwa [Addr.add_lit] at this

set_option maxRecDepth 100000 in
set_option maxHeartbeats 2000000 in
theorem digits_no (n d : Nat) (hn : n < M) (hd : d < M) (hm : mayN n d ≠ 0) (w : World) :
    Calls Try.prog 91 #[wv n, wv d] w fun e w' => e = .returned (.tuple #[.slice none 0 0, .int .i64 (mayN n d)]) ∧ Below w.heap.size w w' := by
  have S1 := Lib.hid (fun w' => may_w n d hn hd w')
  obtain ⟨E, hE⟩ : ∃ x, x = mayN n d := ⟨_, rfl⟩
  rw [← hE] at S1 hm ⊢
  have hb : (E == 0) = false := by simp [hm]
  clear hn hd hE
  go_enter Try.func91, Try.ntmps91
  have HB := Lib.hid (Below.refl w.heap.size w)
  have Gn := Lib.hid (alloc_new (w) (.cells (wcells n) 26))
  replace HB := Lib.hid (below_al HB.out (.cells (wcells n) 26))
  replace Gn := Lib.hid (keepAl (o' := .cells (wcells d) 26) Gn.out)
  have Gd := Lib.hid (alloc_new' (w := (w).alloc (.cells (wcells n) 26)) (n := w.heap.size + 1) (.cells (wcells d) 26) (by simp))
  replace HB := Lib.hid (below_al HB.out (.cells (wcells d) 26))
  have cGn := cell_row Gn.out
  have cGd := cell_row Gd.out
  go_wp2_with fail
  refine (S1.out _).mono ?_
  rintro e w1 ⟨rfl, hb⟩
  clear cGn cGd
  replace HB := Lib.hid (below_then HB.out hb)
  replace Gn := Lib.hid ((hb.block _ (lt_of_heap Gn.out)).trans Gn.out)
  replace Gd := Lib.hid ((hb.block _ (lt_of_heap Gd.out)).trans Gd.out)
  clear hb
  have cGn := cell_row Gn.out
  have cGd := cell_row Gd.out
  go_wp2
  exact bodyPost_ret (v := .tuple #[.slice none 0 0, .int .i64 E]) (by simp [results, Try.results91, go_sem]) rfl ⟨rfl, HB.out⟩
set_option maxRecDepth 100000 in
set_option maxHeartbeats 2000000 in
theorem digits_yes (n d : Nat) (hn : n < M) (hd : d < M) (hm : mayN n d = 0) (w : World) :
    Calls Try.prog 91 #[wv n, wv d] w fun e w' => ∃ v, e = .returned (.tuple #[v, .int .i64 0]) ∧ IsIntsN w' v ((List.range 128).map fun j => (digN n d j : Int)) ∧ Below w.heap.size w w' := by
  have S1 := Lib.hid (fun w' => may_w n d hn hd w')
  obtain ⟨h1, h2, h3⟩ := may_ok hm
  have S2 := Lib.hid (fun Ob w' hOb hO => digRun_any n d Ob w' hn h1 h2 h3 hOb hO)
  rw [hm] at S1
  clear hn hd hm h1 h2 h3
  go_enter Try.func91, Try.ntmps91
  have HB := Lib.hid (Below.refl w.heap.size w)
  have Gn := Lib.hid (alloc_new (w) (.cells (wcells n) 26))
  replace HB := Lib.hid (below_al HB.out (.cells (wcells n) 26))
  replace Gn := Lib.hid (keepAl (o' := .cells (wcells d) 26) Gn.out)
  have Gd := Lib.hid (alloc_new' (w := (w).alloc (.cells (wcells n) 26)) (n := w.heap.size + 1) (.cells (wcells d) 26) (by simp))
  replace HB := Lib.hid (below_al HB.out (.cells (wcells d) 26))
  have cGn := cell_row Gn.out
  have cGd := cell_row Gd.out
  go_wp2_with fail
  refine (S1.out _).mono ?_
  rintro e w2 ⟨rfl, hb⟩
  clear cGn cGd
  replace HB := Lib.hid (below_then HB.out hb)
  replace Gn := Lib.hid ((hb.block _ (lt_of_heap Gn.out)).trans Gn.out)
  replace Gd := Lib.hid ((hb.block _ (lt_of_heap Gd.out)).trans Gd.out)
  clear hb
  have HO := Lib.hid HB.out
  replace Gn := Lib.hid (keepAl (o' := .cells #[.slice none 0 0] 55) Gn.out)
  replace Gd := Lib.hid (keepAl (o' := .cells #[.slice none 0 0] 55) Gd.out)
  have Go := Lib.hid (alloc_new (w2) (.cells #[.slice none 0 0] 55))
  replace HB := Lib.hid (below_al HB.out (.cells #[.slice none 0 0] 55))
  have cGn := cell_row Gn.out
  have cGd := cell_row Gd.out
  have cGo := cell_row Go.out
  go_wp2_with fail
  clear cGn cGd cGo
  obtain ⟨wq, hw⟩ : ∃ wx, wx = (w2).alloc (.cells #[.slice none 0 0] 55) := ⟨_, rfl⟩
  rw [← hw] at Gn Gd Go HB ⊢
  clear hw
  refine (S2.out w2.heap.size _ ?_ Go.out).mono ?_
  · exact lt_of_heap Go.out
  rintro e w3 ⟨rfl, ⟨⟨v, hv, hown⟩, hbut⟩⟩
  obtain ⟨a', cap', rfl⟩ := own_slice hown
  have hz := HB.out.size
  have hz2 := lt_of_heap Gd.out
  have hz3 := lt_of_heap Go.out
  have HI : Hid (IsIntsN w3 (.slice a' 128 cap') ((List.range 128).map fun j => (digN n d j : Int))) := Lib.hid (ints_of_own (n := 128) (by rw [List.length_map, List.length_range]) (by rw [List.map_map]; exact hown))
  have hO2 : w.heap.size ≤ w2.heap.size := HO.out.size
  replace HB := Lib.hid (But.below HB.out hbut (by omega) (fun i hi => by omega))
  have c0 := cell_row hv
  clear hown hbut hv hz hz2 hz3 hO2 Gn Gd Go
  go_wp2
  exact bodyPost_ret (v := .tuple #[.slice a' 128 cap', .int .i64 0]) (by simp [results, Try.results91, go_sem]) rfl ⟨_, rfl, HI.out, HB.out⟩
end Go.Proofs.Ytenkaobgoknlhaa
