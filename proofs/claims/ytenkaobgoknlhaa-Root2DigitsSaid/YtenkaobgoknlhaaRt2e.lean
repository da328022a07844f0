/- THE WALK of root2's digits. -/
import Derived.Test.YtenkaobgoknlhaaRt2b
import Derived.Test.YtenkaobgoknlhaaR2g
namespace Go.Proofs.Ytenkaobgoknlhaa
open Go Go.RowKit

attribute [local go_sem ↓] Go.wp_at_zero Go.wp_at_succ
set_option maxRecDepth 100000 in
set_option maxHeartbeats 2000000 in
theorem digFunR_any (Ob base l dg n : Nat) (v : Value) (xs : List Value) (w : World) (hO : w.heap[Ob]? = some (.cells #[v] 55 (0, 0))) (hown : w.ownsRow base 3 1 v n xs) (hOb : Ob < base) (hb : base ≤ w.heap.size) (hn : n ≤ 1000) (hdg : dg ≤ 1) :
    Calls Try.prog 144 #[.int .i64 (dg : Int), wv l, .pointer (some ⟨Ob, 0, none⟩)] w fun e w' => e = .returned (.tuple #[]) ∧ ∃ v', w'.heap[Ob]? = some (.cells #[v'] 55 (0, 0)) ∧ w'.ownsRow base 3 1 v' (n + 1) (xs ++ [.int .i64 (dg : Int)]) ∧ But (fun k => k = Ob ∨ base ≤ k) w w' := by
  have GO := Lib.hid hO; have HOW := Lib.hid hown; have HOb := Lib.hid hOb; have Hb := Lib.hid hb; have HN := Lib.hid hn
  have hb0 : (0 : Int) ≤ (dg : Int) := by omega
  have hb1 : (dg : Int) ≤ 1 := by omega
  clear hO hown hOb hb hn hdg
  go_enter Try.func144, Try.ntmps144
  have HB := Lib.hid (Below.refl w.heap.size w)
  replace GO := Lib.hid (keepAl (o' := .cells (wcells l) 26) GO.out)
  have Gs := Lib.hid (alloc_new (w) (.cells (wcells l) 26))
  replace HB := Lib.hid (below_al HB.out (.cells (wcells l) 26))
  have cGO := cell_row GO.out
  have cGs := cell_row Gs.out
  have HO1 := Lib.hid (HOW.out.alloc (.cells (wcells l) 26))
  go_wp2_with (at_builtin; obtain ⟨i0, hi, hz0, hz1, hz2⟩ := info_parts infoInt; refine wpList_append_own _ rfl _ _ 55 rfl base 3 i0 (.int .i64 0) 1 8 Try.underlying55 hi hz0 hz1 hz2 rfl (by decide) _ _ _ rfl (HO1.out.alloc _) ⟨w.heap.size + 1, 0, none⟩ 1 1 [.int .i64 (dg : Int)] rfl rfl ?c1 ?c2 ?c3 ?c4 ?c5 ?_)
  case c1 =>
    intro j u hj
    match j, hj with
    | 0, hj => simp at hj; subst hj; simp [Addr.add]
  case c2 => intro u hu; simp at hu; subst hu; rfl
  case c3 => have := HN.out; unfold maxLen; omega
  case c4 => have := HN.out; omega
  case c5 => have := Hb.out; simp; omega
  intro v' w3 hown3 hgrow _
  obtain ⟨a', cap', rfl⟩ := own_slice hown3
  have GO2 : Hid (w3.heap[Ob]? = some (.cells #[v] 55 (0, 0))) := Lib.hid ((hgrow.block Ob (lt_of_heap (keepAl GO.out)) (fun e => by have := (HOW.out.lt Ob e.symm).1; have := HOb.out; omega)).trans (keepAl GO.out))
  have HBu : Hid (But (fun k => k = Ob ∨ base ≤ k) w w3) := Lib.hid ((((But.refl _ w).al _).al _).grown hgrow fun k hk => Or.inr (HOW.out.lt k hk).1)
  have HO3 := Lib.hid hown3
  clear cGO cGs hgrow hown3
  have c0 := cell_row GO2.out
  have f0 := free_row GO2.out
  have GO3 : Hid ((w3.setCell ⟨Ob, 0, none⟩ (.slice a' (n + 1) cap')).heap[Ob]? = some (.cells #[.slice a' (n + 1) cap'] 55 (0, 0))) := Lib.hid (set_row GO2.out 0 _)
  have HO4 := Lib.hid (ownsRow_but HO3.out (But.set (S := (· = Ob)) (But.refl _ w3) rfl 0 (.slice a' (n + 1) cap')) (fun k hk => by have := HOb.out; omega))
  have HBu2 := Lib.hid (But.set (S := fun k => k = Ob ∨ base ≤ k) HBu.out (Or.inl rfl) 0 (.slice a' (n + 1) cap'))
  go_wp2
  exact bodyPost_end (v := .tuple #[]) (by simp [results, Try.results144, go_sem]) rfl ⟨rfl, _, GO3.out, HO4.out, HBu2.out⟩

theorem enters_digR : Enters Try.prog 144 := fun args w => by simp [go_sem]
def digsR (n i : Nat) : List Value := (List.range i).map fun j => .int .i64 (rdgN n j : Nat)
theorem digsR_succ (n i : Nat) : digsR n (i + 1) = digsR n i ++ [.int .i64 (rdgN n i : Nat)] := by unfold digsR; rw [List.range_succ, List.map_append]; rfl
structure DigInR (n Ob : Nat) (wq : World) (i : Nat) (w' : World) : Prop where
  o : ∃ v, w'.heap[Ob]? = some (.cells #[v] 55 (0, 0)) ∧ w'.ownsRow (wq.heap.size + 3) 3 1 v i (digsR n i)
  but : But (fun k => k = Ob ∨ wq.heap.size ≤ k) wq w'
set_option maxRecDepth 100000 in
set_option maxHeartbeats 1000000 in
theorem digRunR_any (n Ob : Nat) (w : World) (hn : n < P2 256) (hOb : Ob < w.heap.size) (hO : w.heap[Ob]? = some (.cells #[.slice none 0 0] 55 (0, 0))) :
    Calls Try.prog 142 #[wv n, .func (.func 144) #[] #[.pointer (some ⟨Ob, 0, none⟩)]] w fun e w' => e = .returned (.tuple #[]) ∧ DigInR n Ob w 128 w' := by
  refine (runR_any 144 #[.pointer (some ⟨Ob, 0, none⟩)] n (DigInR n Ob w) w hn enters_digR ?_ ?_ ?_).mono ?_
  · intro i w1 w2 h hb
    obtain ⟨v, h1, h2⟩ := h.o
    exact ⟨⟨v, hb.heap h1 (by omega), ownsRow_but h2 hb (fun k hk => by omega)⟩, h.but.trans (hb.mono fun k _ hk => Or.inr (by omega))⟩
  · intro i w' hi hsz h
    obtain ⟨v, h1, h2⟩ := h.o
    have := digFunR_any Ob (w.heap.size + 3) (rlfN n (i + 1)) (rdgN n i) i v _ w' h1 h2 (by omega) hsz (by omega) (rdg_le1 n i)
    refine (show Calls Try.prog 144 (#[.int .i64 (rdgN n i : Nat), wv (rlfN n (i + 1))] ++ #[.pointer (some ⟨Ob, 0, none⟩)]) w' _ from this).mono ?_
    rintro e w'' ⟨rfl, v', g1, g2, g3⟩
    refine ⟨rfl, ⟨⟨v', g1, by rw [digsR_succ]; exact g2⟩, h.but.trans (g3.mono fun k _ hk => ?_)⟩, g3.mono fun k _ hk => ?_⟩
    · rcases hk with hk | hk
      · exact Or.inl hk
      · exact Or.inr (by omega)
    · rcases hk with hk | hk <;> omega
  · exact ⟨⟨_, hO, World.ownsRow_nil _ _ _ _⟩, But.refl _ _⟩
  · rintro e w' ⟨rfl, h, _⟩
    exact ⟨rfl, h⟩
set_option maxRecDepth 100000 in
set_option maxHeartbeats 2000000 in
theorem digitsR_no (n : Nat) (hn : n < M) (hm : ¬ n < P2 256) (w : World) :
    Calls Try.prog 104 #[wv n] w fun e w' => e = .returned (.tuple #[.slice none 0 0, .int .i64 4]) ∧ Below w.heap.size w w' := by
  have S1 := Lib.hid (fun w' => mayR_w n hn w')
  rw [(rs_no hm).2.2] at S1
  clear hn hm
  go_enter Try.func104, Try.ntmps104
  have HB := Lib.hid (Below.refl w.heap.size w)
  have Gn := Lib.hid (alloc_new (w) (.cells (wcells n) 26))
  replace HB := Lib.hid (below_al HB.out (.cells (wcells n) 26))
  have cGn := cell_row Gn.out
  go_wp2_with fail
  refine (S1.out _).mono ?_
  rintro e w1 ⟨rfl, hb⟩
  clear cGn
  replace HB := Lib.hid (below_then HB.out hb)
  replace Gn := Lib.hid ((hb.block _ (lt_of_heap Gn.out)).trans Gn.out)
  clear hb
  have cGn := cell_row Gn.out
  go_wp2
  exact bodyPost_ret (v := .tuple #[.slice none 0 0, .int .i64 4]) (by simp [results, Try.results104, go_sem]) rfl ⟨rfl, HB.out⟩
set_option maxRecDepth 100000 in
set_option maxHeartbeats 2000000 in
theorem digitsR_yes (n : Nat) (hn : n < M) (hm : n < P2 256) (w : World) :
    Calls Try.prog 104 #[wv n] w fun e w' => ∃ v, e = .returned (.tuple #[v, .int .i64 0]) ∧ IsIntsN w' v ((List.range 128).map fun j => (rdgN n j : Int)) ∧ Below w.heap.size w w' := by
  have S1 := Lib.hid (fun w' => mayR_w n hn w')
  have S2 := Lib.hid (fun Ob w' hOb hO => digRunR_any n Ob w' hm hOb hO)
  rw [(rs_yes hm).2.2] at S1
  clear hn hm
  go_enter Try.func104, Try.ntmps104
  have HB := Lib.hid (Below.refl w.heap.size w)
  have Gn := Lib.hid (alloc_new (w) (.cells (wcells n) 26))
  replace HB := Lib.hid (below_al HB.out (.cells (wcells n) 26))
  have cGn := cell_row Gn.out
  go_wp2_with fail
  refine (S1.out _).mono ?_
  rintro e w2 ⟨rfl, hb⟩
  clear cGn
  replace HB := Lib.hid (below_then HB.out hb)
  replace Gn := Lib.hid ((hb.block _ (lt_of_heap Gn.out)).trans Gn.out)
  clear hb
  have HO := Lib.hid HB.out
  replace Gn := Lib.hid (keepAl (o' := .cells #[.slice none 0 0] 55) Gn.out)
  have Go := Lib.hid (alloc_new (w2) (.cells #[.slice none 0 0] 55))
  replace HB := Lib.hid (below_al HB.out (.cells #[.slice none 0 0] 55))
  have cGn := cell_row Gn.out
  have cGo := cell_row Go.out
  go_wp2_with fail
  clear cGn cGo
  obtain ⟨wq, hw⟩ : ∃ wx, wx = (w2).alloc (.cells #[.slice none 0 0] 55) := ⟨_, rfl⟩
  rw [← hw] at Gn Go HB ⊢
  clear hw
  refine (S2.out (w2.heap.size) _ ?_ Go.out).mono ?_
  · exact lt_of_heap Go.out
  rintro e wE ⟨rfl, ⟨⟨v, hv, hown⟩, hbut⟩⟩
  obtain ⟨a', cap', rfl⟩ := own_slice hown
  have hz3 := lt_of_heap Go.out
  have HI : Hid (IsIntsN wE (.slice a' 128 cap') ((List.range 128).map fun j => (rdgN n j : Int))) := Lib.hid (ints_of_own (n := 128) (by rw [List.length_map, List.length_range]) (by rw [List.map_map]; exact hown))
  have hO2 := HO.out.size
  replace HB := Lib.hid (But.below HB.out hbut (by omega) (fun i hi => by omega))
  have c0 := cell_row hv
  clear hown hbut hv hz3 hO2 Gn Go
  go_wp2
  exact bodyPost_ret (v := .tuple #[.slice a' 128 cap', .int .i64 0]) (by simp [results, Try.results104, go_sem]) rfl ⟨_, rfl, HI.out, HB.out⟩
end Go.Proofs.Ytenkaobgoknlhaa
