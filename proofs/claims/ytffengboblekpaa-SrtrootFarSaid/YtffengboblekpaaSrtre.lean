/- THE WALKS of srtroot: digits; the root so far. -/
import Derived.Test.YtffengboblekpaaSrtrc
import Derived.Test.YtffengboblekpaaInts
import Derived.Test.YtffengboblekpaaRt2b
namespace Go.Proofs.Ytffengboblekpaa
open Go Go.RowKit

attribute [local go_sem ↓] Go.wp_at_zero Go.wp_at_succ
set_option maxRecDepth 100000 in
set_option maxHeartbeats 2000000 in
theorem digFunS_any (Ob base P L n : Nat) (i d : Int) (v : Value) (xs : List Value) (w : World) (hO : w.heap[Ob]? = some (.cells #[v] 31 (0, 0))) (hown : w.ownsRow base 3 1 v n xs) (hOb : Ob < base) (hb : base ≤ w.heap.size) (hn : n ≤ 1000) :
    Calls Try.prog 51 #[.int .i64 i, .int .i64 d, .agg (fc P L), .pointer (some ⟨Ob, 0, none⟩)] w fun e w' => e = .returned (.bool true) ∧ ∃ v', w'.heap[Ob]? = some (.cells #[v'] 31 (0, 0)) ∧ w'.ownsRow base 3 1 v' (n + 1) (xs ++ [.int .i64 d]) ∧ But (fun k => k = Ob ∨ base ≤ k) w w' := by
  have GO := Lib.hid hO; have HOW := Lib.hid hown; have HOb := Lib.hid hOb; have Hb := Lib.hid hb; have HN := Lib.hid hn
  clear hO hown hOb hb hn
  go_enter Try.func51, Try.ntmps51
  have HB := Lib.hid (Below.refl w.heap.size w)
  replace GO := Lib.hid (keepAl (o' := .cells (fc P L) 65) GO.out)
  have Gs := Lib.hid (alloc_new (w) (.cells (fc P L) 65))
  replace HB := Lib.hid (below_al HB.out (.cells (fc P L) 65))
  have cGO := cell_row GO.out
  have cGs := cell_row Gs.out
  have HO1 := Lib.hid (HOW.out.alloc (.cells (fc P L) 65))
  go_wp2_with (at_builtin; obtain ⟨i0, hi, hz0, hz1, hz2⟩ := info_parts infoInt; refine wpList_append_own _ rfl _ _ 31 rfl base 3 i0 (.int .i64 0) 1 8 Try.underlying31 hi hz0 hz1 hz2 rfl (by decide) _ _ _ rfl (HO1.out.alloc _) ⟨w.heap.size + 1, 0, none⟩ 1 1 [.int .i64 d] rfl rfl ?c1 ?c2 ?c3 ?c4 ?c5 ?_)
  case c1 =>
    intro j u hj
    match j, hj with
    | 0, hj => simp at hj; subst hj; simp [Addr.add]
  case c2 => intro u hu; simp at hu; subst hu; rfl
  case c3 => have := HN.out; unfold maxLen; omega
  case c4 => have := HN.out; omega
  case c5 => have := Hb.out; simp; omega
  intro v' w3 hown3 hgrow _
  obtain ⟨a', cap', rfl⟩ := own_slice hown3
  have GO2 : Hid (w3.heap[Ob]? = some (.cells #[v] 31 (0, 0))) := Lib.hid ((hgrow.block Ob (lt_of_heap (keepAl GO.out)) (fun e => by have := (HOW.out.lt Ob e.symm).1; have := HOb.out; omega)).trans (keepAl GO.out))
  have HBu : Hid (But (fun k => k = Ob ∨ base ≤ k) w w3) := Lib.hid ((((But.refl _ w).al _).al _).grown hgrow fun k hk => Or.inr (HOW.out.lt k hk).1)
  have HO3 := Lib.hid hown3
  clear cGO cGs hgrow hown3
  have c0 := cell_row GO2.out
  have f0 := free_row GO2.out
  have GO3 : Hid ((w3.setCell ⟨Ob, 0, none⟩ (.slice a' (n + 1) cap')).heap[Ob]? = some (.cells #[.slice a' (n + 1) cap'] 31 (0, 0))) := Lib.hid (set_row GO2.out 0 _)
  have HO4 := Lib.hid (ownsRow_but HO3.out (But.set (S := (· = Ob)) (But.refl _ w3) rfl 0 (.slice a' (n + 1) cap')) (fun k hk => by have := HOb.out; omega))
  have HBu2 := Lib.hid (But.set (S := fun k => k = Ob ∨ base ≤ k) HBu.out (Or.inl rfl) 0 (.slice a' (n + 1) cap'))
  go_wp2
  go_ret
  exact ⟨rfl, _, GO3.out, HO4.out, HBu2.out⟩
theorem enters_digS : Enters Try.prog 51 := fun args w => by simp [go_sem]
structure DigInS (U Ob : Nat) (wq : World) (g i : Nat) (w' : World) : Prop where
  o : ∃ v, w'.heap[Ob]? = some (.cells #[v] 31 (0, 0)) ∧ w'.ownsRow (g + 1) 3 1 v i ((rDigs U i).map fun z => .int .i64 z)
  but : But (fun k => k = Ob ∨ wq.heap.size ≤ k) wq w'
set_option maxRecDepth 100000 in
set_option maxHeartbeats 1000000 in
theorem digRunS_any (U Ob : Nat) (w : World) (hU1 : P2 254 ≤ U) (hU2 : U < P2 256) (hOb : Ob < w.heap.size) (hO : w.heap[Ob]? = some (.cells #[.slice none 0 0] 31 (0, 0))) :
    Calls Try.prog 43 #[wv U, .func (.func 51) #[] #[.pointer (some ⟨Ob, 0, none⟩)]] w fun e w' => e = .returned (.tuple #[]) ∧ ∃ g, DigInS U Ob w g 64 w' := by
  refine (runS_any 51 #[.pointer (some ⟨Ob, 0, none⟩)] U 64 (fun _ => true) (DigInS U Ob w) w hU1 hU2 (Nat.le_refl _) (by decide) enters_digS (fun _ _ => rfl) (Or.inl rfl) ?_ ?_ ?_).mono ?_
  · intro g i w1 w2 hg h hb
    obtain ⟨v, h1, h2⟩ := h.o
    exact ⟨⟨v, hb.heap h1 (by omega), ownsRow_but h2 hb (fun k hk => by omega)⟩, h.but.trans (hb.mono fun k _ hk => Or.inr (by omega))⟩
  · intro g i w' hi hg hsz h
    obtain ⟨v, h1, h2⟩ := h.o
    have := digFunS_any Ob (g + 1) (toW (rP U (i + 1))) (toW (rL U (i + 1))) i (i : Int) (rDig U i) v _ w' h1 h2 (by omega) (by omega) (by omega)
    refine (show Calls Try.prog 51 (#[.int .i64 (i : Int), .int .i64 (rDig U i), .agg (fc (toW (rP U (i + 1))) (toW (rL U (i + 1))))] ++ #[.pointer (some ⟨Ob, 0, none⟩)]) w' _ from this).mono ?_
    rintro e w'' ⟨rfl, v', g1, g2, g3⟩
    refine ⟨rfl, ⟨⟨v', g1, by rw [rDigs_succ, List.map_append]; exact g2⟩, h.but.trans (g3.mono fun k _ hk => ?_)⟩, g3.mono fun k _ hk => ?_⟩
    · rcases hk with hk | hk
      · exact Or.inl hk
      · exact Or.inr (by omega)
    · rcases hk with hk | hk <;> omega
  · intro g w' hg hb _
    exact ⟨⟨_, (hb.block _ hOb).trans hO, World.ownsRow_nil _ _ _ _⟩, But.of_below hb⟩
  · rintro e w' ⟨rfl, g, hg, h, hsz⟩
    exact ⟨rfl, g, h⟩
set_option maxRecDepth 100000 in
set_option maxHeartbeats 2000000 in
theorem digitsS_no (n : Nat) (hn : n < M) (h : n = 0 ∨ ¬ n < P2 256) (w : World) :
    Calls Try.prog 14 #[wv n] w fun e w' => e = .returned (.tuple #[.slice none 0 0, .int .i64 (rsE n)]) ∧ Below w.heap.size w w' := by
  have SN := Lib.hid (fun w' => normS_no n hn h w')
  rcases (show (isZ n = true ∧ rsE n = 0) ∨ (isZ n = false ∧ rsE n = 4) by
    by_cases h0 : n = 0
    · left; exact ⟨isZ_yes h0, (rs_yes (by rw [h0]; exact P2_pos _)).2.2⟩
    · right
      have hm : ¬ n < P2 256 := by rcases h with h | h; exact absurd h h0; exact h
      exact ⟨isZ_no hn h0, (rs_no hm).2.2⟩) with ⟨hz, he⟩ | ⟨hz, he⟩
  all_goals
    rw [he]
    clear hn h he
    go_enter Try.func14, Try.ntmps14
    have HB := Lib.hid (Below.refl w.heap.size w)
    have Gn := Lib.hid (alloc_new (w) (.cells (wcells n) 24))
    replace HB := Lib.hid (below_al HB.out (.cells (wcells n) 24))
    have cGn := cell_row Gn.out
    go_wp2_with fail
    refine (SN.out _).mono ?_
    rintro e w1 ⟨rfl, hb⟩
    clear cGn
    replace HB := Lib.hid (below_then HB.out hb)
    replace Gn := Lib.hid ((hb.block _ (lt_of_heap Gn.out)).trans Gn.out)
    clear hb
    replace Gn := Lib.hid (keepAl (o' := .cells (wcells 0) 24) Gn.out)
    have Gu := Lib.hid (alloc_new (w1) (.cells (wcells 0) 24))
    replace HB := Lib.hid (below_al HB.out (.cells (wcells 0) 24))
    have cGn := cell_row Gn.out
    have cGu := cell_row Gu.out
    go_wp2
    exact bodyPost_ret (v := .tuple #[.slice none 0 0, .int .i64 _]) (by simp [results, Try.results14, go_sem]) rfl ⟨rfl, HB.out⟩
set_option maxRecDepth 100000 in
set_option maxHeartbeats 2000000 in
theorem digitsS_yes (n : Nat) (h0 : n ≠ 0) (hm : n < P2 256) (w : World) :
    Calls Try.prog 14 #[wv n] w fun e w' => ∃ v, e = .returned (.tuple #[v, .int .i64 0]) ∧ IsIntsN w' v (rDigs (upN n) 64) ∧ Below w.heap.size w w' := by
  have hn : n < M := Nat.lt_trans hm (by rw [M_eq]; exact P2_lt (by omega))
  have SN := Lib.hid (fun w' => normS_yes n h0 hm w')
  have hz := isZ_no hn h0
  obtain ⟨u1, u2, u3⟩ := up_range h0 hm
  have S2 := Lib.hid (fun Ob w' hOb hO => digRunS_any (upN n) Ob w' u1 u2 hOb hO)
  obtain ⟨X, hX⟩ : ∃ x, x = upN n := ⟨_, rfl⟩
  rw [← hX] at SN S2 ⊢
  obtain ⟨c, hc⟩ : ∃ x, x = nrmN n := ⟨_, rfl⟩
  rw [← hc] at SN
  clear hn h0 hm u1 u2 u3 hX hc
  go_enter Try.func14, Try.ntmps14
  have HB := Lib.hid (Below.refl w.heap.size w)
  have Gn := Lib.hid (alloc_new (w) (.cells (wcells n) 24))
  replace HB := Lib.hid (below_al HB.out (.cells (wcells n) 24))
  have cGn := cell_row Gn.out
  go_wp2_with fail
  refine (SN.out _).mono ?_
  rintro e w2 ⟨rfl, hb⟩
  clear cGn
  replace HB := Lib.hid (below_then HB.out hb)
  replace Gn := Lib.hid ((hb.block _ (lt_of_heap Gn.out)).trans Gn.out)
  clear hb
  have HO := Lib.hid HB.out
  replace Gn := Lib.hid (keepAl (o' := .cells (wcells X) 24) Gn.out)
  have Gu := Lib.hid (alloc_new (w2) (.cells (wcells X) 24))
  replace HB := Lib.hid (below_al HB.out (.cells (wcells X) 24))
  have cGn := cell_row Gn.out
  have cGu := cell_row Gu.out
  go_upto_region 6 with fail
  clear cGn cGu
  replace Gn := Lib.hid (keepAl (o' := .cells #[.slice none 0 0] 31) Gn.out)
  replace Gu := Lib.hid (keepAl (o' := .cells #[.slice none 0 0] 31) Gu.out)
  have Go := Lib.hid (alloc_new' (w := (w2).alloc (.cells (wcells X) 24)) (n := w2.heap.size + 1) (.cells #[.slice none 0 0] 31) (by simp))
  replace HB := Lib.hid (below_al HB.out (.cells #[.slice none 0 0] 31))
  have cGn := cell_row Gn.out
  have cGu := cell_row Gu.out
  have cGo := cell_row Go.out
  go_wp2_with fail
  clear cGn cGu cGo
  obtain ⟨E, hE⟩ : ∃ E, E = w2.heap.size + 1 := ⟨_, rfl⟩
  have HE := Lib.hid (show w.heap.size ≤ E by have := HO.out.size; omega)
  rw [← hE] at Go ⊢
  clear hE
  obtain ⟨wq, hw⟩ : ∃ wx, wx = ((w2).alloc (.cells (wcells X) 24)).alloc (.cells #[.slice none 0 0] 31) := ⟨_, rfl⟩
  rw [← hw] at Gn Gu Go HB ⊢
  clear hw
  refine (S2.out E _ (lt_of_heap Go.out) Go.out).mono ?_
  rintro e wE ⟨rfl, g, ⟨⟨v, hv, hown⟩, hbut⟩⟩
  obtain ⟨a', cap', rfl⟩ := own_slice hown
  have hz3 := lt_of_heap Go.out
  have HI : Hid (IsIntsN wE (.slice a' 64 cap') (rDigs X 64)) := Lib.hid (ints_of_own (n := 64) (by rw [rDigs_len]) hown)
  have hO2 := HE.out
  replace HB := Lib.hid (But.below HB.out hbut HB.out.size (fun i hi => by omega))
  have c0 := cell_row hv
  clear hown hbut hv hz3 hO2 Gn Go Gu
  go_wp2
  exact bodyPost_ret (v := .tuple #[.slice a' 64 cap', .int .i64 0]) (by simp [results, Try.results14, go_sem]) rfl ⟨_, rfl, HI.out, HB.out⟩
end Go.Proofs.Ytffengboblekpaa
