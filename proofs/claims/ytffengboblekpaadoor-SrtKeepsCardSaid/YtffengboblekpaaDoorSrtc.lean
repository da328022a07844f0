/- THE WALKS of srt: a quotient's digits. -/
import Derived.Test.YtffengboblekpaaDoorSrtb
import Derived.Test.YtffengboblekpaaDoorInts
namespace Go.Proofs.YtffengboblekpaaDoor
open Go Go.RowKit

attribute [local go_sem ↓] Go.wp_at_zero Go.wp_at_succ
set_option maxRecDepth 100000 in
set_option maxHeartbeats 2000000 in
theorem digFunT_any (Ob base L n : Nat) (p d : Int) (v : Value) (xs : List Value) (w : World) (hO : w.heap[Ob]? = some (.cells #[v] 37 (0, 0))) (hown : w.ownsRow base 3 1 v n xs) (hOb : Ob < base) (hb : base ≤ w.heap.size) (hn : n ≤ 1000) :
    Calls Tryd.prog 56 #[.agg (tcells p d L), .pointer (some ⟨Ob, 0, none⟩)] w fun e w' => e = .returned (.bool true) ∧ ∃ v', w'.heap[Ob]? = some (.cells #[v'] 37 (0, 0)) ∧ w'.ownsRow base 3 1 v' (n + 1) (xs ++ [.int .i64 d]) ∧ But (fun k => k = Ob ∨ base ≤ k) w w' := by
  have GO := Lib.hid hO; have HOW := Lib.hid hown; have HOb := Lib.hid hOb; have Hb := Lib.hid hb; have HN := Lib.hid hn
  clear hO hown hOb hb hn
  go_enter Tryd.func56, Tryd.ntmps56
  have HB := Lib.hid (Below.refl w.heap.size w)
  replace GO := Lib.hid (keepAl (o' := .cells (tcells p d L) 90) GO.out)
  have Gs := Lib.hid (alloc_new (w) (.cells (tcells p d L) 90))
  replace HB := Lib.hid (below_al HB.out (.cells (tcells p d L) 90))
  have cGO := cell_row GO.out
  have cGs := cell_row Gs.out
  have HO1 := Lib.hid (HOW.out.alloc (.cells (tcells p d L) 90))
  go_wp2_with (at_builtin; obtain ⟨i0, hi, hz0, hz1, hz2⟩ := info_parts infoInt; refine wpList_append_own _ rfl _ _ 37 rfl base 3 i0 (.int .i64 0) 1 8 Tryd.underlying37 hi hz0 hz1 hz2 rfl (by decide) _ _ _ rfl (HO1.out.alloc _) ⟨w.heap.size + 1, 0, none⟩ 1 1 [.int .i64 d] rfl rfl ?c1 ?c2 ?c3 ?c4 ?c5 ?_)
  case c1 =>
    intro j u hj
    match j, hj with
    | 0, hj => simp at hj; subst hj; simp [Addr.add]
  case c2 => intro u hu; simp at hu; subst hu; rfl
  case c3 => have := HN.out; unfold maxLen; omega
  case c4 => have := HN.out; omega
  case c5 => have := Hb.out; simp; omega
  intro v' w3 hown3 hgrow _
  obtain ⟨a', cap', rfl⟩ := own_slice hown3
  have GO2 : Hid (w3.heap[Ob]? = some (.cells #[v] 37 (0, 0))) := Lib.hid ((hgrow.block Ob (lt_of_heap (keepAl GO.out)) (fun e => by have := (HOW.out.lt Ob e.symm).1; have := HOb.out; omega)).trans (keepAl GO.out))
  have HBu : Hid (But (fun k => k = Ob ∨ base ≤ k) w w3) := Lib.hid ((((But.refl _ w).al _).al _).grown hgrow fun k hk => Or.inr (HOW.out.lt k hk).1)
  have HO3 := Lib.hid hown3
  clear cGO cGs hgrow hown3
  have c0 := cell_row GO2.out
  have f0 := free_row GO2.out
  have GO3 : Hid ((w3.setCell ⟨Ob, 0, none⟩ (.slice a' (n + 1) cap')).heap[Ob]? = some (.cells #[.slice a' (n + 1) cap'] 37 (0, 0))) := Lib.hid (set_row GO2.out 0 _)
  have HO4 := Lib.hid (ownsRow_but HO3.out (But.set (S := (· = Ob)) (But.refl _ w3) rfl 0 (.slice a' (n + 1) cap')) (fun k hk => by have := HOb.out; omega))
  have HBu2 := Lib.hid (But.set (S := fun k => k = Ob ∨ base ≤ k) HBu.out (Or.inl rfl) 0 (.slice a' (n + 1) cap'))
  go_wp2
  go_ret
  exact ⟨rfl, _, GO3.out, HO4.out, HBu2.out⟩
theorem enters_digT : Enters Tryd.prog 56 := fun args w => by simp [go_sem]
structure DigInT (N D Ob : Nat) (r : Int) (wq : World) (i : Nat) (w' : World) : Prop where
  o : ∃ v, w'.heap[Ob]? = some (.cells #[v] 37 (0, 0)) ∧ w'.ownsRow (wq.heap.size + 3) 3 1 v i ((sDigs N D r i).map fun z => .int .i64 z)
  but : But (fun k => k = Ob ∨ wq.heap.size ≤ k) wq w'
set_option maxRecDepth 100000 in
set_option maxHeartbeats 1000000 in
theorem digRunT_any (N D Ob : Nat) (w : World) (hD1 : P2 127 ≤ D) (hD2 : D < P2 128) (hND : N < D * P2 128) (hL : Laid w) (hg : 1 < Ob) (hOb : Ob < w.heap.size) (hO : w.heap[Ob]? = some (.cells #[.slice none 0 0] 37 (0, 0))) :
    Calls Tryd.prog 50 #[wv N, wv D, .func (.func 56) #[] #[.pointer (some ⟨Ob, 0, none⟩)]] w fun e w' => e = .returned (.tuple #[]) ∧ DigInT N D Ob ((rowT D : Nat) : Int) w 65 w' := by
  have hlt := hL.lt
  refine (runT_any 56 #[.pointer (some ⟨Ob, 0, none⟩)] N D 65 (fun _ => true) (DigInT N D Ob ((rowT D : Nat) : Int) w) w hD1 hD2 hND (Nat.le_refl _) (by decide) enters_digT (fun _ _ => rfl) (Or.inl rfl) ?_ ?_ ?_ ?_).mono ?_
  · intro i w1 h
    exact hL.but h.but (by omega)
  · intro i w1 w2 h hb
    obtain ⟨v, h1, h2⟩ := h.o
    exact ⟨⟨v, hb.heap h1 (by omega), ownsRow_but h2 hb (fun k hk => by omega)⟩, h.but.trans (hb.mono fun k _ hk => Or.inr (by omega))⟩
  · intro i w' hi hsz h
    obtain ⟨v, h1, h2⟩ := h.o
    have := digFunT_any Ob (w.heap.size + 3) (toW (sLeft N D ((rowT D : Nat) : Int) (i + 1))) i (64 - (i : Int)) (sDig N D ((rowT D : Nat) : Int) i) v _ w' h1 h2 (by omega) (by omega) (by omega)
    refine (show Calls Tryd.prog 56 (#[.agg (tcells (64 - (i : Int)) (sDig N D ((rowT D : Nat) : Int) i) (toW (sLeft N D ((rowT D : Nat) : Int) (i + 1))))] ++ #[.pointer (some ⟨Ob, 0, none⟩)]) w' _ from this).mono ?_
    rintro e w'' ⟨rfl, v', g1, g2, g3⟩
    refine ⟨rfl, ⟨⟨v', g1, by rw [sDigs_succ, List.map_append]; exact g2⟩, h.but.trans (g3.mono fun k _ hk => ?_)⟩, g3.mono fun k _ hk => ?_⟩
    · rcases hk with hk | hk
      · exact Or.inl hk
      · exact Or.inr (by omega)
    · rcases hk with hk | hk <;> omega
  · exact ⟨⟨_, hO, World.ownsRow_nil _ _ _ _⟩, But.refl _ _⟩
  · rintro e w' ⟨rfl, h, hsz⟩
    exact ⟨rfl, h⟩
set_option maxRecDepth 100000 in
set_option maxHeartbeats 2000000 in
theorem digitsT_no (n d : Nat) (hn : n < M) (hd : d < M) (hm : mayN n d ≠ 0) (w : World) :
    Calls Tryd.prog 26 #[wv n, wv d] w fun e w' => e = .returned (.tuple #[.slice none 0 0, .int .i64 (mayN n d)]) ∧ Below w.heap.size w w' := by
  have S1 := Lib.hid (fun w' => may_w n d hn hd w')
  obtain ⟨E, hE⟩ : ∃ x, x = mayN n d := ⟨_, rfl⟩
  rw [← hE] at S1 hm ⊢
  have hb : (E == 0) = false := by simp [hm]
  clear hn hd hE
  go_enter Tryd.func26, Tryd.ntmps26
  have HB := Lib.hid (Below.refl w.heap.size w)
  have Gn := Lib.hid (alloc_new (w) (.cells (wcells n) 24))
  replace HB := Lib.hid (below_al HB.out (.cells (wcells n) 24))
  replace Gn := Lib.hid (keepAl (o' := .cells (wcells d) 24) Gn.out)
  have Gd := Lib.hid (alloc_new' (w := (w).alloc (.cells (wcells n) 24)) (n := w.heap.size + 1) (.cells (wcells d) 24) (by simp))
  replace HB := Lib.hid (below_al HB.out (.cells (wcells d) 24))
  have cGn := cell_row Gn.out
  have cGd := cell_row Gd.out
  go_wp2_with fail
  refine (S1.out _).mono ?_
  rintro e w1 ⟨rfl, hb⟩
  clear cGn cGd
  replace HB := Lib.hid (below_then HB.out hb)
  replace Gn := Lib.hid ((hb.block _ (lt_of_heap Gn.out)).trans Gn.out)
  replace Gd := Lib.hid ((hb.block _ (lt_of_heap Gd.out)).trans Gd.out)
  clear hb
  have cGn := cell_row Gn.out
  have cGd := cell_row Gd.out
  go_wp2
  exact bodyPost_ret (v := .tuple #[.slice none 0 0, .int .i64 E]) (by simp [results, Tryd.results26, go_sem]) rfl ⟨rfl, HB.out⟩
set_option maxRecDepth 100000 in
set_option maxHeartbeats 2000000 in
theorem digitsT_yes (n d : Nat) (hn : n < M) (hd : d < M) (hm : mayN n d = 0) (w : World) (hL : Laid w) :
    Calls Tryd.prog 26 #[wv n, wv d] w fun e w' => ∃ v, e = .returned (.tuple #[v, .int .i64 0]) ∧ IsIntsN w' v (sDigs (n * P2 (128 - blen d)) (d * P2 (128 - blen d)) ((rowT (d * P2 (128 - blen d)) : Nat) : Int) 65) ∧ Below w.heap.size w w' := by
  have S1 := Lib.hid (fun w' => may_w n d hn hd w')
  rw [hm] at S1
  have S3 := Lib.hid (fun w' => shiftedT_w n d hm w')
  obtain ⟨r1, r2, r3, _, _⟩ := shift_range hm
  obtain ⟨D, hD⟩ : ∃ X, X = d * P2 (128 - blen d) := ⟨_, rfl⟩
  rw [← hD] at S3 r1 r2 r3 ⊢
  obtain ⟨N, hN⟩ : ∃ X, X = n * P2 (128 - blen d) := ⟨_, rfl⟩
  rw [← hN] at S3 r3 ⊢
  obtain ⟨k, hke⟩ : ∃ X, X = 128 - blen d := ⟨_, rfl⟩
  rw [← hke] at S3
  have S2 := Lib.hid (fun Ob w' hL hg hOb hO => digRunT_any N D Ob w' r1 r2 r3 hL hg hOb hO)
  have HG := Lib.hid hL.lt
  have KL := Lib.hid hL
  clear hn hd hm r1 r2 r3 hD hN hke hL
  go_enter Tryd.func26, Tryd.ntmps26
  have HB := Lib.hid (Below.refl w.heap.size w)
  have Gn := Lib.hid (alloc_new (w) (.cells (wcells n) 24))
  replace HB := Lib.hid (below_al HB.out (.cells (wcells n) 24))
  replace Gn := Lib.hid (keepAl (o' := .cells (wcells d) 24) Gn.out)
  have Gd := Lib.hid (alloc_new' (w := (w).alloc (.cells (wcells n) 24)) (n := w.heap.size + 1) (.cells (wcells d) 24) (by simp))
  replace HB := Lib.hid (below_al HB.out (.cells (wcells d) 24))
  have cGn := cell_row Gn.out
  have cGd := cell_row Gd.out
  go_wp2_with fail
  refine (S1.out _).mono ?_
  rintro e w2 ⟨rfl, hb⟩
  clear cGn cGd
  replace HB := Lib.hid (below_then HB.out hb)
  replace Gn := Lib.hid ((hb.block _ (lt_of_heap Gn.out)).trans Gn.out)
  replace Gd := Lib.hid ((hb.block _ (lt_of_heap Gd.out)).trans Gd.out)
  clear hb
  have cGn := cell_row Gn.out
  have cGd := cell_row Gd.out
  go_wp2_with fail
  refine (S3.out _).mono ?_
  rintro e w3 ⟨rfl, hb⟩
  clear cGn cGd
  replace HB := Lib.hid (below_then HB.out hb)
  replace Gn := Lib.hid ((hb.block _ (lt_of_heap Gn.out)).trans Gn.out)
  replace Gd := Lib.hid ((hb.block _ (lt_of_heap Gd.out)).trans Gd.out)
  clear hb
  have HZd := Lib.hid (lt_of_heap Gd.out)
  have stn := st_row (P := Tryd.prog) Gn.out rfl (N)
  replace Gd := Lib.hid ((setRow_other (w3) (w.heap.size) _ (wcells (N)) (by (have := HZd.out; omega))).trans Gd.out)
  replace Gn := Lib.hid (setRow_heap (w3) (w.heap.size) _ (wcells (N)) _ _ Gn.out)
  replace HB := Lib.hid (below_setRow' HB.out (show _ ≤ w.heap.size by (have := HZd.out; omega)) (wcells (N)))
  have q1 := stn
  clear stn
  have std := st_row (P := Tryd.prog) Gd.out rfl (D)
  replace Gn := Lib.hid ((setRow_other ((w3).setRow (w.heap.size) (wcells (N))) (w.heap.size + 1) _ (wcells (D)) (by (have := HZd.out; omega))).trans Gn.out)
  replace Gd := Lib.hid (setRow_heap ((w3).setRow (w.heap.size) (wcells (N))) (w.heap.size + 1) _ (wcells (D)) _ _ Gd.out)
  replace HB := Lib.hid (below_setRow' HB.out (show _ ≤ w.heap.size + 1 by (have := HZd.out; omega)) (wcells (D)))
  have cGn := cell_row Gn.out
  have cGd := cell_row Gd.out
  go_upto_region 5 with fail
  clear cGn cGd std
  obtain ⟨wu, hw⟩ : ∃ wx, wx = ((w3).setRow (w.heap.size) (wcells (N))).setRow (w.heap.size + 1) (wcells (D)) := ⟨_, rfl⟩
  rw [← hw] at Gn Gd HB ⊢
  clear hw
  have HO := Lib.hid HB.out
  replace Gn := Lib.hid (keepAl (o' := .cells #[.slice none 0 0] 37) Gn.out)
  replace Gd := Lib.hid (keepAl (o' := .cells #[.slice none 0 0] 37) Gd.out)
  have Go := Lib.hid (alloc_new (wu) (.cells #[.slice none 0 0] 37))
  replace HB := Lib.hid (below_al HB.out (.cells #[.slice none 0 0] 37))
  have cGn := cell_row Gn.out
  have cGd := cell_row Gd.out
  have cGo := cell_row Go.out
  go_wp2_with fail
  clear cGn cGd cGo
  obtain ⟨E, hE⟩ : ∃ E, E = wu.heap.size := ⟨_, rfl⟩
  have HE := Lib.hid (show w.heap.size ≤ E by have := HO.out.size; omega)
  rw [← hE] at Go ⊢
  clear hE
  obtain ⟨wq, hw⟩ : ∃ wx, wx = (wu).alloc (.cells #[.slice none 0 0] 37) := ⟨_, rfl⟩
  rw [← hw] at Gn Gd Go HB ⊢
  clear hw
  refine (S2.out E _ (KL.out.older HB.out) (by have := HE.out; have := HG.out; omega) (lt_of_heap Go.out) Go.out).mono ?_
  rintro e wE ⟨rfl, ⟨⟨v, hv, hown⟩, hbut⟩⟩
  obtain ⟨a', cap', rfl⟩ := own_slice hown
  have hz3 := lt_of_heap Go.out
  have HI : Hid (IsIntsN wE (.slice a' 65 cap') (sDigs N D ((rowT D : Nat) : Int) 65)) := Lib.hid (ints_of_own (n := 65) (by rw [sDigs_len]) hown)
  have hO2 := HE.out
  replace HB := Lib.hid (But.below HB.out hbut HB.out.size (fun i hi => by omega))
  have c0 := cell_row hv
  clear hown hbut hv hz3 hO2 Gn Go Gd
  go_wp2
  exact bodyPost_ret (v := .tuple #[.slice a' 65 cap', .int .i64 0]) (by simp [results, Tryd.results26, go_sem]) rfl ⟨_, rfl, HI.out, HB.out⟩
end Go.Proofs.YtffengboblekpaaDoor
