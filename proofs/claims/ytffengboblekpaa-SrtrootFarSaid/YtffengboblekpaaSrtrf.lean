/- THE WALKS of srtroot: the root so far, behind some steps. -/
import Derived.Test.YtffengboblekpaaSrtrc
import Derived.Test.YtffengboblekpaaRt2b
namespace Go.Proofs.Ytffengboblekpaa
open Go Go.RowKit

@[go_sem] theorem field_far0 (P L : Nat) (w : World) : Sem.run Try.prog (Instr.field 65 (.agg (fc P L)) 0) w = .ok (wv P) w := by kernel_rfl
attribute [local go_sem ↓] Go.wp_at_zero Go.wp_at_succ
set_option maxRecDepth 100000 in
set_option maxHeartbeats 1000000 in
theorem farFunS_any (Mb Ob o P L : Nat) (i m d : Int) (w : World) (hm : w.heap[Mb]? = some (.cells #[.int .i64 m] 3 (0, 0))) (ho : w.heap[Ob]? = some (.cells (wcells o) 24 (0, 0))) :
    Calls Try.prog 59 #[.int .i64 i, .int .i64 d, .agg (fc P L), .pointer (some ⟨Mb, 0, none⟩), .pointer (some ⟨Ob, 0, none⟩)] w fun e w' => e = .returned (.bool (decide (i < m))) ∧ w'.heap[Ob]? = some (.cells (wcells (if i < m then P else o)) 24 (0, 0)) ∧ But (fun k => k = Ob) w w' := by
  have Gm := Lib.hid hm
  have Go := Lib.hid ho
  have hlt := lt_of_heap ho
  have hlm := lt_of_heap hm
  clear hm ho
  by_cases h : i < m
  · rw [decide_eq_true h, if_pos h]
    have h2 : ¬ m ≤ i := by omega
    go_enter Try.func59, Try.ntmps59
    have UB := Lib.hid (But.refl (fun k => k = Ob) w)
    replace Gm := Lib.hid (keepAl (o' := .cells (fc P L) 65) Gm.out)
    replace Go := Lib.hid (keepAl (o' := .cells (fc P L) 65) Go.out)
    have Gf := Lib.hid (alloc_new (w) (.cells (fc P L) 65))
    replace UB := Lib.hid (UB.out.al (.cells (fc P L) 65))
    have cm := cell_row Gm.out
    have cf := cell_row Gf.out
    have sto := st_row (P := Try.prog) Go.out rfl (P)
    replace Gf := Lib.hid ((setRow_other ((w).alloc (.cells (fc P L) 65)) (Ob) _ (wcells (P)) (by (omega))).trans Gf.out)
    replace Go := Lib.hid (setRow_heap ((w).alloc (.cells (fc P L) 65)) (Ob) _ (wcells (P)) _ _ Go.out)
    replace UB := Lib.hid (But.row UB.out (by first | exact Or.inl rfl | exact Or.inr rfl | exact rfl) (wcells (P)))
    go_wp2
    go_ret
    exact ⟨rfl, Go.out, UB.out⟩
  · rw [decide_eq_false h, if_neg h]
    have h2 : m ≤ i := by omega
    go_enter Try.func59, Try.ntmps59
    have UB := Lib.hid (But.refl (fun k => k = Ob) w)
    replace Gm := Lib.hid (keepAl (o' := .cells (fc P L) 65) Gm.out)
    replace Go := Lib.hid (keepAl (o' := .cells (fc P L) 65) Go.out)
    have Gf := Lib.hid (alloc_new (w) (.cells (fc P L) 65))
    replace UB := Lib.hid (UB.out.al (.cells (fc P L) 65))
    have cGm := cell_row Gm.out
    have cGo := cell_row Go.out
    have cGf := cell_row Gf.out
    go_wp2
    go_ret
    exact ⟨rfl, Go.out, UB.out⟩
theorem enters_farS : Enters Try.prog 59 := fun args w => by simp [go_sem]
structure FarInS (U Mb Ob m : Nat) (wq : World) (i : Nat) (w' : World) : Prop where
  hm : w'.heap[Mb]? = some (.cells #[.int .i64 (m : Int)] 3 (0, 0))
  ho : w'.heap[Ob]? = some (.cells (wcells (toW (rP U (min i m)))) 24 (0, 0))
  but : But (fun k => k = Ob ∨ wq.heap.size ≤ k) wq w'
set_option maxRecDepth 100000 in
set_option maxHeartbeats 1000000 in
theorem farRunS_any (U Mb Ob m : Nat) (w : World) (hm64 : m ≤ 64) (hU1 : P2 254 ≤ U) (hU2 : U < P2 256) (hne : Mb ≠ Ob) (hMb : Mb < w.heap.size) (hOb : Ob < w.heap.size) (hM : w.heap[Mb]? = some (.cells #[.int .i64 (m : Int)] 3 (0, 0))) (hO : w.heap[Ob]? = some (.cells (wcells (toW (rP U 0))) 24 (0, 0))) :
    Calls Try.prog 43 #[wv U, .func (.func 59) #[] #[.pointer (some ⟨Mb, 0, none⟩), .pointer (some ⟨Ob, 0, none⟩)]] w fun e w' => e = .returned (.tuple #[]) ∧ w'.heap[Ob]? = some (.cells (wcells (toW (rP U m))) 24 (0, 0)) ∧ But (fun k => k = Ob ∨ w.heap.size ≤ k) w w' := by
  refine (runS_any 59 #[.pointer (some ⟨Mb, 0, none⟩), .pointer (some ⟨Ob, 0, none⟩)] U (if m < 64 then m + 1 else 64) (fun i => decide ((i : Int) < (m : Int))) (fun _ => FarInS U Mb Ob m w) w hU1 hU2 (by split <;> omega) (by split <;> omega) enters_farS ?_ ?_ ?_ ?_ ?_).mono ?_
  · intro i hi
    exact decide_eq_true (by split at hi <;> omega)
  · split
    · right
      exact decide_eq_false (by omega)
    · exact Or.inl rfl
  · intro g i w1 w2 hg h hb
    exact ⟨hb.heap h.hm (by omega), hb.heap h.ho (by omega), h.but.trans (hb.mono fun k _ hk => Or.inr (by omega))⟩
  · intro g i w' hi hg hsz h
    have := farFunS_any Mb Ob (toW (rP U (min i m))) (toW (rP U (i + 1))) (toW (rL U (i + 1))) (i : Int) (m : Int) (rDig U i) w' h.hm h.ho
    refine (show Calls Try.prog 59 (#[.int .i64 (i : Int), .int .i64 (rDig U i), .agg (fc (toW (rP U (i + 1))) (toW (rL U (i + 1))))] ++ #[.pointer (some ⟨Mb, 0, none⟩), .pointer (some ⟨Ob, 0, none⟩)]) w' _ from this).mono ?_
    rintro e w'' ⟨rfl, g1, g2⟩
    refine ⟨rfl, ⟨g2.heap h.hm hne, ?_, h.but.trans (g2.mono fun k _ hk => Or.inl hk)⟩, g2.mono fun k _ hk => ?_⟩
    · rw [g1]
      split
      · rw [show min (i + 1) m = i + 1 by omega]
      · rw [show min (i + 1) m = min i m by omega]
    · subst hk
      omega
  · intro g w' hg hb _
    exact ⟨(hb.block _ hMb).trans hM, by rw [Nat.zero_min]; exact (hb.block _ hOb).trans hO, But.of_below hb⟩
  · rintro e w' ⟨rfl, g, hg, h, hsz⟩
    refine ⟨rfl, ?_, h.but⟩
    have := h.ho
    rwa [show min (if m < 64 then m + 1 else 64) m = m by split <;> omega] at this
def farB (m : Int) : Bool := decide (m < 0) || decide (64 < m)
set_option maxRecDepth 100000 in
set_option maxHeartbeats 2000000 in
theorem farS_no (n : Nat) (m : Int) (hn : n < M) (h : m < 0 ∨ 64 < m ∨ n = 0 ∨ ¬ n < P2 256) (w : World) :
    Calls Try.prog 18 #[wv n, .int .i64 m] w fun e w' => e = .returned (.tuple #[wv 0, .int .i64 (if 0 ≤ m ∧ m ≤ 64 ∧ n = 0 then 0 else 4)]) ∧ Below w.heap.size w w' := by
  have hSN : ∃ X c b, (∀ w' : World, Calls Try.prog 19 #[wv n] w' fun e w'' => e = .returned (.tuple #[wv X, .int .i64 c, .bool b]) ∧ Below w'.heap.size w' w'') ∧ (n = 0 ∨ ¬ n < P2 256 → b = false) := by
    by_cases h0 : n = 0 ∨ ¬ n < P2 256
    · exact ⟨0, 0, false, fun w' => normS_no n hn h0 w', fun _ => rfl⟩
    · exact ⟨upN n, (nrmN n : Nat), true, fun w' => normS_yes n (by omega) (by omega) w', fun h => absurd h h0⟩
  obtain ⟨X, c, b, SN, hb⟩ := hSN
  replace SN := Lib.hid SN
  have HBb := Lib.hid hb
  clear hb
  by_cases hr : m < 0
  · rw [if_neg (by omega)]
    have h1 : decide (m < 0) = true := decide_eq_true hr
    clear hn h
    go_enter Try.func18, Try.ntmps18
    have HB := Lib.hid (Below.refl w.heap.size w)
    have Gn := Lib.hid (alloc_new (w) (.cells (wcells n) 24))
    replace HB := Lib.hid (below_al HB.out (.cells (wcells n) 24))
    replace Gn := Lib.hid (keepAl (o' := .cells #[.int .i64 m] 3) Gn.out)
    have Gm := Lib.hid (alloc_new' (w := (w).alloc (.cells (wcells n) 24)) (n := w.heap.size + 1) (.cells #[.int .i64 m] 3) (by simp))
    replace HB := Lib.hid (below_al HB.out (.cells #[.int .i64 m] 3))
    replace Gn := Lib.hid (keepAl (o' := .cells (wcells 0) 24) Gn.out)
    replace Gm := Lib.hid (keepAl (o' := .cells (wcells 0) 24) Gm.out)
    have Go := Lib.hid (alloc_new' (w := ((w).alloc (.cells (wcells n) 24)).alloc (.cells #[.int .i64 m] 3)) (n := w.heap.size + 1 + 1) (.cells (wcells 0) 24) (by simp))
    replace HB := Lib.hid (below_al HB.out (.cells (wcells 0) 24))
    have cGn := cell_row Gn.out
    have cGm := cell_row Gm.out
    have cGo := cell_row Go.out
    go_wp2_with fail
    refine (SN.out _).mono ?_
    rintro e w1 ⟨rfl, hb⟩
    clear cGn cGm cGo
    replace HB := Lib.hid (below_then HB.out hb)
    replace Gn := Lib.hid ((hb.block _ (lt_of_heap Gn.out)).trans Gn.out)
    replace Gm := Lib.hid ((hb.block _ (lt_of_heap Gm.out)).trans Gm.out)
    replace Go := Lib.hid ((hb.block _ (lt_of_heap Go.out)).trans Go.out)
    clear hb
    have HZ := Lib.hid (lt_of_heap Go.out)
    replace Gn := Lib.hid (keepAl (o' := .cells (wcells X) 24) Gn.out)
    replace Gm := Lib.hid (keepAl (o' := .cells (wcells X) 24) Gm.out)
    replace Go := Lib.hid (keepAl (o' := .cells (wcells X) 24) Go.out)
    have Gu := Lib.hid (alloc_new (w1) (.cells (wcells X) 24))
    replace HB := Lib.hid (below_al HB.out (.cells (wcells X) 24))
    have cn := cell_row Gn.out
    have cm := cell_row Gm.out
    have sto := st_row (P := Try.prog) Go.out rfl (0)
    replace Gn := Lib.hid ((setRow_other ((w1).alloc (.cells (wcells X) 24)) (w.heap.size + 1 + 1) _ (wcells (0)) (by (have := HZ.out; omega))).trans Gn.out)
    replace Gm := Lib.hid ((setRow_other ((w1).alloc (.cells (wcells X) 24)) (w.heap.size + 1 + 1) _ (wcells (0)) (by (have := HZ.out; omega))).trans Gm.out)
    replace Gu := Lib.hid ((setRow_other ((w1).alloc (.cells (wcells X) 24)) (w.heap.size + 1 + 1) _ (wcells (0)) (by (have := HZ.out; omega))).trans Gu.out)
    replace Go := Lib.hid (setRow_heap ((w1).alloc (.cells (wcells X) 24)) (w.heap.size + 1 + 1) _ (wcells (0)) _ _ Go.out)
    replace HB := Lib.hid (below_setRow' HB.out (show _ ≤ w.heap.size + 1 + 1 by (have := HZ.out; omega)) (wcells (0)))
    have cGn := cell_row Gn.out
    have cGm := cell_row Gm.out
    have cGo := cell_row Go.out
    have cGu := cell_row Gu.out
    go_wp2
    exact bodyPost_ret (v := .tuple #[wv (0), .int .i64 4]) (res_ct Try.results18 _ _ _ _ _ _ _ rfl rfl Go.out aggW) rfl ⟨rfl, HB.out⟩
  by_cases hr2 : 64 < m
  · rw [if_neg (by omega)]
    have h1 : decide (m < 0) = false := decide_eq_false hr
    have h2 : decide (64 < m) = true := decide_eq_true hr2
    clear hn h
    go_enter Try.func18, Try.ntmps18
    have HB := Lib.hid (Below.refl w.heap.size w)
    have Gn := Lib.hid (alloc_new (w) (.cells (wcells n) 24))
    replace HB := Lib.hid (below_al HB.out (.cells (wcells n) 24))
    replace Gn := Lib.hid (keepAl (o' := .cells #[.int .i64 m] 3) Gn.out)
    have Gm := Lib.hid (alloc_new' (w := (w).alloc (.cells (wcells n) 24)) (n := w.heap.size + 1) (.cells #[.int .i64 m] 3) (by simp))
    replace HB := Lib.hid (below_al HB.out (.cells #[.int .i64 m] 3))
    replace Gn := Lib.hid (keepAl (o' := .cells (wcells 0) 24) Gn.out)
    replace Gm := Lib.hid (keepAl (o' := .cells (wcells 0) 24) Gm.out)
    have Go := Lib.hid (alloc_new' (w := ((w).alloc (.cells (wcells n) 24)).alloc (.cells #[.int .i64 m] 3)) (n := w.heap.size + 1 + 1) (.cells (wcells 0) 24) (by simp))
    replace HB := Lib.hid (below_al HB.out (.cells (wcells 0) 24))
    have cGn := cell_row Gn.out
    have cGm := cell_row Gm.out
    have cGo := cell_row Go.out
    go_wp2_with fail
    refine (SN.out _).mono ?_
    rintro e w2 ⟨rfl, hb⟩
    clear cGn cGm cGo
    replace HB := Lib.hid (below_then HB.out hb)
    replace Gn := Lib.hid ((hb.block _ (lt_of_heap Gn.out)).trans Gn.out)
    replace Gm := Lib.hid ((hb.block _ (lt_of_heap Gm.out)).trans Gm.out)
    replace Go := Lib.hid ((hb.block _ (lt_of_heap Go.out)).trans Go.out)
    clear hb
    have HZ := Lib.hid (lt_of_heap Go.out)
    replace Gn := Lib.hid (keepAl (o' := .cells (wcells X) 24) Gn.out)
    replace Gm := Lib.hid (keepAl (o' := .cells (wcells X) 24) Gm.out)
    replace Go := Lib.hid (keepAl (o' := .cells (wcells X) 24) Go.out)
    have Gu := Lib.hid (alloc_new (w2) (.cells (wcells X) 24))
    replace HB := Lib.hid (below_al HB.out (.cells (wcells X) 24))
    have cn := cell_row Gn.out
    have cm := cell_row Gm.out
    have sto := st_row (P := Try.prog) Go.out rfl (0)
    replace Gn := Lib.hid ((setRow_other ((w2).alloc (.cells (wcells X) 24)) (w.heap.size + 1 + 1) _ (wcells (0)) (by (have := HZ.out; omega))).trans Gn.out)
    replace Gm := Lib.hid ((setRow_other ((w2).alloc (.cells (wcells X) 24)) (w.heap.size + 1 + 1) _ (wcells (0)) (by (have := HZ.out; omega))).trans Gm.out)
    replace Gu := Lib.hid ((setRow_other ((w2).alloc (.cells (wcells X) 24)) (w.heap.size + 1 + 1) _ (wcells (0)) (by (have := HZ.out; omega))).trans Gu.out)
    replace Go := Lib.hid (setRow_heap ((w2).alloc (.cells (wcells X) 24)) (w.heap.size + 1 + 1) _ (wcells (0)) _ _ Go.out)
    replace HB := Lib.hid (below_setRow' HB.out (show _ ≤ w.heap.size + 1 + 1 by (have := HZ.out; omega)) (wcells (0)))
    have cGn := cell_row Gn.out
    have cGm := cell_row Gm.out
    have cGo := cell_row Go.out
    have cGu := cell_row Gu.out
    go_wp2
    exact bodyPost_ret (v := .tuple #[wv (0), .int .i64 4]) (res_ct Try.results18 _ _ _ _ _ _ _ rfl rfl Go.out aggW) rfl ⟨rfl, HB.out⟩
  have h1 : decide (m < 0) = false := decide_eq_false hr
  have h2 : decide (64 < m) = false := decide_eq_false hr2
  by_cases h0 : n = 0
  · rw [if_pos ⟨by omega, by omega, h0⟩]
    have hz := isZ_yes h0
    rw [show wv 0 = wv n by rw [h0]]
    clear hn h hr hr2 h0
    go_enter Try.func18, Try.ntmps18
    have HB := Lib.hid (Below.refl w.heap.size w)
    have Gn := Lib.hid (alloc_new (w) (.cells (wcells n) 24))
    replace HB := Lib.hid (below_al HB.out (.cells (wcells n) 24))
    replace Gn := Lib.hid (keepAl (o' := .cells #[.int .i64 m] 3) Gn.out)
    have Gm := Lib.hid (alloc_new' (w := (w).alloc (.cells (wcells n) 24)) (n := w.heap.size + 1) (.cells #[.int .i64 m] 3) (by simp))
    replace HB := Lib.hid (below_al HB.out (.cells #[.int .i64 m] 3))
    replace Gn := Lib.hid (keepAl (o' := .cells (wcells 0) 24) Gn.out)
    replace Gm := Lib.hid (keepAl (o' := .cells (wcells 0) 24) Gm.out)
    have Go := Lib.hid (alloc_new' (w := ((w).alloc (.cells (wcells n) 24)).alloc (.cells #[.int .i64 m] 3)) (n := w.heap.size + 1 + 1) (.cells (wcells 0) 24) (by simp))
    replace HB := Lib.hid (below_al HB.out (.cells (wcells 0) 24))
    have cGn := cell_row Gn.out
    have cGm := cell_row Gm.out
    have cGo := cell_row Go.out
    go_wp2_with fail
    refine (SN.out _).mono ?_
    rintro e w3 ⟨rfl, hb⟩
    clear cGn cGm cGo
    replace HB := Lib.hid (below_then HB.out hb)
    replace Gn := Lib.hid ((hb.block _ (lt_of_heap Gn.out)).trans Gn.out)
    replace Gm := Lib.hid ((hb.block _ (lt_of_heap Gm.out)).trans Gm.out)
    replace Go := Lib.hid ((hb.block _ (lt_of_heap Go.out)).trans Go.out)
    clear hb
    have HZ := Lib.hid (lt_of_heap Go.out)
    replace Gn := Lib.hid (keepAl (o' := .cells (wcells X) 24) Gn.out)
    replace Gm := Lib.hid (keepAl (o' := .cells (wcells X) 24) Gm.out)
    replace Go := Lib.hid (keepAl (o' := .cells (wcells X) 24) Go.out)
    have Gu := Lib.hid (alloc_new (w3) (.cells (wcells X) 24))
    replace HB := Lib.hid (below_al HB.out (.cells (wcells X) 24))
    have cn := cell_row Gn.out
    have cm := cell_row Gm.out
    have sto := st_row (P := Try.prog) Go.out rfl (n)
    replace Gn := Lib.hid ((setRow_other ((w3).alloc (.cells (wcells X) 24)) (w.heap.size + 1 + 1) _ (wcells (n)) (by (have := HZ.out; omega))).trans Gn.out)
    replace Gm := Lib.hid ((setRow_other ((w3).alloc (.cells (wcells X) 24)) (w.heap.size + 1 + 1) _ (wcells (n)) (by (have := HZ.out; omega))).trans Gm.out)
    replace Gu := Lib.hid ((setRow_other ((w3).alloc (.cells (wcells X) 24)) (w.heap.size + 1 + 1) _ (wcells (n)) (by (have := HZ.out; omega))).trans Gu.out)
    replace Go := Lib.hid (setRow_heap ((w3).alloc (.cells (wcells X) 24)) (w.heap.size + 1 + 1) _ (wcells (n)) _ _ Go.out)
    replace HB := Lib.hid (below_setRow' HB.out (show _ ≤ w.heap.size + 1 + 1 by (have := HZ.out; omega)) (wcells (n)))
    have cGn := cell_row Gn.out
    have cGm := cell_row Gm.out
    have cGo := cell_row Go.out
    have cGu := cell_row Gu.out
    go_wp2
    exact bodyPost_ret (v := .tuple #[wv (n), .int .i64 0]) (res_ct Try.results18 _ _ _ _ _ _ _ rfl rfl Go.out aggW) rfl ⟨rfl, HB.out⟩
  · have hz := isZ_no hn h0
    rw [if_neg (by omega)]
    obtain rfl : b = false := HBb.out (by omega)
    clear hn h hr hr2 h0
    go_enter Try.func18, Try.ntmps18
    have HB := Lib.hid (Below.refl w.heap.size w)
    have Gn := Lib.hid (alloc_new (w) (.cells (wcells n) 24))
    replace HB := Lib.hid (below_al HB.out (.cells (wcells n) 24))
    replace Gn := Lib.hid (keepAl (o' := .cells #[.int .i64 m] 3) Gn.out)
    have Gm := Lib.hid (alloc_new' (w := (w).alloc (.cells (wcells n) 24)) (n := w.heap.size + 1) (.cells #[.int .i64 m] 3) (by simp))
    replace HB := Lib.hid (below_al HB.out (.cells #[.int .i64 m] 3))
    replace Gn := Lib.hid (keepAl (o' := .cells (wcells 0) 24) Gn.out)
    replace Gm := Lib.hid (keepAl (o' := .cells (wcells 0) 24) Gm.out)
    have Go := Lib.hid (alloc_new' (w := ((w).alloc (.cells (wcells n) 24)).alloc (.cells #[.int .i64 m] 3)) (n := w.heap.size + 1 + 1) (.cells (wcells 0) 24) (by simp))
    replace HB := Lib.hid (below_al HB.out (.cells (wcells 0) 24))
    have cGn := cell_row Gn.out
    have cGm := cell_row Gm.out
    have cGo := cell_row Go.out
    go_wp2_with fail
    refine (SN.out _).mono ?_
    rintro e w4 ⟨rfl, hb⟩
    clear cGn cGm cGo
    replace HB := Lib.hid (below_then HB.out hb)
    replace Gn := Lib.hid ((hb.block _ (lt_of_heap Gn.out)).trans Gn.out)
    replace Gm := Lib.hid ((hb.block _ (lt_of_heap Gm.out)).trans Gm.out)
    replace Go := Lib.hid ((hb.block _ (lt_of_heap Go.out)).trans Go.out)
    clear hb
    have HZ := Lib.hid (lt_of_heap Go.out)
    replace Gn := Lib.hid (keepAl (o' := .cells (wcells X) 24) Gn.out)
    replace Gm := Lib.hid (keepAl (o' := .cells (wcells X) 24) Gm.out)
    replace Go := Lib.hid (keepAl (o' := .cells (wcells X) 24) Go.out)
    have Gu := Lib.hid (alloc_new (w4) (.cells (wcells X) 24))
    replace HB := Lib.hid (below_al HB.out (.cells (wcells X) 24))
    have cn := cell_row Gn.out
    have cm := cell_row Gm.out
    have sto := st_row (P := Try.prog) Go.out rfl (0)
    replace Gn := Lib.hid ((setRow_other ((w4).alloc (.cells (wcells X) 24)) (w.heap.size + 1 + 1) _ (wcells (0)) (by (have := HZ.out; omega))).trans Gn.out)
    replace Gm := Lib.hid ((setRow_other ((w4).alloc (.cells (wcells X) 24)) (w.heap.size + 1 + 1) _ (wcells (0)) (by (have := HZ.out; omega))).trans Gm.out)
    replace Gu := Lib.hid ((setRow_other ((w4).alloc (.cells (wcells X) 24)) (w.heap.size + 1 + 1) _ (wcells (0)) (by (have := HZ.out; omega))).trans Gu.out)
    replace Go := Lib.hid (setRow_heap ((w4).alloc (.cells (wcells X) 24)) (w.heap.size + 1 + 1) _ (wcells (0)) _ _ Go.out)
    replace HB := Lib.hid (below_setRow' HB.out (show _ ≤ w.heap.size + 1 + 1 by (have := HZ.out; omega)) (wcells (0)))
    have cGn := cell_row Gn.out
    have cGm := cell_row Gm.out
    have cGo := cell_row Go.out
    have cGu := cell_row Gu.out
    go_wp2
    exact bodyPost_ret (v := .tuple #[wv (0), .int .i64 4]) (res_ct Try.results18 _ _ _ _ _ _ _ rfl rfl Go.out aggW) rfl ⟨rfl, HB.out⟩
set_option maxRecDepth 100000 in
set_option maxHeartbeats 2000000 in
theorem farS_yes (n m : Nat) (h0 : n ≠ 0) (hm : n < P2 256) (h64 : m ≤ 64) (w : World) :
    Calls Try.prog 18 #[wv n, .int .i64 (m : Int)] w fun e w' => e = .returned (.tuple #[wv (toW (rP (upN n) m)), .int .i64 0]) ∧ Below w.heap.size w w' := by
  have hn : n < M := Nat.lt_trans hm (by rw [M_eq]; exact P2_lt (by omega))
  have SN := Lib.hid (fun w' => normS_yes n h0 hm w')
  have hz := isZ_no hn h0
  obtain ⟨u1, u2, u3⟩ := up_range h0 hm
  have SB := Lib.hid (fun w' => beginS_w (upN n) u2 w')
  have S2 := Lib.hid (fun Mb Ob w' hne hMb hOb hM hO => farRunS_any (upN n) Mb Ob m w' h64 u1 u2 hne hMb hOb hM hO)
  have h1 : decide ((m : Int) < 0) = false := decide_eq_false (by omega)
  have h2 : decide (64 < (m : Int)) = false := decide_eq_false (by omega)
  obtain ⟨X, hX⟩ : ∃ x, x = upN n := ⟨_, rfl⟩
  rw [← hX] at SN S2 SB ⊢
  obtain ⟨c, hc⟩ : ∃ x, x = nrmN n := ⟨_, rfl⟩
  rw [← hc] at SN
  obtain ⟨P0, hP0⟩ : ∃ x, x = toW (rP X 0) := ⟨_, rfl⟩
  obtain ⟨L0, hL0⟩ : ∃ x, x = toW (rL X 0) := ⟨_, rfl⟩
  rw [← hP0, ← hL0] at SB
  rw [← hP0] at S2
  obtain ⟨V, hV⟩ : ∃ x, x = toW (rP X m) := ⟨_, rfl⟩
  rw [← hV] at S2 ⊢
  clear hn h0 hm u1 u2 u3 hX hc hP0 hL0 hV h64
  go_enter Try.func18, Try.ntmps18
  have HB := Lib.hid (Below.refl w.heap.size w)
  have Gn := Lib.hid (alloc_new (w) (.cells (wcells n) 24))
  replace HB := Lib.hid (below_al HB.out (.cells (wcells n) 24))
  replace Gn := Lib.hid (keepAl (o' := .cells #[.int .i64 (m : Int)] 3) Gn.out)
  have Gm := Lib.hid (alloc_new' (w := (w).alloc (.cells (wcells n) 24)) (n := w.heap.size + 1) (.cells #[.int .i64 (m : Int)] 3) (by simp))
  replace HB := Lib.hid (below_al HB.out (.cells #[.int .i64 (m : Int)] 3))
  replace Gn := Lib.hid (keepAl (o' := .cells (wcells 0) 24) Gn.out)
  replace Gm := Lib.hid (keepAl (o' := .cells (wcells 0) 24) Gm.out)
  have Go := Lib.hid (alloc_new' (w := ((w).alloc (.cells (wcells n) 24)).alloc (.cells #[.int .i64 (m : Int)] 3)) (n := w.heap.size + 1 + 1) (.cells (wcells 0) 24) (by simp))
  replace HB := Lib.hid (below_al HB.out (.cells (wcells 0) 24))
  have cGn := cell_row Gn.out
  have cGm := cell_row Gm.out
  have cGo := cell_row Go.out
  go_wp2_with fail
  refine (SN.out _).mono ?_
  rintro e w5 ⟨rfl, hb⟩
  clear cGn cGm cGo
  replace HB := Lib.hid (below_then HB.out hb)
  replace Gn := Lib.hid ((hb.block _ (lt_of_heap Gn.out)).trans Gn.out)
  replace Gm := Lib.hid ((hb.block _ (lt_of_heap Gm.out)).trans Gm.out)
  replace Go := Lib.hid ((hb.block _ (lt_of_heap Go.out)).trans Go.out)
  clear hb
  replace Gn := Lib.hid (keepAl (o' := .cells (wcells X) 24) Gn.out)
  replace Gm := Lib.hid (keepAl (o' := .cells (wcells X) 24) Gm.out)
  replace Go := Lib.hid (keepAl (o' := .cells (wcells X) 24) Go.out)
  have Gu := Lib.hid (alloc_new (w5) (.cells (wcells X) 24))
  replace HB := Lib.hid (below_al HB.out (.cells (wcells X) 24))
  have cGn := cell_row Gn.out
  have cGm := cell_row Gm.out
  have cGo := cell_row Go.out
  have cGu := cell_row Gu.out
  go_wp2_with fail
  refine (SB.out _).mono ?_
  rintro e w6 ⟨rfl, hb⟩
  clear cGn cGm cGo cGu
  replace HB := Lib.hid (below_then HB.out hb)
  replace Gn := Lib.hid ((hb.block _ (lt_of_heap Gn.out)).trans Gn.out)
  replace Gm := Lib.hid ((hb.block _ (lt_of_heap Gm.out)).trans Gm.out)
  replace Go := Lib.hid ((hb.block _ (lt_of_heap Go.out)).trans Go.out)
  replace Gu := Lib.hid ((hb.block _ (lt_of_heap Gu.out)).trans Gu.out)
  clear hb
  have HZ := Lib.hid (lt_of_heap Go.out)
  replace Gn := Lib.hid (keepAl (o' := .cells (wcells P0) 24) Gn.out)
  replace Gm := Lib.hid (keepAl (o' := .cells (wcells P0) 24) Gm.out)
  replace Go := Lib.hid (keepAl (o' := .cells (wcells P0) 24) Go.out)
  replace Gu := Lib.hid (keepAl (o' := .cells (wcells P0) 24) Gu.out)
  have Gp := Lib.hid (alloc_new (w6) (.cells (wcells P0) 24))
  replace HB := Lib.hid (below_al HB.out (.cells (wcells P0) 24))
  have cGn := cell_row Gn.out
  have cGm := cell_row Gm.out
  have cGo := cell_row Go.out
  have cGu := cell_row Gu.out
  have cGp := cell_row Gp.out
  go_wp2_with fail
  clear cGn cGm cGo cGu cGp
  obtain ⟨E, hE⟩ : ∃ E, E = w6.heap.size := ⟨_, rfl⟩
  have HE := Lib.hid (show w.heap.size + 1 + 1 < E by have := HZ.out; omega)
  rw [← hE] at Gp ⊢
  clear hE
  obtain ⟨wq, hw⟩ : ∃ wx, wx = (w6).alloc (.cells (wcells P0) 24) := ⟨_, rfl⟩
  rw [← hw] at Gn Gm Go Gu Gp HB ⊢
  clear hw
  refine (S2.out _ E _ (by have := HE.out; omega) (lt_of_heap Gm.out) (lt_of_heap Gp.out) Gm.out Gp.out).mono ?_
  rintro e wE ⟨rfl, hp, hbut⟩
  have hz3 := lt_of_heap Gp.out
  have hz4 := HE.out
  have hz5 := lt_of_heap Go.out
  replace HB := Lib.hid (But.below HB.out hbut HB.out.size (fun i hi => by omega))
  replace Go := Lib.hid (hbut.heap Go.out (by omega))
  replace Gp := Lib.hid hp
  clear hbut hp hz3 hz4 hz5 Gn Gm Gu
  have cp := cell_row Gp.out
  have sto := st_row (P := Try.prog) Go.out rfl (V)
  replace Gp := Lib.hid ((setRow_other (wE) (w.heap.size + 1 + 1) _ (wcells (V)) (by (have := HE.out; omega))).trans Gp.out)
  replace Go := Lib.hid (setRow_heap (wE) (w.heap.size + 1 + 1) _ (wcells (V)) _ _ Go.out)
  replace HB := Lib.hid (below_setRow' HB.out (show _ ≤ w.heap.size + 1 + 1 by (have := HE.out; omega)) (wcells (V)))
  have cGo := cell_row Go.out
  have cGp := cell_row Gp.out
  go_wp2
  exact bodyPost_ret (v := .tuple #[wv V, .int .i64 0]) (res_ct Try.results18 _ _ _ _ _ _ _ rfl rfl Go.out aggW) rfl ⟨rfl, HB.out⟩
end Go.Proofs.Ytffengboblekpaa
