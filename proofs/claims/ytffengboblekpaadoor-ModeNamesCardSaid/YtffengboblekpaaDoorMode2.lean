/- THE WALKS of package mode, going on: whether a number is rounded up. -/
import Derived.Test.YtffengboblekpaaDoorMode
import Derived.Laws.EntriesVeiled
namespace Go.Proofs.YtffengboblekpaaDoor
open Go Go.RowKit

set_option maxHeartbeats 1000000 in
theorem grow1 (rest : Int) (odd : Bool) (p q : Nat) (w : World) (hp : w.cell? ⟨p, 0, none⟩ = some (.int .i64 rest)) (hq : w.cell? ⟨q, 0, none⟩ = some (.bool odd)) :
    Calls Tryd.prog 99 #[.pointer (some ⟨p, 0, none⟩), .pointer (some ⟨q, 0, none⟩)] w fun e w' => e = .returned (.bool (rest == 3 || (rest == 2 && odd))) ∧ Below w.heap.size w w' := by
  by_cases h3 : rest = 3
  · have HV := Lib.hid (show (rest == 3 || (rest == 2 && odd)) = true by simp [h3])
    have e3 : (rest == 3) = true := by simp [h3]
    clear h3
    go_enter Tryd.func99, Tryd.ntmps99
    go_wp2
    go_ret
    exact ⟨ret_bool HV.out.symm, Below.refl _ _⟩
  · have e3 : (rest == 3) = false := by simp [h3]
    by_cases h2 : rest = 2
    · have HV := Lib.hid (show (rest == 3 || (rest == 2 && odd)) = odd by simp [h2])
      have e2 : (rest == 2) = true := by simp [h2]
      clear h3 h2
      go_enter Tryd.func99, Tryd.ntmps99
      go_wp2
      go_ret
      exact ⟨ret_bool HV.out.symm, Below.refl _ _⟩
    · have HV := Lib.hid (show (rest == 3 || (rest == 2 && odd)) = false by simp [h2, h3])
      have e2 : (rest == 2) = false := by simp [h2]
      clear h3 h2
      go_enter Tryd.func99, Tryd.ntmps99
      go_wp2
      go_ret
      exact ⟨ret_bool HV.out.symm, Below.refl _ _⟩
theorem grow2 (rest : Int) (p : Nat) (w : World) (hp : w.cell? ⟨p, 0, none⟩ = some (.int .i64 rest)) :
    Calls Tryd.prog 100 #[.pointer (some ⟨p, 0, none⟩)] w fun e w' => e = .returned (.bool (rest != 1)) ∧ Below w.heap.size w w' := by
  go_enter Tryd.func100, Tryd.ntmps100
  go_wp2
  go_ret
  exact ⟨rfl, Below.refl _ _⟩
theorem grow3 (w : World) : Calls Tryd.prog 101 #[] w fun e w' => e = .returned (.bool false) ∧ Below w.heap.size w w' := by
  go_enter Tryd.func101, Tryd.ntmps101
  go_wp2
  go_ret
  exact ⟨rfl, Below.refl _ _⟩
theorem grow4 (neg : Bool) (p : Nat) (w : World) (hp : w.cell? ⟨p, 0, none⟩ = some (.bool neg)) :
    Calls Tryd.prog 102 #[.pointer (some ⟨p, 0, none⟩)] w fun e w' => e = .returned (.bool (!neg)) ∧ Below w.heap.size w w' := by
  go_enter Tryd.func102, Tryd.ntmps102
  go_wp2
  go_ret
  exact ⟨rfl, Below.refl _ _⟩
theorem grow5 (neg : Bool) (p : Nat) (w : World) (hp : w.cell? ⟨p, 0, none⟩ = some (.bool neg)) :
    Calls Tryd.prog 103 #[.pointer (some ⟨p, 0, none⟩)] w fun e w' => e = .returned (.bool neg) ∧ Below w.heap.size w w' := by
  go_enter Tryd.func103, Tryd.ntmps103
  go_wp2
  go_ret
  exact ⟨rfl, Below.refl _ _⟩

attribute [local go_sem ↓] Go.wp_at_zero Go.wp_at_succ
set_option maxRecDepth 100000 in
set_option maxHeartbeats 4000000 in
theorem grows_w (m : Int) (neg odd : Bool) (rest : Int) (w : World) :
    Calls Tryd.prog 81 #[.int .i64 m, .bool neg, .bool odd, .int .i64 rest] w fun e w' => e = .returned (.bool (isMode m && growsN m neg odd rest)) ∧ Below w.heap.size w w' := by
  by_cases hm : isMode m = true
  · by_cases hr : rest < 1 ∨ 3 < rest
    · have HV := Lib.hid (show (isMode m && growsN m neg odd rest) = false by unfold growsN; rw [if_pos hr]; simp)
      have SI := Lib.hid (fun w' => mode_is m w')
      rw [hm] at SI
      rcases hr with h1 | h1
      · clear hm
        go_enter Tryd.func81, Tryd.ntmps81
        have HB := Lib.hid (Below.refl w.heap.size w)
        have Gn := Lib.hid (alloc_new (w) (.cells #[.bool neg] 4))
        replace HB := Lib.hid (below_al HB.out (.cells #[.bool neg] 4))
        replace Gn := Lib.hid (keepAl (o' := .cells #[.bool odd] 4) Gn.out)
        have Go := Lib.hid (alloc_new' (w := (w).alloc (.cells #[.bool neg] 4)) (n := w.heap.size + 1) (.cells #[.bool odd] 4) (by simp))
        replace HB := Lib.hid (below_al HB.out (.cells #[.bool odd] 4))
        replace Gn := Lib.hid (keepAl (o' := .cells #[.int .i64 (rest)] 3) Gn.out)
        replace Go := Lib.hid (keepAl (o' := .cells #[.int .i64 (rest)] 3) Go.out)
        have Gr := Lib.hid (alloc_new' (w := ((w).alloc (.cells #[.bool neg] 4)).alloc (.cells #[.bool odd] 4)) (n := w.heap.size + 1 + 1) (.cells #[.int .i64 (rest)] 3) (by simp))
        replace HB := Lib.hid (below_al HB.out (.cells #[.int .i64 (rest)] 3))
        have cGn := cell_row Gn.out
        have cGo := cell_row Go.out
        have cGr := cell_row Gr.out
        go_wp2_with fail
        refine (SI.out _).mono ?_
        rintro e w1 ⟨rfl, hb⟩
        clear cGn cGo cGr
        replace HB := Lib.hid (below_then HB.out hb)
        replace Gn := Lib.hid ((hb.block _ (lt_of_heap Gn.out)).trans Gn.out)
        replace Go := Lib.hid ((hb.block _ (lt_of_heap Go.out)).trans Go.out)
        replace Gr := Lib.hid ((hb.block _ (lt_of_heap Gr.out)).trans Gr.out)
        clear hb
        have cGn := cell_row Gn.out
        have cGo := cell_row Go.out
        have cGr := cell_row Gr.out
        go_wp2
        go_ret
        exact ⟨ret_bool HV.out.symm, HB.out⟩
      · have h2 : ¬ rest < 1 := by omega
        clear hm
        go_enter Tryd.func81, Tryd.ntmps81
        have HB := Lib.hid (Below.refl w.heap.size w)
        have Gn := Lib.hid (alloc_new (w) (.cells #[.bool neg] 4))
        replace HB := Lib.hid (below_al HB.out (.cells #[.bool neg] 4))
        replace Gn := Lib.hid (keepAl (o' := .cells #[.bool odd] 4) Gn.out)
        have Go := Lib.hid (alloc_new' (w := (w).alloc (.cells #[.bool neg] 4)) (n := w.heap.size + 1) (.cells #[.bool odd] 4) (by simp))
        replace HB := Lib.hid (below_al HB.out (.cells #[.bool odd] 4))
        replace Gn := Lib.hid (keepAl (o' := .cells #[.int .i64 (rest)] 3) Gn.out)
        replace Go := Lib.hid (keepAl (o' := .cells #[.int .i64 (rest)] 3) Go.out)
        have Gr := Lib.hid (alloc_new' (w := ((w).alloc (.cells #[.bool neg] 4)).alloc (.cells #[.bool odd] 4)) (n := w.heap.size + 1 + 1) (.cells #[.int .i64 (rest)] 3) (by simp))
        replace HB := Lib.hid (below_al HB.out (.cells #[.int .i64 (rest)] 3))
        have cGn := cell_row Gn.out
        have cGo := cell_row Go.out
        have cGr := cell_row Gr.out
        go_wp2_with fail
        refine (SI.out _).mono ?_
        rintro e w2 ⟨rfl, hb⟩
        clear cGn cGo cGr
        replace HB := Lib.hid (below_then HB.out hb)
        replace Gn := Lib.hid ((hb.block _ (lt_of_heap Gn.out)).trans Gn.out)
        replace Go := Lib.hid ((hb.block _ (lt_of_heap Go.out)).trans Go.out)
        replace Gr := Lib.hid ((hb.block _ (lt_of_heap Gr.out)).trans Gr.out)
        clear hb
        have cGn := cell_row Gn.out
        have cGo := cell_row Go.out
        have cGr := cell_row Gr.out
        go_wp2
        go_ret
        exact ⟨ret_bool HV.out.symm, HB.out⟩
    · have h1 : ¬ rest < 1 := by omega
      have h3 : ¬ 3 < rest := by omega
      have hm5 : m = 1 ∨ m = 2 ∨ m = 3 ∨ m = 4 ∨ m = 5 := by
        have := of_decide_eq_true hm
        omega
      have SI := Lib.hid (fun w' => mode_is m w')
      rw [hm] at SI
      rcases hm5 with rfl | rfl | rfl | rfl | rfl
      · have HV := Lib.hid (show (isMode 1 && growsN 1 neg odd rest) = (rest == 3 || (rest == 2 && odd)) by rw [hm]; unfold growsN; rw [if_neg (by omega)]; simp)
        clear hm hr
        go_enter Tryd.func81, Tryd.ntmps81
        have HB := Lib.hid (Below.refl w.heap.size w)
        have Gn := Lib.hid (alloc_new (w) (.cells #[.bool neg] 4))
        replace HB := Lib.hid (below_al HB.out (.cells #[.bool neg] 4))
        replace Gn := Lib.hid (keepAl (o' := .cells #[.bool odd] 4) Gn.out)
        have Go := Lib.hid (alloc_new' (w := (w).alloc (.cells #[.bool neg] 4)) (n := w.heap.size + 1) (.cells #[.bool odd] 4) (by simp))
        replace HB := Lib.hid (below_al HB.out (.cells #[.bool odd] 4))
        replace Gn := Lib.hid (keepAl (o' := .cells #[.int .i64 (rest)] 3) Gn.out)
        replace Go := Lib.hid (keepAl (o' := .cells #[.int .i64 (rest)] 3) Go.out)
        have Gr := Lib.hid (alloc_new' (w := ((w).alloc (.cells #[.bool neg] 4)).alloc (.cells #[.bool odd] 4)) (n := w.heap.size + 1 + 1) (.cells #[.int .i64 (rest)] 3) (by simp))
        replace HB := Lib.hid (below_al HB.out (.cells #[.int .i64 (rest)] 3))
        have cGn := cell_row Gn.out
        have cGo := cell_row Go.out
        have cGr := cell_row Gr.out
        go_wp2_with fail
        refine (SI.out _).mono ?_
        rintro e w3 ⟨rfl, hb⟩
        clear cGn cGo cGr
        replace HB := Lib.hid (below_then HB.out hb)
        replace Gn := Lib.hid ((hb.block _ (lt_of_heap Gn.out)).trans Gn.out)
        replace Go := Lib.hid ((hb.block _ (lt_of_heap Go.out)).trans Go.out)
        replace Gr := Lib.hid ((hb.block _ (lt_of_heap Gr.out)).trans Gr.out)
        clear hb
        have HB := Lib.hid HB.out
        have cGn := cell_row Gn.out
        have cGo := cell_row Go.out
        have cGr := cell_row Gr.out
        go_wp2_with fail
        refine (grow1 rest odd _ _ _ (cell_row (keepAl Gr.out) 0) (cell_row (keepAl Go.out) 0)).mono ?_
        rintro e wG ⟨rfl, hb⟩
        have HB2 := Lib.hid (below_then (below_al HB.out _) hb)
        clear hb cGn cGo cGr
        go_wp2
        go_ret
        exact ⟨ret_bool HV.out.symm, HB2.out⟩
      · have HV := Lib.hid (show (isMode 2 && growsN 2 neg odd rest) = (rest != 1) by rcases (show rest = 1 ∨ rest = 2 ∨ rest = 3 by omega) with rfl | rfl | rfl <;> simp [growsN, isMode])
        clear hm hr
        go_enter Tryd.func81, Tryd.ntmps81
        have HB := Lib.hid (Below.refl w.heap.size w)
        have Gn := Lib.hid (alloc_new (w) (.cells #[.bool neg] 4))
        replace HB := Lib.hid (below_al HB.out (.cells #[.bool neg] 4))
        replace Gn := Lib.hid (keepAl (o' := .cells #[.bool odd] 4) Gn.out)
        have Go := Lib.hid (alloc_new' (w := (w).alloc (.cells #[.bool neg] 4)) (n := w.heap.size + 1) (.cells #[.bool odd] 4) (by simp))
        replace HB := Lib.hid (below_al HB.out (.cells #[.bool odd] 4))
        replace Gn := Lib.hid (keepAl (o' := .cells #[.int .i64 (rest)] 3) Gn.out)
        replace Go := Lib.hid (keepAl (o' := .cells #[.int .i64 (rest)] 3) Go.out)
        have Gr := Lib.hid (alloc_new' (w := ((w).alloc (.cells #[.bool neg] 4)).alloc (.cells #[.bool odd] 4)) (n := w.heap.size + 1 + 1) (.cells #[.int .i64 (rest)] 3) (by simp))
        replace HB := Lib.hid (below_al HB.out (.cells #[.int .i64 (rest)] 3))
        have cGn := cell_row Gn.out
        have cGo := cell_row Go.out
        have cGr := cell_row Gr.out
        go_wp2_with fail
        refine (SI.out _).mono ?_
        rintro e w4 ⟨rfl, hb⟩
        clear cGn cGo cGr
        replace HB := Lib.hid (below_then HB.out hb)
        replace Gn := Lib.hid ((hb.block _ (lt_of_heap Gn.out)).trans Gn.out)
        replace Go := Lib.hid ((hb.block _ (lt_of_heap Go.out)).trans Go.out)
        replace Gr := Lib.hid ((hb.block _ (lt_of_heap Gr.out)).trans Gr.out)
        clear hb
        have HB := Lib.hid HB.out
        have cGn := cell_row Gn.out
        have cGo := cell_row Go.out
        have cGr := cell_row Gr.out
        go_wp2_with fail
        refine (grow2 rest _ _ (cell_row (keepAl Gr.out) 0)).mono ?_
        rintro e wG ⟨rfl, hb⟩
        have HB2 := Lib.hid (below_then (below_al HB.out _) hb)
        clear hb cGn cGo cGr
        go_wp2
        go_ret
        exact ⟨ret_bool HV.out.symm, HB2.out⟩
      · have HV := Lib.hid (show (isMode 3 && growsN 3 neg odd rest) = false by rw [hm]; unfold growsN; rw [if_neg (by omega)]; simp)
        clear hm hr
        go_enter Tryd.func81, Tryd.ntmps81
        have HB := Lib.hid (Below.refl w.heap.size w)
        have Gn := Lib.hid (alloc_new (w) (.cells #[.bool neg] 4))
        replace HB := Lib.hid (below_al HB.out (.cells #[.bool neg] 4))
        replace Gn := Lib.hid (keepAl (o' := .cells #[.bool odd] 4) Gn.out)
        have Go := Lib.hid (alloc_new' (w := (w).alloc (.cells #[.bool neg] 4)) (n := w.heap.size + 1) (.cells #[.bool odd] 4) (by simp))
        replace HB := Lib.hid (below_al HB.out (.cells #[.bool odd] 4))
        replace Gn := Lib.hid (keepAl (o' := .cells #[.int .i64 (rest)] 3) Gn.out)
        replace Go := Lib.hid (keepAl (o' := .cells #[.int .i64 (rest)] 3) Go.out)
        have Gr := Lib.hid (alloc_new' (w := ((w).alloc (.cells #[.bool neg] 4)).alloc (.cells #[.bool odd] 4)) (n := w.heap.size + 1 + 1) (.cells #[.int .i64 (rest)] 3) (by simp))
        replace HB := Lib.hid (below_al HB.out (.cells #[.int .i64 (rest)] 3))
        have cGn := cell_row Gn.out
        have cGo := cell_row Go.out
        have cGr := cell_row Gr.out
        go_wp2_with fail
        refine (SI.out _).mono ?_
        rintro e w5 ⟨rfl, hb⟩
        clear cGn cGo cGr
        replace HB := Lib.hid (below_then HB.out hb)
        replace Gn := Lib.hid ((hb.block _ (lt_of_heap Gn.out)).trans Gn.out)
        replace Go := Lib.hid ((hb.block _ (lt_of_heap Go.out)).trans Go.out)
        replace Gr := Lib.hid ((hb.block _ (lt_of_heap Gr.out)).trans Gr.out)
        clear hb
        have HB := Lib.hid HB.out
        have cGn := cell_row Gn.out
        have cGo := cell_row Go.out
        have cGr := cell_row Gr.out
        go_wp2_with fail
        refine (grow3 _).mono ?_
        rintro e wG ⟨rfl, hb⟩
        have HB2 := Lib.hid (below_then (below_al HB.out _) hb)
        clear hb cGn cGo cGr
        go_wp2
        go_ret
        exact ⟨ret_bool HV.out.symm, HB2.out⟩
      · have HV := Lib.hid (show (isMode 4 && growsN 4 neg odd rest) = !neg by rw [hm]; unfold growsN; rw [if_neg (by omega)]; simp)
        clear hm hr
        go_enter Tryd.func81, Tryd.ntmps81
        have HB := Lib.hid (Below.refl w.heap.size w)
        have Gn := Lib.hid (alloc_new (w) (.cells #[.bool neg] 4))
        replace HB := Lib.hid (below_al HB.out (.cells #[.bool neg] 4))
        replace Gn := Lib.hid (keepAl (o' := .cells #[.bool odd] 4) Gn.out)
        have Go := Lib.hid (alloc_new' (w := (w).alloc (.cells #[.bool neg] 4)) (n := w.heap.size + 1) (.cells #[.bool odd] 4) (by simp))
        replace HB := Lib.hid (below_al HB.out (.cells #[.bool odd] 4))
        replace Gn := Lib.hid (keepAl (o' := .cells #[.int .i64 (rest)] 3) Gn.out)
        replace Go := Lib.hid (keepAl (o' := .cells #[.int .i64 (rest)] 3) Go.out)
        have Gr := Lib.hid (alloc_new' (w := ((w).alloc (.cells #[.bool neg] 4)).alloc (.cells #[.bool odd] 4)) (n := w.heap.size + 1 + 1) (.cells #[.int .i64 (rest)] 3) (by simp))
        replace HB := Lib.hid (below_al HB.out (.cells #[.int .i64 (rest)] 3))
        have cGn := cell_row Gn.out
        have cGo := cell_row Go.out
        have cGr := cell_row Gr.out
        go_wp2_with fail
        refine (SI.out _).mono ?_
        rintro e w6 ⟨rfl, hb⟩
        clear cGn cGo cGr
        replace HB := Lib.hid (below_then HB.out hb)
        replace Gn := Lib.hid ((hb.block _ (lt_of_heap Gn.out)).trans Gn.out)
        replace Go := Lib.hid ((hb.block _ (lt_of_heap Go.out)).trans Go.out)
        replace Gr := Lib.hid ((hb.block _ (lt_of_heap Gr.out)).trans Gr.out)
        clear hb
        have HB := Lib.hid HB.out
        have cGn := cell_row Gn.out
        have cGo := cell_row Go.out
        have cGr := cell_row Gr.out
        go_wp2_with fail
        refine (grow4 neg _ _ (cell_row (keepAl Gn.out) 0)).mono ?_
        rintro e wG ⟨rfl, hb⟩
        have HB2 := Lib.hid (below_then (below_al HB.out _) hb)
        clear hb cGn cGo cGr
        go_wp2
        go_ret
        exact ⟨ret_bool HV.out.symm, HB2.out⟩
      · have HV := Lib.hid (show (isMode 5 && growsN 5 neg odd rest) = neg by rw [hm]; unfold growsN; rw [if_neg (by omega)]; simp)
        clear hm hr
        go_enter Tryd.func81, Tryd.ntmps81
        have HB := Lib.hid (Below.refl w.heap.size w)
        have Gn := Lib.hid (alloc_new (w) (.cells #[.bool neg] 4))
        replace HB := Lib.hid (below_al HB.out (.cells #[.bool neg] 4))
        replace Gn := Lib.hid (keepAl (o' := .cells #[.bool odd] 4) Gn.out)
        have Go := Lib.hid (alloc_new' (w := (w).alloc (.cells #[.bool neg] 4)) (n := w.heap.size + 1) (.cells #[.bool odd] 4) (by simp))
        replace HB := Lib.hid (below_al HB.out (.cells #[.bool odd] 4))
        replace Gn := Lib.hid (keepAl (o' := .cells #[.int .i64 (rest)] 3) Gn.out)
        replace Go := Lib.hid (keepAl (o' := .cells #[.int .i64 (rest)] 3) Go.out)
        have Gr := Lib.hid (alloc_new' (w := ((w).alloc (.cells #[.bool neg] 4)).alloc (.cells #[.bool odd] 4)) (n := w.heap.size + 1 + 1) (.cells #[.int .i64 (rest)] 3) (by simp))
        replace HB := Lib.hid (below_al HB.out (.cells #[.int .i64 (rest)] 3))
        have cGn := cell_row Gn.out
        have cGo := cell_row Go.out
        have cGr := cell_row Gr.out
        go_wp2_with fail
        refine (SI.out _).mono ?_
        rintro e w7 ⟨rfl, hb⟩
        clear cGn cGo cGr
        replace HB := Lib.hid (below_then HB.out hb)
        replace Gn := Lib.hid ((hb.block _ (lt_of_heap Gn.out)).trans Gn.out)
        replace Go := Lib.hid ((hb.block _ (lt_of_heap Go.out)).trans Go.out)
        replace Gr := Lib.hid ((hb.block _ (lt_of_heap Gr.out)).trans Gr.out)
        clear hb
        have HB := Lib.hid HB.out
        have cGn := cell_row Gn.out
        have cGo := cell_row Go.out
        have cGr := cell_row Gr.out
        go_wp2_with fail
        refine (grow5 neg _ _ (cell_row (keepAl Gn.out) 0)).mono ?_
        rintro e wG ⟨rfl, hb⟩
        have HB2 := Lib.hid (below_then (below_al HB.out _) hb)
        clear hb cGn cGo cGr
        go_wp2
        go_ret
        exact ⟨ret_bool HV.out.symm, HB2.out⟩
  · have hm' : isMode m = false := by simpa using hm
    have HV := Lib.hid (show (isMode m && growsN m neg odd rest) = false by rw [hm']; rfl)
    have SI := Lib.hid (fun w' => mode_is m w')
    rw [hm'] at SI
    clear hm hm'
    go_enter Tryd.func81, Tryd.ntmps81
    have HB := Lib.hid (Below.refl w.heap.size w)
    have Gn := Lib.hid (alloc_new (w) (.cells #[.bool neg] 4))
    replace HB := Lib.hid (below_al HB.out (.cells #[.bool neg] 4))
    replace Gn := Lib.hid (keepAl (o' := .cells #[.bool odd] 4) Gn.out)
    have Go := Lib.hid (alloc_new' (w := (w).alloc (.cells #[.bool neg] 4)) (n := w.heap.size + 1) (.cells #[.bool odd] 4) (by simp))
    replace HB := Lib.hid (below_al HB.out (.cells #[.bool odd] 4))
    replace Gn := Lib.hid (keepAl (o' := .cells #[.int .i64 (rest)] 3) Gn.out)
    replace Go := Lib.hid (keepAl (o' := .cells #[.int .i64 (rest)] 3) Go.out)
    have Gr := Lib.hid (alloc_new' (w := ((w).alloc (.cells #[.bool neg] 4)).alloc (.cells #[.bool odd] 4)) (n := w.heap.size + 1 + 1) (.cells #[.int .i64 (rest)] 3) (by simp))
    replace HB := Lib.hid (below_al HB.out (.cells #[.int .i64 (rest)] 3))
    have cGn := cell_row Gn.out
    have cGo := cell_row Go.out
    have cGr := cell_row Gr.out
    go_wp2_with fail
    refine (SI.out _).mono ?_
    rintro e w8 ⟨rfl, hb⟩
    clear cGn cGo cGr
    replace HB := Lib.hid (below_then HB.out hb)
    replace Gn := Lib.hid ((hb.block _ (lt_of_heap Gn.out)).trans Gn.out)
    replace Go := Lib.hid ((hb.block _ (lt_of_heap Go.out)).trans Go.out)
    replace Gr := Lib.hid ((hb.block _ (lt_of_heap Gr.out)).trans Gr.out)
    clear hb
    have cGn := cell_row Gn.out
    have cGo := cell_row Go.out
    have cGr := cell_row Gr.out
    go_wp2
    go_ret
    exact ⟨ret_bool HV.out.symm, HB.out⟩

end Go.Proofs.YtffengboblekpaaDoor
