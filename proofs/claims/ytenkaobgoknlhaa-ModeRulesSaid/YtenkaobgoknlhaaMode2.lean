/- THE WALKS of package mode, going on: whether a number is rounded up. -/
import Derived.Test.YtenkaobgoknlhaaMode
import Derived.Laws.EntriesVeiled
namespace Go.Proofs.Ytenkaobgoknlhaa
open Go Go.RowKit

set_option maxHeartbeats 1000000 in
theorem grow1 (rest : Int) (odd : Bool) (p q : Nat) (w : World) (hp : w.cell? ⟨p, 0, none⟩ = some (.int .i64 rest)) (hq : w.cell? ⟨q, 0, none⟩ = some (.bool odd)) :
    Calls Try.prog 131 #[.pointer (some ⟨p, 0, none⟩), .pointer (some ⟨q, 0, none⟩)] w fun e w' => e = .returned (.bool (rest == 3 || (rest == 2 && odd))) ∧ Below w.heap.size w w' := by
  by_cases h3 : rest = 3
  · have HV := Lib.hid (show (rest == 3 || (rest == 2 && odd)) = true by simp [h3])
    have e3 : (rest == 3) = true := by simp [h3]
    clear h3
    go_enter Try.func131, Try.ntmps131
    go_wp2
    go_ret
    exact ⟨ret_bool HV.out.symm, Below.refl _ _⟩
  · have e3 : (rest == 3) = false := by simp [h3]
    by_cases h2 : rest = 2
    · have HV := Lib.hid (show (rest == 3 || (rest == 2 && odd)) = odd by simp [h2])
      have e2 : (rest == 2) = true := by simp [h2]
      clear h3 h2
      go_enter Try.func131, Try.ntmps131
      go_wp2
      go_ret
      exact ⟨ret_bool HV.out.symm, Below.refl _ _⟩
    · have HV := Lib.hid (show (rest == 3 || (rest == 2 && odd)) = false by simp [h2, h3])
      have e2 : (rest == 2) = false := by simp [h2]
      clear h3 h2
      go_enter Try.func131, Try.ntmps131
      go_wp2
      go_ret
      exact ⟨ret_bool HV.out.symm, Below.refl _ _⟩
theorem grow2 (rest : Int) (p : Nat) (w : World) (hp : w.cell? ⟨p, 0, none⟩ = some (.int .i64 rest)) :
    Calls Try.prog 132 #[.pointer (some ⟨p, 0, none⟩)] w fun e w' => e = .returned (.bool (rest != 1)) ∧ Below w.heap.size w w' := by
  go_enter Try.func132, Try.ntmps132
  go_wp2
  go_ret
  exact ⟨rfl, Below.refl _ _⟩
theorem grow3 (w : World) : Calls Try.prog 133 #[] w fun e w' => e = .returned (.bool false) ∧ Below w.heap.size w w' := by
  go_enter Try.func133, Try.ntmps133
  go_wp2
  go_ret
  exact ⟨rfl, Below.refl _ _⟩
theorem grow4 (neg : Bool) (p : Nat) (w : World) (hp : w.cell? ⟨p, 0, none⟩ = some (.bool neg)) :
    Calls Try.prog 134 #[.pointer (some ⟨p, 0, none⟩)] w fun e w' => e = .returned (.bool (!neg)) ∧ Below w.heap.size w w' := by
  go_enter Try.func134, Try.ntmps134
  go_wp2
  go_ret
  exact ⟨rfl, Below.refl _ _⟩
theorem grow5 (neg : Bool) (p : Nat) (w : World) (hp : w.cell? ⟨p, 0, none⟩ = some (.bool neg)) :
    Calls Try.prog 135 #[.pointer (some ⟨p, 0, none⟩)] w fun e w' => e = .returned (.bool neg) ∧ Below w.heap.size w w' := by
  go_enter Try.func135, Try.ntmps135
  go_wp2
  go_ret
  exact ⟨rfl, Below.refl _ _⟩

attribute [local go_sem ↓] Go.wp_at_zero Go.wp_at_succ
set_option maxRecDepth 100000 in
set_option maxHeartbeats 4000000 in
theorem grows_w (m : Int) (neg odd : Bool) (rest : Int) (w : World) :
    Calls Try.prog 82 #[.int .i64 m, .bool neg, .bool odd, .int .i64 rest] w fun e w' => e = .returned (.bool (isMode m && growsN m neg odd rest)) ∧ Below w.heap.size w w' := by
  by_cases hm : isMode m = true
  · by_cases hr : rest < 1 ∨ 3 < rest
    · have HV := Lib.hid (show (isMode m && growsN m neg odd rest) = false by unfold growsN; rw [if_pos hr]; simp)
      have SI := Lib.hid (fun w' => mode_is m w')
      rw [hm] at SI
      rcases hr with h1 | h1
      · clear hm
        go_enter Try.func82, Try.ntmps82
        have HB := Lib.hid (Below.refl w.heap.size w)
        have Gn := Lib.hid (alloc_new (w) (.cells #[.bool neg] 4))
        replace HB := Lib.hid (below_al HB.out (.cells #[.bool neg] 4))
        replace Gn := Lib.hid (keepAl (o' := .cells #[.bool odd] 4) Gn.out)
        have Go := Lib.hid (alloc_new' (w := (w).alloc (.cells #[.bool neg] 4)) (n := w.heap.size + 1) (.cells #[.bool odd] 4) (by simp))
        replace HB := Lib.hid (below_al HB.out (.cells #[.bool odd] 4))
        replace Gn := Lib.hid (keepAl (o' := .cells #[.int .i64 (rest)] 3) Gn.out)
        replace Go := Lib.hid (keepAl (o' := .cells #[.int .i64 (rest)] 3) Go.out)
        have Gr := Lib.hid (alloc_new' (w := ((w).alloc (.cells #[.bool neg] 4)).alloc (.cells #[.bool odd] 4)) (n := w.heap.size + 1 + 1) (.cells #[.int .i64 (rest)] 3) (by simp))
        replace HB := Lib.hid (below_al HB.out (.cells #[.int .i64 (rest)] 3))
        have cGn := cell_row Gn.out
        have cGo := cell_row Go.out
        have cGr := cell_row Gr.out
        go_wp2_with fail
        refine (SI.out _).mono ?_
        rintro e w1 ⟨rfl, hb⟩
        clear cGn cGo cGr
        replace HB := Lib.hid (below_then HB.out hb)
        replace Gn := Lib.hid ((hb.block _ (lt_of_heap Gn.out)).trans Gn.out)
        replace Go := Lib.hid ((hb.block _ (lt_of_heap Go.out)).trans Go.out)
        replace Gr := Lib.hid ((hb.block _ (lt_of_heap Gr.out)).trans Gr.out)
        clear hb
        have cGn := cell_row Gn.out
        have cGo := cell_row Go.out
        have cGr := cell_row Gr.out
        go_wp2
        go_ret
        exact ⟨ret_bool HV.out.symm, HB.out⟩
      · have h2 : ¬ rest < 1 := by omega
        clear hm
        go_enter Try.func82, Try.ntmps82
        have HB := Lib.hid (Below.refl w.heap.size w)
        have Gn := Lib.hid (alloc_new (w) (.cells #[.bool neg] 4))
        replace HB := Lib.hid (below_al HB.out (.cells #[.bool neg] 4))
        replace Gn := Lib.hid (keepAl (o' := .cells #[.bool odd] 4) Gn.out)
        have Go := Lib.hid (alloc_new' (w := (w).alloc (.cells #[.bool neg] 4)) (n := w.heap.size + 1) (.cells #[.bool odd] 4) (by simp))
        replace HB := Lib.hid (below_al HB.out (.cells #[.bool odd] 4))
        replace Gn := Lib.hid (keepAl (o' := .cells #[.int .i64 (rest)] 3) Gn.out)
        replace Go := Lib.hid (keepAl (o' := .cells #[.int .i64 (rest)] 3) Go.out)
        have Gr := Lib.hid (alloc_new' (w := ((w).alloc (.cells #[.bool neg] 4)).alloc (.cells #[.bool odd] 4)) (n := w.heap.size + 1 + 1) (.cells #[.int .i64 (rest)] 3) (by simp))
        replace HB := Lib.hid (below_al HB.out (.cells #[.int .i64 (rest)] 3))
        have cGn := cell_row Gn.out
        have cGo := cell_row Go.out
        have cGr := cell_row Gr.out
        go_wp2_with fail
        refine (SI.out _).mono ?_
        rintro e w2 ⟨rfl, hb⟩
        clear cGn cGo cGr
        replace HB := Lib.hid (below_then HB.out hb)
        replace Gn := Lib.hid ((hb.block _ (lt_of_heap Gn.out)).trans Gn.out)
        replace Go := Lib.hid ((hb.block _ (lt_of_heap Go.out)).trans Go.out)
        replace Gr := Lib.hid ((hb.block _ (lt_of_heap Gr.out)).trans Gr.out)
        clear hb
        have cGn := cell_row Gn.out
        have cGo := cell_row Go.out
        have cGr := cell_row Gr.out
        go_wp2
        go_ret
        exact ⟨ret_bool HV.out.symm, HB.out⟩
    · have h1 : ¬ rest < 1 := by omega
      have h3 : ¬ 3 < rest := by omega
      have hm5 : m = 1 ∨ m = 2 ∨ m = 3 ∨ m = 4 ∨ m = 5 := by
        have := of_decide_eq_true hm
        omega
      have SI := Lib.hid (fun w' => mode_is m w')
      rw [hm] at SI
      rcases hm5 with rfl | rfl | rfl | rfl | rfl
      · have HV := Lib.hid (show (isMode 1 && growsN 1 neg odd rest) = (rest == 3 || (rest == 2 && odd)) by rw [hm]; unfold growsN; rw [if_neg (by omega)]; simp)
        clear hm hr
        go_enter Try.func82, Try.ntmps82
        have HB := Lib.hid (Below.refl w.heap.size w)
        have Gn := Lib.hid (alloc_new (w) (.cells #[.bool neg] 4))
        replace HB := Lib.hid (below_al HB.out (.cells #[.bool neg] 4))
        replace Gn := Lib.hid (keepAl (o' := .cells #[.bool odd] 4) Gn.out)
        have Go := Lib.hid (alloc_new' (w := (w).alloc (.cells #[.bool neg] 4)) (n := w.heap.size + 1) (.cells #[.bool odd] 4) (by simp))
        replace HB := Lib.hid (below_al HB.out (.cells #[.bool odd] 4))
        replace Gn := Lib.hid (keepAl (o' := .cells #[.int .i64 (rest)] 3) Gn.out)
        replace Go := Lib.hid (keepAl (o' := .cells #[.int .i64 (rest)] 3) Go.out)
        have Gr := Lib.hid (alloc_new' (w := ((w).alloc (.cells #[.bool neg] 4)).alloc (.cells #[.bool odd] 4)) (n := w.heap.size + 1 + 1) (.cells #[.int .i64 (rest)] 3) (by simp))
        replace HB := Lib.hid (below_al HB.out (.cells #[.int .i64 (rest)] 3))
        have cGn := cell_row Gn.out
        have cGo := cell_row Go.out
        have cGr := cell_row Gr.out
        go_wp2_with fail
        refine (SI.out _).mono ?_
        rintro e w3 ⟨rfl, hb⟩
        clear cGn cGo cGr
        replace HB := Lib.hid (below_then HB.out hb)
        replace Gn := Lib.hid ((hb.block _ (lt_of_heap Gn.out)).trans Gn.out)
        replace Go := Lib.hid ((hb.block _ (lt_of_heap Go.out)).trans Go.out)
        replace Gr := Lib.hid ((hb.block _ (lt_of_heap Gr.out)).trans Gr.out)
        clear hb
        have HB := Lib.hid HB.out
        have cGn := cell_row Gn.out
        have cGo := cell_row Go.out
        have cGr := cell_row Gr.out
        go_wp2_with fail
        refine (grow1 rest odd _ _ _ (cell_row (keepAl Gr.out) 0) (cell_row (keepAl Go.out) 0)).mono ?_
        rintro e wG ⟨rfl, hb⟩
        have HB2 := Lib.hid (below_then (below_al HB.out _) hb)
        clear hb cGn cGo cGr
        go_wp2
        go_ret
        exact ⟨ret_bool HV.out.symm, HB2.out⟩
      · have HV := Lib.hid (show (isMode 2 && growsN 2 neg odd rest) = (rest != 1) by rcases (show rest = 1 ∨ rest = 2 ∨ rest = 3 by omega) with rfl | rfl | rfl <;> simp [growsN, isMode])
        clear hm hr
        go_enter Try.func82, Try.ntmps82
        have HB := Lib.hid (Below.refl w.heap.size w)
        have Gn := Lib.hid (alloc_new (w) (.cells #[.bool neg] 4))
        replace HB := Lib.hid (below_al HB.out (.cells #[.bool neg] 4))
        replace Gn := Lib.hid (keepAl (o' := .cells #[.bool odd] 4) Gn.out)
        have Go := Lib.hid (alloc_new' (w := (w).alloc (.cells #[.bool neg] 4)) (n := w.heap.size + 1) (.cells #[.bool odd] 4) (by simp))
        replace HB := Lib.hid (below_al HB.out (.cells #[.bool odd] 4))
        replace Gn := Lib.hid (keepAl (o' := .cells #[.int .i64 (rest)] 3) Gn.out)
        replace Go := Lib.hid (keepAl (o' := .cells #[.int .i64 (rest)] 3) Go.out)
        have Gr := Lib.hid (alloc_new' (w := ((w).alloc (.cells #[.bool neg] 4)).alloc (.cells #[.bool odd] 4)) (n := w.heap.size + 1 + 1) (.cells #[.int .i64 (rest)] 3) (by simp))
        replace HB := Lib.hid (below_al HB.out (.cells #[.int .i64 (rest)] 3))
        have cGn := cell_row Gn.out
        have cGo := cell_row Go.out
        have cGr := cell_row Gr.out
        go_wp2_with fail
        refine (SI.out _).mono ?_
        rintro e w4 ⟨rfl, hb⟩
        clear cGn cGo cGr
        replace HB := Lib.hid (below_then HB.out hb)
        replace Gn := Lib.hid ((hb.block _ (lt_of_heap Gn.out)).trans Gn.out)
        replace Go := Lib.hid ((hb.block _ (lt_of_heap Go.out)).trans Go.out)
        replace Gr := Lib.hid ((hb.block _ (lt_of_heap Gr.out)).trans Gr.out)
        clear hb
        have HB := Lib.hid HB.out
        have cGn := cell_row Gn.out
        have cGo := cell_row Go.out
        have cGr := cell_row Gr.out
        go_wp2_with fail
        refine (grow2 rest _ _ (cell_row (keepAl Gr.out) 0)).mono ?_
        rintro e wG ⟨rfl, hb⟩
        have HB2 := Lib.hid (below_then (below_al HB.out _) hb)
        clear hb cGn cGo cGr
        go_wp2
        go_ret
        exact ⟨ret_bool HV.out.symm, HB2.out⟩
      · have HV := Lib.hid (show (isMode 3 && growsN 3 neg odd rest) = false by rw [hm]; unfold growsN; rw [if_neg (by omega)]; simp)
        clear hm hr
        go_enter Try.func82, Try.ntmps82
        have HB := Lib.hid (Below.refl w.heap.size w)
        have Gn := Lib.hid (alloc_new (w) (.cells #[.bool neg] 4))
        replace HB := Lib.hid (below_al HB.out (.cells #[.bool neg] 4))
        replace Gn := Lib.hid (keepAl (o' := .cells #[.bool odd] 4) Gn.out)
        have Go := Lib.hid (alloc_new' (w := (w).alloc (.cells #[.bool neg] 4)) (n := w.heap.size + 1) (.cells #[.bool odd] 4) (by simp))
        replace HB := Lib.hid (below_al HB.out (.cells #[.bool odd] 4))
        replace Gn := Lib.hid (keepAl (o' := .cells #[.int .i64 (rest)] 3) Gn.out)
        replace Go := Lib.hid (keepAl (o' := .cells #[.int .i64 (rest)] 3) Go.out)
        have Gr := Lib.hid (alloc_new' (w := ((w).alloc (.cells #[.bool neg] 4)).alloc (.cells #[.bool odd] 4)) (n := w.heap.size + 1 + 1) (.cells #[.int .i64 (rest)] 3) (by simp))
        replace HB := Lib.hid (below_al HB.out (.cells #[.int .i64 (rest)] 3))
        have cGn := cell_row Gn.out
        have cGo := cell_row Go.out
        have cGr := cell_row Gr.out
        go_wp2_with fail
        refine (SI.out _).mono ?_
        rintro e w5 ⟨rfl, hb⟩
        clear cGn cGo cGr
        replace HB := Lib.hid (below_then HB.out hb)
        replace Gn := Lib.hid ((hb.block _ (lt_of_heap Gn.out)).trans Gn.out)
        replace Go := Lib.hid ((hb.block _ (lt_of_heap Go.out)).trans Go.out)
        replace Gr := Lib.hid ((hb.block _ (lt_of_heap Gr.out)).trans Gr.out)
        clear hb
        have HB := Lib.hid HB.out
        have cGn := cell_row Gn.out
        have cGo := cell_row Go.out
        have cGr := cell_row Gr.out
        go_wp2_with fail
        refine (grow3 _).mono ?_
        rintro e wG ⟨rfl, hb⟩
        have HB2 := Lib.hid (below_then (below_al HB.out _) hb)
        clear hb cGn cGo cGr
        go_wp2
        go_ret
        exact ⟨ret_bool HV.out.symm, HB2.out⟩
      · have HV := Lib.hid (show (isMode 4 && growsN 4 neg odd rest) = !neg by rw [hm]; unfold growsN; rw [if_neg (by omega)]; simp)
        clear hm hr
        go_enter Try.func82, Try.ntmps82
        have HB := Lib.hid (Below.refl w.heap.size w)
        have Gn := Lib.hid (alloc_new (w) (.cells #[.bool neg] 4))
        replace HB := Lib.hid (below_al HB.out (.cells #[.bool neg] 4))
        replace Gn := Lib.hid (keepAl (o' := .cells #[.bool odd] 4) Gn.out)
        have Go := Lib.hid (alloc_new' (w := (w).alloc (.cells #[.bool neg] 4)) (n := w.heap.size + 1) (.cells #[.bool odd] 4) (by simp))
        replace HB := Lib.hid (below_al HB.out (.cells #[.bool odd] 4))
        replace Gn := Lib.hid (keepAl (o' := .cells #[.int .i64 (rest)] 3) Gn.out)
        replace Go := Lib.hid (keepAl (o' := .cells #[.int .i64 (rest)] 3) Go.out)
        have Gr := Lib.hid (alloc_new' (w := ((w).alloc (.cells #[.bool neg] 4)).alloc (.cells #[.bool odd] 4)) (n := w.heap.size + 1 + 1) (.cells #[.int .i64 (rest)] 3) (by simp))
        replace HB := Lib.hid (below_al HB.out (.cells #[.int .i64 (rest)] 3))
        have cGn := cell_row Gn.out
        have cGo := cell_row Go.out
        have cGr := cell_row Gr.out
        go_wp2_with fail
        refine (SI.out _).mono ?_
        rintro e w6 ⟨rfl, hb⟩
        clear cGn cGo cGr
        replace HB := Lib.hid (below_then HB.out hb)
        replace Gn := Lib.hid ((hb.block _ (lt_of_heap Gn.out)).trans Gn.out)
        replace Go := Lib.hid ((hb.block _ (lt_of_heap Go.out)).trans Go.out)
        replace Gr := Lib.hid ((hb.block _ (lt_of_heap Gr.out)).trans Gr.out)
        clear hb
        have HB := Lib.hid HB.out
        have cGn := cell_row Gn.out
        have cGo := cell_row Go.out
        have cGr := cell_row Gr.out
        go_wp2_with fail
        refine (grow4 neg _ _ (cell_row (keepAl Gn.out) 0)).mono ?_
        rintro e wG ⟨rfl, hb⟩
        have HB2 := Lib.hid (below_then (below_al HB.out _) hb)
        clear hb cGn cGo cGr
        go_wp2
        go_ret
        exact ⟨ret_bool HV.out.symm, HB2.out⟩
      · have HV := Lib.hid (show (isMode 5 && growsN 5 neg odd rest) = neg by rw [hm]; unfold growsN; rw [if_neg (by omega)]; simp)
        clear hm hr
        go_enter Try.func82, Try.ntmps82
        have HB := Lib.hid (Below.refl w.heap.size w)
        have Gn := Lib.hid (alloc_new (w) (.cells #[.bool neg] 4))
        replace HB := Lib.hid (below_al HB.out (.cells #[.bool neg] 4))
        replace Gn := Lib.hid (keepAl (o' := .cells #[.bool odd] 4) Gn.out)
        have Go := Lib.hid (alloc_new' (w := (w).alloc (.cells #[.bool neg] 4)) (n := w.heap.size + 1) (.cells #[.bool odd] 4) (by simp))
        replace HB := Lib.hid (below_al HB.out (.cells #[.bool odd] 4))
        replace Gn := Lib.hid (keepAl (o' := .cells #[.int .i64 (rest)] 3) Gn.out)
        replace Go := Lib.hid (keepAl (o' := .cells #[.int .i64 (rest)] 3) Go.out)
        have Gr := Lib.hid (alloc_new' (w := ((w).alloc (.cells #[.bool neg] 4)).alloc (.cells #[.bool odd] 4)) (n := w.heap.size + 1 + 1) (.cells #[.int .i64 (rest)] 3) (by simp))
        replace HB := Lib.hid (below_al HB.out (.cells #[.int .i64 (rest)] 3))
        have cGn := cell_row Gn.out
        have cGo := cell_row Go.out
        have cGr := cell_row Gr.out
        go_wp2_with fail
        refine (SI.out _).mono ?_
        rintro e w7 ⟨rfl, hb⟩
        clear cGn cGo cGr
        replace HB := Lib.hid (below_then HB.out hb)
        replace Gn := Lib.hid ((hb.block _ (lt_of_heap Gn.out)).trans Gn.out)
        replace Go := Lib.hid ((hb.block _ (lt_of_heap Go.out)).trans Go.out)
        replace Gr := Lib.hid ((hb.block _ (lt_of_heap Gr.out)).trans Gr.out)
        clear hb
        have HB := Lib.hid HB.out
        have cGn := cell_row Gn.out
        have cGo := cell_row Go.out
        have cGr := cell_row Gr.out
        go_wp2_with fail
        refine (grow5 neg _ _ (cell_row (keepAl Gn.out) 0)).mono ?_
        rintro e wG ⟨rfl, hb⟩
        have HB2 := Lib.hid (below_then (below_al HB.out _) hb)
        clear hb cGn cGo cGr
        go_wp2
        go_ret
        exact ⟨ret_bool HV.out.symm, HB2.out⟩
  · have hm' : isMode m = false := by simpa using hm
    have HV := Lib.hid (show (isMode m && growsN m neg odd rest) = false by rw [hm']; rfl)
    have SI := Lib.hid (fun w' => mode_is m w')
    rw [hm'] at SI
    clear hm hm'
    go_enter Try.func82, Try.ntmps82
    have HB := Lib.hid (Below.refl w.heap.size w)
    have Gn := Lib.hid (alloc_new (w) (.cells #[.bool neg] 4))
    replace HB := Lib.hid (below_al HB.out (.cells #[.bool neg] 4))
    replace Gn := Lib.hid (keepAl (o' := .cells #[.bool odd] 4) Gn.out)
    have Go := Lib.hid (alloc_new' (w := (w).alloc (.cells #[.bool neg] 4)) (n := w.heap.size + 1) (.cells #[.bool odd] 4) (by simp))
    replace HB := Lib.hid (below_al HB.out (.cells #[.bool odd] 4))
    replace Gn := Lib.hid (keepAl (o' := .cells #[.int .i64 (rest)] 3) Gn.out)
    replace Go := Lib.hid (keepAl (o' := .cells #[.int .i64 (rest)] 3) Go.out)
    have Gr := Lib.hid (alloc_new' (w := ((w).alloc (.cells #[.bool neg] 4)).alloc (.cells #[.bool odd] 4)) (n := w.heap.size + 1 + 1) (.cells #[.int .i64 (rest)] 3) (by simp))
    replace HB := Lib.hid (below_al HB.out (.cells #[.int .i64 (rest)] 3))
    have cGn := cell_row Gn.out
    have cGo := cell_row Go.out
    have cGr := cell_row Gr.out
    go_wp2_with fail
    refine (SI.out _).mono ?_
    rintro e w8 ⟨rfl, hb⟩
    clear cGn cGo cGr
    replace HB := Lib.hid (below_then HB.out hb)
    replace Gn := Lib.hid ((hb.block _ (lt_of_heap Gn.out)).trans Gn.out)
    replace Go := Lib.hid ((hb.block _ (lt_of_heap Go.out)).trans Go.out)
    replace Gr := Lib.hid ((hb.block _ (lt_of_heap Gr.out)).trans Gr.out)
    clear hb
    have cGn := cell_row Gn.out
    have cGo := cell_row Go.out
    have cGr := cell_row Gr.out
    go_wp2
    go_ret
    exact ⟨ret_bool HV.out.symm, HB.out⟩

set_option maxHeartbeats 4000000 in
theorem rgrows_any (m : Int) (neg odd : Bool) (rest : Int) (w : World) :
    Calls Try.prog 84 #[.int .i64 m, .bool neg, .bool odd, .int .i64 rest] w fun e w' => e = .returned (.bool (growsN m neg odd rest)) ∧ Below w.heap.size w w' := by
  by_cases h1 : rest < 1
  · have HV := Lib.hid (show growsN m neg odd rest = false by unfold growsN; rw [if_pos (Or.inl h1)])
    go_enter Try.func84, Try.ntmps84
    go_wp2
    go_ret
    exact ⟨ret_bool HV.out.symm, Below.refl _ _⟩
  by_cases h3 : 3 < rest
  · have HV := Lib.hid (show growsN m neg odd rest = false by unfold growsN; rw [if_pos (Or.inr h3)])
    go_enter Try.func84, Try.ntmps84
    go_wp2
    go_ret
    exact ⟨ret_bool HV.out.symm, Below.refl _ _⟩
  by_cases m1 : m = 1
  · have e1 : (m == 1) = true := by simp [m1]
    have hg : growsN m neg odd rest = (rest == 3 || (rest == 2 && odd)) := by unfold growsN; rw [if_neg (by omega), if_pos m1]
    by_cases r3 : rest = 3
    · have HV := Lib.hid (show growsN m neg odd rest = true by rw [hg]; simp [r3])
      have e3 : (rest == 3) = true := by simp [r3]
      clear m1 r3 hg
      go_enter Try.func84, Try.ntmps84
      go_wp2
      go_ret
      exact ⟨ret_bool HV.out.symm, Below.refl _ _⟩
    · have e3 : (rest == 3) = false := by simp [r3]
      by_cases r2 : rest = 2
      · have HV := Lib.hid (show growsN m neg odd rest = odd by rw [hg]; simp [r2])
        have e2 : (rest == 2) = true := by simp [r2]
        clear m1 r3 r2 hg
        go_enter Try.func84, Try.ntmps84
        go_wp2
        go_ret
        exact ⟨ret_bool HV.out.symm, Below.refl _ _⟩
      · have HV := Lib.hid (show growsN m neg odd rest = false by rw [hg]; simp [r2, r3])
        have e2 : (rest == 2) = false := by simp [r2]
        clear m1 r3 r2 hg
        go_enter Try.func84, Try.ntmps84
        go_wp2
        go_ret
        exact ⟨ret_bool HV.out.symm, Below.refl _ _⟩
  have e1 : (m == 1) = false := by simp [m1]
  by_cases m2 : m = 2
  · have e2 : (m == 2) = true := by simp [m2]
    by_cases r2 : 2 ≤ rest
    · have HV := Lib.hid (show growsN m neg odd rest = true by unfold growsN; rw [if_neg (by omega), if_neg m1, if_pos m2]; simp [r2])
      clear m1 m2
      go_enter Try.func84, Try.ntmps84
      go_wp2
      go_ret
      exact ⟨ret_bool HV.out.symm, Below.refl _ _⟩
    · have HV := Lib.hid (show growsN m neg odd rest = false by unfold growsN; rw [if_neg (by omega), if_neg m1, if_pos m2]; simp; omega)
      clear m1 m2
      go_enter Try.func84, Try.ntmps84
      go_wp2
      go_ret
      exact ⟨ret_bool HV.out.symm, Below.refl _ _⟩
  have e2 : (m == 2) = false := by simp [m2]
  by_cases m4 : m = 4
  · have e4 : (m == 4) = true := by simp [m4]
    have HV := Lib.hid (show growsN m neg odd rest = !neg by unfold growsN; rw [if_neg (by omega), if_neg m1, if_neg m2, if_pos m4])
    clear m1 m2 m4
    go_enter Try.func84, Try.ntmps84
    go_wp2
    go_ret
    exact ⟨ret_bool HV.out.symm, Below.refl _ _⟩
  have e4 : (m == 4) = false := by simp [m4]
  by_cases m5 : m = 5
  · have e5 : (m == 5) = true := by simp [m5]
    have HV := Lib.hid (show growsN m neg odd rest = neg by unfold growsN; rw [if_neg (by omega), if_neg m1, if_neg m2, if_neg m4, if_pos m5])
    clear m1 m2 m4 m5
    go_enter Try.func84, Try.ntmps84
    go_wp2
    go_ret
    exact ⟨ret_bool HV.out.symm, Below.refl _ _⟩
  have e5 : (m == 5) = false := by simp [m5]
  have HV := Lib.hid (show growsN m neg odd rest = false by unfold growsN; rw [if_neg (by omega), if_neg m1, if_neg m2, if_neg m4, if_neg m5])
  clear m1 m2 m4 m5
  go_enter Try.func84, Try.ntmps84
  go_wp2
  go_ret
  exact ⟨ret_bool HV.out.symm, Below.refl _ _⟩

set_option maxRecDepth 100000 in
set_option maxHeartbeats 2000000 in
theorem rrest_any (a : Nat) (n : Int) (more : Bool) (w : World) (ha : a < M) :
    Calls Try.prog 81 #[wv a, .int .i64 n, .bool more] w fun e w' => e = .returned (.int .i64 (restN a n more)) ∧ Below w.heap.size w w' := by
  have hk := clamp7_le n
  have HC := Lib.hid (clamp7_eq n)
  have hres : restN a n more = if cutN a n more = 0 then 0 else 2 + cmpN (cutN a n more) (P2 (clamp7 n + 2)) := rfl
  have hcut : cutN a n more = 2 * (a % P2 (clamp7 n) * 4 + if more then 1 else 0) := by unfold cutN; cases more <;> simp <;> omega
  obtain ⟨k, hkk⟩ : ∃ k, k = clamp7 n := ⟨_, rfl⟩
  rw [← hkk] at hk HC hres hcut
  have hdl : a / P2 k * P2 k ≤ a := Nat.div_mul_le_self _ _
  have hmd := Nat.div_add_mod a (P2 k)
  rw [Nat.mul_comm] at hmd
  have hsa := small_M ha
  have h4 : P2 2 = 4 := by rw [P2_eq]
  have hlM : a % P2 k ≤ a := Nat.mod_le _ _
  have hMM : M * 16 = P2 516 := by rw [M_eq, show 516 = 512 + 4 from rfl, P2_add, show P2 4 = 16 by rw [P2_eq]]
  have h516 : P2 516 < BIG := P2_small (by omega)
  have S1 := Lib.hid (fun w' => big_any a ha w')
  have S2 := Lib.hid (fun v w' h => rshr_any v a k w' hsa (by omega) h)
  have S3 := Lib.hid (fun v w' h => rshl_any v (a / P2 k) k w' (Nat.lt_of_le_of_lt (Nat.div_le_self _ _) hsa) (by omega) h)
  have S4 : Hid (∀ (v v2 : Value) (w' : World), IsBig w' v a → IsBig w' v2 (a / P2 k * P2 k) → Calls Try.prog 36 #[v, v2] w' (GivesBig (a % P2 k) w')) := Lib.hid fun v v2 w' h h' =>
    sub_any v v2 (a / P2 k * P2 k) (a % P2 k) w' (by omega) (by rw [show a / P2 k * P2 k + a % P2 k = a by omega]; exact h) h'
  have S5 : Hid (∀ (v : Value) (w' : World), IsBig w' v (a % P2 k) → Calls Try.prog 49 #[v, .int .i64 2] w' (GivesBig (a % P2 k * 4) w')) := Lib.hid fun v w' h => by
    have := rshl_any v (a % P2 k) 2 w' (by omega) (by omega) h
    rwa [h4] at this
  have S6 := Lib.hid (fun w' => small_any 1 w' (by omega))
  have S7 := Lib.hid (fun v v2 w' h h' => add_any v v2 (a % P2 k * 4) 1 w' (by omega) (by omega) h h')
  have SL := Lib.hid (fun x v w' (hx : x < BIG) h => rlen_any v x w' hx h)
  have S8 : Hid (∀ (x : Nat) (v : Value) (w' : World), x < M * 8 → IsBig w' v x → Calls Try.prog 49 #[v, .int .i64 1] w' (GivesBig (2 * x) w')) := Lib.hid fun x v w' hx h => by
    have := rshl_any v x 1 w' (by omega) (by omega) h
    rwa [P2_1, Nat.mul_comm] at this
  have S9 : Hid (∀ w' : World, Calls Try.prog 35 #[.int .i64 ((k : Int) + 2)] w' (GivesBig (P2 (k + 2)) w')) := Lib.hid fun w' => by
    rw [show (k : Int) + 2 = ((k + 2 : Nat) : Int) by omega]
    exact power_any _ (by omega) w'
  have S10 := Lib.hid (fun x v v2 w' (hx : x < BIG) h h' => cmp_any v v2 x (P2 (k + 2)) w' hx (P2_small (by omega)) h h')
  obtain ⟨l, hl⟩ : ∃ l, l = a % P2 k := ⟨_, rfl⟩
  rw [← hl] at hcut hlM S4 S5 S7
  obtain ⟨X, hX⟩ : ∃ X, X = l * 4 + (if more then 1 else 0) := ⟨_, rfl⟩
  have hX8 : X < M * 8 := by rw [hX]; cases more <;> simp <;> omega
  have hXB : X < BIG := by omega
  rw [hcut, ← hX] at hres
  have hz := blen_zero_iff (d := X)
  have SLX := Lib.hid (fun v w' h => SL.out X v w' hXB h)
  have S8X := Lib.hid (fun v w' h => S8.out X v w' hX8 h)
  have S10X := Lib.hid (fun v v2 w' h h' => S10.out (2 * X) v v2 w' (by omega) h h')
  obtain ⟨len, hlen⟩ : ∃ x, x = blen X := ⟨_, rfl⟩
  rw [← hlen] at hz SLX
  obtain ⟨C, hC⟩ : ∃ x, x = cmpN (2 * X) (P2 (k + 2)) := ⟨_, rfl⟩
  rw [← hC] at hres S10X
  have hCb : -1 ≤ C ∧ C ≤ 1 := by rw [hC]; unfold cmpN; split <;> (try split) <;> omega
  obtain ⟨hC1, hC2⟩ := hCb
  have HX := Lib.hid hX; have HRES := Lib.hid hres; have HZ := Lib.hid hz
  have hki : (k : Int) ≤ 700 := by omega
  obtain ⟨q, hq⟩ : ∃ q, q = a / P2 k := ⟨_, rfl⟩
  rw [← hq] at S2 S3 S4
  obtain ⟨qb, hqb⟩ : ∃ x, x = q * P2 k := ⟨_, rfl⟩
  rw [← hqb] at S3 S4
  obtain ⟨l4, hl4⟩ : ∃ x, x = l * 4 := ⟨_, rfl⟩
  rw [← hl4] at S5 S7 HX
  clear hk hkk hdl hmd hsa h4 hlM hMM h516 hcut hl hX8 hXB hlen hC hz hres hX hq hqb hl4 SL S8 S10 ha
  by_cases h0 : X = 0
  · have HV := Lib.hid (show restN a n more = 0 by rw [HRES.out, if_pos (by omega)])
    have hz := HZ.out
    rw [decide_eq_true h0] at hz
    have HXX := Lib.hid h0
    clear h0
    cases more
    · have hXl : X = l4 := by rw [HX.out]; simp
      rw [← hXl] at S5
      clear hXl
      go_enter Try.func81, Try.ntmps81
      have HB := Lib.hid (Below.refl w.heap.size w)
      have Ga := Lib.hid (alloc_new (w) (.cells (wcells a) 26))
      replace HB := Lib.hid (below_al HB.out (.cells (wcells a) 26))
      go_upto_region 2 with fail
      rw [HC.out]
      obtain ⟨wL, hw⟩ : ∃ wx, wx = (w).alloc (.cells (wcells a) 26) := ⟨_, rfl⟩
      rw [← hw] at Ga HB ⊢
      clear hw
      have cGa := cell_row Ga.out
      go_wp2_with fail
      refine (S1.out _).mono ?_
      rintro e w9 ⟨ra, rfl, hr, hb⟩
      clear cGa
      replace HB := Lib.hid (below_then HB.out hb)
      replace Ga := Lib.hid ((hb.block _ (lt_of_heap Ga.out)).trans Ga.out)
      have Ra := Lib.hid hr
      clear hr hb
      have cGa := cell_row Ga.out
      go_wp2_with fail
      refine (S2.out _ _ Ra.out).mono ?_
      rintro e w10 ⟨rq, rfl, hr, hb⟩
      clear cGa
      replace HB := Lib.hid (below_then HB.out hb)
      replace Ga := Lib.hid ((hb.block _ (lt_of_heap Ga.out)).trans Ga.out)
      replace Ra := Lib.hid (Ra.out.below hb)
      have Rq := Lib.hid hr
      clear hr hb
      have cGa := cell_row Ga.out
      go_wp2_with fail
      refine (S3.out _ _ Rq.out).mono ?_
      rintro e w11 ⟨rb, rfl, hr, hb⟩
      clear cGa
      replace HB := Lib.hid (below_then HB.out hb)
      replace Ga := Lib.hid ((hb.block _ (lt_of_heap Ga.out)).trans Ga.out)
      replace Ra := Lib.hid (Ra.out.below hb)
      replace Rq := Lib.hid (Rq.out.below hb)
      have Rb := Lib.hid hr
      clear hr hb
      have cGa := cell_row Ga.out
      go_wp2_with fail
      refine (S4.out _ _ _ Ra.out Rb.out).mono ?_
      rintro e w12 ⟨rl, rfl, hr, hb⟩
      clear cGa
      replace HB := Lib.hid (below_then HB.out hb)
      replace Ga := Lib.hid ((hb.block _ (lt_of_heap Ga.out)).trans Ga.out)
      replace Ra := Lib.hid (Ra.out.below hb)
      replace Rq := Lib.hid (Rq.out.below hb)
      replace Rb := Lib.hid (Rb.out.below hb)
      have Rl := Lib.hid hr
      clear hr hb
      have cGa := cell_row Ga.out
      go_wp2_with fail
      refine (S5.out _ _ Rl.out).mono ?_
      rintro e w13 ⟨rX, rfl, hr, hb⟩
      clear cGa
      replace HB := Lib.hid (below_then HB.out hb)
      replace Ga := Lib.hid ((hb.block _ (lt_of_heap Ga.out)).trans Ga.out)
      replace Ra := Lib.hid (Ra.out.below hb)
      replace Rq := Lib.hid (Rq.out.below hb)
      replace Rb := Lib.hid (Rb.out.below hb)
      replace Rl := Lib.hid (Rl.out.below hb)
      have RX := Lib.hid hr
      clear hr hb
      have cGa := cell_row Ga.out
      go_wp2_with fail
      refine (SLX.out _ _ RX.out).mono ?_
      rintro e w14 ⟨rfl, hb⟩
      clear cGa
      replace HB := Lib.hid (below_then HB.out hb)
      replace Ga := Lib.hid ((hb.block _ (lt_of_heap Ga.out)).trans Ga.out)
      replace RX := Lib.hid (RX.out.below hb)
      clear hb
      skip
      go_wp2
      go_ret
      exact ⟨ret_i64 HV.out.symm, HB.out⟩
    · have := HX.out
      have := HXX.out
      simp at *
      omega
  · have HV := Lib.hid (show restN a n more = 2 + C by rw [HRES.out, if_neg (by omega)])
    have hz := HZ.out
    rw [decide_eq_false h0] at hz
    clear h0
    cases more
    · have hXl : X = l4 := by rw [HX.out]; simp
      rw [← hXl] at S5
      clear hXl
      go_enter Try.func81, Try.ntmps81
      have HB := Lib.hid (Below.refl w.heap.size w)
      have Ga := Lib.hid (alloc_new (w) (.cells (wcells a) 26))
      replace HB := Lib.hid (below_al HB.out (.cells (wcells a) 26))
      go_upto_region 2 with fail
      rw [HC.out]
      obtain ⟨wL, hw⟩ : ∃ wx, wx = (w).alloc (.cells (wcells a) 26) := ⟨_, rfl⟩
      rw [← hw] at Ga HB ⊢
      clear hw
      have cGa := cell_row Ga.out
      go_wp2_with fail
      refine (S1.out _).mono ?_
      rintro e w15 ⟨ra, rfl, hr, hb⟩
      clear cGa
      replace HB := Lib.hid (below_then HB.out hb)
      replace Ga := Lib.hid ((hb.block _ (lt_of_heap Ga.out)).trans Ga.out)
      have Ra := Lib.hid hr
      clear hr hb
      have cGa := cell_row Ga.out
      go_wp2_with fail
      refine (S2.out _ _ Ra.out).mono ?_
      rintro e w16 ⟨rq, rfl, hr, hb⟩
      clear cGa
      replace HB := Lib.hid (below_then HB.out hb)
      replace Ga := Lib.hid ((hb.block _ (lt_of_heap Ga.out)).trans Ga.out)
      replace Ra := Lib.hid (Ra.out.below hb)
      have Rq := Lib.hid hr
      clear hr hb
      have cGa := cell_row Ga.out
      go_wp2_with fail
      refine (S3.out _ _ Rq.out).mono ?_
      rintro e w17 ⟨rb, rfl, hr, hb⟩
      clear cGa
      replace HB := Lib.hid (below_then HB.out hb)
      replace Ga := Lib.hid ((hb.block _ (lt_of_heap Ga.out)).trans Ga.out)
      replace Ra := Lib.hid (Ra.out.below hb)
      replace Rq := Lib.hid (Rq.out.below hb)
      have Rb := Lib.hid hr
      clear hr hb
      have cGa := cell_row Ga.out
      go_wp2_with fail
      refine (S4.out _ _ _ Ra.out Rb.out).mono ?_
      rintro e w18 ⟨rl, rfl, hr, hb⟩
      clear cGa
      replace HB := Lib.hid (below_then HB.out hb)
      replace Ga := Lib.hid ((hb.block _ (lt_of_heap Ga.out)).trans Ga.out)
      replace Ra := Lib.hid (Ra.out.below hb)
      replace Rq := Lib.hid (Rq.out.below hb)
      replace Rb := Lib.hid (Rb.out.below hb)
      have Rl := Lib.hid hr
      clear hr hb
      have cGa := cell_row Ga.out
      go_wp2_with fail
      refine (S5.out _ _ Rl.out).mono ?_
      rintro e w19 ⟨rX, rfl, hr, hb⟩
      clear cGa
      replace HB := Lib.hid (below_then HB.out hb)
      replace Ga := Lib.hid ((hb.block _ (lt_of_heap Ga.out)).trans Ga.out)
      replace Ra := Lib.hid (Ra.out.below hb)
      replace Rq := Lib.hid (Rq.out.below hb)
      replace Rb := Lib.hid (Rb.out.below hb)
      replace Rl := Lib.hid (Rl.out.below hb)
      have RX := Lib.hid hr
      clear hr hb
      have cGa := cell_row Ga.out
      go_wp2_with fail
      refine (SLX.out _ _ RX.out).mono ?_
      rintro e w20 ⟨rfl, hb⟩
      clear cGa
      replace HB := Lib.hid (below_then HB.out hb)
      replace Ga := Lib.hid ((hb.block _ (lt_of_heap Ga.out)).trans Ga.out)
      replace RX := Lib.hid (RX.out.below hb)
      clear hb
      have cGa := cell_row Ga.out
      go_wp2_with fail
      refine (S8X.out _ _ RX.out).mono ?_
      rintro e w21 ⟨rt, rfl, hr, hb⟩
      clear cGa
      replace HB := Lib.hid (below_then HB.out hb)
      replace Ga := Lib.hid ((hb.block _ (lt_of_heap Ga.out)).trans Ga.out)
      replace RX := Lib.hid (RX.out.below hb)
      have Rt := Lib.hid hr
      clear hr hb
      have cGa := cell_row Ga.out
      go_wp2_with fail
      refine (S9.out _).mono ?_
      rintro e w22 ⟨rp, rfl, hr, hb⟩
      clear cGa
      replace HB := Lib.hid (below_then HB.out hb)
      replace Ga := Lib.hid ((hb.block _ (lt_of_heap Ga.out)).trans Ga.out)
      replace RX := Lib.hid (RX.out.below hb)
      replace Rt := Lib.hid (Rt.out.below hb)
      have Rp := Lib.hid hr
      clear hr hb
      have cGa := cell_row Ga.out
      go_wp2_with fail
      refine (S10X.out _ _ _ Rt.out Rp.out).mono ?_
      rintro e w23 ⟨rfl, hb⟩
      clear cGa
      replace HB := Lib.hid (below_then HB.out hb)
      replace Ga := Lib.hid ((hb.block _ (lt_of_heap Ga.out)).trans Ga.out)
      replace RX := Lib.hid (RX.out.below hb)
      replace Rt := Lib.hid (Rt.out.below hb)
      replace Rp := Lib.hid (Rp.out.below hb)
      clear hb
      go_wp2
      go_ret
      exact ⟨ret_i64 HV.out.symm, HB.out⟩
    · have hXl : X = l4 + 1 := by rw [HX.out]; simp
      rw [← hXl] at S7
      clear hXl
      go_enter Try.func81, Try.ntmps81
      have HB := Lib.hid (Below.refl w.heap.size w)
      have Ga := Lib.hid (alloc_new (w) (.cells (wcells a) 26))
      replace HB := Lib.hid (below_al HB.out (.cells (wcells a) 26))
      go_upto_region 2 with fail
      rw [HC.out]
      obtain ⟨wL, hw⟩ : ∃ wx, wx = (w).alloc (.cells (wcells a) 26) := ⟨_, rfl⟩
      rw [← hw] at Ga HB ⊢
      clear hw
      have cGa := cell_row Ga.out
      go_wp2_with fail
      refine (S1.out _).mono ?_
      rintro e w24 ⟨ra, rfl, hr, hb⟩
      clear cGa
      replace HB := Lib.hid (below_then HB.out hb)
      replace Ga := Lib.hid ((hb.block _ (lt_of_heap Ga.out)).trans Ga.out)
      have Ra := Lib.hid hr
      clear hr hb
      have cGa := cell_row Ga.out
      go_wp2_with fail
      refine (S2.out _ _ Ra.out).mono ?_
      rintro e w25 ⟨rq, rfl, hr, hb⟩
      clear cGa
      replace HB := Lib.hid (below_then HB.out hb)
      replace Ga := Lib.hid ((hb.block _ (lt_of_heap Ga.out)).trans Ga.out)
      replace Ra := Lib.hid (Ra.out.below hb)
      have Rq := Lib.hid hr
      clear hr hb
      have cGa := cell_row Ga.out
      go_wp2_with fail
      refine (S3.out _ _ Rq.out).mono ?_
      rintro e w26 ⟨rb, rfl, hr, hb⟩
      clear cGa
      replace HB := Lib.hid (below_then HB.out hb)
      replace Ga := Lib.hid ((hb.block _ (lt_of_heap Ga.out)).trans Ga.out)
      replace Ra := Lib.hid (Ra.out.below hb)
      replace Rq := Lib.hid (Rq.out.below hb)
      have Rb := Lib.hid hr
      clear hr hb
      have cGa := cell_row Ga.out
      go_wp2_with fail
      refine (S4.out _ _ _ Ra.out Rb.out).mono ?_
      rintro e w27 ⟨rl, rfl, hr, hb⟩
      clear cGa
      replace HB := Lib.hid (below_then HB.out hb)
      replace Ga := Lib.hid ((hb.block _ (lt_of_heap Ga.out)).trans Ga.out)
      replace Ra := Lib.hid (Ra.out.below hb)
      replace Rq := Lib.hid (Rq.out.below hb)
      replace Rb := Lib.hid (Rb.out.below hb)
      have Rl := Lib.hid hr
      clear hr hb
      have cGa := cell_row Ga.out
      go_wp2_with fail
      refine (S5.out _ _ Rl.out).mono ?_
      rintro e w28 ⟨ry, rfl, hr, hb⟩
      clear cGa
      replace HB := Lib.hid (below_then HB.out hb)
      replace Ga := Lib.hid ((hb.block _ (lt_of_heap Ga.out)).trans Ga.out)
      replace Ra := Lib.hid (Ra.out.below hb)
      replace Rq := Lib.hid (Rq.out.below hb)
      replace Rb := Lib.hid (Rb.out.below hb)
      replace Rl := Lib.hid (Rl.out.below hb)
      have Ry := Lib.hid hr
      clear hr hb
      have cGa := cell_row Ga.out
      go_wp2_with fail
      refine (S6.out _).mono ?_
      rintro e w29 ⟨ro, rfl, hr, hb⟩
      clear cGa
      replace HB := Lib.hid (below_then HB.out hb)
      replace Ga := Lib.hid ((hb.block _ (lt_of_heap Ga.out)).trans Ga.out)
      replace Ry := Lib.hid (Ry.out.below hb)
      have Ro := Lib.hid hr
      clear hr hb
      have cGa := cell_row Ga.out
      go_wp2_with fail
      refine (S7.out _ _ _ Ry.out Ro.out).mono ?_
      rintro e w30 ⟨rX, rfl, hr, hb⟩
      clear cGa
      replace HB := Lib.hid (below_then HB.out hb)
      replace Ga := Lib.hid ((hb.block _ (lt_of_heap Ga.out)).trans Ga.out)
      replace Ry := Lib.hid (Ry.out.below hb)
      replace Ro := Lib.hid (Ro.out.below hb)
      have RX := Lib.hid hr
      clear hr hb
      have cGa := cell_row Ga.out
      go_wp2_with fail
      refine (SLX.out _ _ RX.out).mono ?_
      rintro e w31 ⟨rfl, hb⟩
      clear cGa
      replace HB := Lib.hid (below_then HB.out hb)
      replace Ga := Lib.hid ((hb.block _ (lt_of_heap Ga.out)).trans Ga.out)
      replace RX := Lib.hid (RX.out.below hb)
      clear hb
      have cGa := cell_row Ga.out
      go_wp2_with fail
      refine (S8X.out _ _ RX.out).mono ?_
      rintro e w32 ⟨rt, rfl, hr, hb⟩
      clear cGa
      replace HB := Lib.hid (below_then HB.out hb)
      replace Ga := Lib.hid ((hb.block _ (lt_of_heap Ga.out)).trans Ga.out)
      replace RX := Lib.hid (RX.out.below hb)
      have Rt := Lib.hid hr
      clear hr hb
      have cGa := cell_row Ga.out
      go_wp2_with fail
      refine (S9.out _).mono ?_
      rintro e w33 ⟨rp, rfl, hr, hb⟩
      clear cGa
      replace HB := Lib.hid (below_then HB.out hb)
      replace Ga := Lib.hid ((hb.block _ (lt_of_heap Ga.out)).trans Ga.out)
      replace RX := Lib.hid (RX.out.below hb)
      replace Rt := Lib.hid (Rt.out.below hb)
      have Rp := Lib.hid hr
      clear hr hb
      have cGa := cell_row Ga.out
      go_wp2_with fail
      refine (S10X.out _ _ _ Rt.out Rp.out).mono ?_
      rintro e w34 ⟨rfl, hb⟩
      clear cGa
      replace HB := Lib.hid (below_then HB.out hb)
      replace Ga := Lib.hid ((hb.block _ (lt_of_heap Ga.out)).trans Ga.out)
      replace RX := Lib.hid (RX.out.below hb)
      replace Rt := Lib.hid (Rt.out.below hb)
      replace Rp := Lib.hid (Rp.out.below hb)
      clear hb
      go_wp2
      go_ret
      exact ⟨ret_i64 HV.out.symm, HB.out⟩
end Go.Proofs.Ytenkaobgoknlhaa
