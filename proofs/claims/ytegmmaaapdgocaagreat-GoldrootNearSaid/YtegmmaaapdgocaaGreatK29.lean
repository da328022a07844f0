/- SEVERAL TEXTS of the seat, one behind the other: each says at its head what it proves. -/
import Derived.Test.YtegmmaaapdgocaaGreatR2c
import Derived.Test.YtegmmaaapdgocaaGreatK22
import Derived.Test.YtegmmaaapdgocaaGreatR2b
/- THE WALKS of radix2: what the division does with each step; the division; quotients with places behind the point. -/
namespace Go.Proofs.YtegmmaaapdgocaaGreat
open Go Go.RowKit

attribute [local go_sem ↓] Go.wp_at_zero Go.wp_at_succ
end Go.Proofs.YtegmmaaapdgocaaGreat

/- THE WALK of radix2's division. -/
namespace Go.Proofs.YtegmmaaapdgocaaGreat
open Go Go.RowKit

/-- What the division has in hand behind i steps. -/
structure DivIn (n d Qb Rb : Nat) (wq : World) (i : Nat) (w' : World) : Prop where
  q : w'.heap[Qb]? = some (.cells (wcells (quoN n d i)) 24 (0, 0))
  r : ∃ r0, w'.heap[Rb]? = some (.cells (wcells r0) 24 (0, 0)) ∧ (0 < i → r0 = lftN n d i)
  but : But (fun k => k = Qb ∨ k = Rb ∨ wq.heap.size ≤ k) wq w'

attribute [local go_sem ↓] Go.wp_at_zero Go.wp_at_succ
end Go.Proofs.YtegmmaaapdgocaaGreat

/- THE WALKS of the laws on radix2: quotients and remainders. -/
namespace Go.Proofs.YtegmmaaapdgocaaGreat
open Go Go.RowKit

attribute [local go_sem ↓] Go.wp_at_zero Go.wp_at_succ
set_option maxRecDepth 100000 in
set_option maxHeartbeats 2000000 in
theorem holds11_any (n d : Nat) (w : World) (hn : n < M) (hd : d < M) :
    Calls Tryz.prog 22 #[wv n, wv d, wv (dvQ n d), wv (dvR n d), .int .i64 (mayN n d)] w fun e w' => e = .returned (.bool true) ∧ Below w.heap.size w w' := by
  have S1 := Lib.hid (fun w' => rmay_any n d hn hd w')
  by_cases hm : mayN n d = 0
  · obtain ⟨h1, h2, h3⟩ := may_ok hm
    obtain ⟨e1, e2⟩ := dv_yes hm
    have hq : n / d < P2 131 := Nat.lt_of_lt_of_le (quo_lt h1 h3) (P2_le (by omega))
    have S2 := Lib.hid (fun w' => rdivide_any n d w' hn hd h1 hq)
    rw [e1, e2, hm]
    rw [hm] at S1
    obtain ⟨Q, hQ⟩ : ∃ x, x = n / d := ⟨_, rfl⟩
    obtain ⟨R, hR⟩ : ∃ x, x = n % d := ⟨_, rfl⟩
    rw [← hQ, ← hR] at S2 ⊢
    clear hn hd hm h1 h2 h3 e1 e2 hq hQ hR
    go_enter Tryz.func22, Tryz.ntmps22
    have HB := Lib.hid (Below.refl w.heap.size w)
    have Gn := Lib.hid (alloc_new (w) (.cells (wcells n) 24))
    replace HB := Lib.hid (below_al HB.out (.cells (wcells n) 24))
    replace Gn := Lib.hid (keepAl (o' := .cells (wcells d) 24) Gn.out)
    have Gd := Lib.hid (alloc_new' (w := (w).alloc (.cells (wcells n) 24)) (n := w.heap.size + 1) (.cells (wcells d) 24) (by simp))
    replace HB := Lib.hid (below_al HB.out (.cells (wcells d) 24))
    replace Gn := Lib.hid (keepAl (o' := .cells (wcells Q) 24) Gn.out)
    replace Gd := Lib.hid (keepAl (o' := .cells (wcells Q) 24) Gd.out)
    have Gq := Lib.hid (alloc_new' (w := ((w).alloc (.cells (wcells n) 24)).alloc (.cells (wcells d) 24)) (n := w.heap.size + 1 + 1) (.cells (wcells Q) 24) (by simp))
    replace HB := Lib.hid (below_al HB.out (.cells (wcells Q) 24))
    replace Gn := Lib.hid (keepAl (o' := .cells (wcells R) 24) Gn.out)
    replace Gd := Lib.hid (keepAl (o' := .cells (wcells R) 24) Gd.out)
    replace Gq := Lib.hid (keepAl (o' := .cells (wcells R) 24) Gq.out)
    have Gr := Lib.hid (alloc_new' (w := (((w).alloc (.cells (wcells n) 24)).alloc (.cells (wcells d) 24)).alloc (.cells (wcells Q) 24)) (n := w.heap.size + 1 + 1 + 1) (.cells (wcells R) 24) (by simp))
    replace HB := Lib.hid (below_al HB.out (.cells (wcells R) 24))
    have cGn := cell_row Gn.out
    have cGd := cell_row Gd.out
    have cGq := cell_row Gq.out
    have cGr := cell_row Gr.out
    go_wp2_with fail
    refine (S1.out _).mono ?_
    rintro e w2 ⟨rfl, hb⟩
    clear cGn cGd cGq cGr
    replace HB := Lib.hid (below_then HB.out hb)
    replace Gn := Lib.hid ((hb.block _ (lt_of_heap Gn.out)).trans Gn.out)
    replace Gd := Lib.hid ((hb.block _ (lt_of_heap Gd.out)).trans Gd.out)
    replace Gq := Lib.hid ((hb.block _ (lt_of_heap Gq.out)).trans Gq.out)
    replace Gr := Lib.hid ((hb.block _ (lt_of_heap Gr.out)).trans Gr.out)
    clear hb
    have cGn := cell_row Gn.out
    have cGd := cell_row Gd.out
    have cGq := cell_row Gq.out
    have cGr := cell_row Gr.out
    go_wp2_with fail
    refine (S2.out _).mono ?_
    rintro e w3 ⟨rfl, hb⟩
    clear cGn cGd cGq cGr
    replace HB := Lib.hid (below_then HB.out hb)
    replace Gn := Lib.hid ((hb.block _ (lt_of_heap Gn.out)).trans Gn.out)
    replace Gd := Lib.hid ((hb.block _ (lt_of_heap Gd.out)).trans Gd.out)
    replace Gq := Lib.hid ((hb.block _ (lt_of_heap Gq.out)).trans Gq.out)
    replace Gr := Lib.hid ((hb.block _ (lt_of_heap Gr.out)).trans Gr.out)
    clear hb
    replace Gn := Lib.hid (keepAl (o' := .cells (wcells Q) 24) Gn.out)
    replace Gd := Lib.hid (keepAl (o' := .cells (wcells Q) 24) Gd.out)
    replace Gq := Lib.hid (keepAl (o' := .cells (wcells Q) 24) Gq.out)
    replace Gr := Lib.hid (keepAl (o' := .cells (wcells Q) 24) Gr.out)
    have Ga := Lib.hid (alloc_new (w3) (.cells (wcells Q) 24))
    replace HB := Lib.hid (below_al HB.out (.cells (wcells Q) 24))
    replace Gn := Lib.hid (keepAl (o' := .cells (wcells R) 24) Gn.out)
    replace Gd := Lib.hid (keepAl (o' := .cells (wcells R) 24) Gd.out)
    replace Gq := Lib.hid (keepAl (o' := .cells (wcells R) 24) Gq.out)
    replace Gr := Lib.hid (keepAl (o' := .cells (wcells R) 24) Gr.out)
    replace Ga := Lib.hid (keepAl (o' := .cells (wcells R) 24) Ga.out)
    have Gb := Lib.hid (alloc_new' (w := (w3).alloc (.cells (wcells Q) 24)) (n := w3.heap.size + 1) (.cells (wcells R) 24) (by simp))
    replace HB := Lib.hid (below_al HB.out (.cells (wcells R) 24))
    have cGn := cell_row Gn.out
    have cGd := cell_row Gd.out
    have cGq := cell_row Gq.out
    have cGr := cell_row Gr.out
    have cGa := cell_row Ga.out
    have cGb := cell_row Gb.out
    go_wp2
    go_ret
    exact ⟨rfl, HB.out⟩
  · obtain ⟨e1, e2⟩ := dv_no hm
    have hr := may_range n d
    rw [e1, e2]
    obtain ⟨E, hE⟩ : ∃ x, x = mayN n d := ⟨_, rfl⟩
    rw [← hE] at S1 hm hr ⊢
    have hb : (E == 0) = false := by simp [hm]
    clear hn hd e1 e2 hE hr hm
    go_enter Tryz.func22, Tryz.ntmps22
    have HB := Lib.hid (Below.refl w.heap.size w)
    have Gn := Lib.hid (alloc_new (w) (.cells (wcells n) 24))
    replace HB := Lib.hid (below_al HB.out (.cells (wcells n) 24))
    replace Gn := Lib.hid (keepAl (o' := .cells (wcells d) 24) Gn.out)
    have Gd := Lib.hid (alloc_new' (w := (w).alloc (.cells (wcells n) 24)) (n := w.heap.size + 1) (.cells (wcells d) 24) (by simp))
    replace HB := Lib.hid (below_al HB.out (.cells (wcells d) 24))
    replace Gn := Lib.hid (keepAl (o' := .cells (wcells 0) 24) Gn.out)
    replace Gd := Lib.hid (keepAl (o' := .cells (wcells 0) 24) Gd.out)
    have Gq := Lib.hid (alloc_new' (w := ((w).alloc (.cells (wcells n) 24)).alloc (.cells (wcells d) 24)) (n := w.heap.size + 1 + 1) (.cells (wcells 0) 24) (by simp))
    replace HB := Lib.hid (below_al HB.out (.cells (wcells 0) 24))
    replace Gn := Lib.hid (keepAl (o' := .cells (wcells 0) 24) Gn.out)
    replace Gd := Lib.hid (keepAl (o' := .cells (wcells 0) 24) Gd.out)
    replace Gq := Lib.hid (keepAl (o' := .cells (wcells 0) 24) Gq.out)
    have Gr := Lib.hid (alloc_new' (w := (((w).alloc (.cells (wcells n) 24)).alloc (.cells (wcells d) 24)).alloc (.cells (wcells 0) 24)) (n := w.heap.size + 1 + 1 + 1) (.cells (wcells 0) 24) (by simp))
    replace HB := Lib.hid (below_al HB.out (.cells (wcells 0) 24))
    have cGn := cell_row Gn.out
    have cGd := cell_row Gd.out
    have cGq := cell_row Gq.out
    have cGr := cell_row Gr.out
    go_wp2_with fail
    refine (S1.out _).mono ?_
    rintro e w4 ⟨rfl, hb⟩
    clear cGn cGd cGq cGr
    replace HB := Lib.hid (below_then HB.out hb)
    replace Gn := Lib.hid ((hb.block _ (lt_of_heap Gn.out)).trans Gn.out)
    replace Gd := Lib.hid ((hb.block _ (lt_of_heap Gd.out)).trans Gd.out)
    replace Gq := Lib.hid ((hb.block _ (lt_of_heap Gq.out)).trans Gq.out)
    replace Gr := Lib.hid ((hb.block _ (lt_of_heap Gr.out)).trans Gr.out)
    clear hb
    have cGn := cell_row Gn.out
    have cGd := cell_row Gd.out
    have cGq := cell_row Gq.out
    have cGr := cell_row Gr.out
    go_wp2
    go_ret
    exact ⟨rfl, HB.out⟩

end Go.Proofs.YtegmmaaapdgocaaGreat
