/- THE WALKS of radix2: what the division does with each step; the division; quotients with places behind the point. -/
import Derived.Test.YtffengboblekpaaDoorR2c
import Derived.Test.YtffengboblekpaaDoorK22
namespace Go.Proofs.YtffengboblekpaaDoor
open Go Go.RowKit

attribute [local go_sem ↓] Go.wp_at_zero Go.wp_at_succ
set_option maxRecDepth 100000 in
set_option maxHeartbeats 2000000 in
theorem divFun_any (Qb Rb q l r0 dg : Nat) (w : World) (hq : w.heap[Qb]? = some (.cells (wcells q) 24 (0, 0))) (hr : w.heap[Rb]? = some (.cells (wcells r0) 24 (0, 0))) (hne : Qb ≠ Rb) (hM : q + q + dg < M) (hdg : dg ≤ 1) :
    Calls Tryd.prog 65 #[.agg (scells (dg : Int) l), .pointer (some ⟨Qb, 0, none⟩), .pointer (some ⟨Rb, 0, none⟩)] w fun e w' => e = .returned (.bool true) ∧ w'.heap[Qb]? = some (.cells (wcells (q + q + dg)) 24 (0, 0)) ∧ w'.heap[Rb]? = some (.cells (wcells l) 24 (0, 0)) ∧ But (fun k => k = Qb ∨ k = Rb) w w' := by
  have SO := Lib.hid (fun w' p h => of_one dg (by omega) w' p h)
  have SS : Hid (∀ (v : Value) (w' : World), IsWides w' v [q, q, dg] → Calls Tryd.prog 66 #[v] w' fun e w'' => e = .returned (wv (q + q + dg)) ∧ Below w'.heap.size w' w'') := Lib.hid fun v w' h => by
    have hdM : dg < M := by omega
    have := psum_any v [q, q, dg] w' (fun x hx => by simp at hx; rcases hx with rfl | rfl | rfl <;> omega) (by simp) h
    rw [show [q, q, dg].sum = q + q + dg by simp; omega, Nat.mod_eq_of_lt hM] at this
    exact this
  have hcv : IntKind.u64.wrap (dg : Int) = (dg : Int) := by rw [u64wrap]; omega
  obtain ⟨Q2, hQ2⟩ : ∃ Q2, Q2 = q + q + dg := ⟨_, rfl⟩
  rw [← hQ2] at SS ⊢
  have Gq := Lib.hid hq; have Gr := Lib.hid hr
  have hq1 := lt_of_heap hq; have hr1 := lt_of_heap hr
  clear hq hr hM hQ2 hdg
  go_enter Tryd.func65, Tryd.ntmps65
  have HB := Lib.hid (Below.refl w.heap.size w)
  replace Gq := Lib.hid (keepAl (o' := .cells (scells (dg : Int) l) 103) Gq.out)
  replace Gr := Lib.hid (keepAl (o' := .cells (scells (dg : Int) l) 103) Gr.out)
  have Gs := Lib.hid (alloc_new (w) (.cells (scells (dg : Int) l) 103))
  replace HB := Lib.hid (below_al HB.out (.cells (scells (dg : Int) l) 103))
  go_upto_region 1 with fail
  obtain ⟨w0, hw⟩ : ∃ wx, wx = (w).alloc (.cells (scells (dg : Int) l) 103) := ⟨_, rfl⟩
  rw [← hw] at Gq Gr Gs HB ⊢
  clear hw
  go_cut [] (fun wx => wx.heap[Qb]? = some (.cells (wcells Q2) 24 (0, 0)) ∧ wx.heap[Rb]? = some (.cells (wcells r0) 24 (0, 0)) ∧ wx.heap[w.heap.size]? = some (.cells (scells (dg : Int) l) 103 (0, 0)) ∧ But (fun k => k = Qb ∨ k = Rb) w wx)
  case first =>
    have k0 : ∀ j, w0.drew.cell? ⟨Qb, j, none⟩ = (wcells q)[j]? := cell_row Gq.out
    have k1 : ∀ j, (w0.alloc (.cells #[.int .u64 (dg : Int)] 22)).drew.cell? ⟨Qb, j, none⟩ = (wcells q)[j]? := keepRowAl (w := w0) k0
    have m0 : ∀ j, w0.drew.cell? ⟨w.heap.size, j, none⟩ = (scells (dg : Int) l)[j]? := cell_row Gs.out
    have kn := Lib.hid (show (w0.alloc (.cells #[.int .u64 (dg : Int)] 22)).drew.heap[w0.heap.size]? = some (.cells #[.int .u64 (dg : Int)] 22 (0, 0)) from alloc_new w0 _)
    go_region_with
      (first
        | (go_at_call 67
           refine (SO.out _ _ kn.out).mono ?_
           rintro e wA ⟨rfl, hb⟩
           have HA0 := Lib.hid ((hb.block _ (lt_of_heap (keepAl (o' := .cells #[.int .u64 (dg : Int)] 22 (0, 0)) Gq.out))).trans (keepAl (o' := .cells #[.int .u64 (dg : Int)] 22 (0, 0)) Gq.out))
           have HA1 := Lib.hid ((hb.block _ (lt_of_heap (keepAl (o' := .cells #[.int .u64 (dg : Int)] 22 (0, 0)) Gr.out))).trans (keepAl (o' := .cells #[.int .u64 (dg : Int)] 22 (0, 0)) Gr.out))
           have HA2 := Lib.hid ((hb.block _ (lt_of_heap (keepAl (o' := .cells #[.int .u64 (dg : Int)] 22 (0, 0)) Gs.out))).trans (keepAl (o' := .cells #[.int .u64 (dg : Int)] 22 (0, 0)) Gs.out))
           have HL := Lib.hid (below_then (below_al HB.out (.cells #[.int .u64 (dg : Int)] 22)).drew hb)
           have cA := cell_row HA0.out
           clear hb)
        | (go_at_call 66
           refine (SS.out _ _ (isWides3 (alloc_new _ _))).mono ?_
           rintro e wB ⟨rfl, hb⟩
           have HA0 := Lib.hid ((hb.block _ (lt_of_heap (keepAl (o' := .cells (w24 q q dg) 24 (0, 0)) HA0.out))).trans (keepAl (o' := .cells (w24 q q dg) 24 (0, 0)) HA0.out))
           have HA1 := Lib.hid ((hb.block _ (lt_of_heap (keepAl (o' := .cells (w24 q q dg) 24 (0, 0)) HA1.out))).trans (keepAl (o' := .cells (w24 q q dg) 24 (0, 0)) HA1.out))
           have HA2 := Lib.hid ((hb.block _ (lt_of_heap (keepAl (o' := .cells (w24 q q dg) 24 (0, 0)) HA2.out))).trans (keepAl (o' := .cells (w24 q q dg) 24 (0, 0)) HA2.out))
           have HL := Lib.hid (below_then (below_al HL.out (.cells (w24 q q dg) 24 (0, 0))) hb)
           have st := st_row (P := Tryd.prog) HA0.out rfl Q2
           clear hb))
    all_goals
      go_wp2
      go_meet
      exact ⟨setRow_heap _ _ _ _ _ _ HA0.out, (setRow_other _ _ _ _ (fun e => hne e.symm)).trans HA1.out, (setRow_other _ _ _ _ (by omega)).trans HA2.out, But.row (S := fun k => k = Qb ∨ k = Rb) (But.of_below HL.out) (Or.inl rfl) _⟩
  case rest =>
    obtain ⟨hg1, hg2, hg3, hbut⟩ := hcut
    replace Gq := Lib.hid hg1; replace Gr := Lib.hid hg2; replace Gs := Lib.hid hg3
    have HBu := Lib.hid hbut
    clear hg1 hg2 hg3 hbut
    have c0 := cell_row Gs.out
    have st := st_row (P := Tryd.prog) Gr.out rfl l
    have Gq2 := Lib.hid ((setRow_other wc Rb Qb (wcells l) hne).trans Gq.out)
    have Gr2 := Lib.hid (setRow_heap wc Rb _ (wcells l) _ _ Gr.out)
    have HBu2 := Lib.hid (But.row (S := fun k => k = Qb ∨ k = Rb) HBu.out (g := Rb) (Or.inr rfl) (wcells l))
    clear hne hq1 hr1
    go_wp2
    go_ret
    exact ⟨rfl, Gq2.out, Gr2.out, HBu2.out⟩
end Go.Proofs.YtffengboblekpaaDoor
