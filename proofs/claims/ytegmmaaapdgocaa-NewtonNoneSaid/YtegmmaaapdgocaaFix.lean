/- THE WALKS of package fix: from a guess to what is right. -/
import Derived.Test.YtegmmaaapdgocaaR2b
import Derived.Test.YtegmmaaapdgocaaK16
import Derived.Test.YtegmmaaapdgocaaK17
import Derived.Test.YtegmmaaapdgocaaK11
import Derived.Test.YtegmmaaapdgocaaLaw11N
import Derived.WalkMore
namespace Go.Proofs.Ytegmmaaapdgocaa
open Go Go.RowKit

/-- Wide.Of(1), of a row that was just laid. -/
theorem of1_any (g : Nat) (w : World) (h : w.heap[g]? = some (.cells #[.int .u64 1] 22 (0, 0))) :
    Calls Try.prog 59 #[.slice (some ⟨g, 0, none⟩) 1 1] w fun e w' => e = .returned (wv 1) ∧ Below w.heap.size w w' := by
  have := of_w (.slice (some ⟨g, 0, none⟩) 1 1) 1 1 w (isLimbs_one (by decide) (by rw [cell_row h]; rfl) (lt_of_heap h))
  rwa [Nat.mod_eq_of_lt (lit_ltM _ (by decide))] at this
attribute [local go_sem ↓] Go.wp_at_zero Go.wp_at_succ
set_option maxHeartbeats 1000000 in
theorem without_w (a b : Nat) (ha : a < M) (hb : b < M) (w : World) : Calls Try.prog 51 #[wv a, wv b] w fun e w' => e = .returned (wv (subN a b)) ∧ Below w.heap.size w w' := by
  have S1 := Lib.hid (fun w' => sub_w a b ha hb w')
  obtain ⟨D, hD⟩ : ∃ x, x = subN a b := ⟨_, rfl⟩
  obtain ⟨f, hf⟩ : ∃ x, x = decide (a < b) := ⟨_, rfl⟩
  rw [← hD, ← hf] at S1
  rw [← hD]
  clear ha hb hD hf
  go_enter Try.func51, Try.ntmps51
  have HB := Lib.hid (Below.refl w.heap.size w)
  have Ga := Lib.hid (alloc_new (w) (.cells (wcells a) 24))
  replace HB := Lib.hid (below_al HB.out (.cells (wcells a) 24))
  replace Ga := Lib.hid (keepAl (o' := .cells (wcells b) 24) Ga.out)
  have Gb := Lib.hid (alloc_new' (w := (w).alloc (.cells (wcells a) 24)) (n := w.heap.size + 1) (.cells (wcells b) 24) (by simp))
  replace HB := Lib.hid (below_al HB.out (.cells (wcells b) 24))
  replace Ga := Lib.hid (keepAl (o' := .cells (wcells 0) 24) Ga.out)
  replace Gb := Lib.hid (keepAl (o' := .cells (wcells 0) 24) Gb.out)
  have Go := Lib.hid (alloc_new' (w := ((w).alloc (.cells (wcells a) 24)).alloc (.cells (wcells b) 24)) (n := w.heap.size + 1 + 1) (.cells (wcells 0) 24) (by simp))
  replace HB := Lib.hid (below_al HB.out (.cells (wcells 0) 24))
  have cGa := cell_row Ga.out
  have cGb := cell_row Gb.out
  have cGo := cell_row Go.out
  go_wp2_with fail
  refine (S1.out _).mono ?_
  rintro e w1 ⟨rfl, hb⟩
  clear cGa cGb cGo
  replace HB := Lib.hid (below_then HB.out hb)
  replace Ga := Lib.hid ((hb.block _ (lt_of_heap Ga.out)).trans Ga.out)
  replace Gb := Lib.hid ((hb.block _ (lt_of_heap Gb.out)).trans Gb.out)
  replace Go := Lib.hid ((hb.block _ (lt_of_heap Go.out)).trans Go.out)
  clear hb
  have HZ := Lib.hid (lt_of_heap Go.out)
  replace Go := Lib.hid (keepAl (o' := .cells (wcells D) 24) Go.out)
  have Gd := Lib.hid (alloc_new (w1) (.cells (wcells D) 24))
  replace HB := Lib.hid (below_al HB.out (.cells (wcells D) 24))
  have cd := cell_row Gd.out
  have sto := st_row (P := Try.prog) Go.out rfl (D)
  replace Go := Lib.hid (setRow_heap ((w1).alloc (.cells (wcells D) 24)) (w.heap.size + 1 + 1) _ (wcells (D)) _ _ Go.out)
  replace HB := Lib.hid (below_setRow' HB.out (show _ ≤ w.heap.size + 1 + 1 by (omega)) (wcells (D)))
  have cGo := cell_row Go.out
  go_wp2
  exact bodyPost_ret (v := wv D) (res_c Try.results51 _ _ _ _ _ _ rfl Go.out aggW) rfl ⟨rfl, HB.out⟩

/-- A function value that tells whether a number is above q, in whatever world comes of w. -/
def Above (P : Program) (f : FuncId) (caps : Array Value) (w : World) (q : Nat) : Prop :=
  ∀ (x : Nat) (w' : World), x < P2 202 → Below w.heap.size w w' → Calls P f (#[wv x] ++ caps) w' fun e w'' => e = .returned (.bool (decide (q < x))) ∧ Below w'.heap.size w' w''
theorem P2_201 : P2 201 + P2 201 = P2 202 ∧ P2 202 < M ∧ 2 < P2 201 := by
  refine ⟨by rw [show 202 = 201 + 1 from rfl, P2_twice 201]; omega, by rw [M_eq]; exact P2_lt (by omega), ?_⟩
  have := P2_lt (show 2 < 201 by omega)
  rw [show P2 2 = 4 by rw [P2_eq]] at this
  omega
theorem sub_one {x : Nat} (h0 : 0 < x) (h : x < M) : subN x 1 = x - 1 := by
  unfold subN
  rw [show x + M - 1 = (x - 1) + M by omega, Nat.add_mod_right, Nat.mod_eq_of_lt (by omega)]

set_option maxRecDepth 100000 in
set_option maxHeartbeats 2000000 in
theorem right_yes (f : FuncId) (caps : Array Value) (g q m : Nat) (w : World) (hg : g < P2 201) (hq : q < P2 201) (hm : m ≤ 100) (hd : (g - q) + (q - g) ≤ m) (hcall : Enters Try.prog f) (hT : Above Try.prog f caps w q) :
    Calls Try.prog 77 #[wv g, .int .i64 (m : Int), .func (.func f) #[] caps] w fun e w' => e = .returned (.tuple #[wv q, .int .i64 (((g - q) + (q - g) : Nat) : Int), .bool true]) ∧ Below w.heap.size w w' := by
  unfold Enters at hcall
  have HT := Lib.hid hT; have HG := Lib.hid hg; have HQ := Lib.hid hq; have HM := Lib.hid hm; have HD := Lib.hid hd
  have SO := Lib.hid (fun g' w' h => of1_any g' w' h)
  have H2 := Lib.hid P2_201
  obtain ⟨a, ha⟩ : ∃ a, a = (g - q) + (q - g) := ⟨_, rfl⟩
  rw [← ha] at HD ⊢
  have HA := Lib.hid ha
  have hm' : (m : Int) ≤ 100 := by omega
  clear hT hg hq hm hd ha
  go_enter Try.func77, Try.ntmps77
  have HB := Lib.hid (Below.refl w.heap.size w)
  have Gg := Lib.hid (alloc_new (w) (.cells (wcells g) 24))
  replace HB := Lib.hid (below_al HB.out (.cells (wcells g) 24))
  replace Gg := Lib.hid (keepAl (o' := .cells (wcells 0) 24) Gg.out)
  have Go := Lib.hid (alloc_new' (w := (w).alloc (.cells (wcells g) 24)) (n := w.heap.size + 1) (.cells (wcells 0) 24) (by simp))
  replace HB := Lib.hid (below_al HB.out (.cells (wcells 0) 24))
  go_wp2
  go_step3
  replace Gg := Lib.hid (keepAl (o' := .cells #[.int .u64 1] 22) Gg.out)
  replace Go := Lib.hid (keepAl (o' := .cells #[.int .u64 1] 22) Go.out)
  have Gl := Lib.hid (alloc_new' (w := ((w).alloc (.cells (wcells g) 24)).alloc (.cells (wcells 0) 24)) (n := w.heap.size + 1 + 1) (.cells #[.int .u64 1] 22) (by simp))
  replace HB := Lib.hid (below_al HB.out (.cells #[.int .u64 1] 22))
  have cGg := cell_row Gg.out
  have cGo := cell_row Go.out
  have cGl := cell_row Gl.out
  go_wp2_with fail
  refine (SO.out _ _ Gl.out).mono ?_
  rintro e w2 ⟨rfl, hb⟩
  clear cGg cGo cGl
  replace HB := Lib.hid (below_then HB.out hb)
  replace Gg := Lib.hid ((hb.block _ (lt_of_heap Gg.out)).trans Gg.out)
  replace Go := Lib.hid ((hb.block _ (lt_of_heap Go.out)).trans Go.out)
  replace Gl := Lib.hid ((hb.block _ (lt_of_heap Gl.out)).trans Gl.out)
  clear hb
  have HZ := Lib.hid (lt_of_heap Go.out)
  replace Gg := Lib.hid (keepAl (o' := .cells (wcells 1) 24) Gg.out)
  replace Go := Lib.hid (keepAl (o' := .cells (wcells 1) 24) Go.out)
  have Gn := Lib.hid (alloc_new (w2) (.cells (wcells 1) 24))
  replace HB := Lib.hid (below_al HB.out (.cells (wcells 1) 24))
  obtain ⟨p, hp⟩ : ∃ p, p = w2.heap.size := ⟨_, rfl⟩
  rw [← hp] at Gn
  have HP : Hid (w.heap.size + 1 < p) := Lib.hid (by have := HZ.out; omega)
  clear HZ
  go_wp2
  rw [← hp]
  clear hp
  go_step3
  go_wp2
  go_loopw [9] (fun s9 wr => ∃ k : Nat, s9 = .int .i64 (k : Int) ∧ Hid (k ≤ g - q) ∧ Hid (Below w.heap.size w wr) ∧ Hid (wr.heap[w.heap.size]? = some (.cells (wcells (g - k)) 24 (0, 0))) ∧ Hid (wr.heap[w.heap.size + 1]? = some (.cells (wcells 0) 24 (0, 0))) ∧ Hid (wr.heap[p]? = some (.cells (wcells 1) 24 (0, 0)))) (fun s9 _ => g - (intOf s9).toNat)
  case atStart => exact ⟨0, rfl, Lib.hid (Nat.zero_le _), HB, Gg, Go, Gn⟩
  case round =>
    clear HB Gg Go Gn
    obtain ⟨k, rfl, HK, HB, Gg, Go, Gn⟩ := hrel
    have P1 := Lib.hid (HT.out (g - k) wr (by have := HG.out; have := H2.out; omega) HB.out)
    have hM1 : (1 : Nat) < M := lit_ltM _ (by decide)
    have hpp := HP.out
    by_cases hlt : k < g - q
    · rw [decide_eq_true (show q < g - k by omega)] at P1
      have S2 := Lib.hid (fun w' => sub_w (g - k) 1 (by have := HG.out; have := H2.out; omega) hM1 w')
      rw [sub_one (show 0 < g - k by omega) (by have := HG.out; have := H2.out; omega)] at S2
      obtain ⟨x, hx⟩ : ∃ x, x = g - k := ⟨_, rfl⟩
      obtain ⟨fb, hfb⟩ : ∃ x, x = decide (g - k < 1) := ⟨_, rfl⟩
      rw [← hfb] at S2
      rw [← hx] at P1 S2 Gg
      have HX : Hid (x - 1 = g - (k + 1)) := Lib.hid (by omega)
      obtain ⟨y, hy⟩ : ∃ y, y = x - 1 := ⟨_, rfl⟩
      rw [← hy] at S2 HX
      have HLT := Lib.hid hlt
      have hkm : (k : Int) + 1 ≤ (m : Int) := by have := HD.out; have := HA.out; omega
      have e0 : (0 : Int) ≤ (k : Int) := Int.natCast_nonneg _
      clear hx hfb hy hlt hM1
      have cGg := cell_row Gg.out
      have cGo := cell_row Go.out
      have cGn := cell_row Gn.out
      go_wp2_with fail
      refine (P1.out).mono ?_
      rintro e w3 ⟨rfl, hb⟩
      clear cGg cGo cGn
      replace HB := Lib.hid (below_then HB.out hb)
      replace Gg := Lib.hid ((hb.block _ (lt_of_heap Gg.out)).trans Gg.out)
      replace Go := Lib.hid ((hb.block _ (lt_of_heap Go.out)).trans Go.out)
      replace Gn := Lib.hid ((hb.block _ (lt_of_heap Gn.out)).trans Gn.out)
      clear hb
      have cGg := cell_row Gg.out
      have cGo := cell_row Go.out
      have cGn := cell_row Gn.out
      go_wp2_with fail
      refine (S2.out _).mono ?_
      rintro e w4 ⟨rfl, hb⟩
      clear cGg cGo cGn
      replace HB := Lib.hid (below_then HB.out hb)
      replace Gg := Lib.hid ((hb.block _ (lt_of_heap Gg.out)).trans Gg.out)
      replace Go := Lib.hid ((hb.block _ (lt_of_heap Go.out)).trans Go.out)
      replace Gn := Lib.hid ((hb.block _ (lt_of_heap Gn.out)).trans Gn.out)
      clear hb
      have stg := st_row (P := Try.prog) Gg.out rfl (y)
      replace Go := Lib.hid ((setRow_other (w4) (w.heap.size) _ (wcells (y)) (by (omega))).trans Go.out)
      replace Gn := Lib.hid ((setRow_other (w4) (w.heap.size) _ (wcells (y)) (by (omega))).trans Gn.out)
      replace Gg := Lib.hid (setRow_heap (w4) (w.heap.size) _ (wcells (y)) _ _ Gg.out)
      replace HB := Lib.hid (below_setRow' HB.out (show _ ≤ w.heap.size by (omega)) (wcells (y)))
      go_wp2
      go_roundw
      case rel => exact ⟨k + 1, by go_num, Lib.hid HLT.out, HB, by rw [← HX.out]; exact Gg, Go, Gn⟩
      case measure => have := HLT.out; simp [intOf]; omega
    · have hk : k = g - q := by have := HK.out; omega
      rw [decide_eq_false (show ¬ q < g - k by omega)] at P1
      obtain ⟨c, hc⟩ : ∃ c, c = g - q := ⟨_, rfl⟩
      rw [← hc] at hk HA
      have HC := Lib.hid hc
      clear hlt hc HK
      subst hk
      have cGg := cell_row Gg.out
      have cGo := cell_row Go.out
      have cGn := cell_row Gn.out
      go_wp2_with fail
      refine (P1.out).mono ?_
      rintro e w5 ⟨rfl, hb⟩
      clear cGg cGo cGn
      replace HB := Lib.hid (below_then HB.out hb)
      replace Gg := Lib.hid ((hb.block _ (lt_of_heap Gg.out)).trans Gg.out)
      replace Go := Lib.hid ((hb.block _ (lt_of_heap Go.out)).trans Go.out)
      replace Gn := Lib.hid ((hb.block _ (lt_of_heap Gn.out)).trans Gn.out)
      clear hb
      go_wp2
      try rw [Exit.noGoto_normal]
      go_step3
      go_wp2
      have hx0 : g - k + (k - k) = g - k := by omega
      rw [← hx0] at Gg
      clear hx0 P1
      go_loopw [9] (fun s9 wr => ∃ j : Nat, s9 = .int .i64 (j : Int) ∧ Hid (k ≤ j) ∧ Hid (j ≤ a) ∧ Hid (Below w.heap.size w wr) ∧ Hid (wr.heap[w.heap.size]? = some (.cells (wcells (g - k + (j - k))) 24 (0, 0))) ∧ Hid (wr.heap[w.heap.size + 1]? = some (.cells (wcells 0) 24 (0, 0))) ∧ Hid (wr.heap[p]? = some (.cells (wcells 1) 24 (0, 0)))) (fun s9 _ => a + 1 - (intOf s9).toNat)
      case atStart => exact ⟨k, rfl, Lib.hid (Nat.le_refl _), Lib.hid (by have := HA.out; omega), HB, Gg, Go, Gn⟩
      case round =>
        clear HB Gg Go Gn
        obtain ⟨j, rfl, HJ1, HJ2, HB, Gg, Go, Gn⟩ := hrel
        have hx1 : g - k + (j - k) < P2 202 ∧ g - k + (j - k) + 1 < P2 202 := by have := HG.out; have := HQ.out; have := H2.out; have := HA.out; have := HC.out; have := HJ1.out; have := HJ2.out; omega
        have S3 := Lib.hid (fun w' => add_w (g - k + (j - k)) 1 (by have := H2.out; omega) hM1 w')
        rw [Nat.mod_eq_of_lt (show g - k + (j - k) + 1 < M by have := H2.out; omega)] at S3
        have HTY := Lib.hid (fun w' hb => HT.out (g - k + (j - k) + 1) w' hx1.2 hb)
        have hjm : (j : Int) ≤ (m : Int) := by have := HD.out; have := HJ2.out; omega
        have e0 : (0 : Int) ≤ (j : Int) := Int.natCast_nonneg _
        by_cases hlt : j < a
        · rw [decide_eq_false (show ¬ q < g - k + (j - k) + 1 by have := HA.out; have := HC.out; have := HJ1.out; omega)] at HTY
          obtain ⟨x, hx⟩ : ∃ x, x = g - k + (j - k) := ⟨_, rfl⟩
          obtain ⟨y, hy⟩ : ∃ y, y = x + 1 := ⟨_, rfl⟩
          obtain ⟨fb, hfb⟩ : ∃ f, f = decide (M ≤ y) := ⟨_, rfl⟩
          rw [← hx] at S3 HTY Gg
          rw [← hy] at S3 HTY
          rw [← hfb] at S3
          have HX : Hid (y = g - k + (j + 1 - k)) := Lib.hid (by have := HJ1.out; omega)
          have HLT := Lib.hid hlt
          clear hx1 hx hy hfb hlt
          have cGg := cell_row Gg.out
          have cGo := cell_row Go.out
          have cGn := cell_row Gn.out
          go_wp2_with fail
          refine (S3.out _).mono ?_
          rintro e w6 ⟨rfl, hb⟩
          clear cGg cGo cGn
          replace HB := Lib.hid (below_then HB.out hb)
          replace Gg := Lib.hid ((hb.block _ (lt_of_heap Gg.out)).trans Gg.out)
          replace Go := Lib.hid ((hb.block _ (lt_of_heap Go.out)).trans Go.out)
          replace Gn := Lib.hid ((hb.block _ (lt_of_heap Gn.out)).trans Gn.out)
          clear hb
          have HZ := Lib.hid (lt_of_heap Gg.out)
          replace Gg := Lib.hid (keepAl (o' := .cells (wcells y) 24) Gg.out)
          replace Go := Lib.hid (keepAl (o' := .cells (wcells y) 24) Go.out)
          replace Gn := Lib.hid (keepAl (o' := .cells (wcells y) 24) Gn.out)
          have Gy := Lib.hid (alloc_new (w6) (.cells (wcells y) 24))
          replace HB := Lib.hid (below_al HB.out (.cells (wcells y) 24))
          have cGg := cell_row Gg.out
          have cGo := cell_row Go.out
          have cGn := cell_row Gn.out
          have cGy := cell_row Gy.out
          go_wp2_with fail
          refine (HTY.out _ HB.out).mono ?_
          rintro e w7 ⟨rfl, hb⟩
          clear cGg cGo cGn cGy
          replace HB := Lib.hid (below_then HB.out hb)
          replace Gg := Lib.hid ((hb.block _ (lt_of_heap Gg.out)).trans Gg.out)
          replace Go := Lib.hid ((hb.block _ (lt_of_heap Go.out)).trans Go.out)
          replace Gn := Lib.hid ((hb.block _ (lt_of_heap Gn.out)).trans Gn.out)
          replace Gy := Lib.hid ((hb.block _ (lt_of_heap Gy.out)).trans Gy.out)
          clear hb
          have hz := HZ.out
          have cy := cell_row Gy.out
          have stg := st_row (P := Try.prog) Gg.out rfl (y)
          replace Go := Lib.hid ((setRow_other (w7) (w.heap.size) _ (wcells (y)) (by (omega))).trans Go.out)
          replace Gn := Lib.hid ((setRow_other (w7) (w.heap.size) _ (wcells (y)) (by (omega))).trans Gn.out)
          replace Gg := Lib.hid (setRow_heap (w7) (w.heap.size) _ (wcells (y)) _ _ Gg.out)
          replace HB := Lib.hid (below_setRow' HB.out (show _ ≤ w.heap.size by (omega)) (wcells (y)))
          go_wp2
          go_roundw
          case rel => exact ⟨j + 1, by go_num, Lib.hid (by have := HJ1.out; omega), Lib.hid HLT.out, HB, by rw [← HX.out]; exact Gg, Go, Gn⟩
          case measure => have := HLT.out; simp [intOf]; omega
        · obtain rfl : j = a := by have := HJ2.out; omega
          have hxq : g - k + (j - k) = q := by have := HA.out; have := HC.out; omega
          rw [hxq] at S3 HTY Gg
          rw [decide_eq_true (Nat.lt_succ_self q)] at HTY
          obtain ⟨y, hy⟩ : ∃ y, y = q + 1 := ⟨_, rfl⟩
          obtain ⟨fb, hfb⟩ : ∃ f, f = decide (M ≤ y) := ⟨_, rfl⟩
          rw [← hy] at S3 HTY
          rw [← hfb] at S3
          clear hx1 hy hfb hlt hxq
          have cGg := cell_row Gg.out
          have cGo := cell_row Go.out
          have cGn := cell_row Gn.out
          go_wp2_with fail
          refine (S3.out _).mono ?_
          rintro e w8 ⟨rfl, hb⟩
          clear cGg cGo cGn
          replace HB := Lib.hid (below_then HB.out hb)
          replace Gg := Lib.hid ((hb.block _ (lt_of_heap Gg.out)).trans Gg.out)
          replace Go := Lib.hid ((hb.block _ (lt_of_heap Go.out)).trans Go.out)
          replace Gn := Lib.hid ((hb.block _ (lt_of_heap Gn.out)).trans Gn.out)
          clear hb
          replace Gg := Lib.hid (keepAl (o' := .cells (wcells y) 24) Gg.out)
          replace Go := Lib.hid (keepAl (o' := .cells (wcells y) 24) Go.out)
          replace Gn := Lib.hid (keepAl (o' := .cells (wcells y) 24) Gn.out)
          have Gy := Lib.hid (alloc_new (w8) (.cells (wcells y) 24))
          replace HB := Lib.hid (below_al HB.out (.cells (wcells y) 24))
          have cGg := cell_row Gg.out
          have cGo := cell_row Go.out
          have cGn := cell_row Gn.out
          have cGy := cell_row Gy.out
          go_wp2_with fail
          refine (HTY.out _ HB.out).mono ?_
          rintro e w9 ⟨rfl, hb⟩
          clear cGg cGo cGn cGy
          replace HB := Lib.hid (below_then HB.out hb)
          replace Gg := Lib.hid ((hb.block _ (lt_of_heap Gg.out)).trans Gg.out)
          replace Go := Lib.hid ((hb.block _ (lt_of_heap Go.out)).trans Go.out)
          replace Gn := Lib.hid ((hb.block _ (lt_of_heap Gn.out)).trans Gn.out)
          replace Gy := Lib.hid ((hb.block _ (lt_of_heap Gy.out)).trans Gy.out)
          clear hb
          have cg := cell_row Gg.out
          have sto := st_row (P := Try.prog) Go.out rfl (q)
          replace Gg := Lib.hid ((setRow_other (w9) (w.heap.size + 1) _ (wcells (q)) (by (omega))).trans Gg.out)
          replace Go := Lib.hid (setRow_heap (w9) (w.heap.size + 1) _ (wcells (q)) _ _ Go.out)
          replace HB := Lib.hid (below_setRow' HB.out (show _ ≤ w.heap.size + 1 by (omega)) (wcells (q)))
          have cGg := cell_row Gg.out
          have cGo := cell_row Go.out
          go_wp2
          (try rw [Exit.noGoto_ret])
          (try rw [Exit.noGoto_ret])
          (try rw [Exit.noGoto_ret])
          exact bodyPost_ret (v := .tuple #[wv q, .int .i64 (j : Int), .bool true]) (res_ctt Try.results77 _ _ _ _ _ _ _ _ rfl rfl rfl Go.out aggW) rfl ⟨rfl, HB.out⟩

set_option maxRecDepth 100000 in
set_option maxHeartbeats 2000000 in
theorem right_down (f : FuncId) (caps : Array Value) (g q m : Nat) (w : World) (hg : g < P2 201) (hm : m ≤ 100) (hd : m < g - q) (hcall : Enters Try.prog f) (hT : Above Try.prog f caps w q) :
    Calls Try.prog 77 #[wv g, .int .i64 (m : Int), .func (.func f) #[] caps] w fun e w' => ∃ x n, e = .returned (.tuple #[wv x, .int .i64 n, .bool false]) ∧ Below w.heap.size w w' := by
  unfold Enters at hcall
  have HT := Lib.hid hT; have HG := Lib.hid hg; have HM := Lib.hid hm; have HD := Lib.hid hd
  have SO := Lib.hid (fun g' w' h => of1_any g' w' h)
  have H2 := Lib.hid P2_201
  have hm' : (m : Int) ≤ 100 := by omega
  clear hT hg hm hd
  go_enter Try.func77, Try.ntmps77
  have HB := Lib.hid (Below.refl w.heap.size w)
  have Gg := Lib.hid (alloc_new (w) (.cells (wcells g) 24))
  replace HB := Lib.hid (below_al HB.out (.cells (wcells g) 24))
  replace Gg := Lib.hid (keepAl (o' := .cells (wcells 0) 24) Gg.out)
  have Go := Lib.hid (alloc_new' (w := (w).alloc (.cells (wcells g) 24)) (n := w.heap.size + 1) (.cells (wcells 0) 24) (by simp))
  replace HB := Lib.hid (below_al HB.out (.cells (wcells 0) 24))
  go_wp2
  go_step3
  replace Gg := Lib.hid (keepAl (o' := .cells #[.int .u64 1] 22) Gg.out)
  replace Go := Lib.hid (keepAl (o' := .cells #[.int .u64 1] 22) Go.out)
  have Gl := Lib.hid (alloc_new' (w := ((w).alloc (.cells (wcells g) 24)).alloc (.cells (wcells 0) 24)) (n := w.heap.size + 1 + 1) (.cells #[.int .u64 1] 22) (by simp))
  replace HB := Lib.hid (below_al HB.out (.cells #[.int .u64 1] 22))
  have cGg := cell_row Gg.out
  have cGo := cell_row Go.out
  have cGl := cell_row Gl.out
  go_wp2_with fail
  refine (SO.out _ _ Gl.out).mono ?_
  rintro e w10 ⟨rfl, hb⟩
  clear cGg cGo cGl
  replace HB := Lib.hid (below_then HB.out hb)
  replace Gg := Lib.hid ((hb.block _ (lt_of_heap Gg.out)).trans Gg.out)
  replace Go := Lib.hid ((hb.block _ (lt_of_heap Go.out)).trans Go.out)
  replace Gl := Lib.hid ((hb.block _ (lt_of_heap Gl.out)).trans Gl.out)
  clear hb
  have HZ := Lib.hid (lt_of_heap Go.out)
  replace Gg := Lib.hid (keepAl (o' := .cells (wcells 1) 24) Gg.out)
  replace Go := Lib.hid (keepAl (o' := .cells (wcells 1) 24) Go.out)
  have Gn := Lib.hid (alloc_new (w10) (.cells (wcells 1) 24))
  replace HB := Lib.hid (below_al HB.out (.cells (wcells 1) 24))
  obtain ⟨p, hp⟩ : ∃ p, p = w10.heap.size := ⟨_, rfl⟩
  rw [← hp] at Gn
  have HP : Hid (w.heap.size + 1 < p) := Lib.hid (by have := HZ.out; omega)
  clear HZ
  go_wp2
  rw [← hp]
  clear hp
  go_step3
  go_wp2
  go_loopw [9] (fun s9 wr => ∃ k : Nat, s9 = .int .i64 (k : Int) ∧ Hid (k ≤ m) ∧ Hid (Below w.heap.size w wr) ∧ Hid (wr.heap[w.heap.size]? = some (.cells (wcells (g - k)) 24 (0, 0))) ∧ Hid (wr.heap[w.heap.size + 1]? = some (.cells (wcells 0) 24 (0, 0))) ∧ Hid (wr.heap[p]? = some (.cells (wcells 1) 24 (0, 0)))) (fun s9 _ => g - (intOf s9).toNat)
  case atStart => exact ⟨0, rfl, Lib.hid (Nat.zero_le _), HB, Gg, Go, Gn⟩
  case round =>
    clear HB Gg Go Gn
    obtain ⟨k, rfl, HK, HB, Gg, Go, Gn⟩ := hrel
    have P1 := Lib.hid (HT.out (g - k) wr (by have := HG.out; have := H2.out; omega) HB.out)
    have hM1 : (1 : Nat) < M := lit_ltM _ (by decide)
    have hpp := HP.out
    have hkq : k < g - q := by have := HK.out; have := HD.out; omega
    rw [decide_eq_true (show q < g - k by omega)] at P1
    have e0 : (0 : Int) ≤ (k : Int) := Int.natCast_nonneg _
    have ekm : (k : Int) ≤ (m : Int) := by have := HK.out; omega
    by_cases hlt : k < m
    · have S2 := Lib.hid (fun w' => sub_w (g - k) 1 (by have := HG.out; have := H2.out; omega) hM1 w')
      rw [sub_one (show 0 < g - k by omega) (by have := HG.out; have := H2.out; omega)] at S2
      obtain ⟨x, hx⟩ : ∃ x, x = g - k := ⟨_, rfl⟩
      obtain ⟨fb, hfb⟩ : ∃ x, x = decide (g - k < 1) := ⟨_, rfl⟩
      rw [← hfb] at S2
      rw [← hx] at P1 S2 Gg
      have HX : Hid (x - 1 = g - (k + 1)) := Lib.hid (by omega)
      obtain ⟨y, hy⟩ : ∃ y, y = x - 1 := ⟨_, rfl⟩
      rw [← hy] at S2 HX
      have HLT := Lib.hid hlt; have HKQ := Lib.hid hkq
      have hkm : (k : Int) + 1 ≤ (m : Int) := by omega
      clear hx hfb hy hlt hM1 hkq
      have cGg := cell_row Gg.out
      have cGo := cell_row Go.out
      have cGn := cell_row Gn.out
      go_wp2_with fail
      refine (P1.out).mono ?_
      rintro e w11 ⟨rfl, hb⟩
      clear cGg cGo cGn
      replace HB := Lib.hid (below_then HB.out hb)
      replace Gg := Lib.hid ((hb.block _ (lt_of_heap Gg.out)).trans Gg.out)
      replace Go := Lib.hid ((hb.block _ (lt_of_heap Go.out)).trans Go.out)
      replace Gn := Lib.hid ((hb.block _ (lt_of_heap Gn.out)).trans Gn.out)
      clear hb
      have cGg := cell_row Gg.out
      have cGo := cell_row Go.out
      have cGn := cell_row Gn.out
      go_wp2_with fail
      refine (S2.out _).mono ?_
      rintro e w12 ⟨rfl, hb⟩
      clear cGg cGo cGn
      replace HB := Lib.hid (below_then HB.out hb)
      replace Gg := Lib.hid ((hb.block _ (lt_of_heap Gg.out)).trans Gg.out)
      replace Go := Lib.hid ((hb.block _ (lt_of_heap Go.out)).trans Go.out)
      replace Gn := Lib.hid ((hb.block _ (lt_of_heap Gn.out)).trans Gn.out)
      clear hb
      have stg := st_row (P := Try.prog) Gg.out rfl (y)
      replace Go := Lib.hid ((setRow_other (w12) (w.heap.size) _ (wcells (y)) (by (omega))).trans Go.out)
      replace Gn := Lib.hid ((setRow_other (w12) (w.heap.size) _ (wcells (y)) (by (omega))).trans Gn.out)
      replace Gg := Lib.hid (setRow_heap (w12) (w.heap.size) _ (wcells (y)) _ _ Gg.out)
      replace HB := Lib.hid (below_setRow' HB.out (show _ ≤ w.heap.size by (omega)) (wcells (y)))
      go_wp2
      go_roundw
      case rel => exact ⟨k + 1, by go_num, Lib.hid HLT.out, HB, by rw [← HX.out]; exact Gg, Go, Gn⟩
      case measure => have := HKQ.out; simp [intOf]; omega
    · obtain rfl : k = m := by have := HK.out; omega
      obtain ⟨x, hx⟩ : ∃ x, x = g - k := ⟨_, rfl⟩
      rw [← hx] at P1 Gg
      have HKQ := Lib.hid hkq
      clear hx hlt hM1 hkq ekm HK
      have cGg := cell_row Gg.out
      have cGo := cell_row Go.out
      have cGn := cell_row Gn.out
      go_wp2_with fail
      refine (P1.out).mono ?_
      rintro e w13 ⟨rfl, hb⟩
      clear cGg cGo cGn
      replace HB := Lib.hid (below_then HB.out hb)
      replace Gg := Lib.hid ((hb.block _ (lt_of_heap Gg.out)).trans Gg.out)
      replace Go := Lib.hid ((hb.block _ (lt_of_heap Go.out)).trans Go.out)
      replace Gn := Lib.hid ((hb.block _ (lt_of_heap Gn.out)).trans Gn.out)
      clear hb
      go_wp2
      try rw [Exit.noGoto_normal]
      go_step3
      go_wp2
      go_loopw [9] (fun s9 wr => s9 = .int .i64 ((k : Int) + 1) ∧ Hid (Below w.heap.size w wr) ∧ Hid (wr.heap[w.heap.size]? = some (.cells (wcells x) 24 (0, 0))) ∧ Hid (wr.heap[w.heap.size + 1]? = some (.cells (wcells 0) 24 (0, 0)))) (fun _ _ => 0)
      case atStart => exact ⟨rfl, HB, Gg, Go⟩
      case round =>
        clear HB Gg Go Gn P1
        obtain ⟨rfl, HB, Gg, Go⟩ := hrel
        have en : decide ((k : Int) + 1 ≤ (k : Int)) = false := decide_eq_false (by omega)
        have cg := cell_row Gg.out
        have sto := st_row (P := Try.prog) Go.out rfl (x)
        replace Gg := Lib.hid ((setRow_other (wr) (w.heap.size + 1) _ (wcells (x)) (by (omega))).trans Gg.out)
        replace Go := Lib.hid (setRow_heap (wr) (w.heap.size + 1) _ (wcells (x)) _ _ Go.out)
        replace HB := Lib.hid (below_setRow' HB.out (show _ ≤ w.heap.size + 1 by (omega)) (wcells (x)))
        go_wp2
        (try rw [Exit.noGoto_ret])
        (try rw [Exit.noGoto_ret])
        exact bodyPost_ret (v := .tuple #[wv x, .int .i64 ((k : Int) + 1), .bool false]) (res_ctt Try.results77 _ _ _ _ _ _ _ _ rfl rfl rfl Go.out aggW) rfl ⟨_, _, rfl, HB.out⟩

set_option maxRecDepth 100000 in
set_option maxHeartbeats 2000000 in
theorem right_up (f : FuncId) (caps : Array Value) (g q m : Nat) (w : World) (hg : g < P2 201) (hm : m ≤ 100) (hd : m < q - g) (hcall : Enters Try.prog f) (hT : Above Try.prog f caps w q) :
    Calls Try.prog 77 #[wv g, .int .i64 (m : Int), .func (.func f) #[] caps] w fun e w' => ∃ x n, e = .returned (.tuple #[wv x, .int .i64 n, .bool false]) ∧ Below w.heap.size w w' := by
  unfold Enters at hcall
  have HT := Lib.hid hT; have HG := Lib.hid hg; have HM := Lib.hid hm; have HD := Lib.hid hd
  have SO := Lib.hid (fun g' w' h => of1_any g' w' h)
  have H2 := Lib.hid P2_201
  have hm' : (m : Int) ≤ 100 := by omega
  clear hT hg hm hd
  go_enter Try.func77, Try.ntmps77
  have HB := Lib.hid (Below.refl w.heap.size w)
  have Gg := Lib.hid (alloc_new (w) (.cells (wcells g) 24))
  replace HB := Lib.hid (below_al HB.out (.cells (wcells g) 24))
  replace Gg := Lib.hid (keepAl (o' := .cells (wcells 0) 24) Gg.out)
  have Go := Lib.hid (alloc_new' (w := (w).alloc (.cells (wcells g) 24)) (n := w.heap.size + 1) (.cells (wcells 0) 24) (by simp))
  replace HB := Lib.hid (below_al HB.out (.cells (wcells 0) 24))
  go_wp2
  go_step3
  replace Gg := Lib.hid (keepAl (o' := .cells #[.int .u64 1] 22) Gg.out)
  replace Go := Lib.hid (keepAl (o' := .cells #[.int .u64 1] 22) Go.out)
  have Gl := Lib.hid (alloc_new' (w := ((w).alloc (.cells (wcells g) 24)).alloc (.cells (wcells 0) 24)) (n := w.heap.size + 1 + 1) (.cells #[.int .u64 1] 22) (by simp))
  replace HB := Lib.hid (below_al HB.out (.cells #[.int .u64 1] 22))
  have cGg := cell_row Gg.out
  have cGo := cell_row Go.out
  have cGl := cell_row Gl.out
  go_wp2_with fail
  refine (SO.out _ _ Gl.out).mono ?_
  rintro e w14 ⟨rfl, hb⟩
  clear cGg cGo cGl
  replace HB := Lib.hid (below_then HB.out hb)
  replace Gg := Lib.hid ((hb.block _ (lt_of_heap Gg.out)).trans Gg.out)
  replace Go := Lib.hid ((hb.block _ (lt_of_heap Go.out)).trans Go.out)
  replace Gl := Lib.hid ((hb.block _ (lt_of_heap Gl.out)).trans Gl.out)
  clear hb
  have HZ := Lib.hid (lt_of_heap Go.out)
  replace Gg := Lib.hid (keepAl (o' := .cells (wcells 1) 24) Gg.out)
  replace Go := Lib.hid (keepAl (o' := .cells (wcells 1) 24) Go.out)
  have Gn := Lib.hid (alloc_new (w14) (.cells (wcells 1) 24))
  replace HB := Lib.hid (below_al HB.out (.cells (wcells 1) 24))
  obtain ⟨p, hp⟩ : ∃ p, p = w14.heap.size := ⟨_, rfl⟩
  rw [← hp] at Gn
  have HP : Hid (w.heap.size + 1 < p) := Lib.hid (by have := HZ.out; omega)
  clear HZ
  go_wp2
  rw [← hp]
  clear hp
  go_step3
  go_wp2
  go_loopw [9] (fun s9 wr => s9 = .int .i64 0 ∧ Hid (Below w.heap.size w wr) ∧ Hid (wr.heap[w.heap.size]? = some (.cells (wcells g) 24 (0, 0))) ∧ Hid (wr.heap[w.heap.size + 1]? = some (.cells (wcells 0) 24 (0, 0))) ∧ Hid (wr.heap[p]? = some (.cells (wcells 1) 24 (0, 0)))) (fun _ _ => 0)
  case atStart => exact ⟨rfl, HB, Gg, Go, Gn⟩
  case round =>
    clear HB Gg Go Gn
    obtain ⟨rfl, HB, Gg, Go, Gn⟩ := hrel
    have P1 := Lib.hid (HT.out g wr (by have := HG.out; have := H2.out; omega) HB.out)
    have hM1 : (1 : Nat) < M := lit_ltM _ (by decide)
    have hpp := HP.out
    rw [decide_eq_false (show ¬ q < g by have := HD.out; omega)] at P1
    have cGg := cell_row Gg.out
    have cGo := cell_row Go.out
    have cGn := cell_row Gn.out
    go_wp2_with fail
    refine (P1.out).mono ?_
    rintro e w15 ⟨rfl, hb⟩
    clear cGg cGo cGn
    replace HB := Lib.hid (below_then HB.out hb)
    replace Gg := Lib.hid ((hb.block _ (lt_of_heap Gg.out)).trans Gg.out)
    replace Go := Lib.hid ((hb.block _ (lt_of_heap Go.out)).trans Go.out)
    replace Gn := Lib.hid ((hb.block _ (lt_of_heap Gn.out)).trans Gn.out)
    clear hb
    go_wp2
    try rw [Exit.noGoto_normal]
    go_step3
    go_wp2
    clear P1
    go_loopw [9] (fun s9 wr => ∃ j : Nat, s9 = .int .i64 (j : Int) ∧ Hid (j ≤ m + 1) ∧ Hid (Below w.heap.size w wr) ∧ Hid (wr.heap[w.heap.size]? = some (.cells (wcells (g + j)) 24 (0, 0))) ∧ Hid (wr.heap[w.heap.size + 1]? = some (.cells (wcells 0) 24 (0, 0))) ∧ Hid (wr.heap[p]? = some (.cells (wcells 1) 24 (0, 0)))) (fun s9 _ => m + 1 - (intOf s9).toNat)
    case atStart => exact ⟨0, rfl, Lib.hid (Nat.zero_le _), HB, Gg, Go, Gn⟩
    case round =>
      clear HB Gg Go Gn
      obtain ⟨j, rfl, HJ, HB, Gg, Go, Gn⟩ := hrel
      have e0 : (0 : Int) ≤ (j : Int) := Int.natCast_nonneg _
      by_cases hlt : j ≤ m
      · have hx1 : g + j < P2 202 ∧ g + j + 1 < P2 202 := by have := HG.out; have := HM.out; have := H2.out; have := P2_le (show 8 ≤ 201 by omega); rw [show P2 8 = 256 by rw [P2_eq]] at this; omega
        have S3 := Lib.hid (fun w' => add_w (g + j) 1 (by have := H2.out; omega) hM1 w')
        rw [Nat.mod_eq_of_lt (show g + j + 1 < M by have := H2.out; omega)] at S3
        have HTY := Lib.hid (fun w' hb => HT.out (g + j + 1) w' hx1.2 hb)
        rw [decide_eq_false (show ¬ q < g + j + 1 by have := HD.out; omega)] at HTY
        have hjm : (j : Int) ≤ (m : Int) := by omega
        obtain ⟨x, hx⟩ : ∃ x, x = g + j := ⟨_, rfl⟩
        obtain ⟨y, hy⟩ : ∃ y, y = x + 1 := ⟨_, rfl⟩
        obtain ⟨fb, hfb⟩ : ∃ f, f = decide (M ≤ y) := ⟨_, rfl⟩
        rw [← hx] at S3 HTY Gg
        rw [← hy] at S3 HTY
        rw [← hfb] at S3
        have HX : Hid (y = g + (j + 1)) := Lib.hid (by omega)
        have HLT := Lib.hid hlt
        clear hx1 hx hy hfb hlt
        have cGg := cell_row Gg.out
        have cGo := cell_row Go.out
        have cGn := cell_row Gn.out
        go_wp2_with fail
        refine (S3.out _).mono ?_
        rintro e w16 ⟨rfl, hb⟩
        clear cGg cGo cGn
        replace HB := Lib.hid (below_then HB.out hb)
        replace Gg := Lib.hid ((hb.block _ (lt_of_heap Gg.out)).trans Gg.out)
        replace Go := Lib.hid ((hb.block _ (lt_of_heap Go.out)).trans Go.out)
        replace Gn := Lib.hid ((hb.block _ (lt_of_heap Gn.out)).trans Gn.out)
        clear hb
        have HZ := Lib.hid (lt_of_heap Gg.out)
        replace Gg := Lib.hid (keepAl (o' := .cells (wcells y) 24) Gg.out)
        replace Go := Lib.hid (keepAl (o' := .cells (wcells y) 24) Go.out)
        replace Gn := Lib.hid (keepAl (o' := .cells (wcells y) 24) Gn.out)
        have Gy := Lib.hid (alloc_new (w16) (.cells (wcells y) 24))
        replace HB := Lib.hid (below_al HB.out (.cells (wcells y) 24))
        have cGg := cell_row Gg.out
        have cGo := cell_row Go.out
        have cGn := cell_row Gn.out
        have cGy := cell_row Gy.out
        go_wp2_with fail
        refine (HTY.out _ HB.out).mono ?_
        rintro e w17 ⟨rfl, hb⟩
        clear cGg cGo cGn cGy
        replace HB := Lib.hid (below_then HB.out hb)
        replace Gg := Lib.hid ((hb.block _ (lt_of_heap Gg.out)).trans Gg.out)
        replace Go := Lib.hid ((hb.block _ (lt_of_heap Go.out)).trans Go.out)
        replace Gn := Lib.hid ((hb.block _ (lt_of_heap Gn.out)).trans Gn.out)
        replace Gy := Lib.hid ((hb.block _ (lt_of_heap Gy.out)).trans Gy.out)
        clear hb
        have hz := HZ.out
        have cy := cell_row Gy.out
        have stg := st_row (P := Try.prog) Gg.out rfl (y)
        replace Go := Lib.hid ((setRow_other (w17) (w.heap.size) _ (wcells (y)) (by (omega))).trans Go.out)
        replace Gn := Lib.hid ((setRow_other (w17) (w.heap.size) _ (wcells (y)) (by (omega))).trans Gn.out)
        replace Gg := Lib.hid (setRow_heap (w17) (w.heap.size) _ (wcells (y)) _ _ Gg.out)
        replace HB := Lib.hid (below_setRow' HB.out (show _ ≤ w.heap.size by (omega)) (wcells (y)))
        go_wp2
        go_roundw
        case rel => exact ⟨j + 1, by go_num, Lib.hid (by have := HLT.out; omega), HB, by rw [← HX.out]; exact Gg, Go, Gn⟩
        case measure => have := HLT.out; simp [intOf]; omega
      · obtain rfl : j = m + 1 := by have := HJ.out; omega
        have ejm : ((m + 1 : Nat) : Int) = (m : Int) + 1 := by omega
        have ejn : ¬ ((m + 1 : Nat) : Int) ≤ (m : Int) := by omega
        obtain ⟨x, hx⟩ : ∃ x, x = g + (m + 1) := ⟨_, rfl⟩
        rw [← hx] at Gg
        obtain ⟨j, hj⟩ : ∃ j : Int, j = ((m + 1 : Nat) : Int) := ⟨_, rfl⟩
        rw [← hj] at ejn e0 ⊢
        clear hx hlt ejm hj hM1
        have cg := cell_row Gg.out
        have sto := st_row (P := Try.prog) Go.out rfl (x)
        replace Gg := Lib.hid ((setRow_other (wr) (w.heap.size + 1) _ (wcells (x)) (by (omega))).trans Gg.out)
        replace Go := Lib.hid (setRow_heap (wr) (w.heap.size + 1) _ (wcells (x)) _ _ Go.out)
        replace HB := Lib.hid (below_setRow' HB.out (show _ ≤ w.heap.size + 1 by (omega)) (wcells (x)))
        go_wp2
        (try rw [Exit.noGoto_ret])
        (try rw [Exit.noGoto_ret])
        exact bodyPost_ret (v := .tuple #[wv x, .int .i64 j, .bool false]) (res_ctt Try.results77 _ _ _ _ _ _ _ _ rfl rfl rfl Go.out aggW) rfl ⟨_, _, rfl, HB.out⟩

/-- A function value that tells what is left of q, in whatever world comes of w. -/
def LeftOf (P : Program) (f : FuncId) (caps : Array Value) (w : World) (q r : Nat) : Prop :=
  ∀ (w' : World), Below w.heap.size w w' → Calls P f (#[wv q] ++ caps) w' fun e w'' => e = .returned (wv r) ∧ Below w'.heap.size w' w''

set_option maxRecDepth 100000 in
set_option maxHeartbeats 2000000 in
theorem told_yes (f f2 : FuncId) (caps caps2 : Array Value) (g q r m : Nat) (w : World) (hg : g < P2 201) (hq : q < P2 201) (hm : m ≤ 100) (hd : (g - q) + (q - g) ≤ m) (hcall : Enters Try.prog f) (hcall2 : Enters Try.prog f2) (hT : Above Try.prog f caps w q) (hL : LeftOf Try.prog f2 caps2 w q r) :
    Calls Try.prog 47 #[wv g, .int .i64 (m : Int), .func (.func f) #[] caps, .func (.func f2) #[] caps2] w fun e w' => e = .returned (.tuple #[wv q, wv r, .int .i64 (((g - q) + (q - g) : Nat) : Int), .int .i64 0]) ∧ Below w.heap.size w w' := by
  have S1 : Hid (∀ w' : World, Below w.heap.size w w' → Calls Try.prog 77 #[wv g, .int .i64 (m : Int), .func (.func f) #[] caps] w' fun e w'' => e = .returned (.tuple #[wv q, .int .i64 (((g - q) + (q - g) : Nat) : Int), .bool true]) ∧ Below w'.heap.size w' w'') := Lib.hid fun w' hb =>
    right_yes f caps g q m w' hg hq hm hd hcall (fun x w'' hx hb' => hT x w'' hx (below_then hb hb'))
  have HL := Lib.hid hL
  obtain ⟨a, ha⟩ : ∃ a, a = (g - q) + (q - g) := ⟨_, rfl⟩
  rw [← ha] at S1 ⊢
  unfold Enters at hcall2
  clear hg hq hm hd hcall hT hL ha
  go_enter Try.func47, Try.ntmps47
  have HB := Lib.hid (Below.refl w.heap.size w)
  have Gg := Lib.hid (alloc_new (w) (.cells (wcells g) 24))
  replace HB := Lib.hid (below_al HB.out (.cells (wcells g) 24))
  replace Gg := Lib.hid (keepAl (o' := .cells (wcells 0) 24) Gg.out)
  have Gx := Lib.hid (alloc_new' (w := (w).alloc (.cells (wcells g) 24)) (n := w.heap.size + 1) (.cells (wcells 0) 24) (by simp))
  replace HB := Lib.hid (below_al HB.out (.cells (wcells 0) 24))
  replace Gg := Lib.hid (keepAl (o' := .cells (wcells 0) 24) Gg.out)
  replace Gx := Lib.hid (keepAl (o' := .cells (wcells 0) 24) Gx.out)
  have Gy := Lib.hid (alloc_new' (w := ((w).alloc (.cells (wcells g) 24)).alloc (.cells (wcells 0) 24)) (n := w.heap.size + 1 + 1) (.cells (wcells 0) 24) (by simp))
  replace HB := Lib.hid (below_al HB.out (.cells (wcells 0) 24))
  have cGg := cell_row Gg.out
  have cGx := cell_row Gx.out
  have cGy := cell_row Gy.out
  go_wp2_with fail
  refine (S1.out _ HB.out).mono ?_
  rintro e w18 ⟨rfl, hb⟩
  clear cGg cGx cGy
  replace HB := Lib.hid (below_then HB.out hb)
  replace Gg := Lib.hid ((hb.block _ (lt_of_heap Gg.out)).trans Gg.out)
  replace Gx := Lib.hid ((hb.block _ (lt_of_heap Gx.out)).trans Gx.out)
  replace Gy := Lib.hid ((hb.block _ (lt_of_heap Gy.out)).trans Gy.out)
  clear hb
  have HZ := Lib.hid (lt_of_heap Gy.out)
  replace Gg := Lib.hid (keepAl (o' := .cells (wcells q) 24) Gg.out)
  replace Gx := Lib.hid (keepAl (o' := .cells (wcells q) 24) Gx.out)
  replace Gy := Lib.hid (keepAl (o' := .cells (wcells q) 24) Gy.out)
  have Gq := Lib.hid (alloc_new (w18) (.cells (wcells q) 24))
  replace HB := Lib.hid (below_al HB.out (.cells (wcells q) 24))
  go_upto_region 4 with fail
  have hz := HZ.out
  obtain ⟨wL, hw⟩ : ∃ wx, wx = (w18).alloc (.cells (wcells q) 24) := ⟨_, rfl⟩
  rw [← hw] at Gg Gx Gy Gq HB ⊢
  clear hw
  refine wp_region_store [⟨w.heap.size + 1, 24, .tmp 27⟩, ⟨w.heap.size + 1 + 1, 24, .tmp 30⟩] (by kernel_rfl) (by kernel_rfl) (by kernel_rfl) rfl (List.Pairwise.cons (by intro r hr; simp only [List.mem_cons, List.not_mem_nil, or_false] at hr; subst hr <;> dsimp only <;> (omega)) (List.pairwise_singleton _ _)) ?_ ?_
  · intro r hr
    simp only [List.mem_cons, List.not_mem_nil, or_false] at hr
    rcases hr with rfl | rfl
    · exact ⟨_, Gx.out, by kernel_rfl⟩
    · exact ⟨_, Gy.out, by kernel_rfl⟩
  have xGg := extR_row (B := wL.heap.size) (R := [⟨w.heap.size + 1, 24, .tmp 27⟩, ⟨w.heap.size + 1 + 1, 24, .tmp 30⟩]) Gg.out (lt_of_heap Gg.out) (by intro r hr; simp only [List.mem_cons, List.not_mem_nil, or_false] at hr; rcases hr with rfl | rfl <;> dsimp only <;> (omega))
  have xGq := extR_row (B := wL.heap.size) (R := [⟨w.heap.size + 1, 24, .tmp 27⟩, ⟨w.heap.size + 1 + 1, 24, .tmp 30⟩]) Gq.out (lt_of_heap Gq.out) (by intro r hr; simp only [List.mem_cons, List.not_mem_nil, or_false] at hr; rcases hr with rfl | rfl <;> dsimp only <;> (omega))
  repeat (refine wpCalm_step (fun K hK => ?_); go_simp; first | (refine hK _ ?_; clear hK K) | (apply Exists.intro; refine ⟨fun _ => ?_, hK _ ?_⟩; (first | with_reducible exact HL.out _ (extR_below _ HB.out HB.out.size (by intro r hr; simp only [List.mem_cons, List.not_mem_nil, or_false] at hr; rcases hr with rfl | rfl <;> dsimp only <;> omega)) | exact HL.out _ (extR_below _ HB.out HB.out.size (by intro r hr; simp only [List.mem_cons, List.not_mem_nil, or_false] at hr; rcases hr with rfl | rfl <;> dsimp only <;> omega))); clear hK K))
  refine wpCalm_nil ⟨?_, fun x hx => ?_⟩
  · intro r hr
    simp only [List.mem_cons, List.not_mem_nil, or_false] at hr
    rcases hr with rfl | rfl <;> exact fits_wv (by kernel_rfl) _
  replace Gx : Hid (x.val.heap[w.heap.size + 1]? = some (.cells (wcells (q)) 24 (0, 0))) := Lib.hid (hx ⟨w.heap.size + 1, 24, .tmp 27⟩ (by simp))
  replace Gy : Hid (x.val.heap[w.heap.size + 1 + 1]? = some (.cells (wcells (r)) 24 (0, 0))) := Lib.hid (hx ⟨w.heap.size + 1 + 1, 24, .tmp 30⟩ (by simp))
  replace Gg := Lib.hid (extR_block x Gg.out (lt_of_heap Gg.out) (by intro r hr; simp only [List.mem_cons, List.not_mem_nil, or_false] at hr; rcases hr with rfl | rfl <;> dsimp only <;> (omega)))
  replace Gq := Lib.hid (extR_block x Gq.out (lt_of_heap Gq.out) (by intro r hr; simp only [List.mem_cons, List.not_mem_nil, or_false] at hr; rcases hr with rfl | rfl <;> dsimp only <;> (omega)))
  replace HB := Lib.hid (extR_below x HB.out HB.out.size (by intro r hr; simp only [List.mem_cons, List.not_mem_nil, or_false] at hr; rcases hr with rfl | rfl <;> dsimp only <;> (omega)))
  clear hx xGg xGq
  obtain ⟨w19, hw⟩ : ∃ wx, wx = x.val := ⟨_, rfl⟩
  rw [← hw] at Gg Gx Gy Gq HB ⊢
  clear hw x
  have cGg := cell_row Gg.out
  have cGx := cell_row Gx.out
  have cGy := cell_row Gy.out
  have cGq := cell_row Gq.out
  go_wp2
  exact bodyPost_ret (v := .tuple #[wv q, wv r, .int .i64 (a : Int), .int .i64 0]) (res_cctt Try.results47 _ _ _ _ _ _ _ _ _ _ _ _ rfl rfl rfl rfl Gx.out Gy.out aggW aggW) rfl ⟨rfl, HB.out⟩
end Go.Proofs.Ytegmmaaapdgocaa
