/- SEVERAL TEXTS of the seat, one behind the other: each says at its head what it proves. -/
import Derived.Test.YtegmmaaapdgocaaGreatR2b
import Derived.Test.YtegmmaaapdgocaaGreatK16
import Derived.Test.YtegmmaaapdgocaaGreatK17
import Derived.Test.YtegmmaaapdgocaaGreatK11
import Derived.Test.YtegmmaaapdgocaaGreatLaw11N
import Derived.WalkMore
import Derived.Laws.EntriesVeiled
import Derived.Test.YtegmmaaapdgocaaGreatProd4
import Derived.Test.YtegmmaaapdgocaaGreatK9
/- THE WALKS of package fix: from a guess to what is right. -/
namespace Go.Proofs.YtegmmaaapdgocaaGreat
open Go Go.RowKit

/-- Wide.Of(1), of a row that was just laid. -/
theorem of1_any (g : Nat) (w : World) (h : w.heap[g]? = some (.cells #[.int .u64 1] 22 (0, 0))) :
    Calls Tryz.prog 106 #[.slice (some ⟨g, 0, none⟩) 1 1] w fun e w' => e = .returned (wv 1) ∧ Below w.heap.size w w' := by
  have := of_w (.slice (some ⟨g, 0, none⟩) 1 1) 1 1 w (isLimbs_one (by decide) (by rw [cell_row h]; rfl) (lt_of_heap h))
  rwa [Nat.mod_eq_of_lt (lit_ltM _ (by decide))] at this
attribute [local go_sem ↓] Go.wp_at_zero Go.wp_at_succ
set_option maxHeartbeats 1000000 in
theorem without_w (a b : Nat) (ha : a < M) (hb : b < M) (w : World) : Calls Tryz.prog 92 #[wv a, wv b] w fun e w' => e = .returned (wv (subN a b)) ∧ Below w.heap.size w w' := by
  have S1 := Lib.hid (fun w' => sub_w a b ha hb w')
  obtain ⟨D, hD⟩ : ∃ x, x = subN a b := ⟨_, rfl⟩
  obtain ⟨f, hf⟩ : ∃ x, x = decide (a < b) := ⟨_, rfl⟩
  rw [← hD, ← hf] at S1
  rw [← hD]
  clear ha hb hD hf
  go_enter Tryz.func92, Tryz.ntmps92
  have HB := Lib.hid (Below.refl w.heap.size w)
  have Ga := Lib.hid (alloc_new (w) (.cells (wcells a) 24))
  replace HB := Lib.hid (below_al HB.out (.cells (wcells a) 24))
  replace Ga := Lib.hid (keepAl (o' := .cells (wcells b) 24) Ga.out)
  have Gb := Lib.hid (alloc_new' (w := (w).alloc (.cells (wcells a) 24)) (n := w.heap.size + 1) (.cells (wcells b) 24) (by simp))
  replace HB := Lib.hid (below_al HB.out (.cells (wcells b) 24))
  replace Ga := Lib.hid (keepAl (o' := .cells (wcells 0) 24) Ga.out)
  replace Gb := Lib.hid (keepAl (o' := .cells (wcells 0) 24) Gb.out)
  have Go := Lib.hid (alloc_new' (w := ((w).alloc (.cells (wcells a) 24)).alloc (.cells (wcells b) 24)) (n := w.heap.size + 1 + 1) (.cells (wcells 0) 24) (by simp))
  replace HB := Lib.hid (below_al HB.out (.cells (wcells 0) 24))
  have cGa := cell_row Ga.out
  have cGb := cell_row Gb.out
  have cGo := cell_row Go.out
  go_wp2_with fail
  refine (S1.out _).mono ?_
  rintro e w1 ⟨rfl, hb⟩
  clear cGa cGb cGo
  replace HB := Lib.hid (below_then HB.out hb)
  replace Ga := Lib.hid ((hb.block _ (lt_of_heap Ga.out)).trans Ga.out)
  replace Gb := Lib.hid ((hb.block _ (lt_of_heap Gb.out)).trans Gb.out)
  replace Go := Lib.hid ((hb.block _ (lt_of_heap Go.out)).trans Go.out)
  clear hb
  have HZ := Lib.hid (lt_of_heap Go.out)
  replace Go := Lib.hid (keepAl (o' := .cells (wcells D) 24) Go.out)
  have Gd := Lib.hid (alloc_new (w1) (.cells (wcells D) 24))
  replace HB := Lib.hid (below_al HB.out (.cells (wcells D) 24))
  have cd := cell_row Gd.out
  have sto := st_row (P := Tryz.prog) Go.out rfl (D)
  replace Go := Lib.hid (setRow_heap ((w1).alloc (.cells (wcells D) 24)) (w.heap.size + 1 + 1) _ (wcells (D)) _ _ Go.out)
  replace HB := Lib.hid (below_setRow' HB.out (show _ ≤ w.heap.size + 1 + 1 by (omega)) (wcells (D)))
  have cGo := cell_row Go.out
  go_wp2
  exact bodyPost_ret (v := wv D) (res_c Tryz.results92 _ _ _ _ _ _ rfl Go.out aggW) rfl ⟨rfl, HB.out⟩

/-- A function value that tells whether a number is above q, in whatever world comes of w. -/
def Above (P : Program) (f : FuncId) (caps : Array Value) (w : World) (q : Nat) : Prop :=
  ∀ (x : Nat) (w' : World), x < P2 202 → Below w.heap.size w w' → Calls P f (#[wv x] ++ caps) w' fun e w'' => e = .returned (.bool (decide (q < x))) ∧ Below w'.heap.size w' w''
theorem P2_201 : P2 201 + P2 201 = P2 202 ∧ P2 202 < M ∧ 2 < P2 201 := by
  refine ⟨by rw [show 202 = 201 + 1 from rfl, P2_twice 201]; omega, by rw [M_eq]; exact P2_lt (by omega), ?_⟩
  have := P2_lt (show 2 < 201 by omega)
  rw [show P2 2 = 4 by rw [P2_eq]] at this
  omega
theorem sub_one {x : Nat} (h0 : 0 < x) (h : x < M) : subN x 1 = x - 1 := by
  unfold subN
  rw [show x + M - 1 = (x - 1) + M by omega, Nat.add_mod_right, Nat.mod_eq_of_lt (by omega)]

set_option maxRecDepth 100000 in
set_option maxHeartbeats 2000000 in
theorem right_yes (f : FuncId) (caps : Array Value) (g q m : Nat) (w : World) (hg : g < P2 201) (hq : q < P2 201) (hm : m ≤ 100) (hd : (g - q) + (q - g) ≤ m) (hcall : Enters Tryz.prog f) (hT : Above Tryz.prog f caps w q) :
    Calls Tryz.prog 119 #[wv g, .int .i64 (m : Int), .func (.func f) #[] caps] w fun e w' => e = .returned (.tuple #[wv q, .int .i64 (((g - q) + (q - g) : Nat) : Int), .bool true]) ∧ Below w.heap.size w w' := by
  unfold Enters at hcall
  have HT := Lib.hid hT; have HG := Lib.hid hg; have HQ := Lib.hid hq; have HM := Lib.hid hm; have HD := Lib.hid hd
  have SO := Lib.hid (fun g' w' h => of1_any g' w' h)
  have H2 := Lib.hid P2_201
  obtain ⟨a, ha⟩ : ∃ a, a = (g - q) + (q - g) := ⟨_, rfl⟩
  rw [← ha] at HD ⊢
  have HA := Lib.hid ha
  have hm' : (m : Int) ≤ 100 := by omega
  clear hT hg hq hm hd ha
  go_enter Tryz.func119, Tryz.ntmps119
  have HB := Lib.hid (Below.refl w.heap.size w)
  have Gg := Lib.hid (alloc_new (w) (.cells (wcells g) 24))
  replace HB := Lib.hid (below_al HB.out (.cells (wcells g) 24))
  replace Gg := Lib.hid (keepAl (o' := .cells (wcells 0) 24) Gg.out)
  have Go := Lib.hid (alloc_new' (w := (w).alloc (.cells (wcells g) 24)) (n := w.heap.size + 1) (.cells (wcells 0) 24) (by simp))
  replace HB := Lib.hid (below_al HB.out (.cells (wcells 0) 24))
  go_wp2
  go_step3
  replace Gg := Lib.hid (keepAl (o' := .cells #[.int .u64 1] 22) Gg.out)
  replace Go := Lib.hid (keepAl (o' := .cells #[.int .u64 1] 22) Go.out)
  have Gl := Lib.hid (alloc_new' (w := ((w).alloc (.cells (wcells g) 24)).alloc (.cells (wcells 0) 24)) (n := w.heap.size + 1 + 1) (.cells #[.int .u64 1] 22) (by simp))
  replace HB := Lib.hid (below_al HB.out (.cells #[.int .u64 1] 22))
  have cGg := cell_row Gg.out
  have cGo := cell_row Go.out
  have cGl := cell_row Gl.out
  go_wp2_with fail
  refine (SO.out _ _ Gl.out).mono ?_
  rintro e w2 ⟨rfl, hb⟩
  clear cGg cGo cGl
  replace HB := Lib.hid (below_then HB.out hb)
  replace Gg := Lib.hid ((hb.block _ (lt_of_heap Gg.out)).trans Gg.out)
  replace Go := Lib.hid ((hb.block _ (lt_of_heap Go.out)).trans Go.out)
  replace Gl := Lib.hid ((hb.block _ (lt_of_heap Gl.out)).trans Gl.out)
  clear hb
  have HZ := Lib.hid (lt_of_heap Go.out)
  replace Gg := Lib.hid (keepAl (o' := .cells (wcells 1) 24) Gg.out)
  replace Go := Lib.hid (keepAl (o' := .cells (wcells 1) 24) Go.out)
  have Gn := Lib.hid (alloc_new (w2) (.cells (wcells 1) 24))
  replace HB := Lib.hid (below_al HB.out (.cells (wcells 1) 24))
  obtain ⟨p, hp⟩ : ∃ p, p = w2.heap.size := ⟨_, rfl⟩
  rw [← hp] at Gn
  have HP : Hid (w.heap.size + 1 < p) := Lib.hid (by have := HZ.out; omega)
  clear HZ
  go_wp2
  rw [← hp]
  clear hp
  go_step3
  go_wp2
  go_loopw [9] (fun s9 wr => ∃ k : Nat, s9 = .int .i64 (k : Int) ∧ Hid (k ≤ g - q) ∧ Hid (Below w.heap.size w wr) ∧ Hid (wr.heap[w.heap.size]? = some (.cells (wcells (g - k)) 24 (0, 0))) ∧ Hid (wr.heap[w.heap.size + 1]? = some (.cells (wcells 0) 24 (0, 0))) ∧ Hid (wr.heap[p]? = some (.cells (wcells 1) 24 (0, 0)))) (fun s9 _ => g - (intOf s9).toNat)
  case atStart => exact ⟨0, rfl, Lib.hid (Nat.zero_le _), HB, Gg, Go, Gn⟩
  case round =>
    clear HB Gg Go Gn
    obtain ⟨k, rfl, HK, HB, Gg, Go, Gn⟩ := hrel
    have P1 := Lib.hid (HT.out (g - k) wr (by have := HG.out; have := H2.out; omega) HB.out)
    have hM1 : (1 : Nat) < M := lit_ltM _ (by decide)
    have hpp := HP.out
    by_cases hlt : k < g - q
    · rw [decide_eq_true (show q < g - k by omega)] at P1
      have S2 := Lib.hid (fun w' => sub_w (g - k) 1 (by have := HG.out; have := H2.out; omega) hM1 w')
      rw [sub_one (show 0 < g - k by omega) (by have := HG.out; have := H2.out; omega)] at S2
      obtain ⟨x, hx⟩ : ∃ x, x = g - k := ⟨_, rfl⟩
      obtain ⟨fb, hfb⟩ : ∃ x, x = decide (g - k < 1) := ⟨_, rfl⟩
      rw [← hfb] at S2
      rw [← hx] at P1 S2 Gg
      have HX : Hid (x - 1 = g - (k + 1)) := Lib.hid (by omega)
      obtain ⟨y, hy⟩ : ∃ y, y = x - 1 := ⟨_, rfl⟩
      rw [← hy] at S2 HX
      have HLT := Lib.hid hlt
      have hkm : (k : Int) + 1 ≤ (m : Int) := by have := HD.out; have := HA.out; omega
      have e0 : (0 : Int) ≤ (k : Int) := Int.natCast_nonneg _
      clear hx hfb hy hlt hM1
      have cGg := cell_row Gg.out
      have cGo := cell_row Go.out
      have cGn := cell_row Gn.out
      go_wp2_with fail
      refine (P1.out).mono ?_
      rintro e w3 ⟨rfl, hb⟩
      clear cGg cGo cGn
      replace HB := Lib.hid (below_then HB.out hb)
      replace Gg := Lib.hid ((hb.block _ (lt_of_heap Gg.out)).trans Gg.out)
      replace Go := Lib.hid ((hb.block _ (lt_of_heap Go.out)).trans Go.out)
      replace Gn := Lib.hid ((hb.block _ (lt_of_heap Gn.out)).trans Gn.out)
      clear hb
      have cGg := cell_row Gg.out
      have cGo := cell_row Go.out
      have cGn := cell_row Gn.out
      go_wp2_with fail
      refine (S2.out _).mono ?_
      rintro e w4 ⟨rfl, hb⟩
      clear cGg cGo cGn
      replace HB := Lib.hid (below_then HB.out hb)
      replace Gg := Lib.hid ((hb.block _ (lt_of_heap Gg.out)).trans Gg.out)
      replace Go := Lib.hid ((hb.block _ (lt_of_heap Go.out)).trans Go.out)
      replace Gn := Lib.hid ((hb.block _ (lt_of_heap Gn.out)).trans Gn.out)
      clear hb
      have stg := st_row (P := Tryz.prog) Gg.out rfl (y)
      replace Go := Lib.hid ((setRow_other (w4) (w.heap.size) _ (wcells (y)) (by (omega))).trans Go.out)
      replace Gn := Lib.hid ((setRow_other (w4) (w.heap.size) _ (wcells (y)) (by (omega))).trans Gn.out)
      replace Gg := Lib.hid (setRow_heap (w4) (w.heap.size) _ (wcells (y)) _ _ Gg.out)
      replace HB := Lib.hid (below_setRow' HB.out (show _ ≤ w.heap.size by (omega)) (wcells (y)))
      go_wp2
      go_roundw
      case rel => exact ⟨k + 1, by go_num, Lib.hid HLT.out, HB, by rw [← HX.out]; exact Gg, Go, Gn⟩
      case measure => have := HLT.out; simp [intOf]; omega
    · have hk : k = g - q := by have := HK.out; omega
      rw [decide_eq_false (show ¬ q < g - k by omega)] at P1
      obtain ⟨c, hc⟩ : ∃ c, c = g - q := ⟨_, rfl⟩
      rw [← hc] at hk HA
      have HC := Lib.hid hc
      clear hlt hc HK
      subst hk
      have cGg := cell_row Gg.out
      have cGo := cell_row Go.out
      have cGn := cell_row Gn.out
      go_wp2_with fail
      refine (P1.out).mono ?_
      rintro e w5 ⟨rfl, hb⟩
      clear cGg cGo cGn
      replace HB := Lib.hid (below_then HB.out hb)
      replace Gg := Lib.hid ((hb.block _ (lt_of_heap Gg.out)).trans Gg.out)
      replace Go := Lib.hid ((hb.block _ (lt_of_heap Go.out)).trans Go.out)
      replace Gn := Lib.hid ((hb.block _ (lt_of_heap Gn.out)).trans Gn.out)
      clear hb
      go_wp2
      try rw [Exit.noGoto_normal]
      go_step3
      go_wp2
      have hx0 : g - k + (k - k) = g - k := by omega
      rw [← hx0] at Gg
      clear hx0 P1
      go_loopw [9] (fun s9 wr => ∃ j : Nat, s9 = .int .i64 (j : Int) ∧ Hid (k ≤ j) ∧ Hid (j ≤ a) ∧ Hid (Below w.heap.size w wr) ∧ Hid (wr.heap[w.heap.size]? = some (.cells (wcells (g - k + (j - k))) 24 (0, 0))) ∧ Hid (wr.heap[w.heap.size + 1]? = some (.cells (wcells 0) 24 (0, 0))) ∧ Hid (wr.heap[p]? = some (.cells (wcells 1) 24 (0, 0)))) (fun s9 _ => a + 1 - (intOf s9).toNat)
      case atStart => exact ⟨k, rfl, Lib.hid (Nat.le_refl _), Lib.hid (by have := HA.out; omega), HB, Gg, Go, Gn⟩
      case round =>
        clear HB Gg Go Gn
        obtain ⟨j, rfl, HJ1, HJ2, HB, Gg, Go, Gn⟩ := hrel
        have hx1 : g - k + (j - k) < P2 202 ∧ g - k + (j - k) + 1 < P2 202 := by have := HG.out; have := HQ.out; have := H2.out; have := HA.out; have := HC.out; have := HJ1.out; have := HJ2.out; omega
        have S3 := Lib.hid (fun w' => add_w (g - k + (j - k)) 1 (by have := H2.out; omega) hM1 w')
        rw [Nat.mod_eq_of_lt (show g - k + (j - k) + 1 < M by have := H2.out; omega)] at S3
        have HTY := Lib.hid (fun w' hb => HT.out (g - k + (j - k) + 1) w' hx1.2 hb)
        have hjm : (j : Int) ≤ (m : Int) := by have := HD.out; have := HJ2.out; omega
        have e0 : (0 : Int) ≤ (j : Int) := Int.natCast_nonneg _
        by_cases hlt : j < a
        · rw [decide_eq_false (show ¬ q < g - k + (j - k) + 1 by have := HA.out; have := HC.out; have := HJ1.out; omega)] at HTY
          obtain ⟨x, hx⟩ : ∃ x, x = g - k + (j - k) := ⟨_, rfl⟩
          obtain ⟨y, hy⟩ : ∃ y, y = x + 1 := ⟨_, rfl⟩
          obtain ⟨fb, hfb⟩ : ∃ f, f = decide (M ≤ y) := ⟨_, rfl⟩
          rw [← hx] at S3 HTY Gg
          rw [← hy] at S3 HTY
          rw [← hfb] at S3
          have HX : Hid (y = g - k + (j + 1 - k)) := Lib.hid (by have := HJ1.out; omega)
          have HLT := Lib.hid hlt
          clear hx1 hx hy hfb hlt
          have cGg := cell_row Gg.out
          have cGo := cell_row Go.out
          have cGn := cell_row Gn.out
          go_wp2_with fail
          refine (S3.out _).mono ?_
          rintro e w6 ⟨rfl, hb⟩
          clear cGg cGo cGn
          replace HB := Lib.hid (below_then HB.out hb)
          replace Gg := Lib.hid ((hb.block _ (lt_of_heap Gg.out)).trans Gg.out)
          replace Go := Lib.hid ((hb.block _ (lt_of_heap Go.out)).trans Go.out)
          replace Gn := Lib.hid ((hb.block _ (lt_of_heap Gn.out)).trans Gn.out)
          clear hb
          have HZ := Lib.hid (lt_of_heap Gg.out)
          replace Gg := Lib.hid (keepAl (o' := .cells (wcells y) 24) Gg.out)
          replace Go := Lib.hid (keepAl (o' := .cells (wcells y) 24) Go.out)
          replace Gn := Lib.hid (keepAl (o' := .cells (wcells y) 24) Gn.out)
          have Gy := Lib.hid (alloc_new (w6) (.cells (wcells y) 24))
          replace HB := Lib.hid (below_al HB.out (.cells (wcells y) 24))
          have cGg := cell_row Gg.out
          have cGo := cell_row Go.out
          have cGn := cell_row Gn.out
          have cGy := cell_row Gy.out
          go_wp2_with fail
          refine (HTY.out _ HB.out).mono ?_
          rintro e w7 ⟨rfl, hb⟩
          clear cGg cGo cGn cGy
          replace HB := Lib.hid (below_then HB.out hb)
          replace Gg := Lib.hid ((hb.block _ (lt_of_heap Gg.out)).trans Gg.out)
          replace Go := Lib.hid ((hb.block _ (lt_of_heap Go.out)).trans Go.out)
          replace Gn := Lib.hid ((hb.block _ (lt_of_heap Gn.out)).trans Gn.out)
          replace Gy := Lib.hid ((hb.block _ (lt_of_heap Gy.out)).trans Gy.out)
          clear hb
          have hz := HZ.out
          have cy := cell_row Gy.out
          have stg := st_row (P := Tryz.prog) Gg.out rfl (y)
          replace Go := Lib.hid ((setRow_other (w7) (w.heap.size) _ (wcells (y)) (by (omega))).trans Go.out)
          replace Gn := Lib.hid ((setRow_other (w7) (w.heap.size) _ (wcells (y)) (by (omega))).trans Gn.out)
          replace Gg := Lib.hid (setRow_heap (w7) (w.heap.size) _ (wcells (y)) _ _ Gg.out)
          replace HB := Lib.hid (below_setRow' HB.out (show _ ≤ w.heap.size by (omega)) (wcells (y)))
          go_wp2
          go_roundw
          case rel => exact ⟨j + 1, by go_num, Lib.hid (by have := HJ1.out; omega), Lib.hid HLT.out, HB, by rw [← HX.out]; exact Gg, Go, Gn⟩
          case measure => have := HLT.out; simp [intOf]; omega
        · obtain rfl : j = a := by have := HJ2.out; omega
          have hxq : g - k + (j - k) = q := by have := HA.out; have := HC.out; omega
          rw [hxq] at S3 HTY Gg
          rw [decide_eq_true (Nat.lt_succ_self q)] at HTY
          obtain ⟨y, hy⟩ : ∃ y, y = q + 1 := ⟨_, rfl⟩
          obtain ⟨fb, hfb⟩ : ∃ f, f = decide (M ≤ y) := ⟨_, rfl⟩
          rw [← hy] at S3 HTY
          rw [← hfb] at S3
          clear hx1 hy hfb hlt hxq
          have cGg := cell_row Gg.out
          have cGo := cell_row Go.out
          have cGn := cell_row Gn.out
          go_wp2_with fail
          refine (S3.out _).mono ?_
          rintro e w8 ⟨rfl, hb⟩
          clear cGg cGo cGn
          replace HB := Lib.hid (below_then HB.out hb)
          replace Gg := Lib.hid ((hb.block _ (lt_of_heap Gg.out)).trans Gg.out)
          replace Go := Lib.hid ((hb.block _ (lt_of_heap Go.out)).trans Go.out)
          replace Gn := Lib.hid ((hb.block _ (lt_of_heap Gn.out)).trans Gn.out)
          clear hb
          replace Gg := Lib.hid (keepAl (o' := .cells (wcells y) 24) Gg.out)
          replace Go := Lib.hid (keepAl (o' := .cells (wcells y) 24) Go.out)
          replace Gn := Lib.hid (keepAl (o' := .cells (wcells y) 24) Gn.out)
          have Gy := Lib.hid (alloc_new (w8) (.cells (wcells y) 24))
          replace HB := Lib.hid (below_al HB.out (.cells (wcells y) 24))
          have cGg := cell_row Gg.out
          have cGo := cell_row Go.out
          have cGn := cell_row Gn.out
          have cGy := cell_row Gy.out
          go_wp2_with fail
          refine (HTY.out _ HB.out).mono ?_
          rintro e w9 ⟨rfl, hb⟩
          clear cGg cGo cGn cGy
          replace HB := Lib.hid (below_then HB.out hb)
          replace Gg := Lib.hid ((hb.block _ (lt_of_heap Gg.out)).trans Gg.out)
          replace Go := Lib.hid ((hb.block _ (lt_of_heap Go.out)).trans Go.out)
          replace Gn := Lib.hid ((hb.block _ (lt_of_heap Gn.out)).trans Gn.out)
          replace Gy := Lib.hid ((hb.block _ (lt_of_heap Gy.out)).trans Gy.out)
          clear hb
          have cg := cell_row Gg.out
          have sto := st_row (P := Tryz.prog) Go.out rfl (q)
          replace Gg := Lib.hid ((setRow_other (w9) (w.heap.size + 1) _ (wcells (q)) (by (omega))).trans Gg.out)
          replace Go := Lib.hid (setRow_heap (w9) (w.heap.size + 1) _ (wcells (q)) _ _ Go.out)
          replace HB := Lib.hid (below_setRow' HB.out (show _ ≤ w.heap.size + 1 by (omega)) (wcells (q)))
          have cGg := cell_row Gg.out
          have cGo := cell_row Go.out
          go_wp2
          (try rw [Exit.noGoto_ret])
          (try rw [Exit.noGoto_ret])
          (try rw [Exit.noGoto_ret])
          exact bodyPost_ret (v := .tuple #[wv q, .int .i64 (j : Int), .bool true]) (res_ctt Tryz.results119 _ _ _ _ _ _ _ _ rfl rfl rfl Go.out aggW) rfl ⟨rfl, HB.out⟩

set_option maxRecDepth 100000 in
set_option maxHeartbeats 2000000 in
theorem right_down (f : FuncId) (caps : Array Value) (g q m : Nat) (w : World) (hg : g < P2 201) (hm : m ≤ 100) (hd : m < g - q) (hcall : Enters Tryz.prog f) (hT : Above Tryz.prog f caps w q) :
    Calls Tryz.prog 119 #[wv g, .int .i64 (m : Int), .func (.func f) #[] caps] w fun e w' => ∃ x n, e = .returned (.tuple #[wv x, .int .i64 n, .bool false]) ∧ Below w.heap.size w w' := by
  unfold Enters at hcall
  have HT := Lib.hid hT; have HG := Lib.hid hg; have HM := Lib.hid hm; have HD := Lib.hid hd
  have SO := Lib.hid (fun g' w' h => of1_any g' w' h)
  have H2 := Lib.hid P2_201
  have hm' : (m : Int) ≤ 100 := by omega
  clear hT hg hm hd
  go_enter Tryz.func119, Tryz.ntmps119
  have HB := Lib.hid (Below.refl w.heap.size w)
  have Gg := Lib.hid (alloc_new (w) (.cells (wcells g) 24))
  replace HB := Lib.hid (below_al HB.out (.cells (wcells g) 24))
  replace Gg := Lib.hid (keepAl (o' := .cells (wcells 0) 24) Gg.out)
  have Go := Lib.hid (alloc_new' (w := (w).alloc (.cells (wcells g) 24)) (n := w.heap.size + 1) (.cells (wcells 0) 24) (by simp))
  replace HB := Lib.hid (below_al HB.out (.cells (wcells 0) 24))
  go_wp2
  go_step3
  replace Gg := Lib.hid (keepAl (o' := .cells #[.int .u64 1] 22) Gg.out)
  replace Go := Lib.hid (keepAl (o' := .cells #[.int .u64 1] 22) Go.out)
  have Gl := Lib.hid (alloc_new' (w := ((w).alloc (.cells (wcells g) 24)).alloc (.cells (wcells 0) 24)) (n := w.heap.size + 1 + 1) (.cells #[.int .u64 1] 22) (by simp))
  replace HB := Lib.hid (below_al HB.out (.cells #[.int .u64 1] 22))
  have cGg := cell_row Gg.out
  have cGo := cell_row Go.out
  have cGl := cell_row Gl.out
  go_wp2_with fail
  refine (SO.out _ _ Gl.out).mono ?_
  rintro e w10 ⟨rfl, hb⟩
  clear cGg cGo cGl
  replace HB := Lib.hid (below_then HB.out hb)
  replace Gg := Lib.hid ((hb.block _ (lt_of_heap Gg.out)).trans Gg.out)
  replace Go := Lib.hid ((hb.block _ (lt_of_heap Go.out)).trans Go.out)
  replace Gl := Lib.hid ((hb.block _ (lt_of_heap Gl.out)).trans Gl.out)
  clear hb
  have HZ := Lib.hid (lt_of_heap Go.out)
  replace Gg := Lib.hid (keepAl (o' := .cells (wcells 1) 24) Gg.out)
  replace Go := Lib.hid (keepAl (o' := .cells (wcells 1) 24) Go.out)
  have Gn := Lib.hid (alloc_new (w10) (.cells (wcells 1) 24))
  replace HB := Lib.hid (below_al HB.out (.cells (wcells 1) 24))
  obtain ⟨p, hp⟩ : ∃ p, p = w10.heap.size := ⟨_, rfl⟩
  rw [← hp] at Gn
  have HP : Hid (w.heap.size + 1 < p) := Lib.hid (by have := HZ.out; omega)
  clear HZ
  go_wp2
  rw [← hp]
  clear hp
  go_step3
  go_wp2
  go_loopw [9] (fun s9 wr => ∃ k : Nat, s9 = .int .i64 (k : Int) ∧ Hid (k ≤ m) ∧ Hid (Below w.heap.size w wr) ∧ Hid (wr.heap[w.heap.size]? = some (.cells (wcells (g - k)) 24 (0, 0))) ∧ Hid (wr.heap[w.heap.size + 1]? = some (.cells (wcells 0) 24 (0, 0))) ∧ Hid (wr.heap[p]? = some (.cells (wcells 1) 24 (0, 0)))) (fun s9 _ => g - (intOf s9).toNat)
  case atStart => exact ⟨0, rfl, Lib.hid (Nat.zero_le _), HB, Gg, Go, Gn⟩
  case round =>
    clear HB Gg Go Gn
    obtain ⟨k, rfl, HK, HB, Gg, Go, Gn⟩ := hrel
    have P1 := Lib.hid (HT.out (g - k) wr (by have := HG.out; have := H2.out; omega) HB.out)
    have hM1 : (1 : Nat) < M := lit_ltM _ (by decide)
    have hpp := HP.out
    have hkq : k < g - q := by have := HK.out; have := HD.out; omega
    rw [decide_eq_true (show q < g - k by omega)] at P1
    have e0 : (0 : Int) ≤ (k : Int) := Int.natCast_nonneg _
    have ekm : (k : Int) ≤ (m : Int) := by have := HK.out; omega
    by_cases hlt : k < m
    · have S2 := Lib.hid (fun w' => sub_w (g - k) 1 (by have := HG.out; have := H2.out; omega) hM1 w')
      rw [sub_one (show 0 < g - k by omega) (by have := HG.out; have := H2.out; omega)] at S2
      obtain ⟨x, hx⟩ : ∃ x, x = g - k := ⟨_, rfl⟩
      obtain ⟨fb, hfb⟩ : ∃ x, x = decide (g - k < 1) := ⟨_, rfl⟩
      rw [← hfb] at S2
      rw [← hx] at P1 S2 Gg
      have HX : Hid (x - 1 = g - (k + 1)) := Lib.hid (by omega)
      obtain ⟨y, hy⟩ : ∃ y, y = x - 1 := ⟨_, rfl⟩
      rw [← hy] at S2 HX
      have HLT := Lib.hid hlt; have HKQ := Lib.hid hkq
      have hkm : (k : Int) + 1 ≤ (m : Int) := by omega
      clear hx hfb hy hlt hM1 hkq
      have cGg := cell_row Gg.out
      have cGo := cell_row Go.out
      have cGn := cell_row Gn.out
      go_wp2_with fail
      refine (P1.out).mono ?_
      rintro e w11 ⟨rfl, hb⟩
      clear cGg cGo cGn
      replace HB := Lib.hid (below_then HB.out hb)
      replace Gg := Lib.hid ((hb.block _ (lt_of_heap Gg.out)).trans Gg.out)
      replace Go := Lib.hid ((hb.block _ (lt_of_heap Go.out)).trans Go.out)
      replace Gn := Lib.hid ((hb.block _ (lt_of_heap Gn.out)).trans Gn.out)
      clear hb
      have cGg := cell_row Gg.out
      have cGo := cell_row Go.out
      have cGn := cell_row Gn.out
      go_wp2_with fail
      refine (S2.out _).mono ?_
      rintro e w12 ⟨rfl, hb⟩
      clear cGg cGo cGn
      replace HB := Lib.hid (below_then HB.out hb)
      replace Gg := Lib.hid ((hb.block _ (lt_of_heap Gg.out)).trans Gg.out)
      replace Go := Lib.hid ((hb.block _ (lt_of_heap Go.out)).trans Go.out)
      replace Gn := Lib.hid ((hb.block _ (lt_of_heap Gn.out)).trans Gn.out)
      clear hb
      have stg := st_row (P := Tryz.prog) Gg.out rfl (y)
      replace Go := Lib.hid ((setRow_other (w12) (w.heap.size) _ (wcells (y)) (by (omega))).trans Go.out)
      replace Gn := Lib.hid ((setRow_other (w12) (w.heap.size) _ (wcells (y)) (by (omega))).trans Gn.out)
      replace Gg := Lib.hid (setRow_heap (w12) (w.heap.size) _ (wcells (y)) _ _ Gg.out)
      replace HB := Lib.hid (below_setRow' HB.out (show _ ≤ w.heap.size by (omega)) (wcells (y)))
      go_wp2
      go_roundw
      case rel => exact ⟨k + 1, by go_num, Lib.hid HLT.out, HB, by rw [← HX.out]; exact Gg, Go, Gn⟩
      case measure => have := HKQ.out; simp [intOf]; omega
    · obtain rfl : k = m := by have := HK.out; omega
      obtain ⟨x, hx⟩ : ∃ x, x = g - k := ⟨_, rfl⟩
      rw [← hx] at P1 Gg
      have HKQ := Lib.hid hkq
      clear hx hlt hM1 hkq ekm HK
      have cGg := cell_row Gg.out
      have cGo := cell_row Go.out
      have cGn := cell_row Gn.out
      go_wp2_with fail
      refine (P1.out).mono ?_
      rintro e w13 ⟨rfl, hb⟩
      clear cGg cGo cGn
      replace HB := Lib.hid (below_then HB.out hb)
      replace Gg := Lib.hid ((hb.block _ (lt_of_heap Gg.out)).trans Gg.out)
      replace Go := Lib.hid ((hb.block _ (lt_of_heap Go.out)).trans Go.out)
      replace Gn := Lib.hid ((hb.block _ (lt_of_heap Gn.out)).trans Gn.out)
      clear hb
      go_wp2
      try rw [Exit.noGoto_normal]
      go_step3
      go_wp2
      go_loopw [9] (fun s9 wr => s9 = .int .i64 ((k : Int) + 1) ∧ Hid (Below w.heap.size w wr) ∧ Hid (wr.heap[w.heap.size]? = some (.cells (wcells x) 24 (0, 0))) ∧ Hid (wr.heap[w.heap.size + 1]? = some (.cells (wcells 0) 24 (0, 0)))) (fun _ _ => 0)
      case atStart => exact ⟨rfl, HB, Gg, Go⟩
      case round =>
        clear HB Gg Go Gn P1
        obtain ⟨rfl, HB, Gg, Go⟩ := hrel
        have en : decide ((k : Int) + 1 ≤ (k : Int)) = false := decide_eq_false (by omega)
        have cg := cell_row Gg.out
        have sto := st_row (P := Tryz.prog) Go.out rfl (x)
        replace Gg := Lib.hid ((setRow_other (wr) (w.heap.size + 1) _ (wcells (x)) (by (omega))).trans Gg.out)
        replace Go := Lib.hid (setRow_heap (wr) (w.heap.size + 1) _ (wcells (x)) _ _ Go.out)
        replace HB := Lib.hid (below_setRow' HB.out (show _ ≤ w.heap.size + 1 by (omega)) (wcells (x)))
        go_wp2
        (try rw [Exit.noGoto_ret])
        (try rw [Exit.noGoto_ret])
        exact bodyPost_ret (v := .tuple #[wv x, .int .i64 ((k : Int) + 1), .bool false]) (res_ctt Tryz.results119 _ _ _ _ _ _ _ _ rfl rfl rfl Go.out aggW) rfl ⟨_, _, rfl, HB.out⟩

set_option maxRecDepth 100000 in
set_option maxHeartbeats 2000000 in
theorem right_up (f : FuncId) (caps : Array Value) (g q m : Nat) (w : World) (hg : g < P2 201) (hm : m ≤ 100) (hd : m < q - g) (hcall : Enters Tryz.prog f) (hT : Above Tryz.prog f caps w q) :
    Calls Tryz.prog 119 #[wv g, .int .i64 (m : Int), .func (.func f) #[] caps] w fun e w' => ∃ x n, e = .returned (.tuple #[wv x, .int .i64 n, .bool false]) ∧ Below w.heap.size w w' := by
  unfold Enters at hcall
  have HT := Lib.hid hT; have HG := Lib.hid hg; have HM := Lib.hid hm; have HD := Lib.hid hd
  have SO := Lib.hid (fun g' w' h => of1_any g' w' h)
  have H2 := Lib.hid P2_201
  have hm' : (m : Int) ≤ 100 := by omega
  clear hT hg hm hd
  go_enter Tryz.func119, Tryz.ntmps119
  have HB := Lib.hid (Below.refl w.heap.size w)
  have Gg := Lib.hid (alloc_new (w) (.cells (wcells g) 24))
  replace HB := Lib.hid (below_al HB.out (.cells (wcells g) 24))
  replace Gg := Lib.hid (keepAl (o' := .cells (wcells 0) 24) Gg.out)
  have Go := Lib.hid (alloc_new' (w := (w).alloc (.cells (wcells g) 24)) (n := w.heap.size + 1) (.cells (wcells 0) 24) (by simp))
  replace HB := Lib.hid (below_al HB.out (.cells (wcells 0) 24))
  go_wp2
  go_step3
  replace Gg := Lib.hid (keepAl (o' := .cells #[.int .u64 1] 22) Gg.out)
  replace Go := Lib.hid (keepAl (o' := .cells #[.int .u64 1] 22) Go.out)
  have Gl := Lib.hid (alloc_new' (w := ((w).alloc (.cells (wcells g) 24)).alloc (.cells (wcells 0) 24)) (n := w.heap.size + 1 + 1) (.cells #[.int .u64 1] 22) (by simp))
  replace HB := Lib.hid (below_al HB.out (.cells #[.int .u64 1] 22))
  have cGg := cell_row Gg.out
  have cGo := cell_row Go.out
  have cGl := cell_row Gl.out
  go_wp2_with fail
  refine (SO.out _ _ Gl.out).mono ?_
  rintro e w14 ⟨rfl, hb⟩
  clear cGg cGo cGl
  replace HB := Lib.hid (below_then HB.out hb)
  replace Gg := Lib.hid ((hb.block _ (lt_of_heap Gg.out)).trans Gg.out)
  replace Go := Lib.hid ((hb.block _ (lt_of_heap Go.out)).trans Go.out)
  replace Gl := Lib.hid ((hb.block _ (lt_of_heap Gl.out)).trans Gl.out)
  clear hb
  have HZ := Lib.hid (lt_of_heap Go.out)
  replace Gg := Lib.hid (keepAl (o' := .cells (wcells 1) 24) Gg.out)
  replace Go := Lib.hid (keepAl (o' := .cells (wcells 1) 24) Go.out)
  have Gn := Lib.hid (alloc_new (w14) (.cells (wcells 1) 24))
  replace HB := Lib.hid (below_al HB.out (.cells (wcells 1) 24))
  obtain ⟨p, hp⟩ : ∃ p, p = w14.heap.size := ⟨_, rfl⟩
  rw [← hp] at Gn
  have HP : Hid (w.heap.size + 1 < p) := Lib.hid (by have := HZ.out; omega)
  clear HZ
  go_wp2
  rw [← hp]
  clear hp
  go_step3
  go_wp2
  go_loopw [9] (fun s9 wr => s9 = .int .i64 0 ∧ Hid (Below w.heap.size w wr) ∧ Hid (wr.heap[w.heap.size]? = some (.cells (wcells g) 24 (0, 0))) ∧ Hid (wr.heap[w.heap.size + 1]? = some (.cells (wcells 0) 24 (0, 0))) ∧ Hid (wr.heap[p]? = some (.cells (wcells 1) 24 (0, 0)))) (fun _ _ => 0)
  case atStart => exact ⟨rfl, HB, Gg, Go, Gn⟩
  case round =>
    clear HB Gg Go Gn
    obtain ⟨rfl, HB, Gg, Go, Gn⟩ := hrel
    have P1 := Lib.hid (HT.out g wr (by have := HG.out; have := H2.out; omega) HB.out)
    have hM1 : (1 : Nat) < M := lit_ltM _ (by decide)
    have hpp := HP.out
    rw [decide_eq_false (show ¬ q < g by have := HD.out; omega)] at P1
    have cGg := cell_row Gg.out
    have cGo := cell_row Go.out
    have cGn := cell_row Gn.out
    go_wp2_with fail
    refine (P1.out).mono ?_
    rintro e w15 ⟨rfl, hb⟩
    clear cGg cGo cGn
    replace HB := Lib.hid (below_then HB.out hb)
    replace Gg := Lib.hid ((hb.block _ (lt_of_heap Gg.out)).trans Gg.out)
    replace Go := Lib.hid ((hb.block _ (lt_of_heap Go.out)).trans Go.out)
    replace Gn := Lib.hid ((hb.block _ (lt_of_heap Gn.out)).trans Gn.out)
    clear hb
    go_wp2
    try rw [Exit.noGoto_normal]
    go_step3
    go_wp2
    clear P1
    go_loopw [9] (fun s9 wr => ∃ j : Nat, s9 = .int .i64 (j : Int) ∧ Hid (j ≤ m + 1) ∧ Hid (Below w.heap.size w wr) ∧ Hid (wr.heap[w.heap.size]? = some (.cells (wcells (g + j)) 24 (0, 0))) ∧ Hid (wr.heap[w.heap.size + 1]? = some (.cells (wcells 0) 24 (0, 0))) ∧ Hid (wr.heap[p]? = some (.cells (wcells 1) 24 (0, 0)))) (fun s9 _ => m + 1 - (intOf s9).toNat)
    case atStart => exact ⟨0, rfl, Lib.hid (Nat.zero_le _), HB, Gg, Go, Gn⟩
    case round =>
      clear HB Gg Go Gn
      obtain ⟨j, rfl, HJ, HB, Gg, Go, Gn⟩ := hrel
      have e0 : (0 : Int) ≤ (j : Int) := Int.natCast_nonneg _
      by_cases hlt : j ≤ m
      · have hx1 : g + j < P2 202 ∧ g + j + 1 < P2 202 := by have := HG.out; have := HM.out; have := H2.out; have := P2_le (show 8 ≤ 201 by omega); rw [show P2 8 = 256 by rw [P2_eq]] at this; omega
        have S3 := Lib.hid (fun w' => add_w (g + j) 1 (by have := H2.out; omega) hM1 w')
        rw [Nat.mod_eq_of_lt (show g + j + 1 < M by have := H2.out; omega)] at S3
        have HTY := Lib.hid (fun w' hb => HT.out (g + j + 1) w' hx1.2 hb)
        rw [decide_eq_false (show ¬ q < g + j + 1 by have := HD.out; omega)] at HTY
        have hjm : (j : Int) ≤ (m : Int) := by omega
        obtain ⟨x, hx⟩ : ∃ x, x = g + j := ⟨_, rfl⟩
        obtain ⟨y, hy⟩ : ∃ y, y = x + 1 := ⟨_, rfl⟩
        obtain ⟨fb, hfb⟩ : ∃ f, f = decide (M ≤ y) := ⟨_, rfl⟩
        rw [← hx] at S3 HTY Gg
        rw [← hy] at S3 HTY
        rw [← hfb] at S3
        have HX : Hid (y = g + (j + 1)) := Lib.hid (by omega)
        have HLT := Lib.hid hlt
        clear hx1 hx hy hfb hlt
        have cGg := cell_row Gg.out
        have cGo := cell_row Go.out
        have cGn := cell_row Gn.out
        go_wp2_with fail
        refine (S3.out _).mono ?_
        rintro e w16 ⟨rfl, hb⟩
        clear cGg cGo cGn
        replace HB := Lib.hid (below_then HB.out hb)
        replace Gg := Lib.hid ((hb.block _ (lt_of_heap Gg.out)).trans Gg.out)
        replace Go := Lib.hid ((hb.block _ (lt_of_heap Go.out)).trans Go.out)
        replace Gn := Lib.hid ((hb.block _ (lt_of_heap Gn.out)).trans Gn.out)
        clear hb
        have HZ := Lib.hid (lt_of_heap Gg.out)
        replace Gg := Lib.hid (keepAl (o' := .cells (wcells y) 24) Gg.out)
        replace Go := Lib.hid (keepAl (o' := .cells (wcells y) 24) Go.out)
        replace Gn := Lib.hid (keepAl (o' := .cells (wcells y) 24) Gn.out)
        have Gy := Lib.hid (alloc_new (w16) (.cells (wcells y) 24))
        replace HB := Lib.hid (below_al HB.out (.cells (wcells y) 24))
        have cGg := cell_row Gg.out
        have cGo := cell_row Go.out
        have cGn := cell_row Gn.out
        have cGy := cell_row Gy.out
        go_wp2_with fail
        refine (HTY.out _ HB.out).mono ?_
        rintro e w17 ⟨rfl, hb⟩
        clear cGg cGo cGn cGy
        replace HB := Lib.hid (below_then HB.out hb)
        replace Gg := Lib.hid ((hb.block _ (lt_of_heap Gg.out)).trans Gg.out)
        replace Go := Lib.hid ((hb.block _ (lt_of_heap Go.out)).trans Go.out)
        replace Gn := Lib.hid ((hb.block _ (lt_of_heap Gn.out)).trans Gn.out)
        replace Gy := Lib.hid ((hb.block _ (lt_of_heap Gy.out)).trans Gy.out)
        clear hb
        have hz := HZ.out
        have cy := cell_row Gy.out
        have stg := st_row (P := Tryz.prog) Gg.out rfl (y)
        replace Go := Lib.hid ((setRow_other (w17) (w.heap.size) _ (wcells (y)) (by (omega))).trans Go.out)
        replace Gn := Lib.hid ((setRow_other (w17) (w.heap.size) _ (wcells (y)) (by (omega))).trans Gn.out)
        replace Gg := Lib.hid (setRow_heap (w17) (w.heap.size) _ (wcells (y)) _ _ Gg.out)
        replace HB := Lib.hid (below_setRow' HB.out (show _ ≤ w.heap.size by (omega)) (wcells (y)))
        go_wp2
        go_roundw
        case rel => exact ⟨j + 1, by go_num, Lib.hid (by have := HLT.out; omega), HB, by rw [← HX.out]; exact Gg, Go, Gn⟩
        case measure => have := HLT.out; simp [intOf]; omega
      · obtain rfl : j = m + 1 := by have := HJ.out; omega
        have ejm : ((m + 1 : Nat) : Int) = (m : Int) + 1 := by omega
        have ejn : ¬ ((m + 1 : Nat) : Int) ≤ (m : Int) := by omega
        obtain ⟨x, hx⟩ : ∃ x, x = g + (m + 1) := ⟨_, rfl⟩
        rw [← hx] at Gg
        obtain ⟨j, hj⟩ : ∃ j : Int, j = ((m + 1 : Nat) : Int) := ⟨_, rfl⟩
        rw [← hj] at ejn e0 ⊢
        clear hx hlt ejm hj hM1
        have cg := cell_row Gg.out
        have sto := st_row (P := Tryz.prog) Go.out rfl (x)
        replace Gg := Lib.hid ((setRow_other (wr) (w.heap.size + 1) _ (wcells (x)) (by (omega))).trans Gg.out)
        replace Go := Lib.hid (setRow_heap (wr) (w.heap.size + 1) _ (wcells (x)) _ _ Go.out)
        replace HB := Lib.hid (below_setRow' HB.out (show _ ≤ w.heap.size + 1 by (omega)) (wcells (x)))
        go_wp2
        (try rw [Exit.noGoto_ret])
        (try rw [Exit.noGoto_ret])
        exact bodyPost_ret (v := .tuple #[wv x, .int .i64 j, .bool false]) (res_ctt Tryz.results119 _ _ _ _ _ _ _ _ rfl rfl rfl Go.out aggW) rfl ⟨_, _, rfl, HB.out⟩

/-- A function value that tells what is left of q, in whatever world comes of w. -/
def LeftOf (P : Program) (f : FuncId) (caps : Array Value) (w : World) (q r : Nat) : Prop :=
  ∀ (w' : World), Below w.heap.size w w' → Calls P f (#[wv q] ++ caps) w' fun e w'' => e = .returned (wv r) ∧ Below w'.heap.size w' w''

set_option maxRecDepth 100000 in
set_option maxHeartbeats 2000000 in
theorem told_yes (f f2 : FuncId) (caps caps2 : Array Value) (g q r m : Nat) (w : World) (hg : g < P2 201) (hq : q < P2 201) (hm : m ≤ 100) (hd : (g - q) + (q - g) ≤ m) (hcall : Enters Tryz.prog f) (hcall2 : Enters Tryz.prog f2) (hT : Above Tryz.prog f caps w q) (hL : LeftOf Tryz.prog f2 caps2 w q r) :
    Calls Tryz.prog 88 #[wv g, .int .i64 (m : Int), .func (.func f) #[] caps, .func (.func f2) #[] caps2] w fun e w' => e = .returned (.tuple #[wv q, wv r, .int .i64 (((g - q) + (q - g) : Nat) : Int), .int .i64 0]) ∧ Below w.heap.size w w' := by
  have S1 : Hid (∀ w' : World, Below w.heap.size w w' → Calls Tryz.prog 119 #[wv g, .int .i64 (m : Int), .func (.func f) #[] caps] w' fun e w'' => e = .returned (.tuple #[wv q, .int .i64 (((g - q) + (q - g) : Nat) : Int), .bool true]) ∧ Below w'.heap.size w' w'') := Lib.hid fun w' hb =>
    right_yes f caps g q m w' hg hq hm hd hcall (fun x w'' hx hb' => hT x w'' hx (below_then hb hb'))
  have HL := Lib.hid hL
  obtain ⟨a, ha⟩ : ∃ a, a = (g - q) + (q - g) := ⟨_, rfl⟩
  rw [← ha] at S1 ⊢
  unfold Enters at hcall2
  clear hg hq hm hd hcall hT hL ha
  go_enter Tryz.func88, Tryz.ntmps88
  have HB := Lib.hid (Below.refl w.heap.size w)
  have Gg := Lib.hid (alloc_new (w) (.cells (wcells g) 24))
  replace HB := Lib.hid (below_al HB.out (.cells (wcells g) 24))
  replace Gg := Lib.hid (keepAl (o' := .cells (wcells 0) 24) Gg.out)
  have Gx := Lib.hid (alloc_new' (w := (w).alloc (.cells (wcells g) 24)) (n := w.heap.size + 1) (.cells (wcells 0) 24) (by simp))
  replace HB := Lib.hid (below_al HB.out (.cells (wcells 0) 24))
  replace Gg := Lib.hid (keepAl (o' := .cells (wcells 0) 24) Gg.out)
  replace Gx := Lib.hid (keepAl (o' := .cells (wcells 0) 24) Gx.out)
  have Gy := Lib.hid (alloc_new' (w := ((w).alloc (.cells (wcells g) 24)).alloc (.cells (wcells 0) 24)) (n := w.heap.size + 1 + 1) (.cells (wcells 0) 24) (by simp))
  replace HB := Lib.hid (below_al HB.out (.cells (wcells 0) 24))
  have cGg := cell_row Gg.out
  have cGx := cell_row Gx.out
  have cGy := cell_row Gy.out
  go_wp2_with fail
  refine (S1.out _ HB.out).mono ?_
  rintro e w18 ⟨rfl, hb⟩
  clear cGg cGx cGy
  replace HB := Lib.hid (below_then HB.out hb)
  replace Gg := Lib.hid ((hb.block _ (lt_of_heap Gg.out)).trans Gg.out)
  replace Gx := Lib.hid ((hb.block _ (lt_of_heap Gx.out)).trans Gx.out)
  replace Gy := Lib.hid ((hb.block _ (lt_of_heap Gy.out)).trans Gy.out)
  clear hb
  have HZ := Lib.hid (lt_of_heap Gy.out)
  replace Gg := Lib.hid (keepAl (o' := .cells (wcells q) 24) Gg.out)
  replace Gx := Lib.hid (keepAl (o' := .cells (wcells q) 24) Gx.out)
  replace Gy := Lib.hid (keepAl (o' := .cells (wcells q) 24) Gy.out)
  have Gq := Lib.hid (alloc_new (w18) (.cells (wcells q) 24))
  replace HB := Lib.hid (below_al HB.out (.cells (wcells q) 24))
  go_upto_region 4 with fail
  have hz := HZ.out
  obtain ⟨wL, hw⟩ : ∃ wx, wx = (w18).alloc (.cells (wcells q) 24) := ⟨_, rfl⟩
  rw [← hw] at Gg Gx Gy Gq HB ⊢
  clear hw
  refine wp_region_store [⟨w.heap.size + 1, 24, .tmp 27⟩, ⟨w.heap.size + 1 + 1, 24, .tmp 30⟩] (by kernel_rfl) (by kernel_rfl) (by kernel_rfl) rfl (List.Pairwise.cons (by intro r hr; simp only [List.mem_cons, List.not_mem_nil, or_false] at hr; subst hr <;> dsimp only <;> (omega)) (List.pairwise_singleton _ _)) ?_ ?_
  · intro r hr
    simp only [List.mem_cons, List.not_mem_nil, or_false] at hr
    rcases hr with rfl | rfl
    · exact ⟨_, Gx.out, by kernel_rfl⟩
    · exact ⟨_, Gy.out, by kernel_rfl⟩
  have xGg := extR_row (B := wL.heap.size) (R := [⟨w.heap.size + 1, 24, .tmp 27⟩, ⟨w.heap.size + 1 + 1, 24, .tmp 30⟩]) Gg.out (lt_of_heap Gg.out) (by intro r hr; simp only [List.mem_cons, List.not_mem_nil, or_false] at hr; rcases hr with rfl | rfl <;> dsimp only <;> (omega))
  have xGq := extR_row (B := wL.heap.size) (R := [⟨w.heap.size + 1, 24, .tmp 27⟩, ⟨w.heap.size + 1 + 1, 24, .tmp 30⟩]) Gq.out (lt_of_heap Gq.out) (by intro r hr; simp only [List.mem_cons, List.not_mem_nil, or_false] at hr; rcases hr with rfl | rfl <;> dsimp only <;> (omega))
  repeat (refine wpCalm_step (fun K hK => ?_); go_simp; first | (refine hK _ ?_; clear hK K) | (apply Exists.intro; refine ⟨fun _ => ?_, hK _ ?_⟩; (first | with_reducible exact HL.out _ (extR_below _ HB.out HB.out.size (by intro r hr; simp only [List.mem_cons, List.not_mem_nil, or_false] at hr; rcases hr with rfl | rfl <;> dsimp only <;> omega)) | exact HL.out _ (extR_below _ HB.out HB.out.size (by intro r hr; simp only [List.mem_cons, List.not_mem_nil, or_false] at hr; rcases hr with rfl | rfl <;> dsimp only <;> omega))); clear hK K))
  refine wpCalm_nil ⟨?_, fun x hx => ?_⟩
  · intro r hr
    simp only [List.mem_cons, List.not_mem_nil, or_false] at hr
    rcases hr with rfl | rfl <;> exact fits_wv (by kernel_rfl) _
  replace Gx : Hid (x.val.heap[w.heap.size + 1]? = some (.cells (wcells (q)) 24 (0, 0))) := Lib.hid (hx ⟨w.heap.size + 1, 24, .tmp 27⟩ (by simp))
  replace Gy : Hid (x.val.heap[w.heap.size + 1 + 1]? = some (.cells (wcells (r)) 24 (0, 0))) := Lib.hid (hx ⟨w.heap.size + 1 + 1, 24, .tmp 30⟩ (by simp))
  replace Gg := Lib.hid (extR_block x Gg.out (lt_of_heap Gg.out) (by intro r hr; simp only [List.mem_cons, List.not_mem_nil, or_false] at hr; rcases hr with rfl | rfl <;> dsimp only <;> (omega)))
  replace Gq := Lib.hid (extR_block x Gq.out (lt_of_heap Gq.out) (by intro r hr; simp only [List.mem_cons, List.not_mem_nil, or_false] at hr; rcases hr with rfl | rfl <;> dsimp only <;> (omega)))
  replace HB := Lib.hid (extR_below x HB.out HB.out.size (by intro r hr; simp only [List.mem_cons, List.not_mem_nil, or_false] at hr; rcases hr with rfl | rfl <;> dsimp only <;> (omega)))
  clear hx xGg xGq
  obtain ⟨w19, hw⟩ : ∃ wx, wx = x.val := ⟨_, rfl⟩
  rw [← hw] at Gg Gx Gy Gq HB ⊢
  clear hw x
  have cGg := cell_row Gg.out
  have cGx := cell_row Gx.out
  have cGy := cell_row Gy.out
  have cGq := cell_row Gq.out
  go_wp2
  exact bodyPost_ret (v := .tuple #[wv q, wv r, .int .i64 (a : Int), .int .i64 0]) (res_cctt Tryz.results88 _ _ _ _ _ _ _ _ _ _ _ _ rfl rfl rfl rfl Gx.out Gy.out aggW aggW) rfl ⟨rfl, HB.out⟩
end Go.Proofs.YtegmmaaapdgocaaGreat

/- THE WALKS of package fix, going on: quotients by a guess. -/
namespace Go.Proofs.YtegmmaaapdgocaaGreat
open Go Go.RowKit

attribute [local go_sem ↓] Go.wp_at_zero Go.wp_at_succ
set_option maxRecDepth 100000 in
set_option maxHeartbeats 2000000 in
theorem told_no (f f2 : FuncId) (caps caps2 : Array Value) (g q m : Nat) (w : World) (hg : g < P2 201) (hm : m ≤ 100) (hd : m < (g - q) + (q - g)) (hcall : Enters Tryz.prog f) (hT : Above Tryz.prog f caps w q) :
    Calls Tryz.prog 88 #[wv g, .int .i64 (m : Int), .func (.func f) #[] caps, .func (.func f2) #[] caps2] w fun e w' => e = .returned (.tuple #[wv 0, wv 0, .int .i64 0, .int .i64 6]) ∧ Below w.heap.size w w' := by
  have S1 : Hid (∀ w' : World, Below w.heap.size w w' → Calls Tryz.prog 119 #[wv g, .int .i64 (m : Int), .func (.func f) #[] caps] w' fun e w'' => ∃ x n, e = .returned (.tuple #[wv x, .int .i64 n, .bool false]) ∧ Below w'.heap.size w' w'') := Lib.hid fun w' hb => by
    rcases (show m < g - q ∨ m < q - g by omega) with h | h
    · exact right_down f caps g q m w' hg hm h hcall (fun x w'' hx hb' => hT x w'' hx (below_then hb hb'))
    · exact right_up f caps g q m w' hg hm h hcall (fun x w'' hx hb' => hT x w'' hx (below_then hb hb'))
  clear hg hm hd hcall hT
  go_enter Tryz.func88, Tryz.ntmps88
  have HB := Lib.hid (Below.refl w.heap.size w)
  have Gg := Lib.hid (alloc_new (w) (.cells (wcells g) 24))
  replace HB := Lib.hid (below_al HB.out (.cells (wcells g) 24))
  replace Gg := Lib.hid (keepAl (o' := .cells (wcells 0) 24) Gg.out)
  have Gx := Lib.hid (alloc_new' (w := (w).alloc (.cells (wcells g) 24)) (n := w.heap.size + 1) (.cells (wcells 0) 24) (by simp))
  replace HB := Lib.hid (below_al HB.out (.cells (wcells 0) 24))
  replace Gg := Lib.hid (keepAl (o' := .cells (wcells 0) 24) Gg.out)
  replace Gx := Lib.hid (keepAl (o' := .cells (wcells 0) 24) Gx.out)
  have Gy := Lib.hid (alloc_new' (w := ((w).alloc (.cells (wcells g) 24)).alloc (.cells (wcells 0) 24)) (n := w.heap.size + 1 + 1) (.cells (wcells 0) 24) (by simp))
  replace HB := Lib.hid (below_al HB.out (.cells (wcells 0) 24))
  have cGg := cell_row Gg.out
  have cGx := cell_row Gx.out
  have cGy := cell_row Gy.out
  go_wp2_with fail
  refine (S1.out _ HB.out).mono ?_
  rintro e w1 ⟨v, n, rfl, hb⟩
  clear cGg cGx cGy
  replace HB := Lib.hid (below_then HB.out hb)
  replace Gg := Lib.hid ((hb.block _ (lt_of_heap Gg.out)).trans Gg.out)
  replace Gx := Lib.hid ((hb.block _ (lt_of_heap Gx.out)).trans Gx.out)
  replace Gy := Lib.hid ((hb.block _ (lt_of_heap Gy.out)).trans Gy.out)
  clear hb
  have HZ := Lib.hid (lt_of_heap Gy.out)
  replace Gx := Lib.hid (keepAl (o' := .cells (wcells v) 24) Gx.out)
  replace Gy := Lib.hid (keepAl (o' := .cells (wcells v) 24) Gy.out)
  have Gq := Lib.hid (alloc_new (w1) (.cells (wcells v) 24))
  replace HB := Lib.hid (below_al HB.out (.cells (wcells v) 24))
  have hz := HZ.out
  have stx := st_row (P := Tryz.prog) Gx.out rfl (0)
  replace Gy := Lib.hid ((setRow_other ((w1).alloc (.cells (wcells v) 24)) (w.heap.size + 1) _ (wcells (0)) (by (omega))).trans Gy.out)
  replace Gx := Lib.hid (setRow_heap ((w1).alloc (.cells (wcells v) 24)) (w.heap.size + 1) _ (wcells (0)) _ _ Gx.out)
  replace HB := Lib.hid (below_setRow' HB.out (show _ ≤ w.heap.size + 1 by (omega)) (wcells (0)))
  have q1 := stx
  clear stx
  have sty := st_row (P := Tryz.prog) Gy.out rfl (0)
  replace Gx := Lib.hid ((setRow_other (((w1).alloc (.cells (wcells v) 24)).setRow (w.heap.size + 1) (wcells (0))) (w.heap.size + 1 + 1) _ (wcells (0)) (by (omega))).trans Gx.out)
  replace Gy := Lib.hid (setRow_heap (((w1).alloc (.cells (wcells v) 24)).setRow (w.heap.size + 1) (wcells (0))) (w.heap.size + 1 + 1) _ (wcells (0)) _ _ Gy.out)
  replace HB := Lib.hid (below_setRow' HB.out (show _ ≤ w.heap.size + 1 + 1 by (omega)) (wcells (0)))
  have cGx := cell_row Gx.out
  have cGy := cell_row Gy.out
  go_wp2
  exact bodyPost_ret (v := .tuple #[wv 0, wv 0, .int .i64 0, .int .i64 6]) (res_cctt Tryz.results88 _ _ _ _ _ _ _ _ _ _ _ _ rfl rfl rfl rfl Gx.out Gy.out aggW aggW) rfl ⟨rfl, HB.out⟩

set_option maxHeartbeats 2000000 in
theorem timesQ_any (x d pd : Nat) (hx : x < M) (hd : d < M) (w : World) (h : w.heap[pd]? = some (.cells (wcells d) 24 (0, 0))) :
    Calls Tryz.prog 99 #[wv x, .pointer (some ⟨pd, 0, none⟩)] w fun e w' => e = .returned (wv (x * d % M)) ∧ Below w.heap.size w w' := by
  have S1 := Lib.hid (fun w' => mul_w x d hx hd w')
  obtain ⟨q, hq⟩ : ∃ q, q = x * d % M := ⟨_, rfl⟩
  obtain ⟨f, hf⟩ : ∃ q, q = decide (x * d < M) := ⟨_, rfl⟩
  rw [← hq, ← hf] at S1
  rw [← hq]
  have Gd := Lib.hid h
  clear hx hd hq hf h
  go_enter Tryz.func99, Tryz.ntmps99
  have HB := Lib.hid (Below.refl w.heap.size w)
  replace Gd := Lib.hid (keepAl (o' := .cells (wcells x) 24) Gd.out)
  have Gx := Lib.hid (alloc_new (w) (.cells (wcells x) 24))
  replace HB := Lib.hid (below_al HB.out (.cells (wcells x) 24))
  replace Gd := Lib.hid (keepAl (o' := .cells (wcells 0) 24) Gd.out)
  replace Gx := Lib.hid (keepAl (o' := .cells (wcells 0) 24) Gx.out)
  have Go := Lib.hid (alloc_new' (w := (w).alloc (.cells (wcells x) 24)) (n := w.heap.size + 1) (.cells (wcells 0) 24) (by simp))
  replace HB := Lib.hid (below_al HB.out (.cells (wcells 0) 24))
  have cGd := cell_row Gd.out
  have cGx := cell_row Gx.out
  have cGo := cell_row Go.out
  go_wp2_with fail
  refine (S1.out _).mono ?_
  rintro e w2 ⟨rfl, hb⟩
  clear cGd cGx cGo
  replace HB := Lib.hid (below_then HB.out hb)
  replace Gd := Lib.hid ((hb.block _ (lt_of_heap Gd.out)).trans Gd.out)
  replace Gx := Lib.hid ((hb.block _ (lt_of_heap Gx.out)).trans Gx.out)
  replace Go := Lib.hid ((hb.block _ (lt_of_heap Go.out)).trans Go.out)
  clear hb
  have HZ := Lib.hid (lt_of_heap Go.out)
  replace Go := Lib.hid (keepAl (o' := .cells (wcells q) 24) Go.out)
  have Gp := Lib.hid (alloc_new (w2) (.cells (wcells q) 24))
  replace HB := Lib.hid (below_al HB.out (.cells (wcells q) 24))
  have cp := cell_row Gp.out
  have sto := st_row (P := Tryz.prog) Go.out rfl (q)
  replace Go := Lib.hid (setRow_heap ((w2).alloc (.cells (wcells q) 24)) (w.heap.size + 1) _ (wcells (q)) _ _ Go.out)
  replace HB := Lib.hid (below_setRow' HB.out (show _ ≤ w.heap.size + 1 by (omega)) (wcells (q)))
  have cGo := cell_row Go.out
  go_wp2
  exact bodyPost_ret (v := wv q) (res_c Tryz.results99 _ _ _ _ _ _ rfl Go.out aggW) rfl ⟨rfl, HB.out⟩
theorem enters_timesQ : Enters Tryz.prog 99 := fun args w => by simp [go_sem]
theorem enters_aboveQ : Enters Tryz.prog 100 := fun args w => by simp [go_sem]
theorem enters_leftQ : Enters Tryz.prog 101 := fun args w => by simp [go_sem]
/-- The variable of a function value. -/
abbrev fcell (f : FuncId) (caps : Array Value) : Array Value := #[.func (.func f) #[] caps]
theorem cmp_pos (a b : Nat) : decide (0 < cmpN a b) = decide (b < a) := by
  unfold cmpN
  by_cases h1 : a < b
  · rw [if_pos h1, decide_eq_false (by omega), decide_eq_false (by omega)]
  · rw [if_neg h1]
    by_cases h2 : b < a
    · rw [if_pos h2, decide_eq_true (by omega), decide_eq_true h2]
    · rw [if_neg h2, decide_eq_false (by omega), decide_eq_false h2]

set_option maxRecDepth 100000 in
set_option maxHeartbeats 2000000 in
theorem aboveQ_any (x n d pt pn pd : Nat) (hx : x < M) (hd : d < M) (hn : n < M) (hxd : x * d < M) (w : World) (hpd : w.heap[pd]? = some (.cells (wcells d) 24 (0, 0))) (hpn : w.heap[pn]? = some (.cells (wcells n) 24 (0, 0))) {T : TypeId}
    (hpt : w.heap[pt]? = some (.cells (fcell 99 #[.pointer (some ⟨pd, 0, none⟩)]) T (0, 0))) :
    Calls Tryz.prog 100 #[wv x, .pointer (some ⟨pt, 0, none⟩), .pointer (some ⟨pn, 0, none⟩)] w fun e w' => e = .returned (.bool (decide (n < x * d))) ∧ Below w.heap.size w w' := by
  have S1 : Hid (∀ w' : World, w'.heap[pd]? = some (.cells (wcells d) 24 (0, 0)) → Calls Tryz.prog 99 #[wv x, .pointer (some ⟨pd, 0, none⟩)] w' fun e w'' => e = .returned (wv (x * d)) ∧ Below w'.heap.size w' w'') := Lib.hid fun w' h => by
    have := timesQ_any x d pd hx hd w' h
    rwa [Nat.mod_eq_of_lt hxd] at this
  have S2 := Lib.hid (fun w' => cmp_w (x * d) n hxd hn w')
  have HC := Lib.hid (cmp_pos (x * d) n)
  obtain ⟨y, hy⟩ : ∃ y, y = x * d := ⟨_, rfl⟩
  rw [← hy] at S1 S2 HC ⊢
  obtain ⟨c, hc⟩ : ∃ c, c = cmpN y n := ⟨_, rfl⟩
  rw [← hc] at S2 HC
  have Gd := Lib.hid hpd; have Gn := Lib.hid hpn; have Gt := Lib.hid hpt
  clear hx hd hn hxd hpd hpn hpt hy hc
  go_enter Tryz.func100, Tryz.ntmps100
  have HB := Lib.hid (Below.refl w.heap.size w)
  replace Gd := Lib.hid (keepAl (o' := .cells (wcells x) 24) Gd.out)
  replace Gn := Lib.hid (keepAl (o' := .cells (wcells x) 24) Gn.out)
  replace Gt := Lib.hid (keepAl (o' := .cells (wcells x) 24) Gt.out)
  have Gx := Lib.hid (alloc_new (w) (.cells (wcells x) 24))
  replace HB := Lib.hid (below_al HB.out (.cells (wcells x) 24))
  go_upto_region 1 with fail
  obtain ⟨wL, hw⟩ : ∃ wx, wx = (w).alloc (.cells (wcells x) 24) := ⟨_, rfl⟩
  rw [← hw] at Gd Gn Gt Gx HB ⊢
  clear hw
  have Gd2 := Gd
  have xGd := ext_row (B := wL.heap.size) Gd.out (lt_of_heap Gd.out)
  have xGn := ext_row (B := wL.heap.size) Gn.out (lt_of_heap Gn.out)
  have xGt := ext_row (B := wL.heap.size) Gt.out (lt_of_heap Gt.out)
  have xGx := ext_row (B := wL.heap.size) Gx.out (lt_of_heap Gx.out)
  refine wp_region_ext wL.heap.size (by kernel_rfl) (by kernel_rfl) ?_
  repeat (go_big_quiet_step (first | (go_at_call 99; with_reducible exact Calls.quiet_ext (Nat.le_refl _) (S1.out _ (ext_block Gd2.out (lt_of_heap Gd2.out) _))) | (go_at_call 90; with_reducible exact Calls.quiet_ext (Nat.le_refl _) (S2.out _))))
  refine wpQuiet_nil ?_
  intro w3 hb
  clear xGd xGn xGt xGx
  replace HB := Lib.hid (below_then HB.out hb)
  replace Gd := Lib.hid ((hb.block _ (lt_of_heap Gd.out)).trans Gd.out)
  replace Gn := Lib.hid ((hb.block _ (lt_of_heap Gn.out)).trans Gn.out)
  replace Gt := Lib.hid ((hb.block _ (lt_of_heap Gt.out)).trans Gt.out)
  replace Gx := Lib.hid ((hb.block _ (lt_of_heap Gx.out)).trans Gx.out)
  clear hb
  go_wp2
  go_ret
  exact ⟨ret_bool HC.out, HB.out⟩

set_option maxRecDepth 100000 in
set_option maxHeartbeats 2000000 in
theorem leftQ_any (q n d pt pn pd : Nat) (hq : q < M) (hd : d < M) (hn : n < M) (hqd : q * d ≤ n) (w : World) (hpd : w.heap[pd]? = some (.cells (wcells d) 24 (0, 0))) (hpn : w.heap[pn]? = some (.cells (wcells n) 24 (0, 0))) {T : TypeId}
    (hpt : w.heap[pt]? = some (.cells (fcell 99 #[.pointer (some ⟨pd, 0, none⟩)]) T (0, 0))) :
    Calls Tryz.prog 101 #[wv q, .pointer (some ⟨pn, 0, none⟩), .pointer (some ⟨pt, 0, none⟩)] w fun e w' => e = .returned (wv (n - q * d)) ∧ Below w.heap.size w w' := by
  have S1 : Hid (∀ w' : World, w'.heap[pd]? = some (.cells (wcells d) 24 (0, 0)) → Calls Tryz.prog 99 #[wv q, .pointer (some ⟨pd, 0, none⟩)] w' fun e w'' => e = .returned (wv (q * d)) ∧ Below w'.heap.size w' w'') := Lib.hid fun w' h => by
    have := timesQ_any q d pd hq hd w' h
    rwa [Nat.mod_eq_of_lt (show q * d < M by omega)] at this
  have S2 := Lib.hid (fun w' => without_w n (q * d) hn (by omega) w')
  have hr : subN n (q * d) = n - q * d := by
    unfold subN
    rw [show n + M - q * d = (n - q * d) + M by omega, Nat.add_mod_right, Nat.mod_eq_of_lt (by omega)]
  rw [hr] at S2
  obtain ⟨r, hr'⟩ : ∃ r, r = n - q * d := ⟨_, rfl⟩
  rw [← hr'] at S2 ⊢
  obtain ⟨y, hy⟩ : ∃ y, y = q * d := ⟨_, rfl⟩
  rw [← hy] at S1 S2
  have Gd := Lib.hid hpd; have Gn := Lib.hid hpn; have Gt := Lib.hid hpt
  clear hq hd hn hqd hpd hpn hpt hy hr hr'
  go_enter Tryz.func101, Tryz.ntmps101
  have HB := Lib.hid (Below.refl w.heap.size w)
  have hz1 := lt_of_heap Gd.out
  have hz2 := lt_of_heap Gn.out
  have hz3 := lt_of_heap Gt.out
  replace Gd := Lib.hid (keepAl (o' := .cells (wcells q) 24) Gd.out)
  replace Gn := Lib.hid (keepAl (o' := .cells (wcells q) 24) Gn.out)
  replace Gt := Lib.hid (keepAl (o' := .cells (wcells q) 24) Gt.out)
  have Gx := Lib.hid (alloc_new (w) (.cells (wcells q) 24))
  replace HB := Lib.hid (below_al HB.out (.cells (wcells q) 24))
  replace Gd := Lib.hid (keepAl (o' := .cells (wcells 0) 24) Gd.out)
  replace Gn := Lib.hid (keepAl (o' := .cells (wcells 0) 24) Gn.out)
  replace Gt := Lib.hid (keepAl (o' := .cells (wcells 0) 24) Gt.out)
  replace Gx := Lib.hid (keepAl (o' := .cells (wcells 0) 24) Gx.out)
  have Go := Lib.hid (alloc_new' (w := (w).alloc (.cells (wcells q) 24)) (n := w.heap.size + 1) (.cells (wcells 0) 24) (by simp))
  replace HB := Lib.hid (below_al HB.out (.cells (wcells 0) 24))
  go_upto_region 1 with fail
  obtain ⟨wL, hw⟩ : ∃ wx, wx = ((w).alloc (.cells (wcells q) 24)).alloc (.cells (wcells 0) 24) := ⟨_, rfl⟩
  rw [← hw] at Gd Gn Gt Gx Go HB ⊢
  clear hw
  refine wp_region_store [⟨w.heap.size + 1, 24, .tmp 9⟩] (by kernel_rfl) (by kernel_rfl) (by kernel_rfl) rfl (List.pairwise_singleton _ _) ?_ ?_
  · intro r hr
    simp only [List.mem_cons, List.not_mem_nil, or_false] at hr
    subst hr
    exact ⟨_, Go.out, by kernel_rfl⟩
  have xGd := extR_row (B := wL.heap.size) (R := [⟨w.heap.size + 1, 24, .tmp 9⟩]) Gd.out (lt_of_heap Gd.out) (by intro r hr; simp only [List.mem_cons, List.not_mem_nil, or_false] at hr; subst hr <;> dsimp only <;> (omega))
  have xGn := extR_row (B := wL.heap.size) (R := [⟨w.heap.size + 1, 24, .tmp 9⟩]) Gn.out (lt_of_heap Gn.out) (by intro r hr; simp only [List.mem_cons, List.not_mem_nil, or_false] at hr; subst hr <;> dsimp only <;> (omega))
  have xGt := extR_row (B := wL.heap.size) (R := [⟨w.heap.size + 1, 24, .tmp 9⟩]) Gt.out (lt_of_heap Gt.out) (by intro r hr; simp only [List.mem_cons, List.not_mem_nil, or_false] at hr; subst hr <;> dsimp only <;> (omega))
  have xGx := extR_row (B := wL.heap.size) (R := [⟨w.heap.size + 1, 24, .tmp 9⟩]) Gx.out (lt_of_heap Gx.out) (by intro r hr; simp only [List.mem_cons, List.not_mem_nil, or_false] at hr; subst hr <;> dsimp only <;> (omega))
  repeat (refine wpCalm_step (fun K hK => ?_); go_simp; first | (refine hK _ ?_; clear hK K) | (apply Exists.intro; refine ⟨fun _ => ?_, hK _ ?_⟩; (first | with_reducible exact S1.out _ (extR_block _ Gd.out (lt_of_heap Gd.out) (by intro r hr; simp only [List.mem_cons, List.not_mem_nil, or_false] at hr; subst hr; dsimp only; omega)) | with_reducible exact S2.out _ | exact S1.out _ (extR_block _ Gd.out (lt_of_heap Gd.out) (by intro r hr; simp only [List.mem_cons, List.not_mem_nil, or_false] at hr; subst hr; dsimp only; omega)) | exact S2.out _); clear hK K))
  refine wpCalm_nil ⟨?_, fun x hx => ?_⟩
  · intro r hr
    simp only [List.mem_cons, List.not_mem_nil, or_false] at hr
    subst hr <;> exact fits_wv (by kernel_rfl) _
  replace Go : Hid (x.val.heap[w.heap.size + 1]? = some (.cells (wcells (r)) 24 (0, 0))) := Lib.hid (hx ⟨w.heap.size + 1, 24, .tmp 9⟩ (by simp))
  replace Gd := Lib.hid (extR_block x Gd.out (lt_of_heap Gd.out) (by intro r hr; simp only [List.mem_cons, List.not_mem_nil, or_false] at hr; subst hr <;> dsimp only <;> (omega)))
  replace Gn := Lib.hid (extR_block x Gn.out (lt_of_heap Gn.out) (by intro r hr; simp only [List.mem_cons, List.not_mem_nil, or_false] at hr; subst hr <;> dsimp only <;> (omega)))
  replace Gt := Lib.hid (extR_block x Gt.out (lt_of_heap Gt.out) (by intro r hr; simp only [List.mem_cons, List.not_mem_nil, or_false] at hr; subst hr <;> dsimp only <;> (omega)))
  replace Gx := Lib.hid (extR_block x Gx.out (lt_of_heap Gx.out) (by intro r hr; simp only [List.mem_cons, List.not_mem_nil, or_false] at hr; subst hr <;> dsimp only <;> (omega)))
  replace HB := Lib.hid (extR_below x HB.out HB.out.size (by intro r hr; simp only [List.mem_cons, List.not_mem_nil, or_false] at hr; subst hr <;> dsimp only <;> (omega)))
  clear hx xGd xGn xGt xGx
  obtain ⟨w4, hw⟩ : ∃ wx, wx = x.val := ⟨_, rfl⟩
  rw [← hw] at Gd Gn Gt Gx Go HB ⊢
  clear hw x
  have cGd := cell_row Gd.out
  have cGn := cell_row Gn.out
  have cGt := cell_row Gt.out
  have cGx := cell_row Gx.out
  have cGo := cell_row Go.out
  go_wp2
  exact bodyPost_ret (v := wv r) (res_c Tryz.results101 _ _ _ _ _ _ rfl Go.out aggW) rfl ⟨rfl, HB.out⟩

theorem quo_above {n d x : Nat} (hd : 0 < d) : decide (n < x * d) = decide (n / d < x) := by
  rw [decide_eq_decide]
  exact (Nat.div_lt_iff_lt_mul hd).symm
/-- The closures of fix.Quotient, where their variables lie. -/
theorem above_Q (n d pt pn pd : Nat) (hd0 : 0 < d) (hd : d < P2 120) (hn : n < M) (w : World) (hpd : w.heap[pd]? = some (.cells (wcells d) 24 (0, 0))) (hpn : w.heap[pn]? = some (.cells (wcells n) 24 (0, 0))) {T : TypeId}
    (hpt : w.heap[pt]? = some (.cells (fcell 99 #[.pointer (some ⟨pd, 0, none⟩)]) T (0, 0))) :
    Above Tryz.prog 100 #[.pointer (some ⟨pt, 0, none⟩), .pointer (some ⟨pn, 0, none⟩)] w (n / d) := by
  intro x w' hx hb
  have hxM : x < M := by have := P2_201.2.1; omega
  have hdM : d < M := Nat.lt_trans hd (by rw [M_eq]; exact P2_lt (by omega))
  have hxd : x * d < M := by
    have := Nat.mul_lt_mul'' hx hd
    rw [← P2_add] at this
    rw [M_eq]
    exact Nat.lt_of_lt_of_le this (P2_le (by omega))
  have := aboveQ_any x n d pt pn pd hxM hdM hn hxd w' ((hb.block _ (lt_of_heap hpd)).trans hpd) ((hb.block _ (lt_of_heap hpn)).trans hpn) ((hb.block _ (lt_of_heap hpt)).trans hpt)
  rw [quo_above hd0] at this
  exact this
theorem left_Q (n d pt pn pd : Nat) (hd : d < P2 120) (hn : n < M) (w : World) (hpd : w.heap[pd]? = some (.cells (wcells d) 24 (0, 0))) (hpn : w.heap[pn]? = some (.cells (wcells n) 24 (0, 0))) {T : TypeId}
    (hpt : w.heap[pt]? = some (.cells (fcell 99 #[.pointer (some ⟨pd, 0, none⟩)]) T (0, 0))) :
    LeftOf Tryz.prog 101 #[.pointer (some ⟨pn, 0, none⟩), .pointer (some ⟨pt, 0, none⟩)] w (n / d) (n % d) := by
  intro w' hb
  have hdM : d < M := Nat.lt_trans hd (by rw [M_eq]; exact P2_lt (by omega))
  have hqM : n / d < M := Nat.lt_of_le_of_lt (Nat.div_le_self _ _) hn
  have := leftQ_any (n / d) n d pt pn pd hqM hdM hn (Nat.div_mul_le_self _ _) w' ((hb.block _ (lt_of_heap hpd)).trans hpd) ((hb.block _ (lt_of_heap hpn)).trans hpn) ((hb.block _ (lt_of_heap hpt)).trans hpt)
  rw [show n - n / d * d = n % d by have := Nat.div_add_mod n d; rw [Nat.mul_comm] at this; omega] at this
  exact this

set_option maxRecDepth 100000 in
set_option maxHeartbeats 2000000 in
theorem quotient_yes (n d g m : Nat) (hn : n < M) (hd : d < M) (hmay : mayN n d = 0) (hg : g < P2 200) (hm : m ≤ 100) (hdist : (g - n / d) + (n / d - g) ≤ m) (w : World) :
    Calls Tryz.prog 68 #[wv n, wv d, wv g, .int .i64 (m : Int)] w fun e w' => e = .returned (.tuple #[wv (n / d), wv (n % d), .int .i64 (((g - n / d) + (n / d - g) : Nat) : Int), .int .i64 0]) ∧ Below w.heap.size w w' := by
  have h201 : P2 200 < P2 201 := P2_lt (by omega)
  have hgM : g < M := by have := P2_201.2.1; have := P2_201.1; omega
  obtain ⟨h1, h2, h3⟩ := may_ok hmay
  have hq : n / d < P2 201 := Nat.lt_trans ((Nat.div_lt_iff_lt_mul h1).2 (by rw [Nat.mul_comm]; exact h3)) (P2_lt (by omega))
  have SM := Lib.hid (fun w' => may_w n d hn hd w')
  rw [hmay] at SM
  have SL := Lib.hid (fun w' => len_w g hgM w')
  have hl := blen_le_of hg
  have hl' : ¬ (200 : Int) < (blen g : Nat) := by omega
  obtain ⟨l, hle⟩ : ∃ l, l = blen g := ⟨_, rfl⟩
  rw [← hle] at SL hl'
  have ST := Lib.hid (fun (pt pn pd : Nat) (w' : World) (T : TypeId) hpd hpn hpt => told_yes 100 101 #[.pointer (some ⟨pt, 0, none⟩), .pointer (some ⟨pn, 0, none⟩)] #[.pointer (some ⟨pn, 0, none⟩), .pointer (some ⟨pt, 0, none⟩)] g (n / d) (n % d) m w' (by omega) hq hm hdist enters_aboveQ enters_leftQ
    (above_Q n d pt pn pd h1 h2 hn w' hpd hpn (T := T) hpt) (left_Q n d pt pn pd h2 hn w' hpd hpn (T := T) hpt))
  obtain ⟨a, ha⟩ : ∃ a, a = (g - n / d) + (n / d - g) := ⟨_, rfl⟩
  obtain ⟨q, hqe⟩ : ∃ q, q = n / d := ⟨_, rfl⟩
  obtain ⟨r, hre⟩ : ∃ q, q = n % d := ⟨_, rfl⟩
  rw [← ha] at ST
  rw [← hqe, ← hre] at ST
  rw [← ha, ← hqe, ← hre]
  have hm' : (m : Int) ≤ 100 := by omega
  clear hn hd hmay hg hm hdist h201 hgM h1 h2 h3 hq hl hle ha hqe hre
  go_enter Tryz.func68, Tryz.ntmps68
  have HB := Lib.hid (Below.refl w.heap.size w)
  have Gn := Lib.hid (alloc_new (w) (.cells (wcells n) 24))
  replace HB := Lib.hid (below_al HB.out (.cells (wcells n) 24))
  replace Gn := Lib.hid (keepAl (o' := .cells (wcells d) 24) Gn.out)
  have Gd := Lib.hid (alloc_new' (w := (w).alloc (.cells (wcells n) 24)) (n := w.heap.size + 1) (.cells (wcells d) 24) (by simp))
  replace HB := Lib.hid (below_al HB.out (.cells (wcells d) 24))
  replace Gn := Lib.hid (keepAl (o' := .cells (wcells g) 24) Gn.out)
  replace Gd := Lib.hid (keepAl (o' := .cells (wcells g) 24) Gd.out)
  have Gg := Lib.hid (alloc_new' (w := ((w).alloc (.cells (wcells n) 24)).alloc (.cells (wcells d) 24)) (n := w.heap.size + 1 + 1) (.cells (wcells g) 24) (by simp))
  replace HB := Lib.hid (below_al HB.out (.cells (wcells g) 24))
  replace Gn := Lib.hid (keepAl (o' := .cells (wcells 0) 24) Gn.out)
  replace Gd := Lib.hid (keepAl (o' := .cells (wcells 0) 24) Gd.out)
  replace Gg := Lib.hid (keepAl (o' := .cells (wcells 0) 24) Gg.out)
  have Gx := Lib.hid (alloc_new' (w := (((w).alloc (.cells (wcells n) 24)).alloc (.cells (wcells d) 24)).alloc (.cells (wcells g) 24)) (n := w.heap.size + 1 + 1 + 1) (.cells (wcells 0) 24) (by simp))
  replace HB := Lib.hid (below_al HB.out (.cells (wcells 0) 24))
  replace Gn := Lib.hid (keepAl (o' := .cells (wcells 0) 24) Gn.out)
  replace Gd := Lib.hid (keepAl (o' := .cells (wcells 0) 24) Gd.out)
  replace Gg := Lib.hid (keepAl (o' := .cells (wcells 0) 24) Gg.out)
  replace Gx := Lib.hid (keepAl (o' := .cells (wcells 0) 24) Gx.out)
  have Gy := Lib.hid (alloc_new' (w := ((((w).alloc (.cells (wcells n) 24)).alloc (.cells (wcells d) 24)).alloc (.cells (wcells g) 24)).alloc (.cells (wcells 0) 24)) (n := w.heap.size + 1 + 1 + 1 + 1) (.cells (wcells 0) 24) (by simp))
  replace HB := Lib.hid (below_al HB.out (.cells (wcells 0) 24))
  have cGn := cell_row Gn.out
  have cGd := cell_row Gd.out
  have cGg := cell_row Gg.out
  have cGx := cell_row Gx.out
  have cGy := cell_row Gy.out
  go_wp2_with fail
  refine (SM.out _).mono ?_
  rintro e w5 ⟨rfl, hb⟩
  clear cGn cGd cGg cGx cGy
  replace HB := Lib.hid (below_then HB.out hb)
  replace Gn := Lib.hid ((hb.block _ (lt_of_heap Gn.out)).trans Gn.out)
  replace Gd := Lib.hid ((hb.block _ (lt_of_heap Gd.out)).trans Gd.out)
  replace Gg := Lib.hid ((hb.block _ (lt_of_heap Gg.out)).trans Gg.out)
  replace Gx := Lib.hid ((hb.block _ (lt_of_heap Gx.out)).trans Gx.out)
  replace Gy := Lib.hid ((hb.block _ (lt_of_heap Gy.out)).trans Gy.out)
  clear hb
  have cGn := cell_row Gn.out
  have cGd := cell_row Gd.out
  have cGg := cell_row Gg.out
  have cGx := cell_row Gx.out
  have cGy := cell_row Gy.out
  go_wp2_with fail
  refine (SL.out _).mono ?_
  rintro e w6 ⟨rfl, hb⟩
  clear cGn cGd cGg cGx cGy
  replace HB := Lib.hid (below_then HB.out hb)
  replace Gn := Lib.hid ((hb.block _ (lt_of_heap Gn.out)).trans Gn.out)
  replace Gd := Lib.hid ((hb.block _ (lt_of_heap Gd.out)).trans Gd.out)
  replace Gg := Lib.hid ((hb.block _ (lt_of_heap Gg.out)).trans Gg.out)
  replace Gx := Lib.hid ((hb.block _ (lt_of_heap Gx.out)).trans Gx.out)
  replace Gy := Lib.hid ((hb.block _ (lt_of_heap Gy.out)).trans Gy.out)
  clear hb
  have HZ := Lib.hid (lt_of_heap Gy.out)
  have cGn := cell_row Gn.out
  have cGd := cell_row Gd.out
  have cGg := cell_row Gg.out
  have cGx := cell_row Gx.out
  have cGy := cell_row Gy.out
  go_upto_region 9 with fail
  clear cGn cGd cGg cGx cGy
  replace Gn := Lib.hid (keepAl (o' := .cells (fcell 99 #[.pointer (some ⟨w.heap.size + 1, 0, none⟩)]) 101) Gn.out)
  replace Gd := Lib.hid (keepAl (o' := .cells (fcell 99 #[.pointer (some ⟨w.heap.size + 1, 0, none⟩)]) 101) Gd.out)
  replace Gg := Lib.hid (keepAl (o' := .cells (fcell 99 #[.pointer (some ⟨w.heap.size + 1, 0, none⟩)]) 101) Gg.out)
  replace Gx := Lib.hid (keepAl (o' := .cells (fcell 99 #[.pointer (some ⟨w.heap.size + 1, 0, none⟩)]) 101) Gx.out)
  replace Gy := Lib.hid (keepAl (o' := .cells (fcell 99 #[.pointer (some ⟨w.heap.size + 1, 0, none⟩)]) 101) Gy.out)
  have Gt := Lib.hid (alloc_new (w6) (.cells (fcell 99 #[.pointer (some ⟨w.heap.size + 1, 0, none⟩)]) 101))
  replace HB := Lib.hid (below_al HB.out (.cells (fcell 99 #[.pointer (some ⟨w.heap.size + 1, 0, none⟩)]) 101))
  have cGn := cell_row Gn.out
  have cGd := cell_row Gd.out
  have cGg := cell_row Gg.out
  have cGx := cell_row Gx.out
  have cGy := cell_row Gy.out
  have cGt := cell_row Gt.out
  go_wp2_with fail
  refine (ST.out _ _ _ _ _ Gd.out Gn.out Gt.out).mono ?_
  rintro e w7 ⟨rfl, hb⟩
  clear cGn cGd cGg cGx cGy cGt
  replace HB := Lib.hid (below_then HB.out hb)
  replace Gn := Lib.hid ((hb.block _ (lt_of_heap Gn.out)).trans Gn.out)
  replace Gd := Lib.hid ((hb.block _ (lt_of_heap Gd.out)).trans Gd.out)
  replace Gg := Lib.hid ((hb.block _ (lt_of_heap Gg.out)).trans Gg.out)
  replace Gx := Lib.hid ((hb.block _ (lt_of_heap Gx.out)).trans Gx.out)
  replace Gy := Lib.hid ((hb.block _ (lt_of_heap Gy.out)).trans Gy.out)
  replace Gt := Lib.hid ((hb.block _ (lt_of_heap Gt.out)).trans Gt.out)
  clear hb
  have hz := HZ.out
  have stx := st_row (P := Tryz.prog) Gx.out rfl (q)
  replace Gy := Lib.hid ((setRow_other (w7) (w.heap.size + 1 + 1 + 1) _ (wcells (q)) (by (omega))).trans Gy.out)
  replace Gx := Lib.hid (setRow_heap (w7) (w.heap.size + 1 + 1 + 1) _ (wcells (q)) _ _ Gx.out)
  replace HB := Lib.hid (below_setRow' HB.out (show _ ≤ w.heap.size + 1 + 1 + 1 by (omega)) (wcells (q)))
  have q1 := stx
  clear stx
  have sty := st_row (P := Tryz.prog) Gy.out rfl (r)
  replace Gx := Lib.hid ((setRow_other ((w7).setRow (w.heap.size + 1 + 1 + 1) (wcells (q))) (w.heap.size + 1 + 1 + 1 + 1) _ (wcells (r)) (by (omega))).trans Gx.out)
  replace Gy := Lib.hid (setRow_heap ((w7).setRow (w.heap.size + 1 + 1 + 1) (wcells (q))) (w.heap.size + 1 + 1 + 1 + 1) _ (wcells (r)) _ _ Gy.out)
  replace HB := Lib.hid (below_setRow' HB.out (show _ ≤ w.heap.size + 1 + 1 + 1 + 1 by (omega)) (wcells (r)))
  have cGx := cell_row Gx.out
  have cGy := cell_row Gy.out
  go_wp2
  exact bodyPost_ret (v := .tuple #[wv q, wv r, .int .i64 (a : Int), .int .i64 0]) (res_cctt Tryz.results68 _ _ _ _ _ _ _ _ _ _ _ _ rfl rfl rfl rfl Gx.out Gy.out aggW aggW) rfl ⟨rfl, HB.out⟩

set_option maxRecDepth 100000 in
set_option maxHeartbeats 2000000 in
theorem quotient_far (n d g m : Nat) (hn : n < M) (hd : d < M) (hmay : mayN n d = 0) (hg : g < P2 200) (hm : m ≤ 100) (hdist : m < (g - n / d) + (n / d - g)) (w : World) :
    Calls Tryz.prog 68 #[wv n, wv d, wv g, .int .i64 (m : Int)] w fun e w' => e = .returned (.tuple #[wv 0, wv 0, .int .i64 0, .int .i64 6]) ∧ Below w.heap.size w w' := by
  have h201 : P2 200 < P2 201 := P2_lt (by omega)
  have hgM : g < M := by have := P2_201.2.1; have := P2_201.1; omega
  obtain ⟨h1, h2, h3⟩ := may_ok hmay
  have SM := Lib.hid (fun w' => may_w n d hn hd w')
  rw [hmay] at SM
  have SL := Lib.hid (fun w' => len_w g hgM w')
  have hl := blen_le_of hg
  have hl' : ¬ (200 : Int) < (blen g : Nat) := by omega
  obtain ⟨l, hle⟩ : ∃ l, l = blen g := ⟨_, rfl⟩
  rw [← hle] at SL hl'
  have ST := Lib.hid (fun (pt pn pd : Nat) (w' : World) (T : TypeId) hpd hpn hpt => told_no 100 101 #[.pointer (some ⟨pt, 0, none⟩), .pointer (some ⟨pn, 0, none⟩)] #[.pointer (some ⟨pn, 0, none⟩), .pointer (some ⟨pt, 0, none⟩)] g (n / d) m w' (by omega) hm hdist enters_aboveQ
    (above_Q n d pt pn pd h1 h2 hn w' hpd hpn (T := T) hpt))
  have hm' : (m : Int) ≤ 100 := by omega
  clear hn hd hmay hg hm hdist h201 hgM h1 h2 h3 hl hle
  go_enter Tryz.func68, Tryz.ntmps68
  have HB := Lib.hid (Below.refl w.heap.size w)
  have Gn := Lib.hid (alloc_new (w) (.cells (wcells n) 24))
  replace HB := Lib.hid (below_al HB.out (.cells (wcells n) 24))
  replace Gn := Lib.hid (keepAl (o' := .cells (wcells d) 24) Gn.out)
  have Gd := Lib.hid (alloc_new' (w := (w).alloc (.cells (wcells n) 24)) (n := w.heap.size + 1) (.cells (wcells d) 24) (by simp))
  replace HB := Lib.hid (below_al HB.out (.cells (wcells d) 24))
  replace Gn := Lib.hid (keepAl (o' := .cells (wcells g) 24) Gn.out)
  replace Gd := Lib.hid (keepAl (o' := .cells (wcells g) 24) Gd.out)
  have Gg := Lib.hid (alloc_new' (w := ((w).alloc (.cells (wcells n) 24)).alloc (.cells (wcells d) 24)) (n := w.heap.size + 1 + 1) (.cells (wcells g) 24) (by simp))
  replace HB := Lib.hid (below_al HB.out (.cells (wcells g) 24))
  replace Gn := Lib.hid (keepAl (o' := .cells (wcells 0) 24) Gn.out)
  replace Gd := Lib.hid (keepAl (o' := .cells (wcells 0) 24) Gd.out)
  replace Gg := Lib.hid (keepAl (o' := .cells (wcells 0) 24) Gg.out)
  have Gx := Lib.hid (alloc_new' (w := (((w).alloc (.cells (wcells n) 24)).alloc (.cells (wcells d) 24)).alloc (.cells (wcells g) 24)) (n := w.heap.size + 1 + 1 + 1) (.cells (wcells 0) 24) (by simp))
  replace HB := Lib.hid (below_al HB.out (.cells (wcells 0) 24))
  replace Gn := Lib.hid (keepAl (o' := .cells (wcells 0) 24) Gn.out)
  replace Gd := Lib.hid (keepAl (o' := .cells (wcells 0) 24) Gd.out)
  replace Gg := Lib.hid (keepAl (o' := .cells (wcells 0) 24) Gg.out)
  replace Gx := Lib.hid (keepAl (o' := .cells (wcells 0) 24) Gx.out)
  have Gy := Lib.hid (alloc_new' (w := ((((w).alloc (.cells (wcells n) 24)).alloc (.cells (wcells d) 24)).alloc (.cells (wcells g) 24)).alloc (.cells (wcells 0) 24)) (n := w.heap.size + 1 + 1 + 1 + 1) (.cells (wcells 0) 24) (by simp))
  replace HB := Lib.hid (below_al HB.out (.cells (wcells 0) 24))
  have cGn := cell_row Gn.out
  have cGd := cell_row Gd.out
  have cGg := cell_row Gg.out
  have cGx := cell_row Gx.out
  have cGy := cell_row Gy.out
  go_wp2_with fail
  refine (SM.out _).mono ?_
  rintro e w8 ⟨rfl, hb⟩
  clear cGn cGd cGg cGx cGy
  replace HB := Lib.hid (below_then HB.out hb)
  replace Gn := Lib.hid ((hb.block _ (lt_of_heap Gn.out)).trans Gn.out)
  replace Gd := Lib.hid ((hb.block _ (lt_of_heap Gd.out)).trans Gd.out)
  replace Gg := Lib.hid ((hb.block _ (lt_of_heap Gg.out)).trans Gg.out)
  replace Gx := Lib.hid ((hb.block _ (lt_of_heap Gx.out)).trans Gx.out)
  replace Gy := Lib.hid ((hb.block _ (lt_of_heap Gy.out)).trans Gy.out)
  clear hb
  have cGn := cell_row Gn.out
  have cGd := cell_row Gd.out
  have cGg := cell_row Gg.out
  have cGx := cell_row Gx.out
  have cGy := cell_row Gy.out
  go_wp2_with fail
  refine (SL.out _).mono ?_
  rintro e w9 ⟨rfl, hb⟩
  clear cGn cGd cGg cGx cGy
  replace HB := Lib.hid (below_then HB.out hb)
  replace Gn := Lib.hid ((hb.block _ (lt_of_heap Gn.out)).trans Gn.out)
  replace Gd := Lib.hid ((hb.block _ (lt_of_heap Gd.out)).trans Gd.out)
  replace Gg := Lib.hid ((hb.block _ (lt_of_heap Gg.out)).trans Gg.out)
  replace Gx := Lib.hid ((hb.block _ (lt_of_heap Gx.out)).trans Gx.out)
  replace Gy := Lib.hid ((hb.block _ (lt_of_heap Gy.out)).trans Gy.out)
  clear hb
  have HZ := Lib.hid (lt_of_heap Gy.out)
  have cGn := cell_row Gn.out
  have cGd := cell_row Gd.out
  have cGg := cell_row Gg.out
  have cGx := cell_row Gx.out
  have cGy := cell_row Gy.out
  go_upto_region 9 with fail
  clear cGn cGd cGg cGx cGy
  replace Gn := Lib.hid (keepAl (o' := .cells (fcell 99 #[.pointer (some ⟨w.heap.size + 1, 0, none⟩)]) 101) Gn.out)
  replace Gd := Lib.hid (keepAl (o' := .cells (fcell 99 #[.pointer (some ⟨w.heap.size + 1, 0, none⟩)]) 101) Gd.out)
  replace Gg := Lib.hid (keepAl (o' := .cells (fcell 99 #[.pointer (some ⟨w.heap.size + 1, 0, none⟩)]) 101) Gg.out)
  replace Gx := Lib.hid (keepAl (o' := .cells (fcell 99 #[.pointer (some ⟨w.heap.size + 1, 0, none⟩)]) 101) Gx.out)
  replace Gy := Lib.hid (keepAl (o' := .cells (fcell 99 #[.pointer (some ⟨w.heap.size + 1, 0, none⟩)]) 101) Gy.out)
  have Gt := Lib.hid (alloc_new (w9) (.cells (fcell 99 #[.pointer (some ⟨w.heap.size + 1, 0, none⟩)]) 101))
  replace HB := Lib.hid (below_al HB.out (.cells (fcell 99 #[.pointer (some ⟨w.heap.size + 1, 0, none⟩)]) 101))
  have cGn := cell_row Gn.out
  have cGd := cell_row Gd.out
  have cGg := cell_row Gg.out
  have cGx := cell_row Gx.out
  have cGy := cell_row Gy.out
  have cGt := cell_row Gt.out
  go_wp2_with fail
  refine (ST.out _ _ _ _ _ Gd.out Gn.out Gt.out).mono ?_
  rintro e w10 ⟨rfl, hb⟩
  clear cGn cGd cGg cGx cGy cGt
  replace HB := Lib.hid (below_then HB.out hb)
  replace Gn := Lib.hid ((hb.block _ (lt_of_heap Gn.out)).trans Gn.out)
  replace Gd := Lib.hid ((hb.block _ (lt_of_heap Gd.out)).trans Gd.out)
  replace Gg := Lib.hid ((hb.block _ (lt_of_heap Gg.out)).trans Gg.out)
  replace Gx := Lib.hid ((hb.block _ (lt_of_heap Gx.out)).trans Gx.out)
  replace Gy := Lib.hid ((hb.block _ (lt_of_heap Gy.out)).trans Gy.out)
  replace Gt := Lib.hid ((hb.block _ (lt_of_heap Gt.out)).trans Gt.out)
  clear hb
  have hz := HZ.out
  have stx := st_row (P := Tryz.prog) Gx.out rfl (0)
  replace Gy := Lib.hid ((setRow_other (w10) (w.heap.size + 1 + 1 + 1) _ (wcells (0)) (by (omega))).trans Gy.out)
  replace Gx := Lib.hid (setRow_heap (w10) (w.heap.size + 1 + 1 + 1) _ (wcells (0)) _ _ Gx.out)
  replace HB := Lib.hid (below_setRow' HB.out (show _ ≤ w.heap.size + 1 + 1 + 1 by (omega)) (wcells (0)))
  have q1 := stx
  clear stx
  have sty := st_row (P := Tryz.prog) Gy.out rfl (0)
  replace Gx := Lib.hid ((setRow_other ((w10).setRow (w.heap.size + 1 + 1 + 1) (wcells (0))) (w.heap.size + 1 + 1 + 1 + 1) _ (wcells (0)) (by (omega))).trans Gx.out)
  replace Gy := Lib.hid (setRow_heap ((w10).setRow (w.heap.size + 1 + 1 + 1) (wcells (0))) (w.heap.size + 1 + 1 + 1 + 1) _ (wcells (0)) _ _ Gy.out)
  replace HB := Lib.hid (below_setRow' HB.out (show _ ≤ w.heap.size + 1 + 1 + 1 + 1 by (omega)) (wcells (0)))
  have cGx := cell_row Gx.out
  have cGy := cell_row Gy.out
  go_wp2
  exact bodyPost_ret (v := .tuple #[wv 0, wv 0, .int .i64 0, .int .i64 6]) (res_cctt Tryz.results68 _ _ _ _ _ _ _ _ _ _ _ _ rfl rfl rfl rfl Gx.out Gy.out aggW aggW) rfl ⟨rfl, HB.out⟩

/-- Why there is no quotient by a guess; 0: there may be one. -/
def fqE (n d g : Nat) (m : Int) : Int := if m < 0 ∨ 100 < m then 1 else if mayN n d = 0 ∧ 200 < blen g then 4 else mayN n d
set_option maxRecDepth 100000 in
set_option maxHeartbeats 2000000 in
theorem quotient_err (n d g : Nat) (m : Int) (hn : n < M) (hd : d < M) (hg : g < M) (hE : fqE n d g m ≠ 0) (w : World) :
    Calls Tryz.prog 68 #[wv n, wv d, wv g, .int .i64 m] w fun e w' => e = .returned (.tuple #[wv 0, wv 0, .int .i64 0, .int .i64 (fqE n d g m)]) ∧ Below w.heap.size w w' := by
  have SM := Lib.hid (fun w' => may_w n d hn hd w')
  have SL := Lib.hid (fun w' => len_w g hg w')
  obtain ⟨F, hF⟩ : ∃ F, F = fqE n d g m := ⟨_, rfl⟩
  rw [← hF] at hE ⊢
  unfold fqE at hF
  obtain ⟨E, hEe⟩ : ∃ E, E = mayN n d := ⟨_, rfl⟩
  rw [← hEe] at SM hF
  obtain ⟨l, hle⟩ : ∃ l, l = blen g := ⟨_, rfl⟩
  rw [← hle] at SL hF
  clear hn hd hg hEe hle
  by_cases hm : m < 0 ∨ 100 < m
  · rw [if_pos hm] at hF
    subst hF
    clear SL
    rcases hm with hm | hm
    · clear hE
      go_enter Tryz.func68, Tryz.ntmps68
      have HB := Lib.hid (Below.refl w.heap.size w)
      have Gn := Lib.hid (alloc_new (w) (.cells (wcells n) 24))
      replace HB := Lib.hid (below_al HB.out (.cells (wcells n) 24))
      replace Gn := Lib.hid (keepAl (o' := .cells (wcells d) 24) Gn.out)
      have Gd := Lib.hid (alloc_new' (w := (w).alloc (.cells (wcells n) 24)) (n := w.heap.size + 1) (.cells (wcells d) 24) (by simp))
      replace HB := Lib.hid (below_al HB.out (.cells (wcells d) 24))
      replace Gn := Lib.hid (keepAl (o' := .cells (wcells g) 24) Gn.out)
      replace Gd := Lib.hid (keepAl (o' := .cells (wcells g) 24) Gd.out)
      have Gg := Lib.hid (alloc_new' (w := ((w).alloc (.cells (wcells n) 24)).alloc (.cells (wcells d) 24)) (n := w.heap.size + 1 + 1) (.cells (wcells g) 24) (by simp))
      replace HB := Lib.hid (below_al HB.out (.cells (wcells g) 24))
      replace Gn := Lib.hid (keepAl (o' := .cells (wcells 0) 24) Gn.out)
      replace Gd := Lib.hid (keepAl (o' := .cells (wcells 0) 24) Gd.out)
      replace Gg := Lib.hid (keepAl (o' := .cells (wcells 0) 24) Gg.out)
      have Gx := Lib.hid (alloc_new' (w := (((w).alloc (.cells (wcells n) 24)).alloc (.cells (wcells d) 24)).alloc (.cells (wcells g) 24)) (n := w.heap.size + 1 + 1 + 1) (.cells (wcells 0) 24) (by simp))
      replace HB := Lib.hid (below_al HB.out (.cells (wcells 0) 24))
      replace Gn := Lib.hid (keepAl (o' := .cells (wcells 0) 24) Gn.out)
      replace Gd := Lib.hid (keepAl (o' := .cells (wcells 0) 24) Gd.out)
      replace Gg := Lib.hid (keepAl (o' := .cells (wcells 0) 24) Gg.out)
      replace Gx := Lib.hid (keepAl (o' := .cells (wcells 0) 24) Gx.out)
      have Gy := Lib.hid (alloc_new' (w := ((((w).alloc (.cells (wcells n) 24)).alloc (.cells (wcells d) 24)).alloc (.cells (wcells g) 24)).alloc (.cells (wcells 0) 24)) (n := w.heap.size + 1 + 1 + 1 + 1) (.cells (wcells 0) 24) (by simp))
      replace HB := Lib.hid (below_al HB.out (.cells (wcells 0) 24))
      have cGn := cell_row Gn.out
      have cGd := cell_row Gd.out
      have cGg := cell_row Gg.out
      have cGx := cell_row Gx.out
      have cGy := cell_row Gy.out
      go_wp2_with fail
      refine (SM.out _).mono ?_
      rintro e w11 ⟨rfl, hb⟩
      clear cGn cGd cGg cGx cGy
      replace HB := Lib.hid (below_then HB.out hb)
      replace Gn := Lib.hid ((hb.block _ (lt_of_heap Gn.out)).trans Gn.out)
      replace Gd := Lib.hid ((hb.block _ (lt_of_heap Gd.out)).trans Gd.out)
      replace Gg := Lib.hid ((hb.block _ (lt_of_heap Gg.out)).trans Gg.out)
      replace Gx := Lib.hid ((hb.block _ (lt_of_heap Gx.out)).trans Gx.out)
      replace Gy := Lib.hid ((hb.block _ (lt_of_heap Gy.out)).trans Gy.out)
      clear hb
      have HZ := Lib.hid (lt_of_heap Gy.out)
      have cg := cell_row Gg.out
      have hz := HZ.out
      have stx := st_row (P := Tryz.prog) Gx.out rfl (0)
      replace Gy := Lib.hid ((setRow_other (w11) (w.heap.size + 1 + 1 + 1) _ (wcells (0)) (by (omega))).trans Gy.out)
      replace Gx := Lib.hid (setRow_heap (w11) (w.heap.size + 1 + 1 + 1) _ (wcells (0)) _ _ Gx.out)
      replace HB := Lib.hid (below_setRow' HB.out (show _ ≤ w.heap.size + 1 + 1 + 1 by (omega)) (wcells (0)))
      have q1 := stx
      clear stx
      have sty := st_row (P := Tryz.prog) Gy.out rfl (0)
      replace Gx := Lib.hid ((setRow_other ((w11).setRow (w.heap.size + 1 + 1 + 1) (wcells (0))) (w.heap.size + 1 + 1 + 1 + 1) _ (wcells (0)) (by (omega))).trans Gx.out)
      replace Gy := Lib.hid (setRow_heap ((w11).setRow (w.heap.size + 1 + 1 + 1) (wcells (0))) (w.heap.size + 1 + 1 + 1 + 1) _ (wcells (0)) _ _ Gy.out)
      replace HB := Lib.hid (below_setRow' HB.out (show _ ≤ w.heap.size + 1 + 1 + 1 + 1 by (omega)) (wcells (0)))
      have cGx := cell_row Gx.out
      have cGy := cell_row Gy.out
      go_wp2
      exact bodyPost_ret (v := .tuple #[wv 0, wv 0, .int .i64 0, .int .i64 1]) (res_cctt Tryz.results68 _ _ _ _ _ _ _ _ _ _ _ _ rfl rfl rfl rfl Gx.out Gy.out aggW aggW) rfl ⟨rfl, HB.out⟩
    · have hm0 : ¬ m < 0 := by omega
      go_enter Tryz.func68, Tryz.ntmps68
      have HB := Lib.hid (Below.refl w.heap.size w)
      have Gn := Lib.hid (alloc_new (w) (.cells (wcells n) 24))
      replace HB := Lib.hid (below_al HB.out (.cells (wcells n) 24))
      replace Gn := Lib.hid (keepAl (o' := .cells (wcells d) 24) Gn.out)
      have Gd := Lib.hid (alloc_new' (w := (w).alloc (.cells (wcells n) 24)) (n := w.heap.size + 1) (.cells (wcells d) 24) (by simp))
      replace HB := Lib.hid (below_al HB.out (.cells (wcells d) 24))
      replace Gn := Lib.hid (keepAl (o' := .cells (wcells g) 24) Gn.out)
      replace Gd := Lib.hid (keepAl (o' := .cells (wcells g) 24) Gd.out)
      have Gg := Lib.hid (alloc_new' (w := ((w).alloc (.cells (wcells n) 24)).alloc (.cells (wcells d) 24)) (n := w.heap.size + 1 + 1) (.cells (wcells g) 24) (by simp))
      replace HB := Lib.hid (below_al HB.out (.cells (wcells g) 24))
      replace Gn := Lib.hid (keepAl (o' := .cells (wcells 0) 24) Gn.out)
      replace Gd := Lib.hid (keepAl (o' := .cells (wcells 0) 24) Gd.out)
      replace Gg := Lib.hid (keepAl (o' := .cells (wcells 0) 24) Gg.out)
      have Gx := Lib.hid (alloc_new' (w := (((w).alloc (.cells (wcells n) 24)).alloc (.cells (wcells d) 24)).alloc (.cells (wcells g) 24)) (n := w.heap.size + 1 + 1 + 1) (.cells (wcells 0) 24) (by simp))
      replace HB := Lib.hid (below_al HB.out (.cells (wcells 0) 24))
      replace Gn := Lib.hid (keepAl (o' := .cells (wcells 0) 24) Gn.out)
      replace Gd := Lib.hid (keepAl (o' := .cells (wcells 0) 24) Gd.out)
      replace Gg := Lib.hid (keepAl (o' := .cells (wcells 0) 24) Gg.out)
      replace Gx := Lib.hid (keepAl (o' := .cells (wcells 0) 24) Gx.out)
      have Gy := Lib.hid (alloc_new' (w := ((((w).alloc (.cells (wcells n) 24)).alloc (.cells (wcells d) 24)).alloc (.cells (wcells g) 24)).alloc (.cells (wcells 0) 24)) (n := w.heap.size + 1 + 1 + 1 + 1) (.cells (wcells 0) 24) (by simp))
      replace HB := Lib.hid (below_al HB.out (.cells (wcells 0) 24))
      have cGn := cell_row Gn.out
      have cGd := cell_row Gd.out
      have cGg := cell_row Gg.out
      have cGx := cell_row Gx.out
      have cGy := cell_row Gy.out
      go_wp2_with fail
      refine (SM.out _).mono ?_
      rintro e w12 ⟨rfl, hb⟩
      clear cGn cGd cGg cGx cGy
      replace HB := Lib.hid (below_then HB.out hb)
      replace Gn := Lib.hid ((hb.block _ (lt_of_heap Gn.out)).trans Gn.out)
      replace Gd := Lib.hid ((hb.block _ (lt_of_heap Gd.out)).trans Gd.out)
      replace Gg := Lib.hid ((hb.block _ (lt_of_heap Gg.out)).trans Gg.out)
      replace Gx := Lib.hid ((hb.block _ (lt_of_heap Gx.out)).trans Gx.out)
      replace Gy := Lib.hid ((hb.block _ (lt_of_heap Gy.out)).trans Gy.out)
      clear hb
      have HZ := Lib.hid (lt_of_heap Gy.out)
      have cg := cell_row Gg.out
      have hz := HZ.out
      have stx := st_row (P := Tryz.prog) Gx.out rfl (0)
      replace Gy := Lib.hid ((setRow_other (w12) (w.heap.size + 1 + 1 + 1) _ (wcells (0)) (by (omega))).trans Gy.out)
      replace Gx := Lib.hid (setRow_heap (w12) (w.heap.size + 1 + 1 + 1) _ (wcells (0)) _ _ Gx.out)
      replace HB := Lib.hid (below_setRow' HB.out (show _ ≤ w.heap.size + 1 + 1 + 1 by (omega)) (wcells (0)))
      have q1 := stx
      clear stx
      have sty := st_row (P := Tryz.prog) Gy.out rfl (0)
      replace Gx := Lib.hid ((setRow_other ((w12).setRow (w.heap.size + 1 + 1 + 1) (wcells (0))) (w.heap.size + 1 + 1 + 1 + 1) _ (wcells (0)) (by (omega))).trans Gx.out)
      replace Gy := Lib.hid (setRow_heap ((w12).setRow (w.heap.size + 1 + 1 + 1) (wcells (0))) (w.heap.size + 1 + 1 + 1 + 1) _ (wcells (0)) _ _ Gy.out)
      replace HB := Lib.hid (below_setRow' HB.out (show _ ≤ w.heap.size + 1 + 1 + 1 + 1 by (omega)) (wcells (0)))
      have cGx := cell_row Gx.out
      have cGy := cell_row Gy.out
      go_wp2
      exact bodyPost_ret (v := .tuple #[wv 0, wv 0, .int .i64 0, .int .i64 1]) (res_cctt Tryz.results68 _ _ _ _ _ _ _ _ _ _ _ _ rfl rfl rfl rfl Gx.out Gy.out aggW aggW) rfl ⟨rfl, HB.out⟩
  · rw [if_neg hm] at hF
    have hm0 : ¬ m < 0 := by omega
    have hm1 : ¬ 100 < m := by omega
    clear hm
    by_cases h0 : E = 0
    · by_cases h1 : 200 < l
      · rw [if_pos ⟨h0, h1⟩] at hF
        subst hF h0
        have h1' : (200 : Int) < (l : Int) := by omega
        clear h1
        go_enter Tryz.func68, Tryz.ntmps68
        have HB := Lib.hid (Below.refl w.heap.size w)
        have Gn := Lib.hid (alloc_new (w) (.cells (wcells n) 24))
        replace HB := Lib.hid (below_al HB.out (.cells (wcells n) 24))
        replace Gn := Lib.hid (keepAl (o' := .cells (wcells d) 24) Gn.out)
        have Gd := Lib.hid (alloc_new' (w := (w).alloc (.cells (wcells n) 24)) (n := w.heap.size + 1) (.cells (wcells d) 24) (by simp))
        replace HB := Lib.hid (below_al HB.out (.cells (wcells d) 24))
        replace Gn := Lib.hid (keepAl (o' := .cells (wcells g) 24) Gn.out)
        replace Gd := Lib.hid (keepAl (o' := .cells (wcells g) 24) Gd.out)
        have Gg := Lib.hid (alloc_new' (w := ((w).alloc (.cells (wcells n) 24)).alloc (.cells (wcells d) 24)) (n := w.heap.size + 1 + 1) (.cells (wcells g) 24) (by simp))
        replace HB := Lib.hid (below_al HB.out (.cells (wcells g) 24))
        replace Gn := Lib.hid (keepAl (o' := .cells (wcells 0) 24) Gn.out)
        replace Gd := Lib.hid (keepAl (o' := .cells (wcells 0) 24) Gd.out)
        replace Gg := Lib.hid (keepAl (o' := .cells (wcells 0) 24) Gg.out)
        have Gx := Lib.hid (alloc_new' (w := (((w).alloc (.cells (wcells n) 24)).alloc (.cells (wcells d) 24)).alloc (.cells (wcells g) 24)) (n := w.heap.size + 1 + 1 + 1) (.cells (wcells 0) 24) (by simp))
        replace HB := Lib.hid (below_al HB.out (.cells (wcells 0) 24))
        replace Gn := Lib.hid (keepAl (o' := .cells (wcells 0) 24) Gn.out)
        replace Gd := Lib.hid (keepAl (o' := .cells (wcells 0) 24) Gd.out)
        replace Gg := Lib.hid (keepAl (o' := .cells (wcells 0) 24) Gg.out)
        replace Gx := Lib.hid (keepAl (o' := .cells (wcells 0) 24) Gx.out)
        have Gy := Lib.hid (alloc_new' (w := ((((w).alloc (.cells (wcells n) 24)).alloc (.cells (wcells d) 24)).alloc (.cells (wcells g) 24)).alloc (.cells (wcells 0) 24)) (n := w.heap.size + 1 + 1 + 1 + 1) (.cells (wcells 0) 24) (by simp))
        replace HB := Lib.hid (below_al HB.out (.cells (wcells 0) 24))
        have cGn := cell_row Gn.out
        have cGd := cell_row Gd.out
        have cGg := cell_row Gg.out
        have cGx := cell_row Gx.out
        have cGy := cell_row Gy.out
        go_wp2_with fail
        refine (SM.out _).mono ?_
        rintro e w13 ⟨rfl, hb⟩
        clear cGn cGd cGg cGx cGy
        replace HB := Lib.hid (below_then HB.out hb)
        replace Gn := Lib.hid ((hb.block _ (lt_of_heap Gn.out)).trans Gn.out)
        replace Gd := Lib.hid ((hb.block _ (lt_of_heap Gd.out)).trans Gd.out)
        replace Gg := Lib.hid ((hb.block _ (lt_of_heap Gg.out)).trans Gg.out)
        replace Gx := Lib.hid ((hb.block _ (lt_of_heap Gx.out)).trans Gx.out)
        replace Gy := Lib.hid ((hb.block _ (lt_of_heap Gy.out)).trans Gy.out)
        clear hb
        have cGn := cell_row Gn.out
        have cGd := cell_row Gd.out
        have cGg := cell_row Gg.out
        have cGx := cell_row Gx.out
        have cGy := cell_row Gy.out
        go_wp2_with fail
        refine (SL.out _).mono ?_
        rintro e w14 ⟨rfl, hb⟩
        clear cGn cGd cGg cGx cGy
        replace HB := Lib.hid (below_then HB.out hb)
        replace Gn := Lib.hid ((hb.block _ (lt_of_heap Gn.out)).trans Gn.out)
        replace Gd := Lib.hid ((hb.block _ (lt_of_heap Gd.out)).trans Gd.out)
        replace Gg := Lib.hid ((hb.block _ (lt_of_heap Gg.out)).trans Gg.out)
        replace Gx := Lib.hid ((hb.block _ (lt_of_heap Gx.out)).trans Gx.out)
        replace Gy := Lib.hid ((hb.block _ (lt_of_heap Gy.out)).trans Gy.out)
        clear hb
        have HZ := Lib.hid (lt_of_heap Gy.out)
        have cg := cell_row Gg.out
        have hz := HZ.out
        have stx := st_row (P := Tryz.prog) Gx.out rfl (0)
        replace Gy := Lib.hid ((setRow_other (w14) (w.heap.size + 1 + 1 + 1) _ (wcells (0)) (by (omega))).trans Gy.out)
        replace Gx := Lib.hid (setRow_heap (w14) (w.heap.size + 1 + 1 + 1) _ (wcells (0)) _ _ Gx.out)
        replace HB := Lib.hid (below_setRow' HB.out (show _ ≤ w.heap.size + 1 + 1 + 1 by (omega)) (wcells (0)))
        have q1 := stx
        clear stx
        have sty := st_row (P := Tryz.prog) Gy.out rfl (0)
        replace Gx := Lib.hid ((setRow_other ((w14).setRow (w.heap.size + 1 + 1 + 1) (wcells (0))) (w.heap.size + 1 + 1 + 1 + 1) _ (wcells (0)) (by (omega))).trans Gx.out)
        replace Gy := Lib.hid (setRow_heap ((w14).setRow (w.heap.size + 1 + 1 + 1) (wcells (0))) (w.heap.size + 1 + 1 + 1 + 1) _ (wcells (0)) _ _ Gy.out)
        replace HB := Lib.hid (below_setRow' HB.out (show _ ≤ w.heap.size + 1 + 1 + 1 + 1 by (omega)) (wcells (0)))
        have cGx := cell_row Gx.out
        have cGy := cell_row Gy.out
        go_wp2
        exact bodyPost_ret (v := .tuple #[wv 0, wv 0, .int .i64 0, .int .i64 4]) (res_cctt Tryz.results68 _ _ _ _ _ _ _ _ _ _ _ _ rfl rfl rfl rfl Gx.out Gy.out aggW aggW) rfl ⟨rfl, HB.out⟩
      · rw [if_neg (fun h => h1 h.2)] at hF
        exact absurd (hF.trans h0) hE
    · rw [if_neg (fun h => h0 h.1)] at hF
      subst hF
      clear SL
      have hb : (F == 0) = false := by simp [h0]
      have hb2 : (F != 0) = true := by simp [h0]
      go_enter Tryz.func68, Tryz.ntmps68
      have HB := Lib.hid (Below.refl w.heap.size w)
      have Gn := Lib.hid (alloc_new (w) (.cells (wcells n) 24))
      replace HB := Lib.hid (below_al HB.out (.cells (wcells n) 24))
      replace Gn := Lib.hid (keepAl (o' := .cells (wcells d) 24) Gn.out)
      have Gd := Lib.hid (alloc_new' (w := (w).alloc (.cells (wcells n) 24)) (n := w.heap.size + 1) (.cells (wcells d) 24) (by simp))
      replace HB := Lib.hid (below_al HB.out (.cells (wcells d) 24))
      replace Gn := Lib.hid (keepAl (o' := .cells (wcells g) 24) Gn.out)
      replace Gd := Lib.hid (keepAl (o' := .cells (wcells g) 24) Gd.out)
      have Gg := Lib.hid (alloc_new' (w := ((w).alloc (.cells (wcells n) 24)).alloc (.cells (wcells d) 24)) (n := w.heap.size + 1 + 1) (.cells (wcells g) 24) (by simp))
      replace HB := Lib.hid (below_al HB.out (.cells (wcells g) 24))
      replace Gn := Lib.hid (keepAl (o' := .cells (wcells 0) 24) Gn.out)
      replace Gd := Lib.hid (keepAl (o' := .cells (wcells 0) 24) Gd.out)
      replace Gg := Lib.hid (keepAl (o' := .cells (wcells 0) 24) Gg.out)
      have Gx := Lib.hid (alloc_new' (w := (((w).alloc (.cells (wcells n) 24)).alloc (.cells (wcells d) 24)).alloc (.cells (wcells g) 24)) (n := w.heap.size + 1 + 1 + 1) (.cells (wcells 0) 24) (by simp))
      replace HB := Lib.hid (below_al HB.out (.cells (wcells 0) 24))
      replace Gn := Lib.hid (keepAl (o' := .cells (wcells 0) 24) Gn.out)
      replace Gd := Lib.hid (keepAl (o' := .cells (wcells 0) 24) Gd.out)
      replace Gg := Lib.hid (keepAl (o' := .cells (wcells 0) 24) Gg.out)
      replace Gx := Lib.hid (keepAl (o' := .cells (wcells 0) 24) Gx.out)
      have Gy := Lib.hid (alloc_new' (w := ((((w).alloc (.cells (wcells n) 24)).alloc (.cells (wcells d) 24)).alloc (.cells (wcells g) 24)).alloc (.cells (wcells 0) 24)) (n := w.heap.size + 1 + 1 + 1 + 1) (.cells (wcells 0) 24) (by simp))
      replace HB := Lib.hid (below_al HB.out (.cells (wcells 0) 24))
      have cGn := cell_row Gn.out
      have cGd := cell_row Gd.out
      have cGg := cell_row Gg.out
      have cGx := cell_row Gx.out
      have cGy := cell_row Gy.out
      go_wp2_with fail
      refine (SM.out _).mono ?_
      rintro e w15 ⟨rfl, hb⟩
      clear cGn cGd cGg cGx cGy
      replace HB := Lib.hid (below_then HB.out hb)
      replace Gn := Lib.hid ((hb.block _ (lt_of_heap Gn.out)).trans Gn.out)
      replace Gd := Lib.hid ((hb.block _ (lt_of_heap Gd.out)).trans Gd.out)
      replace Gg := Lib.hid ((hb.block _ (lt_of_heap Gg.out)).trans Gg.out)
      replace Gx := Lib.hid ((hb.block _ (lt_of_heap Gx.out)).trans Gx.out)
      replace Gy := Lib.hid ((hb.block _ (lt_of_heap Gy.out)).trans Gy.out)
      clear hb
      have HZ := Lib.hid (lt_of_heap Gy.out)
      have cg := cell_row Gg.out
      have hz := HZ.out
      have stx := st_row (P := Tryz.prog) Gx.out rfl (0)
      replace Gy := Lib.hid ((setRow_other (w15) (w.heap.size + 1 + 1 + 1) _ (wcells (0)) (by (omega))).trans Gy.out)
      replace Gx := Lib.hid (setRow_heap (w15) (w.heap.size + 1 + 1 + 1) _ (wcells (0)) _ _ Gx.out)
      replace HB := Lib.hid (below_setRow' HB.out (show _ ≤ w.heap.size + 1 + 1 + 1 by (omega)) (wcells (0)))
      have q1 := stx
      clear stx
      have sty := st_row (P := Tryz.prog) Gy.out rfl (0)
      replace Gx := Lib.hid ((setRow_other ((w15).setRow (w.heap.size + 1 + 1 + 1) (wcells (0))) (w.heap.size + 1 + 1 + 1 + 1) _ (wcells (0)) (by (omega))).trans Gx.out)
      replace Gy := Lib.hid (setRow_heap ((w15).setRow (w.heap.size + 1 + 1 + 1) (wcells (0))) (w.heap.size + 1 + 1 + 1 + 1) _ (wcells (0)) _ _ Gy.out)
      replace HB := Lib.hid (below_setRow' HB.out (show _ ≤ w.heap.size + 1 + 1 + 1 + 1 by (omega)) (wcells (0)))
      have cGx := cell_row Gx.out
      have cGy := cell_row Gy.out
      go_wp2
      exact bodyPost_ret (v := .tuple #[wv 0, wv 0, .int .i64 0, .int .i64 F]) (res_cctt Tryz.results68 _ _ _ _ _ _ _ _ _ _ _ _ rfl rfl rfl rfl Gx.out Gy.out aggW aggW) rfl ⟨rfl, HB.out⟩
end Go.Proofs.YtegmmaaapdgocaaGreat

/- PLAIN WORDS on a shift that is held within bounds. -/
namespace Go.Proofs.YtegmmaaapdgocaaGreat
open Go Go.RowKit

def clampS (n : Int) : Nat := if n < 0 then 0 else if 1100 < n then 1100 else n.toNat
theorem clampS_le (n : Int) : clampS n ≤ 1100 := by unfold clampS; split <;> (try split) <;> omega
theorem clampS_eq (n : Int) : min (max n 0) 1100 = (clampS n : Int) := by unfold clampS; split <;> (try split) <;> omega
theorem clampS_P (n : Int) : clampP n = min (clampS n) 1024 := by unfold clampS clampP; split <;> (try split) <;> (try split) <;> omega
theorem prod_cap {p : Nat} (hp : p < P2 1024) (c : Nat) : p / P2 (min c 1024) = p / P2 c ∧ decide (p % P2 (min c 1024) ≠ 0) = (cmpN (p / P2 c * P2 c) p != 0) := by
  have hd := Nat.div_add_mod p (P2 c)
  rw [Nat.mul_comm] at hd
  have e : p / P2 (min c 1024) = p / P2 c ∧ p % P2 (min c 1024) = p % P2 c := by
    rcases Nat.le_total c 1024 with h | h
    · rw [Nat.min_eq_left h]; exact ⟨rfl, rfl⟩
    · have hc : p < P2 c := Nat.lt_of_lt_of_le hp (P2_le h)
      rw [Nat.min_eq_right h, Nat.div_eq_of_lt hp, Nat.div_eq_of_lt hc, Nat.mod_eq_of_lt hp, Nat.mod_eq_of_lt hc]; exact ⟨rfl, rfl⟩
  refine ⟨e.1, ?_⟩
  rw [e.2]
  by_cases h : p % P2 c = 0
  · rw [cmpN_eq (by omega), h]; simp
  · rw [cmpN_lt (by omega), decide_eq_true h]; rfl

end Go.Proofs.YtegmmaaapdgocaaGreat

/- THE WALKS of package fix, going on: fractions; of the reference of fix: how far two are away; the document's example. -/
namespace Go.Proofs.YtegmmaaapdgocaaGreat
open Go Go.RowKit

attribute [local go_sem ↓] Go.wp_at_zero Go.wp_at_succ
set_option maxHeartbeats 2000000 in
theorem times_w (a b : Nat) (n : Int) (ha : a < M) (hb : b < M) (w : World) : Calls Tryz.prog 93 #[wv a, wv b, .int .i64 n] w fun e w' => e = .returned (wv (a * b / P2 (clampP n) % M)) ∧ Below w.heap.size w w' := by
  have S1 := Lib.hid (fun w' => high_w a b n ha hb w')
  obtain ⟨q, hq⟩ : ∃ q, q = a * b / P2 (clampP n) % M := ⟨_, rfl⟩
  obtain ⟨f, hf⟩ : ∃ q, q = decide (a * b % P2 (clampP n) ≠ 0) := ⟨_, rfl⟩
  rw [← hq, ← hf] at S1
  rw [← hq]
  clear ha hb hq hf
  go_enter Tryz.func93, Tryz.ntmps93
  have HB := Lib.hid (Below.refl w.heap.size w)
  have Ga := Lib.hid (alloc_new (w) (.cells (wcells a) 24))
  replace HB := Lib.hid (below_al HB.out (.cells (wcells a) 24))
  replace Ga := Lib.hid (keepAl (o' := .cells (wcells b) 24) Ga.out)
  have Gb := Lib.hid (alloc_new' (w := (w).alloc (.cells (wcells a) 24)) (n := w.heap.size + 1) (.cells (wcells b) 24) (by simp))
  replace HB := Lib.hid (below_al HB.out (.cells (wcells b) 24))
  replace Ga := Lib.hid (keepAl (o' := .cells (wcells 0) 24) Ga.out)
  replace Gb := Lib.hid (keepAl (o' := .cells (wcells 0) 24) Gb.out)
  have Go := Lib.hid (alloc_new' (w := ((w).alloc (.cells (wcells a) 24)).alloc (.cells (wcells b) 24)) (n := w.heap.size + 1 + 1) (.cells (wcells 0) 24) (by simp))
  replace HB := Lib.hid (below_al HB.out (.cells (wcells 0) 24))
  have cGa := cell_row Ga.out
  have cGb := cell_row Gb.out
  have cGo := cell_row Go.out
  go_wp2_with fail
  refine (S1.out _).mono ?_
  rintro e w1 ⟨rfl, hb⟩
  clear cGa cGb cGo
  replace HB := Lib.hid (below_then HB.out hb)
  replace Ga := Lib.hid ((hb.block _ (lt_of_heap Ga.out)).trans Ga.out)
  replace Gb := Lib.hid ((hb.block _ (lt_of_heap Gb.out)).trans Gb.out)
  replace Go := Lib.hid ((hb.block _ (lt_of_heap Go.out)).trans Go.out)
  clear hb
  have HZ := Lib.hid (lt_of_heap Go.out)
  replace Go := Lib.hid (keepAl (o' := .cells (wcells q) 24) Go.out)
  have Gp := Lib.hid (alloc_new (w1) (.cells (wcells q) 24))
  replace HB := Lib.hid (below_al HB.out (.cells (wcells q) 24))
  have cp := cell_row Gp.out
  have sto := st_row (P := Tryz.prog) Go.out rfl (q)
  replace Go := Lib.hid (setRow_heap ((w1).alloc (.cells (wcells q) 24)) (w.heap.size + 1 + 1) _ (wcells (q)) _ _ Go.out)
  replace HB := Lib.hid (below_setRow' HB.out (show _ ≤ w.heap.size + 1 + 1 by (omega)) (wcells (q)))
  have cGo := cell_row Go.out
  go_wp2
  exact bodyPost_ret (v := wv q) (res_c Tryz.results93 _ _ _ _ _ _ rfl Go.out aggW) rfl ⟨rfl, HB.out⟩

/-- 2 without a fraction. -/
def twoN (p : Int) (a : Nat) : Nat := if p < -1 ∨ 510 < p then negN a else subN (P2 (p + 1).toNat) a
set_option maxRecDepth 100000 in
set_option maxHeartbeats 2000000 in
theorem two_w (p : Int) (a : Nat) (ha : a < M) (w : World) : Calls Tryz.prog 109 #[.int .i64 p, wv a] w fun e w' => e = .returned (wv (twoN p a)) ∧ Below w.heap.size w w' := by
  by_cases hp : p < -1 ∨ 510 < p
  · have SN := Lib.hid (fun w' => neg_w a ha w')
    unfold twoN
    rw [if_pos hp]
    obtain ⟨y, hy⟩ : ∃ y, y = negN a := ⟨_, rfl⟩
    rw [← hy] at SN ⊢
    clear ha hy
    rcases hp with hp | hp
    · skip
      go_enter Tryz.func109, Tryz.ntmps109
      have HB := Lib.hid (Below.refl w.heap.size w)
      have Ga := Lib.hid (alloc_new (w) (.cells (wcells a) 24))
      replace HB := Lib.hid (below_al HB.out (.cells (wcells a) 24))
      replace Ga := Lib.hid (keepAl (o' := .cells (wcells 0) 24) Ga.out)
      have Go := Lib.hid (alloc_new' (w := (w).alloc (.cells (wcells a) 24)) (n := w.heap.size + 1) (.cells (wcells 0) 24) (by simp))
      replace HB := Lib.hid (below_al HB.out (.cells (wcells 0) 24))
      have cGa := cell_row Ga.out
      have cGo := cell_row Go.out
      go_wp2_with fail
      refine (SN.out _).mono ?_
      rintro e w2 ⟨rfl, hb⟩
      clear cGa cGo
      replace HB := Lib.hid (below_then HB.out hb)
      replace Ga := Lib.hid ((hb.block _ (lt_of_heap Ga.out)).trans Ga.out)
      replace Go := Lib.hid ((hb.block _ (lt_of_heap Go.out)).trans Go.out)
      clear hb
      have sto := st_row (P := Tryz.prog) Go.out rfl (y)
      replace Go := Lib.hid (setRow_heap (w2) (w.heap.size + 1) _ (wcells (y)) _ _ Go.out)
      replace HB := Lib.hid (below_setRow' HB.out (show _ ≤ w.heap.size + 1 by (omega)) (wcells (y)))
      have cGo := cell_row Go.out
      go_wp2
      exact bodyPost_ret (v := wv y) (res_c Tryz.results109 _ _ _ _ _ _ rfl Go.out aggW) rfl ⟨rfl, HB.out⟩
    · have hp0 : ¬ p < -1 := by omega
      go_enter Tryz.func109, Tryz.ntmps109
      have HB := Lib.hid (Below.refl w.heap.size w)
      have Ga := Lib.hid (alloc_new (w) (.cells (wcells a) 24))
      replace HB := Lib.hid (below_al HB.out (.cells (wcells a) 24))
      replace Ga := Lib.hid (keepAl (o' := .cells (wcells 0) 24) Ga.out)
      have Go := Lib.hid (alloc_new' (w := (w).alloc (.cells (wcells a) 24)) (n := w.heap.size + 1) (.cells (wcells 0) 24) (by simp))
      replace HB := Lib.hid (below_al HB.out (.cells (wcells 0) 24))
      have cGa := cell_row Ga.out
      have cGo := cell_row Go.out
      go_wp2_with fail
      refine (SN.out _).mono ?_
      rintro e w3 ⟨rfl, hb⟩
      clear cGa cGo
      replace HB := Lib.hid (below_then HB.out hb)
      replace Ga := Lib.hid ((hb.block _ (lt_of_heap Ga.out)).trans Ga.out)
      replace Go := Lib.hid ((hb.block _ (lt_of_heap Go.out)).trans Go.out)
      clear hb
      have sto := st_row (P := Tryz.prog) Go.out rfl (y)
      replace Go := Lib.hid (setRow_heap (w3) (w.heap.size + 1) _ (wcells (y)) _ _ Go.out)
      replace HB := Lib.hid (below_setRow' HB.out (show _ ≤ w.heap.size + 1 by (omega)) (wcells (y)))
      have cGo := cell_row Go.out
      go_wp2
      exact bodyPost_ret (v := wv y) (res_c Tryz.results109 _ _ _ _ _ _ rfl Go.out aggW) rfl ⟨rfl, HB.out⟩
  · unfold twoN
    rw [if_neg hp]
    have hp0 : ¬ p < -1 := by omega
    have hp1 : ¬ 510 < p := by omega
    obtain ⟨k, hk⟩ : ∃ k : Nat, k = (p + 1).toNat := ⟨_, rfl⟩
    have hke : p + 1 = (k : Int) := by omega
    rw [← hk]
    have hkM : P2 k < M := by rw [M_eq]; exact P2_lt (by omega)
    have SP : Hid (∀ w' : World, Calls Tryz.prog 130 #[.int .i64 (p + 1)] w' fun e w'' => e = .returned (wv (P2 k)) ∧ Below w'.heap.size w' w'') := Lib.hid fun w' => by
      have := power_w (p + 1) w' (by omega) (by omega)
      rw [show powerN (p + 1) = P2 k by unfold powerN; rw [if_pos (by omega), ← hk]] at this
      exact this
    have SW := Lib.hid (fun w' => without_w (P2 k) a hkM ha w')
    obtain ⟨X, hX⟩ : ∃ X, X = P2 k := ⟨_, rfl⟩
    obtain ⟨y, hy⟩ : ∃ y, y = subN X a := ⟨_, rfl⟩
    rw [← hX] at SP SW ⊢
    rw [← hy] at SW ⊢
    have hw : IntKind.i64.wrap (p + 1) = p + 1 := IntWalk.i64_in _ (by omega)
    clear hp ha hk hke hkM hX hy
    go_enter Tryz.func109, Tryz.ntmps109
    have HB := Lib.hid (Below.refl w.heap.size w)
    have Ga := Lib.hid (alloc_new (w) (.cells (wcells a) 24))
    replace HB := Lib.hid (below_al HB.out (.cells (wcells a) 24))
    replace Ga := Lib.hid (keepAl (o' := .cells (wcells 0) 24) Ga.out)
    have Go := Lib.hid (alloc_new' (w := (w).alloc (.cells (wcells a) 24)) (n := w.heap.size + 1) (.cells (wcells 0) 24) (by simp))
    replace HB := Lib.hid (below_al HB.out (.cells (wcells 0) 24))
    go_upto_region 3 with fail
    obtain ⟨wL, hw⟩ : ∃ wx, wx = ((w).alloc (.cells (wcells a) 24)).alloc (.cells (wcells 0) 24) := ⟨_, rfl⟩
    rw [← hw] at Ga Go HB ⊢
    clear hw
    refine wp_region_store [⟨w.heap.size + 1, 24, .tmp 17⟩] (by kernel_rfl) (by kernel_rfl) (by kernel_rfl) rfl (List.pairwise_singleton _ _) ?_ ?_
    · intro r hr
      simp only [List.mem_cons, List.not_mem_nil, or_false] at hr
      subst hr
      exact ⟨_, Go.out, by kernel_rfl⟩
    have xGa := extR_row (B := wL.heap.size) (R := [⟨w.heap.size + 1, 24, .tmp 17⟩]) Ga.out (lt_of_heap Ga.out) (by intro r hr; simp only [List.mem_cons, List.not_mem_nil, or_false] at hr; subst hr <;> dsimp only <;> (omega))
    repeat (refine wpCalm_step (fun K hK => ?_); go_simp; first | (refine hK _ ?_; clear hK K) | (apply Exists.intro; refine ⟨fun _ => ?_, hK _ ?_⟩; (first | with_reducible exact SP.out _ | with_reducible exact SW.out _ | exact SP.out _ | exact SW.out _); clear hK K))
    refine wpCalm_nil ⟨?_, fun x hx => ?_⟩
    · intro r hr
      simp only [List.mem_cons, List.not_mem_nil, or_false] at hr
      subst hr <;> exact fits_wv (by kernel_rfl) _
    replace Go : Hid (x.val.heap[w.heap.size + 1]? = some (.cells (wcells (y)) 24 (0, 0))) := Lib.hid (hx ⟨w.heap.size + 1, 24, .tmp 17⟩ (by simp))
    replace Ga := Lib.hid (extR_block x Ga.out (lt_of_heap Ga.out) (by intro r hr; simp only [List.mem_cons, List.not_mem_nil, or_false] at hr; subst hr <;> dsimp only <;> (omega)))
    replace HB := Lib.hid (extR_below x HB.out HB.out.size (by intro r hr; simp only [List.mem_cons, List.not_mem_nil, or_false] at hr; subst hr <;> dsimp only <;> (omega)))
    clear hx xGa
    obtain ⟨w4, hw⟩ : ∃ wx, wx = x.val := ⟨_, rfl⟩
    rw [← hw] at Ga Go HB ⊢
    clear hw x
    have cGa := cell_row Ga.out
    have cGo := cell_row Go.out
    go_wp2
    exact bodyPost_ret (v := wv y) (res_c Tryz.results109 _ _ _ _ _ _ rfl Go.out aggW) rfl ⟨rfl, HB.out⟩

theorem cmp_le (a b : Nat) : decide (cmpN a b ≤ 0) = decide (a ≤ b) := by
  unfold cmpN
  by_cases h1 : a < b
  · rw [if_pos h1, decide_eq_true (by omega), decide_eq_true (by omega)]
  · rw [if_neg h1]
    by_cases h2 : b < a
    · rw [if_pos h2, decide_eq_false (by omega), decide_eq_false (by omega)]
    · rw [if_neg h2, decide_eq_true (by omega), decide_eq_true (by omega)]
theorem sub_plain {a b : Nat} (h : b ≤ a) (ha : a < M) : subN a b = a - b := by
  unfold subN
  rw [show a + M - b = (a - b) + M by omega, Nat.add_mod_right, Nat.mod_eq_of_lt (by omega)]
/-- Are two near each other? -/
def nearB (a b : Nat) (m : Int) : Bool := decide (0 ≤ m) && decide ((((a - b) + (b - a) : Nat) : Int) ≤ m)
set_option maxHeartbeats 1000000 in
theorem raway_any (va vb : Value) (a b : Nat) (w : World) (ha : a < BIG) (hb : b < BIG) (h1 : IsBig w va a) (h2 : IsBig w vb b) :
    Calls Tryz.prog 36 #[va, vb] w (GivesBig ((a - b) + (b - a)) w) := by
  have SC := Lib.hid (fun w' h h' => cmp_any va vb a b w' ha hb h h')
  have RA := Lib.hid h1; have RB := Lib.hid h2
  by_cases hlt : a < b
  · rw [show cmpN a b = -1 by unfold cmpN; rw [if_pos hlt]] at SC
    rw [show a - b + (b - a) = b - a by omega]
    have SS : Hid (∀ w' : World, IsBig w' vb b → IsBig w' va a → Calls Tryz.prog 74 #[vb, va] w' (GivesBig (b - a) w')) := Lib.hid fun w' h h' => sub_any vb va a (b - a) w' (by rw [Nat.add_sub_cancel' (by omega)]; exact hb) (by rw [Nat.add_sub_cancel' (by omega)]; exact h) h'
    clear ha hb h1 h2 hlt
    go_enter Tryz.func36, Tryz.ntmps36
    have HB := Lib.hid (Below.refl w.heap.size w)
    go_wp2_with fail
    refine (SC.out _ RA.out RB.out).mono ?_
    rintro e w13 ⟨rfl, hb⟩
    replace HB := Lib.hid (below_then HB.out hb)
    replace RA := Lib.hid (RA.out.below hb)
    replace RB := Lib.hid (RB.out.below hb)
    clear hb
    go_wp2_with fail
    refine (SS.out _ RB.out RA.out).mono ?_
    rintro e w14 ⟨rs, rfl, hr, hb⟩
    replace HB := Lib.hid (below_then HB.out hb)
    replace RA := Lib.hid (RA.out.below hb)
    replace RB := Lib.hid (RB.out.below hb)
    have Rs := Lib.hid hr
    clear hr hb
    go_wp2
    go_ret
    exact ⟨_, rfl, Rs.out, HB.out⟩
  · have hc0 : ¬ cmpN a b < 0 := by unfold cmpN; rw [if_neg hlt]; split <;> omega
    obtain ⟨c0, hc0e⟩ : ∃ c, c = cmpN a b := ⟨_, rfl⟩
    rw [← hc0e] at SC hc0
    rw [show a - b + (b - a) = a - b by omega]
    have SS : Hid (∀ w' : World, IsBig w' va a → IsBig w' vb b → Calls Tryz.prog 74 #[va, vb] w' (GivesBig (a - b) w')) := Lib.hid fun w' h h' => sub_any va vb b (a - b) w' (by rw [Nat.add_sub_cancel' (by omega)]; exact ha) (by rw [Nat.add_sub_cancel' (by omega)]; exact h) h'
    clear hc0e
    clear ha hb h1 h2 hlt
    go_enter Tryz.func36, Tryz.ntmps36
    have HB := Lib.hid (Below.refl w.heap.size w)
    go_wp2_with fail
    refine (SC.out _ RA.out RB.out).mono ?_
    rintro e w15 ⟨rfl, hb⟩
    replace HB := Lib.hid (below_then HB.out hb)
    replace RA := Lib.hid (RA.out.below hb)
    replace RB := Lib.hid (RB.out.below hb)
    clear hb
    go_wp2_with fail
    refine (SS.out _ RA.out RB.out).mono ?_
    rintro e w16 ⟨rs, rfl, hr, hb⟩
    replace HB := Lib.hid (below_then HB.out hb)
    replace RA := Lib.hid (RA.out.below hb)
    replace RB := Lib.hid (RB.out.below hb)
    have Rs := Lib.hid hr
    clear hr hb
    go_wp2
    go_ret
    exact ⟨_, rfl, Rs.out, HB.out⟩

/-- Is a number at most that many? -/
def withinB (a : Nat) (m : Int) : Bool := decide (0 ≤ m) && decide ((a : Int) ≤ m)
set_option maxHeartbeats 1000000 in
theorem rwithin_any (va : Value) (a : Nat) (m : Int) (w : World) (ha : a < BIG) (hm : m ≤ 9223372036854775807) (h1 : IsBig w va a) :
    Calls Tryz.prog 35 #[va, .int .i64 m] w fun e w' => e = .returned (.bool (withinB a m)) ∧ Below w.heap.size w w' := by
  by_cases h0 : m < 0
  · have HN : Hid (false = withinB a m) := Lib.hid (by unfold withinB; rw [decide_eq_false (by omega)]; rfl)
    have h0' : ¬ 0 ≤ m := by omega
    clear ha hm h1 h0
    go_enter Tryz.func35, Tryz.ntmps35
    have HB := Lib.hid (Below.refl w.heap.size w)
    go_wp2
    go_ret
    exact ⟨ret_bool HN.out, HB.out⟩
  · obtain ⟨k, rfl⟩ := Int.eq_ofNat_of_zero_le (show 0 ≤ m by omega)
    have hkl : k ≤ 18446744073709551615 := by omega
    have hkB : k < BIG := small_M (lit_ltM _ hkl)
    have SS := Lib.hid (fun w' => small_any k w' hkl)
    have SC := Lib.hid (fun v w' h h' => cmp_any va v a k w' ha hkB h h')
    have HC : Hid (decide (cmpN a k ≤ 0) = withinB a (k : Int)) := Lib.hid (by
      rw [cmp_le]
      unfold withinB
      rw [decide_eq_true (show (0 : Int) ≤ (k : Int) by omega), Bool.true_and, decide_eq_decide]
      omega)
    obtain ⟨c, hc⟩ : ∃ c, c = cmpN a k := ⟨_, rfl⟩
    rw [← hc] at SC HC
    have hw : IntKind.u64.wrap (k : Int) = (k : Int) := by rw [u64wrap]; omega
    have h0' : (0 : Int) ≤ (k : Int) := by omega
    have RA := Lib.hid h1
    clear ha hm h1 h0 hkl hkB hc
    go_enter Tryz.func35, Tryz.ntmps35
    have HB := Lib.hid (Below.refl w.heap.size w)
    go_wp2_with fail
    refine (SS.out _).mono ?_
    rintro e w17 ⟨rs, rfl, hr, hb⟩
    replace HB := Lib.hid (below_then HB.out hb)
    replace RA := Lib.hid (RA.out.below hb)
    have Rs := Lib.hid hr
    clear hr hb
    go_wp2_with fail
    refine (SC.out _ _ RA.out Rs.out).mono ?_
    rintro e w18 ⟨rfl, hb⟩
    replace HB := Lib.hid (below_then HB.out hb)
    replace RA := Lib.hid (RA.out.below hb)
    replace Rs := Lib.hid (Rs.out.below hb)
    clear hb
    go_wp2
    go_ret
    exact ⟨ret_bool HC.out, HB.out⟩

theorem may_100_7 : mayN 100 7 = 0 := may_yes (by decide) (Nat.lt_of_lt_of_le (show 7 < P2 64 by rw [P2_64]; decide) (P2_le (by omega))) (by
    have : P2 64 ≤ P2 128 := P2_le (by omega)
    rw [P2_64] at this
    omega)
end Go.Proofs.YtegmmaaapdgocaaGreat
