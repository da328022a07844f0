/- SEVERAL TEXTS of the seat, one behind the other: each says at its head what it proves. -/
import Derived.Test.YtffengboblekpaaK19
import Derived.Test.YtffengboblekpaaK17
import Derived.Test.YtffengboblekpaaProd4
import Derived.Test.YtffengboblekpaaR2c
import Derived.Test.YtffengboblekpaaK16
import Derived.Test.YtffengboblekpaaK6
import Derived.WalkMore
/- THE WALKS of package srtroot: a small number, a few times a number, a step further, the beginning, a number shifted up. -/
namespace Go.Proofs.Ytffengboblekpaa
open Go Go.RowKit

theorem aggFar : Agg Try.prog 65 16 := ⟨_, Try.underlying65, rfl, by kernel_rfl⟩
attribute [local go_sem ↓] Go.wp_at_zero Go.wp_at_succ
theorem smallS_w (a : Nat) (w : World) : Calls Try.prog 84 #[wv a] w fun e w' => e = .returned (.int .i64 (IntKind.i64.wrap ((limb a 0 : Nat) : Int))) ∧ Below w.heap.size w w' := by
  obtain ⟨y, hy⟩ : ∃ y, y = IntKind.i64.wrap ((limb a 0 : Nat) : Int) := ⟨_, rfl⟩
  rw [← hy]
  have hy2 := hy.symm
  clear hy
  go_enter Try.func84, Try.ntmps84
  have HB := Lib.hid (Below.refl w.heap.size w)
  have Ga := Lib.hid (alloc_new (w) (.cells (wcells a) 24))
  replace HB := Lib.hid (below_al HB.out (.cells (wcells a) 24))
  have cGa := cell_row Ga.out
  go_wp2
  go_ret
  exact ⟨rfl, HB.out⟩

set_option maxHeartbeats 1000000 in
theorem timesS_w (x n : Int) (h1 : -1000 ≤ n) (h2 : n ≤ 1000) (w : World) : Calls Try.prog 123 #[wv (toW x), .int .i64 n] w fun e w' => e = .returned (wv (toW (x * n))) ∧ Below w.heap.size w w' := by
  obtain ⟨k, hk⟩ := Int.eq_ofNat_of_zero_le (show 0 ≤ max n (-n) by omega)
  have S1 := Lib.hid (fun w' => smallP_w (toW x) k (toW_lt x) (by omega) w')
  rw [mul_toW] at S1
  have S2 := Lib.hid (fun w' => neg_w (toW (x * (k : Int))) (toW_lt _) w')
  rw [neg_toW] at S2
  have hw1 : IntKind.i64.wrap (-n) = -n := IntWalk.i64_in _ (by omega)
  have hw2 : IntKind.u64.wrap (k : Int) = (k : Int) := by rw [u64wrap]; omega
  obtain ⟨F, hF⟩ : ∃ F, F = decide (toW x * k < M) := ⟨_, rfl⟩
  rw [← hF] at S1
  by_cases hn : n < 0
  · have e : toW (x * n) = toW (-(x * (k : Int))) := by congr 1; rw [show n = -(k : Int) by omega, Int.mul_neg]
    rw [e]
    obtain ⟨A, hA⟩ : ∃ A, A = toW x := ⟨_, rfl⟩
    obtain ⟨B, hB⟩ : ∃ A, A = toW (x * (k : Int)) := ⟨_, rfl⟩
    obtain ⟨C, hC⟩ : ∃ A, A = toW (-(x * (k : Int))) := ⟨_, rfl⟩
    rw [← hA, ← hB] at S1
    rw [← hB, ← hC] at S2
    rw [← hA, ← hC]
    clear h1 h2 hF e hA hB hC
    go_enter Try.func123, Try.ntmps123
    have HB := Lib.hid (Below.refl w.heap.size w)
    have Ga := Lib.hid (alloc_new (w) (.cells (wcells A) 24))
    replace HB := Lib.hid (below_al HB.out (.cells (wcells A) 24))
    replace Ga := Lib.hid (keepAl (o' := .cells (wcells 0) 24) Ga.out)
    have Go := Lib.hid (alloc_new' (w := (w).alloc (.cells (wcells A) 24)) (n := w.heap.size + 1) (.cells (wcells 0) 24) (by simp))
    replace HB := Lib.hid (below_al HB.out (.cells (wcells 0) 24))
    have cGa := cell_row Ga.out
    have cGo := cell_row Go.out
    go_wp2_with fail
    refine (S1.out _).mono ?_
    rintro e w1 ⟨rfl, hb⟩
    clear cGa cGo
    replace HB := Lib.hid (below_then HB.out hb)
    replace Ga := Lib.hid ((hb.block _ (lt_of_heap Ga.out)).trans Ga.out)
    replace Go := Lib.hid ((hb.block _ (lt_of_heap Go.out)).trans Go.out)
    clear hb
    have HZ := Lib.hid (lt_of_heap Go.out)
    replace Ga := Lib.hid (keepAl (o' := .cells (wcells B) 24) Ga.out)
    replace Go := Lib.hid (keepAl (o' := .cells (wcells B) 24) Go.out)
    have Gb := Lib.hid (alloc_new (w1) (.cells (wcells B) 24))
    replace HB := Lib.hid (below_al HB.out (.cells (wcells B) 24))
    have cGa := cell_row Ga.out
    have cGo := cell_row Go.out
    have cGb := cell_row Gb.out
    go_wp2_with fail
    refine (S2.out _).mono ?_
    rintro e w2 ⟨rfl, hb⟩
    clear cGa cGo cGb
    replace HB := Lib.hid (below_then HB.out hb)
    replace Ga := Lib.hid ((hb.block _ (lt_of_heap Ga.out)).trans Ga.out)
    replace Go := Lib.hid ((hb.block _ (lt_of_heap Go.out)).trans Go.out)
    replace Gb := Lib.hid ((hb.block _ (lt_of_heap Gb.out)).trans Gb.out)
    clear hb
    have sto := st_row (P := Try.prog) Go.out rfl (C)
    replace Ga := Lib.hid ((setRow_other (w2) (w.heap.size + 1) _ (wcells (C)) (by (have := HZ.out; omega))).trans Ga.out)
    replace Gb := Lib.hid ((setRow_other (w2) (w.heap.size + 1) _ (wcells (C)) (by (have := HZ.out; omega))).trans Gb.out)
    replace Go := Lib.hid (setRow_heap (w2) (w.heap.size + 1) _ (wcells (C)) _ _ Go.out)
    replace HB := Lib.hid (below_setRow' HB.out (show _ ≤ w.heap.size + 1 by (have := HZ.out; omega)) (wcells (C)))
    have cGa := cell_row Ga.out
    have cGo := cell_row Go.out
    have cGb := cell_row Gb.out
    go_wp2
    exact bodyPost_ret (v := wv C) (res_c Try.results123 _ _ _ _ _ _ rfl Go.out aggW) rfl ⟨rfl, HB.out⟩
  · have e : toW (x * n) = toW (x * (k : Int)) := by congr 1; rw [show n = (k : Int) by omega]
    rw [e]
    obtain ⟨A, hA⟩ : ∃ A, A = toW x := ⟨_, rfl⟩
    obtain ⟨B, hB⟩ : ∃ A, A = toW (x * (k : Int)) := ⟨_, rfl⟩
    rw [← hA, ← hB] at S1
    rw [← hA, ← hB]
    clear h1 h2 hF e hA hB S2
    go_enter Try.func123, Try.ntmps123
    have HB := Lib.hid (Below.refl w.heap.size w)
    have Ga := Lib.hid (alloc_new (w) (.cells (wcells A) 24))
    replace HB := Lib.hid (below_al HB.out (.cells (wcells A) 24))
    replace Ga := Lib.hid (keepAl (o' := .cells (wcells 0) 24) Ga.out)
    have Go := Lib.hid (alloc_new' (w := (w).alloc (.cells (wcells A) 24)) (n := w.heap.size + 1) (.cells (wcells 0) 24) (by simp))
    replace HB := Lib.hid (below_al HB.out (.cells (wcells 0) 24))
    have cGa := cell_row Ga.out
    have cGo := cell_row Go.out
    go_wp2_with fail
    refine (S1.out _).mono ?_
    rintro e w3 ⟨rfl, hb⟩
    clear cGa cGo
    replace HB := Lib.hid (below_then HB.out hb)
    replace Ga := Lib.hid ((hb.block _ (lt_of_heap Ga.out)).trans Ga.out)
    replace Go := Lib.hid ((hb.block _ (lt_of_heap Go.out)).trans Go.out)
    clear hb
    have HZ := Lib.hid (lt_of_heap Go.out)
    replace Ga := Lib.hid (keepAl (o' := .cells (wcells B) 24) Ga.out)
    replace Go := Lib.hid (keepAl (o' := .cells (wcells B) 24) Go.out)
    have Gb := Lib.hid (alloc_new (w3) (.cells (wcells B) 24))
    replace HB := Lib.hid (below_al HB.out (.cells (wcells B) 24))
    have cb := cell_row Gb.out
    have sto := st_row (P := Try.prog) Go.out rfl (B)
    replace Ga := Lib.hid ((setRow_other ((w3).alloc (.cells (wcells B) 24)) (w.heap.size + 1) _ (wcells (B)) (by (have := HZ.out; omega))).trans Ga.out)
    replace Gb := Lib.hid ((setRow_other ((w3).alloc (.cells (wcells B) 24)) (w.heap.size + 1) _ (wcells (B)) (by (have := HZ.out; omega))).trans Gb.out)
    replace Go := Lib.hid (setRow_heap ((w3).alloc (.cells (wcells B) 24)) (w.heap.size + 1) _ (wcells (B)) _ _ Go.out)
    replace HB := Lib.hid (below_setRow' HB.out (show _ ≤ w.heap.size + 1 by (have := HZ.out; omega)) (wcells (B)))
    have cGa := cell_row Ga.out
    have cGo := cell_row Go.out
    have cGb := cell_row Gb.out
    go_wp2
    exact bodyPost_ret (v := wv B) (res_c Try.results123 _ _ _ _ _ _ rfl Go.out aggW) rfl ⟨rfl, HB.out⟩

theorem shl_toW (x : Int) (c : Nat) (hc : c ≤ 512) (w : World) : Calls Try.prog 61 #[wv (toW x), .int .i64 (c : Int)] w fun e w' => e = .returned (wv (toW (x * ((P2 c : Nat) : Int)))) ∧ Below w.heap.size w w' := by
  have := shl_any (toW x) (c : Int) w (by omega) (by omega)
  rw [clampN_at hc, mul_toW] at this
  exact this
theorem subS_w (x y : Int) : ∃ b, ∀ w : World, Calls Try.prog 46 #[wv (toW x), wv (toW y)] w fun e w' => e = .returned (.tuple #[wv (toW (x - y)), .bool b]) ∧ Below w.heap.size w w' := by
  refine ⟨decide (toW x < toW y), fun w => ?_⟩
  have := sub_w (toW x) (toW y) (toW_lt x) (toW_lt y) w
  rw [sub_toW] at this
  exact this
theorem addS_w (x y : Int) : ∃ b, ∀ w : World, Calls Try.prog 124 #[wv (toW x), wv (toW y)] w fun e w' => e = .returned (.tuple #[wv (toW (x + y)), .bool b]) ∧ Below w.heap.size w w' := by
  refine ⟨decide (M ≤ toW x + toW y), fun w => ?_⟩
  have := add_w (toW x) (toW y) (toW_lt x) (toW_lt y) w
  rw [add_toW] at this
  exact this
theorem powS_w (c : Nat) (hc : c < 512) (w : World) : Calls Try.prog 94 #[.int .i64 (c : Int)] w fun e w' => e = .returned (wv (toW ((P2 c : Nat) : Int))) ∧ Below w.heap.size w w' := by
  have := power_w (c : Int) w (by omega) (by omega)
  rw [powerN_at c hc] at this
  rw [toW_nat (by rw [M_eq]; exact P2_lt hc)]
  exact this

set_option maxRecDepth 100000 in
set_option maxHeartbeats 2000000 in
theorem nextS_w (p l d : Int) (at_ : Nat) (hat : at_ ≤ 126) (h1 : -2 ≤ d) (h2 : d ≤ 2) (w : World) :
    Calls Try.prog 86 #[.agg (fc (toW p) (toW l)), .int .i64 d, .int .i64 (at_ : Int)] w fun e w' => e = .returned (.agg (fc (toW (p + d * ((P2 at_ : Nat) : Int))) (toW (l - d * (p * ((P2 (at_ + 1) : Nat) : Int)) - d * d * ((P2 (2 * at_) : Nat) : Int))))) ∧ Below w.heap.size w w' := by
  have hdd : d * d ≤ 4 ∧ 0 ≤ d * d := by
    rcases (show d = -2 ∨ d = -1 ∨ d = 0 ∨ d = 1 ∨ d = 2 by omega) with rfl | rfl | rfl | rfl | rfl <;> decide
  have S1 : Hid (∀ w' : World, Calls Try.prog 61 #[wv (toW p), .int .i64 ((at_ : Int) + 1)] w' fun e w'' => e = .returned (wv (toW (p * ((P2 (at_ + 1) : Nat) : Int)))) ∧ Below w'.heap.size w' w'') := Lib.hid fun w' => shl_toW p (at_ + 1) (by omega) w'
  have S2 := Lib.hid (fun w' => timesS_w (p * ((P2 (at_ + 1) : Nat) : Int)) d (by omega) (by omega) w')
  obtain ⟨b3, S3⟩ := subS_w l (p * ((P2 (at_ + 1) : Nat) : Int) * d)
  replace S3 := Lib.hid S3
  have S4 : Hid (∀ w' : World, Calls Try.prog 94 #[.int .i64 (2 * (at_ : Int))] w' fun e w'' => e = .returned (wv (toW ((P2 (2 * at_) : Nat) : Int))) ∧ Below w'.heap.size w' w'') := Lib.hid fun w' => by
    have := powS_w (2 * at_) (by omega) w'
    rw [show ((2 * at_ : Nat) : Int) = 2 * (at_ : Int) by omega] at this
    exact this
  have S5 := Lib.hid (fun w' => timesS_w ((P2 (2 * at_) : Nat) : Int) (d * d) (by omega) (by omega) w')
  obtain ⟨b6, S6⟩ := subS_w (l - p * ((P2 (at_ + 1) : Nat) : Int) * d) (((P2 (2 * at_) : Nat) : Int) * (d * d))
  replace S6 := Lib.hid S6
  have S7 := Lib.hid (fun w' => powS_w at_ (by omega) w')
  have S8 := Lib.hid (fun w' => timesS_w ((P2 at_ : Nat) : Int) d (by omega) (by omega) w')
  obtain ⟨b9, S9⟩ := addS_w p (((P2 at_ : Nat) : Int) * d)
  replace S9 := Lib.hid S9
  have e1 : l - d * (p * ((P2 (at_ + 1) : Nat) : Int)) - d * d * ((P2 (2 * at_) : Nat) : Int) = l - p * ((P2 (at_ + 1) : Nat) : Int) * d - ((P2 (2 * at_) : Nat) : Int) * (d * d) := by
    rw [Int.mul_comm d (p * _), Int.mul_comm (d * d)]
  have e2 : p + d * ((P2 at_ : Nat) : Int) = p + ((P2 at_ : Nat) : Int) * d := by rw [Int.mul_comm]
  rw [e1, e2]
  have hw1 : IntKind.i64.wrap ((at_ : Int) + 1) = (at_ : Int) + 1 := IntWalk.i64_in _ (by omega)
  have hw2 : IntKind.i64.wrap (2 * (at_ : Int)) = 2 * (at_ : Int) := IntWalk.i64_in _ (by omega)
  have hw3 : IntKind.i64.wrap (d * d) = d * d := IntWalk.i64_in _ (by omega)
  obtain ⟨P, hP⟩ : ∃ A, A = toW p := ⟨_, rfl⟩
  obtain ⟨L, hL⟩ : ∃ A, A = toW l := ⟨_, rfl⟩
  obtain ⟨O, hO⟩ : ∃ A, A = toW (p * ((P2 (at_ + 1) : Nat) : Int)) := ⟨_, rfl⟩
  obtain ⟨OD, hOD⟩ : ∃ A, A = toW (p * ((P2 (at_ + 1) : Nat) : Int) * d) := ⟨_, rfl⟩
  obtain ⟨L1, hL1⟩ : ∃ A, A = toW (l - p * ((P2 (at_ + 1) : Nat) : Int) * d) := ⟨_, rfl⟩
  obtain ⟨W2, hW2⟩ : ∃ A, A = toW ((P2 (2 * at_) : Nat) : Int) := ⟨_, rfl⟩
  obtain ⟨W2D, hW2D⟩ : ∃ A, A = toW (((P2 (2 * at_) : Nat) : Int) * (d * d)) := ⟨_, rfl⟩
  obtain ⟨L2, hL2⟩ : ∃ A, A = toW (l - p * ((P2 (at_ + 1) : Nat) : Int) * d - ((P2 (2 * at_) : Nat) : Int) * (d * d)) := ⟨_, rfl⟩
  obtain ⟨W1, hW1⟩ : ∃ A, A = toW ((P2 at_ : Nat) : Int) := ⟨_, rfl⟩
  obtain ⟨W1D, hW1D⟩ : ∃ A, A = toW (((P2 at_ : Nat) : Int) * d) := ⟨_, rfl⟩
  obtain ⟨Q, hQ⟩ : ∃ A, A = toW (p + ((P2 at_ : Nat) : Int) * d) := ⟨_, rfl⟩
  rw [← hP, ← hO] at S1
  rw [← hO, ← hOD] at S2
  rw [← hL, ← hOD, ← hL1] at S3
  rw [← hW2] at S4
  rw [← hW2, ← hW2D] at S5
  rw [← hL1, ← hW2D, ← hL2] at S6
  rw [← hW1] at S7
  rw [← hW1, ← hW1D] at S8
  rw [← hP, ← hW1D, ← hQ] at S9
  rw [← hP, ← hL, ← hQ, ← hL2]
  have hat' : (at_ : Int) ≤ 126 := by omega
  have hat0 : (0 : Int) ≤ (at_ : Int) := Int.natCast_nonneg _
  clear hat hdd e1 e2 hP hL hO hOD hL1 hW2 hW2D hL2 hW1 hW1D hQ
  go_enter Try.func86, Try.ntmps86
  have HB := Lib.hid (Below.refl w.heap.size w)
  have Gf := Lib.hid (alloc_new (w) (.cells (fc P L) 65))
  replace HB := Lib.hid (below_al HB.out (.cells (fc P L) 65))
  replace Gf := Lib.hid (keepAl (o' := .cells (fc 0 0) 65) Gf.out)
  have Go := Lib.hid (alloc_new' (w := (w).alloc (.cells (fc P L) 65)) (n := w.heap.size + 1) (.cells (fc 0 0) 65) (by simp))
  replace HB := Lib.hid (below_al HB.out (.cells (fc 0 0) 65))
  have HZ := Lib.hid (lt_of_heap Go.out)
  have cGf := cell_row Gf.out
  have cGo := cell_row Go.out
  go_wp2_with fail
  refine (S1.out _).mono ?_
  rintro e w4 ⟨rfl, hb⟩
  clear cGf cGo
  replace HB := Lib.hid (below_then HB.out hb)
  replace Gf := Lib.hid ((hb.block _ (lt_of_heap Gf.out)).trans Gf.out)
  replace Go := Lib.hid ((hb.block _ (lt_of_heap Go.out)).trans Go.out)
  clear hb
  have HZ2 := Lib.hid (lt_of_heap Go.out)
  replace Gf := Lib.hid (keepAl (o' := .cells (wcells O) 24) Gf.out)
  replace Go := Lib.hid (keepAl (o' := .cells (wcells O) 24) Go.out)
  have Ga := Lib.hid (alloc_new (w4) (.cells (wcells O) 24))
  replace HB := Lib.hid (below_al HB.out (.cells (wcells O) 24))
  have cGf := cell_row Gf.out
  have cGo := cell_row Go.out
  have cGa := cell_row Ga.out
  go_upto_region 2 with fail
  clear cGf cGo cGa
  obtain ⟨wA, hw⟩ : ∃ wx, wx = (w4).alloc (.cells (wcells O) 24) := ⟨_, rfl⟩
  rw [← hw] at Gf Go Ga HB ⊢
  clear hw
  have HZA := Lib.hid (lt_of_heap Go.out)
  have xGf := ext_row (B := wA.heap.size) Gf.out (lt_of_heap Gf.out)
  have xGo := ext_row (B := wA.heap.size) Go.out (lt_of_heap Go.out)
  have xGa := ext_row (B := wA.heap.size) Ga.out (lt_of_heap Ga.out)
  apply wp_region_loose (looseR [_, _, _, _, _, _, _, _, _, Lft.val undef, Lft.val undef, _]) (pureL [6, 7, 8, 11])
  · kernel_rfl
  · kernel_rfl
  · kernel_rfl
  · exact allocs_ok [24] rfl (by intro T hT; simp only [List.mem_cons, List.not_mem_nil, or_false] at hT; subst hT; exact makes_wide)
  · exact looseR_st _
  · change wpL _ _ _ _ _ _ _ 12 0 _ _
    refine wpL_calm wA rfl rfl rfl rfl (fun K hK K0 hK0 => ?_)
    go_simp
    first | refine hK _ _ rfl rfl ?_ | refine hK0 _ rfl ?_
    clear hK hK0 K K0
    refine wpL_calm wA rfl rfl rfl rfl (fun K hK K0 hK0 => ?_)
    go_simp
    first | refine hK _ _ rfl rfl ?_ | refine hK0 _ rfl ?_
    clear hK hK0 K K0
    refine wpL_calm wA rfl rfl rfl rfl (fun K hK K0 hK0 => ?_)
    go_simp
    first | refine hK _ _ rfl rfl ?_ | refine hK0 _ rfl ?_
    clear hK hK0 K K0
    refine wpL_calm wA rfl rfl rfl rfl (fun K hK K0 hK0 => ?_)
    go_simp
    first | refine hK _ _ rfl rfl ?_ | refine hK0 _ rfl ?_
    clear hK hK0 K K0
    refine wpL_calm wA rfl rfl rfl rfl (fun K hK K0 hK0 => ?_)
    go_simp
    apply Exists.intro
    apply And.intro
    · intro x
      go_at_call 123
      with_reducible exact S2.out _
    refine hK _ _ rfl rfl ?_
    clear hK hK0 K K0
    refine wpL_calm wA rfl rfl rfl rfl (fun K hK K0 hK0 => ?_)
    go_simp
    apply Exists.intro
    apply And.intro
    · intro x
      go_at_call 46
      with_reducible exact S3.out _
    refine hK _ _ rfl rfl ?_
    clear hK hK0 K K0
    refine wpL_pure wA rfl rfl rfl rfl (fun K hK K0 hK0 => ?_)
    go_simp
    first | refine hK _ _ rfl rfl ?_ | refine hK0 _ rfl ?_
    clear hK hK0 K K0
    refine wpL_pure wA rfl rfl rfl rfl (fun K hK K0 hK0 => ?_)
    go_simp
    first | refine hK _ _ rfl rfl ?_ | refine hK0 _ rfl ?_
    clear hK hK0 K K0
    refine wpL_pure wA rfl rfl rfl rfl (fun K hK K0 hK0 => ?_)
    go_simp
    first | refine hK _ _ rfl rfl ?_ | refine hK0 _ rfl ?_
    clear hK hK0 K K0
    refine wpL_alloc rfl rfl rfl rfl (fun g9 hg9 => ?_)
    refine wpL_store rfl rfl ?_
    refine wpL_pure wA rfl rfl rfl rfl (fun K hK K0 hK0 => ?_)
    go_simp
    first | refine hK _ _ rfl rfl ?_ | refine hK0 _ rfl ?_
    clear hK hK0 K K0
    refine wpL_nil (endL [(24, .tmp 8, .tmp 24)] rfl (by intro q hq; simp only [List.mem_cons, List.not_mem_nil, or_false] at hq; subst hq; exact fits_wv (by kernel_rfl) _) (fun w5 hb hst hap hfin => ?_))
    have Gl : Hid (w5.heap[g9]? = some (.cells (wcells (L1)) 24 (0, 0))) := Lib.hid (hst 10 _ _ _ _ g9 rfl rfl rfl)
    replace HB := Lib.hid (below_then HB.out hb)
    replace Gf := Lib.hid ((hb.block _ (lt_of_heap Gf.out)).trans Gf.out)
    replace Go := Lib.hid ((hb.block _ (lt_of_heap Go.out)).trans Go.out)
    replace Ga := Lib.hid ((hb.block _ (lt_of_heap Ga.out)).trans Ga.out)
    clear hb hst hap hfin xGf xGo xGa
    have cGf := cell_row Gf.out
    have cGo := cell_row Go.out
    have cGl := cell_row Gl.out
    go_upto_region 3 with fail
    clear cGf cGo cGl
    have kGf := cell_row (w := w5.drew) Gf.out
    have kGo := cell_row (w := w5.drew) Go.out
    have kGl := cell_row (w := w5.drew) Gl.out
    go_cut [] (fun wx => wx.heap[g9]? = some (.cells (wcells (L2)) 24 (0, 0)) ∧ But (fun k => k = g9) w5 wx)
    case first =>
      have UL := Lib.hid (But.refl (fun k => k = g9) w5).drew
      have AGf := Lib.hid (show w5.drew.heap[_]? = some _ from Gf.out)
      have AGo := Lib.hid (show w5.drew.heap[_]? = some _ from Go.out)
      have AGl := Lib.hid (show w5.drew.heap[_]? = some _ from Gl.out)
      have st := st_row (P := Try.prog) AGl.out rfl (L2)
      go_region_with
        (first
          | (go_at_call 94
             refine (S4.out _).mono ?_
             rintro e wA ⟨rfl, hb⟩
             have AGf := Lib.hid ((hb.block _ (lt_of_heap AGf.out)).trans AGf.out)
             have kGf := cell_row AGf.out
             have AGo := Lib.hid ((hb.block _ (lt_of_heap AGo.out)).trans AGo.out)
             have kGo := cell_row AGo.out
             have AGl := Lib.hid ((hb.block _ (lt_of_heap AGl.out)).trans AGl.out)
             have kGl := cell_row AGl.out
             have UL := Lib.hid (UL.out.trans (But.of_below hb))
             have st := st_row (P := Try.prog) AGl.out rfl (L2)
             clear hb)
          | (go_at_call 123
             refine (S5.out _).mono ?_
             rintro e wA ⟨rfl, hb⟩
             have AGf := Lib.hid ((hb.block _ (lt_of_heap AGf.out)).trans AGf.out)
             have kGf := cell_row AGf.out
             have AGo := Lib.hid ((hb.block _ (lt_of_heap AGo.out)).trans AGo.out)
             have kGo := cell_row AGo.out
             have AGl := Lib.hid ((hb.block _ (lt_of_heap AGl.out)).trans AGl.out)
             have kGl := cell_row AGl.out
             have UL := Lib.hid (UL.out.trans (But.of_below hb))
             have st := st_row (P := Try.prog) AGl.out rfl (L2)
             clear hb)
          | (go_at_call 46
             refine (S6.out _).mono ?_
             rintro e wA ⟨rfl, hb⟩
             have AGf := Lib.hid ((hb.block _ (lt_of_heap AGf.out)).trans AGf.out)
             have kGf := cell_row AGf.out
             have AGo := Lib.hid ((hb.block _ (lt_of_heap AGo.out)).trans AGo.out)
             have kGo := cell_row AGo.out
             have AGl := Lib.hid ((hb.block _ (lt_of_heap AGl.out)).trans AGl.out)
             have kGl := cell_row AGl.out
             have UL := Lib.hid (UL.out.trans (But.of_below hb))
             have st := st_row (P := Try.prog) AGl.out rfl (L2)
             clear hb))
      all_goals
        go_wp2
        go_meet
        exact ⟨setRow_heap _ _ _ _ _ _ AGl.out, But.row UL.out rfl _⟩
    case rest =>
    obtain ⟨hgx, hbx⟩ := hcut
    clear kGf kGo kGl
    replace HB := Lib.hid (But.below HB.out hbx HB.out.size (fun i hi => by (have := HZA.out; have := HB.out.size; omega)))
    replace Gf := Lib.hid (hbx.heap Gf.out (by (have := HZA.out; have := HB.out.size; omega)))
    replace Go := Lib.hid (hbx.heap Go.out (by (have := HZA.out; have := HB.out.size; omega)))
    replace Gl := Lib.hid hgx
    clear hgx hbx
    obtain ⟨w6, hw⟩ : ∃ wx, wx = wc := ⟨_, rfl⟩
    rw [← hw] at Gf Go Gl HB ⊢
    clear hw
    have cGf := cell_row Gf.out
    have cGo := cell_row Go.out
    have cGl := cell_row Gl.out
    go_upto_region 4 with fail
    clear cGf cGo cGl
    have HZB := Lib.hid (lt_of_heap Go.out)
    have HZC := Lib.hid (lt_of_heap Gl.out)
    have xGf := ext_row (B := w6.heap.size) Gf.out (lt_of_heap Gf.out)
    have xGo := ext_row (B := w6.heap.size) Go.out (lt_of_heap Go.out)
    have xGl := ext_row (B := w6.heap.size) Gl.out (lt_of_heap Gl.out)
    apply wp_region_loose (looseR [_, _, _, _, _, _, _, _, _, _, Lft.val undef, Lft.val undef, _]) (pureL [7, 8, 9, 12])
    · kernel_rfl
    · kernel_rfl
    · kernel_rfl
    · exact allocs_ok [24] rfl (by intro T hT; simp only [List.mem_cons, List.not_mem_nil, or_false] at hT; subst hT; exact makes_wide)
    · exact looseR_st _
    · change wpL _ _ _ _ _ _ _ 13 0 _ _
      refine wpL_calm w6 rfl rfl rfl rfl (fun K hK K0 hK0 => ?_)
      go_simp
      first | refine hK _ _ rfl rfl ?_ | refine hK0 _ rfl ?_
      clear hK hK0 K K0
      refine wpL_calm w6 rfl rfl rfl rfl (fun K hK K0 hK0 => ?_)
      go_simp
      first | refine hK _ _ rfl rfl ?_ | refine hK0 _ rfl ?_
      clear hK hK0 K K0
      refine wpL_calm w6 rfl rfl rfl rfl (fun K hK K0 hK0 => ?_)
      go_simp
      first | refine hK _ _ rfl rfl ?_ | refine hK0 _ rfl ?_
      clear hK hK0 K K0
      refine wpL_calm w6 rfl rfl rfl rfl (fun K hK K0 hK0 => ?_)
      go_simp
      apply Exists.intro
      apply And.intro
      · intro x
        go_at_call 94
        with_reducible exact S7.out _
      refine hK _ _ rfl rfl ?_
      clear hK hK0 K K0
      refine wpL_calm w6 rfl rfl rfl rfl (fun K hK K0 hK0 => ?_)
      go_simp
      first | refine hK _ _ rfl rfl ?_ | refine hK0 _ rfl ?_
      clear hK hK0 K K0
      refine wpL_calm w6 rfl rfl rfl rfl (fun K hK K0 hK0 => ?_)
      go_simp
      apply Exists.intro
      apply And.intro
      · intro x
        go_at_call 123
        with_reducible exact S8.out _
      refine hK _ _ rfl rfl ?_
      clear hK hK0 K K0
      refine wpL_calm w6 rfl rfl rfl rfl (fun K hK K0 hK0 => ?_)
      go_simp
      apply Exists.intro
      apply And.intro
      · intro x
        go_at_call 124
        with_reducible exact S9.out _
      refine hK _ _ rfl rfl ?_
      clear hK hK0 K K0
      refine wpL_pure w6 rfl rfl rfl rfl (fun K hK K0 hK0 => ?_)
      go_simp
      first | refine hK _ _ rfl rfl ?_ | refine hK0 _ rfl ?_
      clear hK hK0 K K0
      refine wpL_pure w6 rfl rfl rfl rfl (fun K hK K0 hK0 => ?_)
      go_simp
      first | refine hK _ _ rfl rfl ?_ | refine hK0 _ rfl ?_
      clear hK hK0 K K0
      refine wpL_pure w6 rfl rfl rfl rfl (fun K hK K0 hK0 => ?_)
      go_simp
      first | refine hK _ _ rfl rfl ?_ | refine hK0 _ rfl ?_
      clear hK hK0 K K0
      refine wpL_alloc rfl rfl rfl rfl (fun g10 hg10 => ?_)
      refine wpL_store rfl rfl ?_
      refine wpL_pure w6 rfl rfl rfl rfl (fun K hK K0 hK0 => ?_)
      go_simp
      first | refine hK _ _ rfl rfl ?_ | refine hK0 _ rfl ?_
      clear hK hK0 K K0
      refine wpL_nil (endL [(24, .tmp 10, .tmp 46)] rfl (by intro q hq; simp only [List.mem_cons, List.not_mem_nil, or_false] at hq; subst hq; exact fits_wv (by kernel_rfl) _) (fun w7 hb hst hap hfin => ?_))
      have Gq : Hid (w7.heap[g10]? = some (.cells (wcells (Q)) 24 (0, 0))) := Lib.hid (hst 11 _ _ _ _ g10 rfl rfl rfl)
      replace HB := Lib.hid (below_then HB.out hb)
      replace Gf := Lib.hid ((hb.block _ (lt_of_heap Gf.out)).trans Gf.out)
      replace Go := Lib.hid ((hb.block _ (lt_of_heap Go.out)).trans Go.out)
      replace Gl := Lib.hid ((hb.block _ (lt_of_heap Gl.out)).trans Gl.out)
      clear hb hst hap hfin xGf xGo xGl
      have cl := cell_row Gl.out
      have cq := cell_row Gq.out
      have sto := st_16 (P := Try.prog) Go.out rfl (Q) (L2)
      replace Gf := Lib.hid ((setRow_other (w7) (w.heap.size + 1) _ (fc (Q) (L2)) (by (have := HZA.out; have := HZB.out; have := HZC.out; omega))).trans Gf.out)
      replace Gl := Lib.hid ((setRow_other (w7) (w.heap.size + 1) _ (fc (Q) (L2)) (by (have := HZA.out; have := HZB.out; have := HZC.out; omega))).trans Gl.out)
      replace Gq := Lib.hid ((setRow_other (w7) (w.heap.size + 1) _ (fc (Q) (L2)) (by (have := HZA.out; have := HZB.out; have := HZC.out; omega))).trans Gq.out)
      replace Go := Lib.hid (setRow_heap (w7) (w.heap.size + 1) _ (fc (Q) (L2)) _ _ Go.out)
      replace HB := Lib.hid (below_setRow' HB.out (show _ ≤ w.heap.size + 1 by (have := HZA.out; have := HZB.out; have := HZC.out; omega)) (fc (Q) (L2)))
      have cGf := cell_row Gf.out
      have cGo := cell_row Go.out
      have cGl := cell_row Gl.out
      have cGq := cell_row Gq.out
      go_wp2
      exact bodyPost_ret (v := .agg (fc Q L2)) (res_c Try.results86 _ _ _ _ _ _ rfl Go.out aggFar) rfl ⟨rfl, HB.out⟩
end Go.Proofs.Ytffengboblekpaa

/- THE WALKS of package srtroot, going on: the beginning, a number shifted up. -/
namespace Go.Proofs.Ytffengboblekpaa
open Go Go.RowKit

theorem powL_w (n : Int) (c : Nat) (h : n = (c : Int)) (hc : c < 512) (w : World) : Calls Try.prog 94 #[.int .i64 n] w fun e w' => e = .returned (wv (toW ((P2 c : Nat) : Int))) ∧ Below w.heap.size w w' := by
  subst h
  exact powS_w c hc w
attribute [local go_sem ↓] Go.wp_at_zero Go.wp_at_succ

set_option maxRecDepth 100000 in
set_option maxHeartbeats 1000000 in
theorem beginS_w (U : Nat) (hU : U < P2 256) (w : World) : Calls Try.prog 58 #[wv U] w fun e w' => e = .returned (.agg (fc (toW (rP U 0)) (toW (rL U 0)))) ∧ Below w.heap.size w w' := by
  have S1 := Lib.hid (fun w' => powL_w 256 256 rfl (by omega) w')
  have S2 := Lib.hid (fun w' => powL_w 128 128 rfl (by omega) w')
  obtain ⟨b3, S3⟩ := subS_w (U : Int) ((P2 256 : Nat) : Int)
  replace S3 := Lib.hid S3
  rw [toW_nat (Nat.lt_trans hU (by rw [M_eq]; exact P2_lt (by omega)))] at S3
  have e1 : rP U 0 = ((P2 128 : Nat) : Int) := rfl
  have e2 : rL U 0 = (U : Int) - ((P2 256 : Nat) : Int) := by
    unfold rL
    rw [e1, ← Int.natCast_mul, ← P2_add]
  rw [e1, e2]
  obtain ⟨A, hA⟩ : ∃ A, A = toW ((P2 256 : Nat) : Int) := ⟨_, rfl⟩
  obtain ⟨P, hP⟩ : ∃ A, A = toW ((P2 128 : Nat) : Int) := ⟨_, rfl⟩
  obtain ⟨L, hL⟩ : ∃ A, A = toW ((U : Int) - ((P2 256 : Nat) : Int)) := ⟨_, rfl⟩
  rw [← hA] at S1
  rw [← hP] at S2
  rw [← hA, ← hL] at S3
  rw [← hP, ← hL]
  clear hU e1 e2 hA hP hL
  go_enter Try.func58, Try.ntmps58
  have HB := Lib.hid (Below.refl w.heap.size w)
  have Gn := Lib.hid (alloc_new (w) (.cells (wcells U) 24))
  replace HB := Lib.hid (below_al HB.out (.cells (wcells U) 24))
  replace Gn := Lib.hid (keepAl (o' := .cells (fc 0 0) 65) Gn.out)
  have Go := Lib.hid (alloc_new' (w := (w).alloc (.cells (wcells U) 24)) (n := w.heap.size + 1) (.cells (fc 0 0) 65) (by simp))
  replace HB := Lib.hid (below_al HB.out (.cells (fc 0 0) 65))
  have cGn := cell_row Gn.out
  have cGo := cell_row Go.out
  go_upto_region 1 with fail
  clear cGn cGo
  obtain ⟨wA, hw⟩ : ∃ wx, wx = ((w).alloc (.cells (wcells U) 24)).alloc (.cells (fc 0 0) 65) := ⟨_, rfl⟩
  rw [← hw] at Gn Go HB ⊢
  clear hw
  have HZ := Lib.hid (lt_of_heap Go.out)
  have xGn := ext_row (B := wA.heap.size) Gn.out (lt_of_heap Gn.out)
  have xGo := ext_row (B := wA.heap.size) Go.out (lt_of_heap Go.out)
  apply wp_region_loose (looseR [_, _, _, _, _, _, Lft.val undef, Lft.val undef, _]) (pureL [3, 4, 5, 8])
  · kernel_rfl
  · kernel_rfl
  · kernel_rfl
  · exact allocs_ok [24] rfl (by intro T hT; simp only [List.mem_cons, List.not_mem_nil, or_false] at hT; subst hT; exact makes_wide)
  · exact looseR_st _
  · change wpL _ _ _ _ _ _ _ 9 0 _ _
    refine wpL_calm wA rfl rfl rfl rfl (fun K hK K0 hK0 => ?_)
    go_simp
    first | refine hK _ _ rfl rfl ?_ | refine hK0 _ rfl ?_
    clear hK hK0 K K0
    refine wpL_calm wA rfl rfl rfl rfl (fun K hK K0 hK0 => ?_)
    go_simp
    apply Exists.intro
    apply And.intro
    · intro x
      go_at_call 94
      with_reducible exact S1.out _
    refine hK _ _ rfl rfl ?_
    clear hK hK0 K K0
    refine wpL_calm wA rfl rfl rfl rfl (fun K hK K0 hK0 => ?_)
    go_simp
    apply Exists.intro
    apply And.intro
    · intro x
      go_at_call 46
      with_reducible exact S3.out _
    refine hK _ _ rfl rfl ?_
    clear hK hK0 K K0
    refine wpL_pure wA rfl rfl rfl rfl (fun K hK K0 hK0 => ?_)
    go_simp
    first | refine hK _ _ rfl rfl ?_ | refine hK0 _ rfl ?_
    clear hK hK0 K K0
    refine wpL_pure wA rfl rfl rfl rfl (fun K hK K0 hK0 => ?_)
    go_simp
    first | refine hK _ _ rfl rfl ?_ | refine hK0 _ rfl ?_
    clear hK hK0 K K0
    refine wpL_pure wA rfl rfl rfl rfl (fun K hK K0 hK0 => ?_)
    go_simp
    first | refine hK _ _ rfl rfl ?_ | refine hK0 _ rfl ?_
    clear hK hK0 K K0
    refine wpL_alloc rfl rfl rfl rfl (fun g6 hg6 => ?_)
    refine wpL_store rfl rfl ?_
    refine wpL_pure wA rfl rfl rfl rfl (fun K hK K0 hK0 => ?_)
    go_simp
    first | refine hK _ _ rfl rfl ?_ | refine hK0 _ rfl ?_
    clear hK hK0 K K0
    refine wpL_nil (endL [(24, .tmp 3, .tmp 9)] rfl (by intro q hq; simp only [List.mem_cons, List.not_mem_nil, or_false] at hq; subst hq; exact fits_wv (by kernel_rfl) _) (fun w1 hb hst hap hfin => ?_))
    have Gl : Hid (w1.heap[g6]? = some (.cells (wcells (L)) 24 (0, 0))) := Lib.hid (hst 7 _ _ _ _ g6 rfl rfl rfl)
    replace HB := Lib.hid (below_then HB.out hb)
    replace Gn := Lib.hid ((hb.block _ (lt_of_heap Gn.out)).trans Gn.out)
    replace Go := Lib.hid ((hb.block _ (lt_of_heap Go.out)).trans Go.out)
    clear hb hst hap hfin xGn xGo
    have cGn := cell_row Gn.out
    have cGo := cell_row Go.out
    have cGl := cell_row Gl.out
    go_upto_region 2 with fail
    clear cGn cGo cGl
    refine wp_region_store [⟨w.heap.size + 1, 65, .tmp 13⟩] (by kernel_rfl) (by kernel_rfl) (by kernel_rfl) rfl (List.pairwise_singleton _ _) ?_ ?_
    · intro r hr
      simp only [List.mem_cons, List.not_mem_nil, or_false] at hr
      subst hr
      exact ⟨_, Go.out, by kernel_rfl⟩
    have xGn := extR_row (B := w1.heap.size) (R := [⟨w.heap.size + 1, 65, .tmp 13⟩]) Gn.out (lt_of_heap Gn.out) (by intro r hr; simp only [List.mem_cons, List.not_mem_nil, or_false] at hr; subst hr <;> dsimp only <;> (have := HZ.out; omega))
    have xGl := extR_row (B := w1.heap.size) (R := [⟨w.heap.size + 1, 65, .tmp 13⟩]) Gl.out (lt_of_heap Gl.out) (by intro r hr; simp only [List.mem_cons, List.not_mem_nil, or_false] at hr; subst hr <;> dsimp only <;> (have := HZ.out; omega))
    repeat (refine wpCalm_step (fun K hK => ?_); go_simp; first | (refine hK _ ?_; clear hK K) | (apply Exists.intro; refine ⟨fun _ => ?_, hK _ ?_⟩; (first | with_reducible exact S2.out _ | exact S2.out _); clear hK K))
    refine wpCalm_nil ⟨?_, fun x hx => ?_⟩
    · intro r hr
      simp only [List.mem_cons, List.not_mem_nil, or_false] at hr
      subst hr <;> first | exact fits_wv (by kernel_rfl) _ | exact fits_16 (by kernel_rfl) _ _
    replace Go : Hid (x.val.heap[w.heap.size + 1]? = some (.cells (fc (P) (L)) 65 (0, 0))) := Lib.hid (hx ⟨w.heap.size + 1, 65, .tmp 13⟩ (by simp))
    replace Gn := Lib.hid (extR_block x Gn.out (lt_of_heap Gn.out) (by intro r hr; simp only [List.mem_cons, List.not_mem_nil, or_false] at hr; subst hr <;> dsimp only <;> (have := HZ.out; omega)))
    replace Gl := Lib.hid (extR_block x Gl.out (lt_of_heap Gl.out) (by intro r hr; simp only [List.mem_cons, List.not_mem_nil, or_false] at hr; subst hr <;> dsimp only <;> (have := HZ.out; omega)))
    replace HB := Lib.hid (extR_below x HB.out HB.out.size (by intro r hr; simp only [List.mem_cons, List.not_mem_nil, or_false] at hr; subst hr <;> dsimp only <;> (have := HZ.out; omega)))
    clear hx xGn xGl
    obtain ⟨w2, hw⟩ : ∃ wx, wx = x.val := ⟨_, rfl⟩
    rw [← hw] at Gn Go Gl HB ⊢
    clear hw x
    have cGn := cell_row Gn.out
    have cGo := cell_row Go.out
    have cGl := cell_row Gl.out
    go_wp2
    exact bodyPost_ret (v := .agg (fc P L)) (res_c Try.results58 _ _ _ _ _ _ rfl Go.out aggFar) rfl ⟨rfl, HB.out⟩
set_option maxHeartbeats 1000000 in
theorem normS_yes (n : Nat) (h0 : n ≠ 0) (h : n < P2 256) (w : World) : Calls Try.prog 19 #[wv n] w fun e w' => e = .returned (.tuple #[wv (upN n), .int .i64 (nrmN n : Nat), .bool true]) ∧ Below w.heap.size w w' := by
  have hnM : n < M := Nat.lt_trans h (by rw [M_eq]; exact P2_lt (by omega))
  have S1 := Lib.hid (fun w' => len_w n hnM w')
  have hl : blen n ≤ 256 := blen_le_of h
  have hp := blen_pos h0
  have S2 := Lib.hid (fun w' => shl_any n (nrmN n : Nat) w' (by omega) (by unfold nrmN; omega))
  rw [clampN_at (by unfold nrmN; omega), Nat.mod_eq_of_lt (show n * P2 (nrmN n) < M by
    have := (up_range h0 h).2.1
    unfold upN at this
    have : P2 256 < M := by rw [M_eq]; exact P2_lt (by omega)
    omega)] at S2
  unfold upN
  have hb : ((blen n : Nat) : Int) ≠ 0 := by omega
  have hk : IntKind.i64.wrap (256 - ((blen n : Nat) : Int)) = ((256 - blen n : Nat) : Int) := by
    rw [IntWalk.i64_in _ (by omega)]; omega
  have hq : Int.tdiv ((256 - blen n : Nat) : Int) 2 = (((256 - blen n) / 2 : Nat) : Int) := by
    rw [Int.tdiv_eq_ediv_of_nonneg (by omega)]; omega
  have hq2 : IntKind.i64.wrap (((256 - blen n) / 2 : Nat) : Int) = (((256 - blen n) / 2 : Nat) : Int) := IntWalk.i64_in _ (by omega)
  have hm : IntKind.i64.wrap ((((256 - blen n) / 2 : Nat) : Int) * 2) = ((nrmN n : Nat) : Int) := by
    rw [IntWalk.i64_in _ (by omega)]; unfold nrmN; omega
  obtain ⟨X, hX⟩ : ∃ X, X = n * P2 (nrmN n) := ⟨_, rfl⟩
  rw [← hX] at S2 ⊢
  obtain ⟨c, hc⟩ : ∃ X, X = nrmN n := ⟨_, rfl⟩
  rw [← hc] at S2 hm ⊢
  obtain ⟨q, hqe⟩ : ∃ X, X = (256 - blen n) / 2 := ⟨_, rfl⟩
  rw [← hqe] at hq hq2 hm
  obtain ⟨k, hke⟩ : ∃ X, X = 256 - blen n := ⟨_, rfl⟩
  rw [← hke] at hk hq
  obtain ⟨l, hle⟩ : ∃ l, l = blen n := ⟨_, rfl⟩
  rw [← hle] at S1 hk hb hl
  have hl2 : decide ((256 : Int) < (l : Int)) = false := decide_eq_false (by omega)
  have hb2 : ((l : Int) == 0) = false := by simp; omega
  clear h0 h hnM hp hX hc hqe hke hle hl
  go_enter Try.func19, Try.ntmps19
  have HB := Lib.hid (Below.refl w.heap.size w)
  have Gn := Lib.hid (alloc_new (w) (.cells (wcells n) 24))
  replace HB := Lib.hid (below_al HB.out (.cells (wcells n) 24))
  replace Gn := Lib.hid (keepAl (o' := .cells (wcells 0) 24) Gn.out)
  have Go := Lib.hid (alloc_new' (w := (w).alloc (.cells (wcells n) 24)) (n := w.heap.size + 1) (.cells (wcells 0) 24) (by simp))
  replace HB := Lib.hid (below_al HB.out (.cells (wcells 0) 24))
  have cGn := cell_row Gn.out
  have cGo := cell_row Go.out
  go_wp2_with fail
  refine (S1.out _).mono ?_
  rintro e w3 ⟨rfl, hb⟩
  clear cGn cGo
  replace HB := Lib.hid (below_then HB.out hb)
  replace Gn := Lib.hid ((hb.block _ (lt_of_heap Gn.out)).trans Gn.out)
  replace Go := Lib.hid ((hb.block _ (lt_of_heap Go.out)).trans Go.out)
  clear hb
  have cGn := cell_row Gn.out
  have cGo := cell_row Go.out
  go_wp2_with fail
  refine (S2.out _).mono ?_
  rintro e w4 ⟨rfl, hb⟩
  clear cGn cGo
  replace HB := Lib.hid (below_then HB.out hb)
  replace Gn := Lib.hid ((hb.block _ (lt_of_heap Gn.out)).trans Gn.out)
  replace Go := Lib.hid ((hb.block _ (lt_of_heap Go.out)).trans Go.out)
  clear hb
  have sto := st_row (P := Try.prog) Go.out rfl (X)
  replace Gn := Lib.hid ((setRow_other (w4) (w.heap.size + 1) _ (wcells (X)) (by (omega))).trans Gn.out)
  replace Go := Lib.hid (setRow_heap (w4) (w.heap.size + 1) _ (wcells (X)) _ _ Go.out)
  replace HB := Lib.hid (below_setRow' HB.out (show _ ≤ w.heap.size + 1 by (omega)) (wcells (X)))
  have cGn := cell_row Gn.out
  have cGo := cell_row Go.out
  go_wp2
  exact bodyPost_ret (v := .tuple #[wv X, .int .i64 (c : Int), .bool true]) (res_ctt Try.results19 _ _ _ _ _ _ _ _ rfl rfl rfl Go.out aggW) rfl ⟨rfl, HB.out⟩
set_option maxHeartbeats 1000000 in
theorem normS_no (n : Nat) (hn : n < M) (h : n = 0 ∨ ¬ n < P2 256) (w : World) : Calls Try.prog 19 #[wv n] w fun e w' => e = .returned (.tuple #[wv 0, .int .i64 0, .bool false]) ∧ Below w.heap.size w w' := by
  have S1 := Lib.hid (fun w' => len_w n hn w')
  have hc : blen n = 0 ∨ ((256 : Int) < ((blen n : Nat) : Int) ∧ ((blen n : Nat) : Int) ≠ 0) := by
    rcases h with h | h
    · left; rw [h]; exact blen_zero
    · right
      have : ¬ blen n ≤ 256 := fun hh => h (lt_of_blen hh)
      omega
  obtain ⟨l, hle⟩ : ∃ l, l = blen n := ⟨_, rfl⟩
  rw [← hle] at S1 hc
  clear hn h hle
  rcases hc with rfl | ⟨h1, h2⟩
  rotate_left
  have h3 : ((l : Int) == 0) = false := by simp; omega
  have h4 : decide ((256 : Int) < (l : Int)) = true := decide_eq_true h1
  all_goals
    go_enter Try.func19, Try.ntmps19
    have HB := Lib.hid (Below.refl w.heap.size w)
    have Gn := Lib.hid (alloc_new (w) (.cells (wcells n) 24))
    replace HB := Lib.hid (below_al HB.out (.cells (wcells n) 24))
    replace Gn := Lib.hid (keepAl (o' := .cells (wcells 0) 24) Gn.out)
    have Go := Lib.hid (alloc_new' (w := (w).alloc (.cells (wcells n) 24)) (n := w.heap.size + 1) (.cells (wcells 0) 24) (by simp))
    replace HB := Lib.hid (below_al HB.out (.cells (wcells 0) 24))
    have cGn := cell_row Gn.out
    have cGo := cell_row Go.out
    go_wp2_with fail
    refine (S1.out _).mono ?_
    rintro e w5 ⟨rfl, hb⟩
    clear cGn cGo
    replace HB := Lib.hid (below_then HB.out hb)
    replace Gn := Lib.hid ((hb.block _ (lt_of_heap Gn.out)).trans Gn.out)
    replace Go := Lib.hid ((hb.block _ (lt_of_heap Go.out)).trans Go.out)
    clear hb
    have sto := st_row (P := Try.prog) Go.out rfl (0)
    replace Gn := Lib.hid ((setRow_other (w5) (w.heap.size + 1) _ (wcells (0)) (by (omega))).trans Gn.out)
    replace Go := Lib.hid (setRow_heap (w5) (w.heap.size + 1) _ (wcells (0)) _ _ Go.out)
    replace HB := Lib.hid (below_setRow' HB.out (show _ ≤ w.heap.size + 1 by (omega)) (wcells (0)))
    have cGn := cell_row Gn.out
    have cGo := cell_row Go.out
    go_wp2
    exact bodyPost_ret (v := .tuple #[wv 0, .int .i64 0, .bool false]) (res_ctt Try.results19 _ _ _ _ _ _ _ _ rfl rfl rfl Go.out aggW) rfl ⟨rfl, HB.out⟩
end Go.Proofs.Ytffengboblekpaa
