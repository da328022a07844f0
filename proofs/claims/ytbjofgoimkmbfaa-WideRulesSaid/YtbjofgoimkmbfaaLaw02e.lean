/- THE WALK of the law on a wide's rules. -/
import Derived.Test.YtbjofgoimkmbfaaLaw02c
namespace Go.Proofs.Ytbjofgoimkmbfaa
open Go Go.RowKit

theorem ext_big {w : World} {v : Value} {n : Nat} (h : IsBig w v n) (x : Ext w.heap.size w) : IsBig x.val v n := h.below x.property
theorem add_sub_back {a b : Nat} (ha : a < M) (hb : b < M) : subN ((a + b) % M) b = a ∧ decide ((a + b) % M < b) = decide (M ≤ a + b) := by
  unfold subN
  rcases Nat.lt_or_ge (a + b) M with h | h
  · rw [Nat.mod_eq_of_lt h]
    refine ⟨?_, ?_⟩
    · rw [show a + b + M - b = a + M by omega, Nat.add_mod_right, Nat.mod_eq_of_lt ha]
    · rw [decide_eq_false (by omega), decide_eq_false (by omega)]
  · have e : (a + b) % M = a + b - M := by rw [Nat.mod_eq_sub_mod h, Nat.mod_eq_of_lt (by omega)]
    rw [e]
    refine ⟨?_, ?_⟩
    · rw [show a + b - M + M - b = a by omega, Nat.mod_eq_of_lt ha]
    · rw [decide_eq_true (by omega), decide_eq_true h]
theorem clampN_nat {k : Nat} (h : k ≤ 512) : clampN (k : Int) = k := by have := clampN_mid (n := (k : Int)) (by omega) (by omega); omega
theorem shl_keeps {a k : Nat} : a * P2 k % M % P2 (min k 512) = 0 := by
  rcases Nat.le_total k 512 with h | h
  · rw [Nat.min_eq_left h, M_eq]
    have e : P2 512 = P2 k * P2 (512 - k) := by rw [← P2_add, show k + (512 - k) = 512 by omega]
    rw [e, Nat.mul_comm a, Nat.mul_mod_mul_left, Nat.mul_mod_right]
  · rw [Nat.min_eq_right h, ← M_eq]
    have e : P2 k = M * P2 (k - 512) := by rw [M_eq, ← P2_add, show 512 + (k - 512) = k by omega]
    rw [e, Nat.mul_left_comm, Nat.mul_mod_right, Nat.zero_mod]
theorem shl_back {a k : Nat} (h : blen a + k ≤ 512) : a * P2 k % M / P2 k = a := by
  have h1 : a * P2 k < M := by
    have := Nat.mul_lt_mul_of_pos_right (blen_lt a) (P2_pos k)
    rw [← P2_add] at this
    rw [M_eq]
    exact Nat.lt_of_lt_of_le this (P2_le h)
  rw [Nat.mod_eq_of_lt h1, Nat.mul_div_cancel _ (P2_pos _)]
theorem neg_neg {a : Nat} (ha : a < M) : negN (negN a) = a := by
  unfold negN subN
  rw [Nat.zero_add]
  by_cases h : a = 0
  · subst h
    rw [Nat.sub_zero, Nat.mod_self, Nat.sub_zero, Nat.mod_self]
  · rw [Nat.mod_eq_of_lt (show M - a < M by omega), show M - (M - a) = a by omega, Nat.mod_eq_of_lt ha]
theorem cmp_swap (a b : Nat) : cmpN b a = -cmpN a b := by
  unfold cmpN
  by_cases h : a < b
  · rw [if_pos h, if_neg (by omega), if_pos h]; rfl
  · by_cases h2 : b < a
    · rw [if_pos h2, if_neg h, if_pos h2]
    · rw [if_neg h2, if_neg h, if_neg h, if_neg h2]; rfl
theorem cmp_ends (a b : Nat) : -1 ≤ cmpN a b ∧ cmpN a b ≤ 1 := by
  unfold cmpN; split <;> (try split) <;> omega
theorem sar_minus {a k : Nat} (ha : a < M) (hk : k < 512) : decide (P2 511 ≤ sarN a k) = decide (P2 511 ≤ a) ∧ sarN a k < M := by
  have hM := M_half
  unfold sarN
  by_cases h : P2 511 ≤ a
  · rw [if_pos h, decide_eq_true h]
    have e1 : P2 511 = P2 (511 - k) * P2 k := by rw [← P2_add, show 511 - k + k = 511 by omega]
    have e2 : M = P2 (512 - k) * P2 k := by rw [M_eq, ← P2_add, show 512 - k + k = 512 by omega]
    have h1 : P2 (511 - k) ≤ a / P2 k := by rw [Nat.le_div_iff_mul_le (P2_pos _), ← e1]; exact h
    have h2 : a / P2 k < P2 (512 - k) := by rw [Nat.div_lt_iff_lt_mul (P2_pos _), ← e2]; exact ha
    have h3 : P2 (512 - k) = P2 (511 - k) + P2 (511 - k) := by rw [show 512 - k = (511 - k) + 1 by omega, P2_add, show P2 1 = 2 by rw [P2_eq]]; omega
    have h4 : P2 (511 - k) ≤ P2 511 := P2_le (by omega)
    exact ⟨decide_eq_true (by omega), by omega⟩
  · rw [if_neg h, decide_eq_false h]
    have := Nat.div_le_self a (P2 k)
    exact ⟨decide_eq_false (by omega), by omega⟩

attribute [local go_sem ↓] Go.wp_at_zero Go.wp_at_succ
set_option maxRecDepth 100000 in
set_option maxHeartbeats 4000000 in
theorem wideRules_any (a b : Nat) (n : Int) (w : World) (ha : a < M) (hb : b < M) (h1 : 0 ≤ n) (h2 : n ≤ 65535) :
    Calls Try.prog 14 #[wv a, wv b, .int .u16 n] w fun e w' => e = .returned (.bool true) ∧ Below w.heap.size w w' := by
  obtain ⟨k, hk⟩ : ∃ k : Nat, (k : Int) = n % 512 := ⟨(n % 512).toNat, by omega⟩
  have hk5 : k < 512 := by omega
  have hM := M_pos
  have S1 := Lib.hid (fun w' => add_w a b ha hb w')
  have S2 := Lib.hid (fun w' => sub_w ((a + b) % M) b (Nat.mod_lt _ M_pos) hb w')
  rw [(add_sub_back ha hb).1, (add_sub_back ha hb).2] at S2
  obtain ⟨T, hT⟩ : ∃ T, T = (a + b) % M := ⟨_, rfl⟩
  obtain ⟨ov, hov⟩ : ∃ o, o = decide (M ≤ a + b) := ⟨_, rfl⟩
  rw [← hT, ← hov] at S1 S2
  have S3 := Lib.hid (fun w' => shl_any a k w' (by omega) (by omega))
  rw [clampN_nat (by omega)] at S3
  have S4 := Lib.hid (fun w' => shr_any (a * P2 k % M) (Nat.mod_lt _ M_pos) k w' (by omega) (by omega))
  have hkeep := shl_keeps (a := a) (k := k)
  rw [Nat.min_eq_left (by omega)] at hkeep
  rw [clampN_nat (by omega), hkeep, decide_eq_false (p := (0 ≠ 0)) (by simp)] at S4
  have hback := shl_back (a := a) (k := k)
  obtain ⟨U, hU⟩ : ∃ T, T = a * P2 k % M := ⟨_, rfl⟩
  rw [← hU] at S3 S4 hback
  obtain ⟨D, hD⟩ : ∃ T, T = U / P2 k := ⟨_, rfl⟩
  rw [← hD] at S4 hback
  have S5 := Lib.hid (fun w' => len_w a ha w')
  obtain ⟨LA, hLA⟩ : ∃ L, L = blen a := ⟨_, rfl⟩
  rw [← hLA] at S5 hback
  have hL2 : LA ≤ 512 := by rw [hLA]; exact blen_le_of (by rw [M_eq] at ha; exact ha)
  have S6 := Lib.hid (fun w' => neg_w a ha w')
  have S7 := Lib.hid (fun w' => neg_w (negN a) (subN_lt _ _) w')
  rw [neg_neg ha] at S7
  obtain ⟨N1, hN1⟩ : ∃ T, T = negN a := ⟨_, rfl⟩
  rw [← hN1] at S6 S7
  have S8 := Lib.hid (fun w' => sar_w a ha k w' (by omega) (by omega))
  rw [clampN_nat (by omega)] at S8
  have S9 := Lib.hid (fun w' => minus_w (sarN a k) (sar_minus ha hk5).2 w')
  rw [(sar_minus ha hk5).1] at S9
  have S10 := Lib.hid (fun w' => minus_w a ha w')
  obtain ⟨R, hR⟩ : ∃ T, T = sarN a k := ⟨_, rfl⟩
  obtain ⟨mb, hmb⟩ : ∃ T, T = decide (P2 511 ≤ a) := ⟨_, rfl⟩
  rw [← hR] at S8
  rw [← hR, ← hmb] at S9
  rw [← hmb] at S10
  have S11 := Lib.hid (fun w' => cmp_w a b ha hb w')
  have S12 := Lib.hid (fun w' => cmp_w b a hb ha w')
  rw [cmp_swap a b] at S12
  have hC := cmp_ends a b
  obtain ⟨C, hCC⟩ : ∃ T, T = cmpN a b := ⟨_, rfl⟩
  rw [← hCC] at S11 S12 hC
  have SA := Lib.hid (fun w' => awake02_any w')
  have HK := Lib.hid hk.symm
  have HBK := Lib.hid hback
  obtain ⟨hC1, hC2⟩ := hC
  have eC : IntKind.i64.wrap (- -C) = C := by rw [Int.neg_neg]; exact IntWalk.i64_in C (by omega)
  clear ha hb hT hov hkeep hU hD hLA hN1 hR hmb hCC hk hback hM
  go_enter Try.func14, Try.ntmps14
  go_upto_region 2 with fail
  rw [HK.out]
  have Ga : Hid (((w.alloc (.cells (wcells a) 31)).alloc (.cells (wcells b) 31)).heap[w.heap.size]? = some (.cells (wcells a) 31 (0, 0))) := Lib.hid (by rw [alloc_old _ _ _ (by simp), alloc_new])
  have Gb : Hid (((w.alloc (.cells (wcells a) 31)).alloc (.cells (wcells b) 31)).heap[w.heap.size + 1]? = some (.cells (wcells b) 31 (0, 0))) := Lib.hid (by rw [alloc_new' _ (by simp)])
  have HB := Lib.hid (below_al (below_al (Below.refl w.heap.size w) (.cells (wcells a) 31)) (.cells (wcells b) 31))
  obtain ⟨w0, hw0⟩ : ∃ w0, w0 = (w.alloc (.cells (wcells a) 31)).alloc (.cells (wcells b) 31) := ⟨_, rfl⟩
  rw [← hw0] at Ga Gb HB ⊢
  clear hw0 h1 h2
  have cGa := cell_row Ga.out
  have cGb := cell_row Gb.out
  go_wp2_with fail
  refine (S1.out _).mono ?_
  rintro e w1 ⟨rfl, hb⟩
  clear cGa cGb
  replace HB := Lib.hid (below_then HB.out hb)
  replace Ga := Lib.hid ((hb.block _ (lt_of_heap Ga.out)).trans Ga.out)
  replace Gb := Lib.hid ((hb.block _ (lt_of_heap Gb.out)).trans Gb.out)
  clear hb
  replace Ga := Lib.hid (keepAl (o' := .cells (wcells T) 31) Ga.out)
  replace Gb := Lib.hid (keepAl (o' := .cells (wcells T) 31) Gb.out)
  have Gs := Lib.hid (alloc_new (w1) (.cells (wcells T) 31))
  replace HB := Lib.hid (below_al HB.out (.cells (wcells T) 31))
  have cGa := cell_row Ga.out
  have cGb := cell_row Gb.out
  have cGs := cell_row Gs.out
  go_wp2_with fail
  refine (S2.out _).mono ?_
  rintro e w2 ⟨rfl, hb⟩
  clear cGa cGb cGs
  replace HB := Lib.hid (below_then HB.out hb)
  replace Ga := Lib.hid ((hb.block _ (lt_of_heap Ga.out)).trans Ga.out)
  replace Gb := Lib.hid ((hb.block _ (lt_of_heap Gb.out)).trans Gb.out)
  replace Gs := Lib.hid ((hb.block _ (lt_of_heap Gs.out)).trans Gs.out)
  clear hb
  replace Ga := Lib.hid (keepAl (o' := .cells (wcells a) 31) Ga.out)
  replace Gb := Lib.hid (keepAl (o' := .cells (wcells a) 31) Gb.out)
  replace Gs := Lib.hid (keepAl (o' := .cells (wcells a) 31) Gs.out)
  have Gk := Lib.hid (alloc_new (w2) (.cells (wcells a) 31))
  replace HB := Lib.hid (below_al HB.out (.cells (wcells a) 31))
  have cGa := cell_row Ga.out
  have cGb := cell_row Gb.out
  have cGk := cell_row Gk.out
  go_wp2_with fail
  refine (S3.out _).mono ?_
  rintro e w3 ⟨rfl, hb⟩
  clear cGa cGb cGk
  replace HB := Lib.hid (below_then HB.out hb)
  replace Ga := Lib.hid ((hb.block _ (lt_of_heap Ga.out)).trans Ga.out)
  replace Gb := Lib.hid ((hb.block _ (lt_of_heap Gb.out)).trans Gb.out)
  replace Gk := Lib.hid ((hb.block _ (lt_of_heap Gk.out)).trans Gk.out)
  clear hb
  replace Ga := Lib.hid (keepAl (o' := .cells (wcells U) 31) Ga.out)
  replace Gb := Lib.hid (keepAl (o' := .cells (wcells U) 31) Gb.out)
  have Gu := Lib.hid (alloc_new (w3) (.cells (wcells U) 31))
  replace HB := Lib.hid (below_al HB.out (.cells (wcells U) 31))
  have cGa := cell_row Ga.out
  have cGb := cell_row Gb.out
  have cGu := cell_row Gu.out
  go_wp2_with fail
  refine (S4.out _).mono ?_
  rintro e w4 ⟨rfl, hb⟩
  clear cGa cGb cGu
  replace HB := Lib.hid (below_then HB.out hb)
  replace Ga := Lib.hid ((hb.block _ (lt_of_heap Ga.out)).trans Ga.out)
  replace Gb := Lib.hid ((hb.block _ (lt_of_heap Gb.out)).trans Gb.out)
  replace Gu := Lib.hid ((hb.block _ (lt_of_heap Gu.out)).trans Gu.out)
  clear hb
  replace Ga := Lib.hid (keepAl (o' := .cells (wcells D) 31) Ga.out)
  replace Gb := Lib.hid (keepAl (o' := .cells (wcells D) 31) Gb.out)
  have Gd := Lib.hid (alloc_new (w4) (.cells (wcells D) 31))
  replace HB := Lib.hid (below_al HB.out (.cells (wcells D) 31))
  have cGa := cell_row Ga.out
  have cGb := cell_row Gb.out
  have cGd := cell_row Gd.out
  go_wp2_with fail
  refine (S5.out _).mono ?_
  rintro e w5 ⟨rfl, hb⟩
  clear cGa cGb cGd
  replace HB := Lib.hid (below_then HB.out hb)
  replace Ga := Lib.hid ((hb.block _ (lt_of_heap Ga.out)).trans Ga.out)
  replace Gb := Lib.hid ((hb.block _ (lt_of_heap Gb.out)).trans Gb.out)
  replace Gd := Lib.hid ((hb.block _ (lt_of_heap Gd.out)).trans Gd.out)
  clear hb
  by_cases hle : LA + k ≤ 512
  · have hDa := HBK.out (by omega)
    subst hDa
    have hle' : (LA : Int) + k ≤ 512 := by omega
    have cGa := cell_row Ga.out
    have cGb := cell_row Gb.out
    have cGd := cell_row Gd.out
    go_upto_region 10 with fail
    clear cGa cGb cGd
    have xGa := ext_row (B := w5.heap.size) Ga.out (lt_of_heap Ga.out)
    have xGb := ext_row (B := w5.heap.size) Gb.out (lt_of_heap Gb.out)
    have xGd := ext_row (B := w5.heap.size) Gd.out (lt_of_heap Gd.out)
    refine wp_region_ext w5.heap.size (by kernel_rfl) (by kernel_rfl) ?_
    repeat (go_big_quiet_step (first | (go_at_call 56; with_reducible exact Calls.quiet_ext (Nat.le_refl _) (S6.out _)) | (go_at_call 56; with_reducible exact Calls.quiet_ext (Nat.le_refl _) (S7.out _)) | (go_at_call 65; with_reducible exact Calls.quiet_ext (Nat.le_refl _) (S8.out _)) | (go_at_call 54; with_reducible exact Calls.quiet_ext (Nat.le_refl _) (S9.out _)) | (go_at_call 54; with_reducible exact Calls.quiet_ext (Nat.le_refl _) (S10.out _)) | (go_at_call 77; with_reducible exact Calls.quiet_ext (Nat.le_refl _) (S11.out _)) | (go_at_call 77; with_reducible exact Calls.quiet_ext (Nat.le_refl _) (S12.out _)) | (go_at_call 40; with_reducible exact Calls.quiet_ext (Nat.le_refl _) (SA.out _))))
    refine wpQuiet_nil ?_
    intro w6 hb
    clear xGa xGb xGd
    replace HB := Lib.hid (below_then HB.out hb)
    replace Ga := Lib.hid ((hb.block _ (lt_of_heap Ga.out)).trans Ga.out)
    replace Gb := Lib.hid ((hb.block _ (lt_of_heap Gb.out)).trans Gb.out)
    replace Gd := Lib.hid ((hb.block _ (lt_of_heap Gd.out)).trans Gd.out)
    clear hb
    go_wp2
    go_ret
    exact ⟨rfl, HB.out⟩
  · have hle' : ¬ (LA : Int) + k ≤ 512 := by omega
    have cGa := cell_row Ga.out
    have cGb := cell_row Gb.out
    have cGd := cell_row Gd.out
    go_upto_region 10 with fail
    clear cGa cGb cGd
    have xGa := ext_row (B := w5.heap.size) Ga.out (lt_of_heap Ga.out)
    have xGb := ext_row (B := w5.heap.size) Gb.out (lt_of_heap Gb.out)
    have xGd := ext_row (B := w5.heap.size) Gd.out (lt_of_heap Gd.out)
    refine wp_region_ext w5.heap.size (by kernel_rfl) (by kernel_rfl) ?_
    repeat (go_big_quiet_step (first | (go_at_call 56; with_reducible exact Calls.quiet_ext (Nat.le_refl _) (S6.out _)) | (go_at_call 56; with_reducible exact Calls.quiet_ext (Nat.le_refl _) (S7.out _)) | (go_at_call 65; with_reducible exact Calls.quiet_ext (Nat.le_refl _) (S8.out _)) | (go_at_call 54; with_reducible exact Calls.quiet_ext (Nat.le_refl _) (S9.out _)) | (go_at_call 54; with_reducible exact Calls.quiet_ext (Nat.le_refl _) (S10.out _)) | (go_at_call 77; with_reducible exact Calls.quiet_ext (Nat.le_refl _) (S11.out _)) | (go_at_call 77; with_reducible exact Calls.quiet_ext (Nat.le_refl _) (S12.out _)) | (go_at_call 40; with_reducible exact Calls.quiet_ext (Nat.le_refl _) (SA.out _))))
    refine wpQuiet_nil ?_
    intro w7 hb
    clear xGa xGb xGd
    replace HB := Lib.hid (below_then HB.out hb)
    replace Ga := Lib.hid ((hb.block _ (lt_of_heap Ga.out)).trans Ga.out)
    replace Gb := Lib.hid ((hb.block _ (lt_of_heap Gb.out)).trans Gb.out)
    replace Gd := Lib.hid ((hb.block _ (lt_of_heap Gd.out)).trans Gd.out)
    clear hb
    go_wp2
    go_ret
    exact ⟨rfl, HB.out⟩
end Go.Proofs.Ytbjofgoimkmbfaa
