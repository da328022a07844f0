/- SEVERAL TEXTS of the seat, one behind the other: each says at its head what it proves. -/
import Derived.Test.YtegmmaaapdgocaaGreatK11
import Derived.Test.YtegmmaaapdgocaaGreatK6
import Derived.Test.YtegmmaaapdgocaaGreatK13
import Derived.Test.YtegmmaaapdgocaaGreatRefW4
/- PLAIN ARITHMETIC: division, one binary digit at a time; the greatest number that isn't too great, found digit by digit. No program stands in this text. -/
namespace Go.Proofs.YtegmmaaapdgocaaGreat
open Go Go.RowKit

/-- What is left behind i of 128 steps; the digit that comes next; the quotient so far. -/
def lftN (n d i : Nat) : Nat := n % (d * P2 (128 - i))
def digN (n d i : Nat) : Nat := n / (d * P2 (127 - i)) % 2
def quoN (n d i : Nat) : Nat := n / d / P2 (128 - i)
theorem P2_twice (k : Nat) : P2 (k + 1) = P2 k * 2 := by rw [P2_add, P2_1]
theorem lft_start {n d : Nat} (h : n < d * P2 128) : lftN n d 0 = n := Nat.mod_eq_of_lt h
theorem lft_lt (n d i : Nat) (hd : 0 < d) : lftN n d i < d * P2 (128 - i) := Nat.mod_lt _ (Nat.mul_pos hd (P2_pos _))
theorem lft_step (n d i : Nat) (hd : 0 < d) (hi : i < 128) :
    lftN n d (i + 1) = (if d * P2 (127 - i) ≤ lftN n d i then lftN n d i - d * P2 (127 - i) else lftN n d i) ∧ digN n d i = (if d * P2 (127 - i) ≤ lftN n d i then 1 else 0) := by
  have hP : 0 < d * P2 (127 - i) := Nat.mul_pos hd (P2_pos _)
  have e : d * P2 (128 - i) = d * P2 (127 - i) * 2 := by rw [show 128 - i = (127 - i) + 1 by omega, P2_twice, Nat.mul_assoc]
  have hl := lft_lt n d i hd
  unfold lftN digN at *
  rw [show 128 - (i + 1) = 127 - i by omega]
  rw [e] at hl ⊢
  generalize d * P2 (127 - i) = P at *
  have h1 : n % P = n % (P * 2) % P := (Nat.mod_mul_right_mod n P 2).symm
  have h2 : n / P % 2 = n % (P * 2) / P := (Nat.mod_mul_right_div_self n P 2).symm
  rw [h1, h2]
  generalize n % (P * 2) = r at *
  split
  · rename_i h
    refine ⟨?_, ?_⟩
    · rw [Nat.mod_eq_sub_mod h, Nat.mod_eq_of_lt (by omega)]
    · exact Nat.div_eq_of_lt_le (k := 1) (by omega) (by omega)
  · rename_i h
    exact ⟨Nat.mod_eq_of_lt (by omega), Nat.div_eq_of_lt (by omega)⟩
theorem dig_le1 (n d i : Nat) : digN n d i ≤ 1 := by unfold digN; omega
theorem quo_step (n d i : Nat) (hi : i < 128) : quoN n d (i + 1) = quoN n d i + quoN n d i + digN n d i := by
  unfold quoN digN
  rw [show 128 - (i + 1) = 127 - i by omega, ← Nat.div_div_eq_div_mul, show 128 - i = (127 - i) + 1 by omega, P2_twice, ← Nat.div_div_eq_div_mul]
  omega
theorem quo_start {n d : Nat} (h : n < d * P2 128) : quoN n d 0 = 0 := by
  unfold quoN
  rw [Nat.div_div_eq_div_mul]
  exact Nat.div_eq_of_lt h
theorem quo_end (n d : Nat) : quoN n d 128 = n / d := by unfold quoN; rw [show 128 - 128 = 0 from rfl, P2_0, Nat.div_one]
theorem lft_end (n d : Nat) : lftN n d 128 = n % d := by unfold lftN; rw [show 128 - 128 = 0 from rfl, P2_0, Nat.mul_one]
theorem quo_lt {n d : Nat} (hd : 0 < d) (h : n < d * P2 128) : n / d < P2 128 := by
  rw [Nat.div_lt_iff_lt_mul hd, Nat.mul_comm]; exact h
theorem dig_bitQ (n d i : Nat) : digN n d i = (n / d / P2 (127 - i)) % 2 := by unfold digN; rw [Nat.div_div_eq_div_mul]
/-- The lowest i digits of a number are noughts: one digit further. -/
theorem greedy (Q i : Nat) : Q / P2 i * P2 i = (if Q / P2 (i + 1) * P2 (i + 1) + P2 i ≤ Q then Q / P2 (i + 1) * P2 (i + 1) + P2 i else Q / P2 (i + 1) * P2 (i + 1)) := by
  have h := Nat.div_add_mod Q (P2 i)
  have hr := Nat.mod_lt Q (P2_pos i)
  have e : Q / P2 (i + 1) = Q / P2 i / 2 := by rw [P2_twice, Nat.div_div_eq_div_mul]
  rw [e, P2_twice]
  have hb := Nat.div_add_mod (Q / P2 i) 2
  have hb2 := Nat.mod_lt (Q / P2 i) (show 0 < 2 by decide)
  generalize Q / P2 i = Y at *
  generalize Q % P2 i = r at *
  generalize P2 i = X at *
  generalize Y / 2 = Z at *
  have h3 : Z * (X * 2) = 2 * (X * Z) := by rw [Nat.mul_comm Z, Nat.mul_assoc, Nat.mul_comm X, Nat.mul_assoc, Nat.mul_comm Z]
  have h5 : Y * X = X * Y := Nat.mul_comm _ _
  rcases (show Y % 2 = 0 ∨ Y % 2 = 1 by omega) with h4 | h4
  · have hY : Y = 2 * Z := by omega
    have h6 : X * Y = 2 * (X * Z) := by rw [hY, Nat.mul_left_comm]
    rw [if_neg (by omega)]
    omega
  · have hY : Y = 2 * Z + 1 := by omega
    have h6 : X * Y = 2 * (X * Z) + X := by rw [hY, Nat.mul_add, Nat.mul_one, Nat.mul_left_comm]
    rw [if_pos (by omega)]
    omega
/-- Why two can't be divided: an error's number. -/
def mayN (n d : Nat) : Int := if d = 0 then 5 else if 120 < blen d ∨ d * P2 128 ≤ n then 4 else 0
theorem may_zero {n : Nat} : mayN n 0 = 5 := if_pos rfl
theorem may_ok {n d : Nat} (h : mayN n d = 0) : 0 < d ∧ d < P2 120 ∧ n < d * P2 128 := by
  unfold mayN at h
  split at h
  · cases h
  · split at h
    · cases h
    · rename_i h1 h2
      have : blen d ≤ 120 := by omega
      exact ⟨by omega, lt_of_blen this, by omega⟩
end Go.Proofs.YtegmmaaapdgocaaGreat

/- THE WALKS of package radix2, and of its reference: whether two can be divided. -/
namespace Go.Proofs.YtegmmaaapdgocaaGreat
open Go Go.RowKit

theorem shl_small {d c e : Nat} (h : d < P2 e) (hc : e + c ≤ 512) : d * P2 c % M = d * P2 c := by
  refine Nat.mod_eq_of_lt ?_
  have := Nat.mul_lt_mul_of_pos_right h (P2_pos c)
  rw [← P2_add] at this
  rw [M_eq]
  exact Nat.lt_of_lt_of_le this (P2_le hc)


attribute [local go_sem ↓] Go.wp_at_zero Go.wp_at_succ
set_option maxHeartbeats 2000000 in
theorem may_w (n d : Nat) (hn : n < M) (hd : d < M) (w : World) :
    Calls Tryz.prog 81 #[wv n, wv d] w fun e w' => e = .returned (.int .i64 (mayN n d)) ∧ Below w.heap.size w w' := by
  by_cases h0 : d = 0
  · have hdmh := isZ_yes h0
    have HDM := Lib.hid hdmh
    have HV := Lib.hid (show mayN n d = 5 by rw [h0, may_zero])
    clear hn hd h0 hdmh
    go_enter Tryz.func81, Tryz.ntmps81
    have HB := Lib.hid (Below.refl w.heap.size w)
    have Gn := Lib.hid (alloc_new (w) (.cells (wcells n) 24))
    replace HB := Lib.hid (below_al HB.out (.cells (wcells n) 24))
    replace Gn := Lib.hid (keepAl (o' := .cells (wcells d) 24) Gn.out)
    have Gd := Lib.hid (alloc_new' (w := (w).alloc (.cells (wcells n) 24)) (n := w.heap.size + 1) (.cells (wcells d) 24) (by simp))
    replace HB := Lib.hid (below_al HB.out (.cells (wcells d) 24))
    go_upto_region 1 with fail
    obtain ⟨wL, hw⟩ : ∃ wx, wx = ((w).alloc (.cells (wcells n) 24)).alloc (.cells (wcells d) 24) := ⟨_, rfl⟩
    rw [← hw] at Gn Gd HB ⊢
    clear hw
    have cGn := cell_row Gn.out
    have cGd := cell_row Gd.out
    have hdm := HDM.out
    go_wp2
    go_ret
    exact ⟨ret_i64 HV.out.symm, HB.out⟩
  · have hdm := isZ_no hd h0
    have S1 := Lib.hid (fun w' => len_w d hd w')
    by_cases h1 : 120 < blen d
    · have HV := Lib.hid (show mayN n d = 4 by unfold mayN; rw [if_neg h0, if_pos (Or.inl h1)])
      have h1' : (120 : Int) < (blen d : Nat) := by omega
      obtain ⟨l, hl⟩ : ∃ l, l = blen d := ⟨_, rfl⟩
      rw [← hl] at S1 h1'
      clear hn hd hl h0 h1
      go_enter Tryz.func81, Tryz.ntmps81
      have HB := Lib.hid (Below.refl w.heap.size w)
      have Gn := Lib.hid (alloc_new (w) (.cells (wcells n) 24))
      replace HB := Lib.hid (below_al HB.out (.cells (wcells n) 24))
      replace Gn := Lib.hid (keepAl (o' := .cells (wcells d) 24) Gn.out)
      have Gd := Lib.hid (alloc_new' (w := (w).alloc (.cells (wcells n) 24)) (n := w.heap.size + 1) (.cells (wcells d) 24) (by simp))
      replace HB := Lib.hid (below_al HB.out (.cells (wcells d) 24))
      go_upto_region 1 with fail
      obtain ⟨wL, hw⟩ : ∃ wx, wx = ((w).alloc (.cells (wcells n) 24)).alloc (.cells (wcells d) 24) := ⟨_, rfl⟩
      rw [← hw] at Gn Gd HB ⊢
      clear hw
      have cGn := cell_row Gn.out
      have cGd := cell_row Gd.out
      go_upto_region 3 with fail
      clear cGn cGd
      have xGn := ext_row (B := wL.heap.size) Gn.out (lt_of_heap Gn.out)
      have xGd := ext_row (B := wL.heap.size) Gd.out (lt_of_heap Gd.out)
      refine wp_region_ext wL.heap.size (by kernel_rfl) (by kernel_rfl) ?_
      repeat (go_big_quiet_step (first | (go_at_call 76; with_reducible exact Calls.quiet_ext (Nat.le_refl _) (S1.out _))))
      refine wpQuiet_nil ?_
      intro w1 hb
      clear xGn xGd
      replace HB := Lib.hid (below_then HB.out hb)
      replace Gn := Lib.hid ((hb.block _ (lt_of_heap Gn.out)).trans Gn.out)
      replace Gd := Lib.hid ((hb.block _ (lt_of_heap Gd.out)).trans Gd.out)
      clear hb
      go_wp2
      go_ret
      exact ⟨ret_i64 HV.out.symm, HB.out⟩
    · have hlt := lt_of_blen (show blen d ≤ 120 by omega)
      have S2 := Lib.hid (fun w' => shl_any d (128 : Nat) w' (by omega) (by omega))
      rw [clampN_at (by omega), shl_small hlt (by omega)] at S2
      have hdM : d * P2 128 < M := by rw [← shl_small (c := 128) hlt (by omega)]; exact Nat.mod_lt _ M_pos
      have S3 := Lib.hid (fun w' => cmp_w n (d * P2 128) hn hdM w')
      have h1' : ¬ (120 : Int) < (blen d : Nat) := by omega
      have HV := Lib.hid (show mayN n d = if 0 ≤ cmpN n (d * P2 128) then 4 else 0 by
        unfold mayN
        rw [if_neg h0]
        have := cmp_ge n (d * P2 128)
        by_cases h : d * P2 128 ≤ n
        · rw [if_pos (Or.inr h), if_pos (by simpa [h] using this)]
        · rw [if_neg (by omega), if_neg (by simpa [h] using this)])
      obtain ⟨l, hl⟩ : ∃ l, l = blen d := ⟨_, rfl⟩
      rw [← hl] at S1 h1'
      obtain ⟨D, hD⟩ : ∃ l, l = d * P2 128 := ⟨_, rfl⟩
      rw [← hD] at S2 S3 HV
      obtain ⟨C, hC⟩ : ∃ l, l = cmpN n D := ⟨_, rfl⟩
      rw [← hC] at S3 HV
      clear hn hd hl h0 h1 hlt hdM hD hC
      by_cases hc : 0 ≤ C
      · rw [if_pos hc] at HV
        go_enter Tryz.func81, Tryz.ntmps81
        have HB := Lib.hid (Below.refl w.heap.size w)
        have Gn := Lib.hid (alloc_new (w) (.cells (wcells n) 24))
        replace HB := Lib.hid (below_al HB.out (.cells (wcells n) 24))
        replace Gn := Lib.hid (keepAl (o' := .cells (wcells d) 24) Gn.out)
        have Gd := Lib.hid (alloc_new' (w := (w).alloc (.cells (wcells n) 24)) (n := w.heap.size + 1) (.cells (wcells d) 24) (by simp))
        replace HB := Lib.hid (below_al HB.out (.cells (wcells d) 24))
        go_upto_region 1 with fail
        obtain ⟨wL, hw⟩ : ∃ wx, wx = ((w).alloc (.cells (wcells n) 24)).alloc (.cells (wcells d) 24) := ⟨_, rfl⟩
        rw [← hw] at Gn Gd HB ⊢
        clear hw
        have cGn := cell_row Gn.out
        have cGd := cell_row Gd.out
        go_upto_region 3 with fail
        clear cGn cGd
        have xGn := ext_row (B := wL.heap.size) Gn.out (lt_of_heap Gn.out)
        have xGd := ext_row (B := wL.heap.size) Gd.out (lt_of_heap Gd.out)
        refine wp_region_ext wL.heap.size (by kernel_rfl) (by kernel_rfl) ?_
        repeat (go_big_quiet_step (first | (go_at_call 76; with_reducible exact Calls.quiet_ext (Nat.le_refl _) (S1.out _)) | (go_at_call 86; with_reducible exact Calls.quiet_ext (Nat.le_refl _) (S2.out _)) | (go_at_call 90; with_reducible exact Calls.quiet_ext (Nat.le_refl _) (S3.out _))))
        refine wpQuiet_nil ?_
        intro w2 hb
        clear xGn xGd
        replace HB := Lib.hid (below_then HB.out hb)
        replace Gn := Lib.hid ((hb.block _ (lt_of_heap Gn.out)).trans Gn.out)
        replace Gd := Lib.hid ((hb.block _ (lt_of_heap Gd.out)).trans Gd.out)
        clear hb
        go_wp2
        go_ret
        exact ⟨ret_i64 HV.out.symm, HB.out⟩
      · rw [if_neg hc] at HV
        go_enter Tryz.func81, Tryz.ntmps81
        have HB := Lib.hid (Below.refl w.heap.size w)
        have Gn := Lib.hid (alloc_new (w) (.cells (wcells n) 24))
        replace HB := Lib.hid (below_al HB.out (.cells (wcells n) 24))
        replace Gn := Lib.hid (keepAl (o' := .cells (wcells d) 24) Gn.out)
        have Gd := Lib.hid (alloc_new' (w := (w).alloc (.cells (wcells n) 24)) (n := w.heap.size + 1) (.cells (wcells d) 24) (by simp))
        replace HB := Lib.hid (below_al HB.out (.cells (wcells d) 24))
        go_upto_region 1 with fail
        obtain ⟨wL, hw⟩ : ∃ wx, wx = ((w).alloc (.cells (wcells n) 24)).alloc (.cells (wcells d) 24) := ⟨_, rfl⟩
        rw [← hw] at Gn Gd HB ⊢
        clear hw
        have cGn := cell_row Gn.out
        have cGd := cell_row Gd.out
        go_upto_region 3 with fail
        clear cGn cGd
        have xGn := ext_row (B := wL.heap.size) Gn.out (lt_of_heap Gn.out)
        have xGd := ext_row (B := wL.heap.size) Gd.out (lt_of_heap Gd.out)
        refine wp_region_ext wL.heap.size (by kernel_rfl) (by kernel_rfl) ?_
        repeat (go_big_quiet_step (first | (go_at_call 76; with_reducible exact Calls.quiet_ext (Nat.le_refl _) (S1.out _)) | (go_at_call 86; with_reducible exact Calls.quiet_ext (Nat.le_refl _) (S2.out _)) | (go_at_call 90; with_reducible exact Calls.quiet_ext (Nat.le_refl _) (S3.out _))))
        refine wpQuiet_nil ?_
        intro w3 hb
        clear xGn xGd
        replace HB := Lib.hid (below_then HB.out hb)
        replace Gn := Lib.hid ((hb.block _ (lt_of_heap Gn.out)).trans Gn.out)
        replace Gd := Lib.hid ((hb.block _ (lt_of_heap Gd.out)).trans Gd.out)
        clear hb
        go_wp2
        go_ret
        exact ⟨ret_i64 HV.out.symm, HB.out⟩
end Go.Proofs.YtegmmaaapdgocaaGreat
