/- THE WALKS of package table's rows by a divisor, and of the law on them. -/
import Derived.Test.YtffengboblekpaaDoorK18
import Derived.Test.YtffengboblekpaaDoorK6
import Derived.Test.YtffengboblekpaaDoorRefW4
namespace Go.Proofs.YtffengboblekpaaDoor
open Go Go.RowKit

theorem P2_cut (a b c : Nat) (h : a = b + c) : P2 a = P2 b * P2 c := by rw [h, P2_add]

/-- A divisor's row: its four highest digits. -/
def rowT (d : Nat) : Nat := d * 16 / P2 (blen d)
theorem rowT_eq {d : Nat} (hd : d < M) (h0 : d ≠ 0) : d * P2 (512 - blen d) % M / P2 508 = rowT d ∧ 8 ≤ rowT d ∧ rowT d ≤ 15 := by
  have hl : blen d ≤ 512 := blen_le_of (by rw [← M_eq]; exact hd)
  have h1 := blen_lt d
  have h2 := blen_le h0
  have hp := blen_pos h0
  have h16 : P2 4 = 16 := by rw [P2_eq]
  have hlt : d * P2 (512 - blen d) < M := by
    have := Nat.mul_lt_mul_of_pos_right h1 (P2_pos (512 - blen d))
    rw [← P2_add, show blen d + (512 - blen d) = 512 by omega, ← M_eq] at this
    exact this
  rw [Nat.mod_eq_of_lt hlt]
  have key : d * P2 (512 - blen d) / P2 508 = rowT d := by
    unfold rowT
    rcases Nat.le_total (blen d) 508 with h | h
    · rw [show 512 - blen d = 4 + (508 - blen d) by omega, P2_add, h16, ← Nat.mul_assoc, show P2 508 = P2 (blen d) * P2 (508 - blen d) by rw [← P2_add]; congr 1; omega]
      exact Nat.mul_div_mul_right _ _ (P2_pos _)
    · have e1 := P2_cut (blen d) 508 (blen d - 508) (by omega)
      have e2 := P2_cut 4 (512 - blen d) (blen d - 508) (by omega)
      rw [e1, ← h16, e2, ← Nat.mul_assoc]
      exact (Nat.mul_div_mul_right _ _ (P2_pos _)).symm
  refine ⟨key, ?_, ?_⟩
  · unfold rowT
    rw [Nat.le_div_iff_mul_le (P2_pos _)]
    have : P2 (blen d) = P2 (blen d - 1) * 2 := by
      have := P2_add (blen d - 1) 1
      rw [show blen d - 1 + 1 = blen d by omega, P2_1] at this
      exact this
    omega
  · unfold rowT
    have : d * 16 / P2 (blen d) < 16 := by
      rw [Nat.div_lt_iff_lt_mul (P2_pos _)]
      omega
    omega

attribute [local go_sem ↓] Go.wp_at_zero Go.wp_at_succ
set_option maxRecDepth 100000 in
set_option maxHeartbeats 2000000 in
theorem row_no (w : World) : Calls Tryd.prog 9 #[wv 0] w fun e w' => e = .returned (.tuple #[.int .i64 0, .bool false]) ∧ Below w.heap.size w w' := by
  have S1 := Lib.hid (fun w' => len_w 0 M_pos w')
  rw [blen_zero] at S1
  go_enter Tryd.func9, Tryd.ntmps9
  have HB := Lib.hid (Below.refl w.heap.size w)
  have Gd := Lib.hid (alloc_new (w) (.cells (wcells 0) 24))
  replace HB := Lib.hid (below_al HB.out (.cells (wcells 0) 24))
  have cGd := cell_row Gd.out
  go_wp2_with fail
  refine (S1.out _).mono ?_
  rintro e w1 ⟨rfl, hb⟩
  clear cGd
  replace HB := Lib.hid (below_then HB.out hb)
  replace Gd := Lib.hid ((hb.block _ (lt_of_heap Gd.out)).trans Gd.out)
  clear hb
  have cGd := cell_row Gd.out
  go_wp2
  exact bodyPost_ret (v := .tuple #[.int .i64 0, .bool false]) (by simp [results, Tryd.results9, go_sem]) rfl ⟨rfl, HB.out⟩
set_option maxRecDepth 100000 in
set_option maxHeartbeats 2000000 in
theorem row_yes (d : Nat) (hd : d < M) (h0 : d ≠ 0) (w : World) : Calls Tryd.prog 9 #[wv d] w fun e w' => e = .returned (.tuple #[.int .i64 (rowT d : Nat), .bool true]) ∧ Below w.heap.size w w' := by
  have hl : blen d ≤ 512 := blen_le_of (by rw [← M_eq]; exact hd)
  obtain ⟨k1, k2, k3⟩ := rowT_eq hd h0
  have hz : (((blen d : Nat) : Int) == 0) = false := by rw [blen_zero_iff]; exact decide_eq_false h0
  have S1 := Lib.hid (fun w' => len_w d hd w')
  have S2 : Hid (∀ w' : World, Calls Tryd.prog 40 #[wv d, .int .i64 (512 - ((blen d : Nat) : Int))] w' fun e w'' => e = .returned (wv (d * P2 (512 - blen d) % M)) ∧ Below w'.heap.size w' w'') := Lib.hid fun w' => by
    rw [show 512 - ((blen d : Nat) : Int) = ((512 - blen d : Nat) : Int) by omega]
    have := shl_any d ((512 - blen d : Nat) : Int) w' (by omega) (by omega)
    rwa [clampN_at (by omega)] at this
  have hXM : d * P2 (512 - blen d) % M < M := Nat.mod_lt _ M_pos
  have S3 : Hid (∀ w' : World, Calls Tryd.prog 39 #[wv (d * P2 (512 - blen d) % M), .int .i64 508] w' fun e w'' => e = .returned (.tuple #[wv (rowT d), .bool (decide (d * P2 (512 - blen d) % M % P2 508 ≠ 0))]) ∧ Below w'.heap.size w' w'') := Lib.hid fun w' => by
    have := shr_any (d * P2 (512 - blen d) % M) hXM (508 : Nat) w' (by omega) (by omega)
    rw [clampN_at (by omega), k1] at this
    exact this
  obtain ⟨l, hle⟩ : ∃ l, l = blen d := ⟨_, rfl⟩
  rw [← hle] at S1 S2 S3 hz hl
  obtain ⟨X, hX⟩ : ∃ X, X = d * P2 (512 - l) % M := ⟨_, rfl⟩
  rw [← hX] at S2 S3
  obtain ⟨f, hf⟩ : ∃ f, f = decide (X % P2 508 ≠ 0) := ⟨_, rfl⟩
  rw [← hf] at S3
  obtain ⟨r, hr⟩ : ∃ r, r = rowT d := ⟨_, rfl⟩
  rw [← hr] at S3 k2 k3 ⊢
  have hs : IntKind.i64.wrap (512 - (l : Int)) = 512 - (l : Int) := IntWalk.i64_in _ (by omega)
  have hr0 : limb r 0 = r := by
    unfold limb
    rw [show 64 * 0 = 0 from rfl, P2_0, Nat.div_one, Nat.mod_eq_of_lt (by rw [P2_64]; omega)]
  have hc : IntKind.i64.wrap ((r : Nat) : Int) = (r : Int) := IntWalk.i64_in _ (by omega)
  clear hd h0 hXM k1 k2 k3 hle hX hf hr hl
  go_enter Tryd.func9, Tryd.ntmps9
  have HB := Lib.hid (Below.refl w.heap.size w)
  have Gd := Lib.hid (alloc_new (w) (.cells (wcells d) 24))
  replace HB := Lib.hid (below_al HB.out (.cells (wcells d) 24))
  have cGd := cell_row Gd.out
  go_wp2_with fail
  refine (S1.out _).mono ?_
  rintro e w2 ⟨rfl, hb⟩
  clear cGd
  replace HB := Lib.hid (below_then HB.out hb)
  replace Gd := Lib.hid ((hb.block _ (lt_of_heap Gd.out)).trans Gd.out)
  clear hb
  have cGd := cell_row Gd.out
  go_wp2_with fail
  refine (S2.out _).mono ?_
  rintro e w3 ⟨rfl, hb⟩
  clear cGd
  replace HB := Lib.hid (below_then HB.out hb)
  replace Gd := Lib.hid ((hb.block _ (lt_of_heap Gd.out)).trans Gd.out)
  clear hb
  have cGd := cell_row Gd.out
  go_wp2_with fail
  refine (S3.out _).mono ?_
  rintro e w4 ⟨rfl, hb⟩
  clear cGd
  replace HB := Lib.hid (below_then HB.out hb)
  replace Gd := Lib.hid ((hb.block _ (lt_of_heap Gd.out)).trans Gd.out)
  clear hb
  replace Gd := Lib.hid (keepAl (o' := .cells (wcells r) 24) Gd.out)
  have Gh := Lib.hid (alloc_new (w4) (.cells (wcells r) 24))
  replace HB := Lib.hid (below_al HB.out (.cells (wcells r) 24))
  have cGd := cell_row Gd.out
  have cGh := cell_row Gh.out
  go_wp2
  exact bodyPost_ret (v := .tuple #[.int .i64 (r : Nat), .bool true]) (by simp [results, Tryd.results9, go_sem]) rfl ⟨rfl, HB.out⟩

set_option maxRecDepth 100000 in
set_option maxHeartbeats 2000000 in
theorem tableRows_any (d : Nat) (w : World) (hd : d < M) (hl : Laid w) :
    Calls Tryd.prog 3 #[wv d] w fun e w' => e = .returned (.bool true) ∧ Below w.heap.size w w' := by
  have SA := Lib.hid (fun w' hl' => tabAwake_any w' hl')
  have HL := Lib.hid hl
  have HLT := Lib.hid hl.lt
  have S2 := Lib.hid (fun w' => big_any d hd w')
  have S3 := Lib.hid (fun v w' h => rlen_any v d w' (small_M hd) h)
  by_cases h0 : d = 0
  · subst h0
    have S1 := Lib.hid (fun w' => row_no w')
    rw [blen_zero] at S3
    clear hd hl
    go_enter Tryd.func3, Tryd.ntmps3
    have HB := Lib.hid (Below.refl w.heap.size w)
    have Gd := Lib.hid (alloc_new (w) (.cells (wcells 0) 24))
    replace HB := Lib.hid (below_al HB.out (.cells (wcells 0) 24))
    have cGd := cell_row Gd.out
    go_wp2_with fail
    refine (S1.out _).mono ?_
    rintro e w5 ⟨rfl, hb⟩
    clear cGd
    replace HB := Lib.hid (below_then HB.out hb)
    replace Gd := Lib.hid ((hb.block _ (lt_of_heap Gd.out)).trans Gd.out)
    clear hb
    have cGd := cell_row Gd.out
    go_wp2_with fail
    refine (S2.out _).mono ?_
    rintro e w6 ⟨rb, rfl, hr, hb⟩
    clear cGd
    replace HB := Lib.hid (below_then HB.out hb)
    replace Gd := Lib.hid ((hb.block _ (lt_of_heap Gd.out)).trans Gd.out)
    have Rb := Lib.hid hr
    clear hr hb
    have cGd := cell_row Gd.out
    go_wp2_with fail
    refine (S3.out _ _ Rb.out).mono ?_
    rintro e w7 ⟨rfl, hb⟩
    clear cGd
    replace HB := Lib.hid (below_then HB.out hb)
    replace Gd := Lib.hid ((hb.block _ (lt_of_heap Gd.out)).trans Gd.out)
    replace Rb := Lib.hid (Rb.out.below hb)
    clear hb
    have cGd := cell_row Gd.out
    go_wp2_with fail
    refine (SA.out _ (HL.out.below HB.out HLT.out)).mono ?_
    rintro e w8 ⟨rfl, hb⟩
    clear cGd
    replace HB := Lib.hid (below_then HB.out hb)
    replace Gd := Lib.hid ((hb.block _ (lt_of_heap Gd.out)).trans Gd.out)
    replace Rb := Lib.hid (Rb.out.below hb)
    clear hb
    have cGd := cell_row Gd.out
    go_wp2
    go_ret
    exact ⟨rfl, HB.out⟩
  · have S1 := Lib.hid (fun w' => row_yes d hd h0 w')
    obtain ⟨_, k2, k3⟩ := rowT_eq hd h0
    have hbl : blen d ≤ 512 := blen_le_of (by rw [← M_eq]; exact hd)
    have hz : (((blen d : Nat) : Int) == 0) = false := by rw [blen_zero_iff]; exact decide_eq_false h0
    have h16 : P2 4 = 16 := by rw [P2_eq]
    have hsh : d * P2 4 < BIG := by
      have h1 := Nat.mul_lt_mul_of_pos_right hd (P2_pos 4)
      rw [M_eq, ← P2_add] at h1
      exact small_of h1 (by omega)
    have S4 : Hid (∀ (v : Value) (w' : World), IsBig w' v d → Calls Tryd.prog 14 #[v, .int .i64 4] w' (GivesBig (d * P2 4) w')) := Lib.hid fun v w' h => rshl_any v d 4 w' (small_M hd) (by omega) h
    have S5 := Lib.hid (fun v w' h => rshr_any v (d * P2 4) (blen d) w' hsh (by omega) h)
    rw [show d * P2 4 / P2 (blen d) = rowT d by unfold rowT; rw [h16]] at S5
    have S6 := Lib.hid (fun w' => small_any (rowT d) w' (by omega))
    have hrB : rowT d < BIG := small_of (e := 64) (by rw [P2_64]; omega) (by omega)
    have S7 := Lib.hid (fun v v2 w' h h' => cmp_any v v2 (rowT d) (rowT d) w' hrB hrB h h')
    rw [show cmpN (rowT d) (rowT d) = 0 by unfold cmpN; split <;> (try split) <;> omega] at S7
    obtain ⟨l, hle⟩ : ∃ l, l = blen d := ⟨_, rfl⟩
    rw [← hle] at S3 S5 hz
    obtain ⟨p, hp⟩ : ∃ p, p = d * P2 4 := ⟨_, rfl⟩
    rw [← hp] at S4 S5
    obtain ⟨r, hr⟩ : ∃ r, r = rowT d := ⟨_, rfl⟩
    rw [← hr] at S1 S5 S6 S7 k2 k3
    have e1 : (8 : Int) ≤ (r : Int) := by omega
    have e2 : (r : Int) ≤ 15 := by omega
    have hcv : IntKind.u64.wrap (r : Int) = (r : Int) := by rw [u64wrap]; omega
    clear hd hl h0 hbl h16 hsh hrB hle hp hr k2 k3
    go_enter Tryd.func3, Tryd.ntmps3
    have HB := Lib.hid (Below.refl w.heap.size w)
    have Gd := Lib.hid (alloc_new (w) (.cells (wcells d) 24))
    replace HB := Lib.hid (below_al HB.out (.cells (wcells d) 24))
    have cGd := cell_row Gd.out
    go_wp2_with fail
    refine (S1.out _).mono ?_
    rintro e w9 ⟨rfl, hb⟩
    clear cGd
    replace HB := Lib.hid (below_then HB.out hb)
    replace Gd := Lib.hid ((hb.block _ (lt_of_heap Gd.out)).trans Gd.out)
    clear hb
    have cGd := cell_row Gd.out
    go_wp2_with fail
    refine (S2.out _).mono ?_
    rintro e w10 ⟨rb, rfl, hr, hb⟩
    clear cGd
    replace HB := Lib.hid (below_then HB.out hb)
    replace Gd := Lib.hid ((hb.block _ (lt_of_heap Gd.out)).trans Gd.out)
    have Rb := Lib.hid hr
    clear hr hb
    have cGd := cell_row Gd.out
    go_wp2_with fail
    refine (S3.out _ _ Rb.out).mono ?_
    rintro e w11 ⟨rfl, hb⟩
    clear cGd
    replace HB := Lib.hid (below_then HB.out hb)
    replace Gd := Lib.hid ((hb.block _ (lt_of_heap Gd.out)).trans Gd.out)
    replace Rb := Lib.hid (Rb.out.below hb)
    clear hb
    have cGd := cell_row Gd.out
    go_wp2_with fail
    refine (S4.out _ _ Rb.out).mono ?_
    rintro e w12 ⟨rs, rfl, hr, hb⟩
    clear cGd
    replace HB := Lib.hid (below_then HB.out hb)
    replace Gd := Lib.hid ((hb.block _ (lt_of_heap Gd.out)).trans Gd.out)
    replace Rb := Lib.hid (Rb.out.below hb)
    have Rs := Lib.hid hr
    clear hr hb
    have cGd := cell_row Gd.out
    go_wp2_with fail
    refine (S5.out _ _ Rs.out).mono ?_
    rintro e w13 ⟨rh, rfl, hr, hb⟩
    clear cGd
    replace HB := Lib.hid (below_then HB.out hb)
    replace Gd := Lib.hid ((hb.block _ (lt_of_heap Gd.out)).trans Gd.out)
    replace Rb := Lib.hid (Rb.out.below hb)
    replace Rs := Lib.hid (Rs.out.below hb)
    have Rh := Lib.hid hr
    clear hr hb
    have cGd := cell_row Gd.out
    go_wp2_with fail
    refine (S6.out _).mono ?_
    rintro e w14 ⟨rm, rfl, hr, hb⟩
    clear cGd
    replace HB := Lib.hid (below_then HB.out hb)
    replace Gd := Lib.hid ((hb.block _ (lt_of_heap Gd.out)).trans Gd.out)
    replace Rb := Lib.hid (Rb.out.below hb)
    replace Rs := Lib.hid (Rs.out.below hb)
    replace Rh := Lib.hid (Rh.out.below hb)
    have Rm := Lib.hid hr
    clear hr hb
    have cGd := cell_row Gd.out
    go_wp2_with fail
    refine (S7.out _ _ _ Rm.out Rh.out).mono ?_
    rintro e w15 ⟨rfl, hb⟩
    clear cGd
    replace HB := Lib.hid (below_then HB.out hb)
    replace Gd := Lib.hid ((hb.block _ (lt_of_heap Gd.out)).trans Gd.out)
    replace Rb := Lib.hid (Rb.out.below hb)
    replace Rs := Lib.hid (Rs.out.below hb)
    replace Rh := Lib.hid (Rh.out.below hb)
    replace Rm := Lib.hid (Rm.out.below hb)
    clear hb
    have cGd := cell_row Gd.out
    go_wp2_with fail
    refine (SA.out _ (HL.out.below HB.out HLT.out)).mono ?_
    rintro e w16 ⟨rfl, hb⟩
    clear cGd
    replace HB := Lib.hid (below_then HB.out hb)
    replace Gd := Lib.hid ((hb.block _ (lt_of_heap Gd.out)).trans Gd.out)
    replace Rb := Lib.hid (Rb.out.below hb)
    replace Rs := Lib.hid (Rs.out.below hb)
    replace Rh := Lib.hid (Rh.out.below hb)
    replace Rm := Lib.hid (Rm.out.below hb)
    clear hb
    have cGd := cell_row Gd.out
    go_wp2
    go_ret
    exact ⟨rfl, HB.out⟩
end Go.Proofs.YtffengboblekpaaDoor
