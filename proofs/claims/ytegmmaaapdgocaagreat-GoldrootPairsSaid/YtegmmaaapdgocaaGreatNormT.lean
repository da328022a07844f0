/- THE WALKS of srt.Norm, srtroot.Norm and its reference: a divisor, a radicand, shifted up; how great two that may be divided are, shifted up. -/
import Derived.Test.YtegmmaaapdgocaaGreatK17
import Derived.Test.YtegmmaaapdgocaaGreatK14
import Derived.Test.YtegmmaaapdgocaaGreatK6
import Derived.Test.YtegmmaaapdgocaaGreatR2c
namespace Go.Proofs.YtegmmaaapdgocaaGreat
open Go Go.RowKit

theorem IsBig.nought {w : World} {v : Value} (h : IsBig w v 0) : ∃ a cap, v = .slice a 0 cap := by
  obtain ⟨L, ⟨⟨a, cap, rfl, _, _⟩, _⟩, h2⟩ := h
  rcases Nat.eq_zero_or_pos L with h0 | h0
  · subst h0; exact ⟨a, cap, rfl⟩
  · have := h2 (by omega)
    have := P2_pos (32 * (L - 1))
    omega
theorem IsBig.lone {w : World} {v : Value} {q : Nat} (h : IsBig w v q) (h0 : 0 < q) (h1 : q < P2 32) : ∃ b o cap, v = .slice (some ⟨b, o, none⟩) 1 cap ∧ b < w.heap.size ∧ w.cell? ⟨b, o, none⟩ = some (.int .u32 (q : Int)) := by
  obtain ⟨L, ⟨⟨a, cap, rfl, _, hx⟩, hl⟩, h2⟩ := h
  have hL : L = 1 := by
    rcases (show L = 0 ∨ L = 1 ∨ 2 ≤ L by omega) with h | h | h
    · subst h; rw [Nat.mul_zero, P2_0] at hl; omega
    · exact h
    · have := h2 (by omega)
      have : P2 32 ≤ P2 (32 * (L - 1)) := P2_le (by omega)
      omega
  subst hL
  obtain ⟨b, o, rfl, ⟨cur, fr, ht⟩, hc⟩ := hx (by decide)
  have hb := lt_of_heap ht
  refine ⟨b, o, cap, rfl, hb, ?_⟩
  have := hc 0 (by decide)
  rw [Nat.add_zero] at this
  rw [this]
  unfold dig
  rw [Nat.mul_zero, P2_0, Nat.div_one, Nat.mod_eq_of_lt h1]
/-- A divisor, a dividend, shifted up. -/
theorem shift_range {n d : Nat} (h : mayN n d = 0) : P2 127 ≤ d * P2 (128 - blen d) ∧ d * P2 (128 - blen d) < P2 128 ∧ n * P2 (128 - blen d) < d * P2 (128 - blen d) * P2 128 ∧ n * P2 (128 - blen d) / (d * P2 (128 - blen d)) = n / d ∧ n * P2 (128 - blen d) % (d * P2 (128 - blen d)) / P2 (128 - blen d) = n % d := by
  obtain ⟨h1, h2, h3⟩ := may_ok h
  have hl : blen d ≤ 120 := blen_le_of h2
  have g1 := Nat.mul_lt_mul_of_pos_right (blen_lt d) (P2_pos (128 - blen d))
  have g2 := Nat.mul_le_mul_right (P2 (128 - blen d)) (blen_le (show d ≠ 0 by omega))
  have hp := blen_pos (show d ≠ 0 by omega)
  have hP := P2_pos (128 - blen d)
  rw [← P2_add, show blen d + (128 - blen d) = 128 by omega] at g1
  rw [← P2_add, show blen d - 1 + (128 - blen d) = 127 by omega] at g2
  refine ⟨g2, g1, ?_, Nat.mul_div_mul_right _ _ hP, ?_⟩
  · rw [Nat.mul_right_comm]
    exact Nat.mul_lt_mul_of_pos_right h3 hP
  · rw [Nat.mul_mod_mul_right, Nat.mul_div_cancel _ hP]
/-- By how much a number is shifted up; the number shifted up. -/
def nrmN (n : Nat) : Nat := (256 - blen n) / 2 * 2
def upN (n : Nat) : Nat := n * P2 (nrmN n)
theorem up_range {n : Nat} (h0 : n ≠ 0) (h : n < P2 256) : P2 254 ≤ upN n ∧ upN n < P2 256 ∧ (blen (upN n) = 255 ∨ blen (upN n) = 256) := by
  have hl : blen n ≤ 256 := blen_le_of h
  have h1 := blen_lt n
  have h2 := blen_le h0
  have hp := blen_pos h0
  unfold upN nrmN
  have g1 := Nat.mul_lt_mul_of_pos_right h1 (P2_pos ((256 - blen n) / 2 * 2))
  have g2 := Nat.mul_le_mul_right (P2 ((256 - blen n) / 2 * 2)) h2
  rw [← P2_add] at g1 g2
  have e1 : P2 (blen n + (256 - blen n) / 2 * 2) ≤ P2 256 := P2_le (by omega)
  have e2 : P2 254 ≤ P2 (blen n - 1 + (256 - blen n) / 2 * 2) := P2_le (by omega)
  refine ⟨by omega, by omega, ?_⟩
  have h3 : blen (n * P2 ((256 - blen n) / 2 * 2)) = blen n + (256 - blen n) / 2 * 2 := by
    refine blen_eq g1 fun _ => ?_
    rw [show blen n + (256 - blen n) / 2 * 2 - 1 = blen n - 1 + (256 - blen n) / 2 * 2 by omega]
    exact g2
  omega
attribute [local go_sem ↓] Go.wp_at_zero Go.wp_at_succ
set_option maxHeartbeats 1000000 in
theorem normT_yes (d : Nat) (h0 : d ≠ 0) (h : d < P2 120) (w : World) : Calls Tryz.prog 84 #[wv d] w fun e w' => e = .returned (.tuple #[wv (d * P2 (128 - blen d)), .int .i64 ((128 - blen d : Nat) : Int), .bool true]) ∧ Below w.heap.size w w' := by
  have hdM : d < M := Nat.lt_trans h (by rw [M_eq]; exact P2_lt (by omega))
  have S1 := Lib.hid (fun w' => len_w d hdM w')
  have hl : blen d ≤ 120 := blen_le_of h
  have hp := blen_pos h0
  have g1 := Nat.mul_lt_mul_of_pos_right (blen_lt d) (P2_pos (128 - blen d))
  rw [← P2_add, show blen d + (128 - blen d) = 128 by omega] at g1
  have S2 := Lib.hid (fun w' => shl_any d ((128 - blen d : Nat) : Int) w' (by omega) (by omega))
  rw [clampN_at (by omega), Nat.mod_eq_of_lt (show d * P2 (128 - blen d) < M by
    have : P2 128 < M := by rw [M_eq]; exact P2_lt (by omega)
    omega)] at S2
  have hk : IntKind.i64.wrap (128 - ((blen d : Nat) : Int)) = ((128 - blen d : Nat) : Int) := by
    rw [IntWalk.i64_in _ (by omega)]; omega
  obtain ⟨X, hX⟩ : ∃ X, X = d * P2 (128 - blen d) := ⟨_, rfl⟩
  rw [← hX] at S2 ⊢
  obtain ⟨k, hke⟩ : ∃ X, X = 128 - blen d := ⟨_, rfl⟩
  rw [← hke] at hk S2 ⊢
  obtain ⟨l, hle⟩ : ∃ l, l = blen d := ⟨_, rfl⟩
  rw [← hle] at S1 hk hl hp
  have hl2 : decide ((120 : Int) < (l : Int)) = false := decide_eq_false (by omega)
  have hb2 : ((l : Int) == 0) = false := by simp; omega
  clear h0 h hdM hp hX hke hle hl g1
  go_enter Tryz.func84, Tryz.ntmps84
  have HB := Lib.hid (Below.refl w.heap.size w)
  have Gn := Lib.hid (alloc_new (w) (.cells (wcells d) 24))
  replace HB := Lib.hid (below_al HB.out (.cells (wcells d) 24))
  replace Gn := Lib.hid (keepAl (o' := .cells (wcells 0) 24) Gn.out)
  have Go := Lib.hid (alloc_new' (w := (w).alloc (.cells (wcells d) 24)) (n := w.heap.size + 1) (.cells (wcells 0) 24) (by simp))
  replace HB := Lib.hid (below_al HB.out (.cells (wcells 0) 24))
  have cGn := cell_row Gn.out
  have cGo := cell_row Go.out
  go_wp2_with fail
  refine (S1.out _).mono ?_
  rintro e w1 ⟨rfl, hb⟩
  clear cGn cGo
  replace HB := Lib.hid (below_then HB.out hb)
  replace Gn := Lib.hid ((hb.block _ (lt_of_heap Gn.out)).trans Gn.out)
  replace Go := Lib.hid ((hb.block _ (lt_of_heap Go.out)).trans Go.out)
  clear hb
  have cGn := cell_row Gn.out
  have cGo := cell_row Go.out
  go_wp2_with fail
  refine (S2.out _).mono ?_
  rintro e w2 ⟨rfl, hb⟩
  clear cGn cGo
  replace HB := Lib.hid (below_then HB.out hb)
  replace Gn := Lib.hid ((hb.block _ (lt_of_heap Gn.out)).trans Gn.out)
  replace Go := Lib.hid ((hb.block _ (lt_of_heap Go.out)).trans Go.out)
  clear hb
  have sto := st_row (P := Tryz.prog) Go.out rfl (X)
  replace Gn := Lib.hid ((setRow_other (w2) (w.heap.size + 1) _ (wcells (X)) (by (omega))).trans Gn.out)
  replace Go := Lib.hid (setRow_heap (w2) (w.heap.size + 1) _ (wcells (X)) _ _ Go.out)
  replace HB := Lib.hid (below_setRow' HB.out (show _ ≤ w.heap.size + 1 by (omega)) (wcells (X)))
  have cGn := cell_row Gn.out
  have cGo := cell_row Go.out
  go_wp2
  exact bodyPost_ret (v := .tuple #[wv X, .int .i64 (k : Int), .bool true]) (res_ctt Tryz.results84 _ _ _ _ _ _ _ _ rfl rfl rfl Go.out aggW) rfl ⟨rfl, HB.out⟩
set_option maxHeartbeats 1000000 in
theorem normT_no (d : Nat) (hd : d < M) (h : d = 0 ∨ ¬ d < P2 120) (w : World) : Calls Tryz.prog 84 #[wv d] w fun e w' => e = .returned (.tuple #[wv 0, .int .i64 0, .bool false]) ∧ Below w.heap.size w w' := by
  have S1 := Lib.hid (fun w' => len_w d hd w')
  have hc : blen d = 0 ∨ ((120 : Int) < ((blen d : Nat) : Int) ∧ ((blen d : Nat) : Int) ≠ 0) := by
    rcases h with h | h
    · left; rw [h]; exact blen_zero
    · right
      have : ¬ blen d ≤ 120 := fun hh => h (lt_of_blen hh)
      omega
  obtain ⟨l, hle⟩ : ∃ l, l = blen d := ⟨_, rfl⟩
  rw [← hle] at S1 hc
  clear hd h hle
  rcases hc with rfl | ⟨h1, h2⟩
  rotate_left
  have h3 : ((l : Int) == 0) = false := by simp; omega
  have h4 : decide ((120 : Int) < (l : Int)) = true := decide_eq_true h1
  all_goals
    go_enter Tryz.func84, Tryz.ntmps84
    have HB := Lib.hid (Below.refl w.heap.size w)
    have Gn := Lib.hid (alloc_new (w) (.cells (wcells d) 24))
    replace HB := Lib.hid (below_al HB.out (.cells (wcells d) 24))
    replace Gn := Lib.hid (keepAl (o' := .cells (wcells 0) 24) Gn.out)
    have Go := Lib.hid (alloc_new' (w := (w).alloc (.cells (wcells d) 24)) (n := w.heap.size + 1) (.cells (wcells 0) 24) (by simp))
    replace HB := Lib.hid (below_al HB.out (.cells (wcells 0) 24))
    have cGn := cell_row Gn.out
    have cGo := cell_row Go.out
    go_wp2_with fail
    refine (S1.out _).mono ?_
    rintro e w3 ⟨rfl, hb⟩
    clear cGn cGo
    replace HB := Lib.hid (below_then HB.out hb)
    replace Gn := Lib.hid ((hb.block _ (lt_of_heap Gn.out)).trans Gn.out)
    replace Go := Lib.hid ((hb.block _ (lt_of_heap Go.out)).trans Go.out)
    clear hb
    have sto := st_row (P := Tryz.prog) Go.out rfl (0)
    replace Gn := Lib.hid ((setRow_other (w3) (w.heap.size + 1) _ (wcells (0)) (by (omega))).trans Gn.out)
    replace Go := Lib.hid (setRow_heap (w3) (w.heap.size + 1) _ (wcells (0)) _ _ Go.out)
    replace HB := Lib.hid (below_setRow' HB.out (show _ ≤ w.heap.size + 1 by (omega)) (wcells (0)))
    have cGn := cell_row Gn.out
    have cGo := cell_row Go.out
    go_wp2
    exact bodyPost_ret (v := .tuple #[wv 0, .int .i64 0, .bool false]) (res_ctt Tryz.results84 _ _ _ _ _ _ _ _ rfl rfl rfl Go.out aggW) rfl ⟨rfl, HB.out⟩
set_option maxHeartbeats 1000000 in
theorem normS_yes (n : Nat) (h0 : n ≠ 0) (h : n < P2 256) (w : World) : Calls Tryz.prog 61 #[wv n] w fun e w' => e = .returned (.tuple #[wv (upN n), .int .i64 (nrmN n : Nat), .bool true]) ∧ Below w.heap.size w w' := by
  have hnM : n < M := Nat.lt_trans h (by rw [M_eq]; exact P2_lt (by omega))
  have S1 := Lib.hid (fun w' => len_w n hnM w')
  have hl : blen n ≤ 256 := blen_le_of h
  have hp := blen_pos h0
  have S2 := Lib.hid (fun w' => shl_any n (nrmN n : Nat) w' (by omega) (by unfold nrmN; omega))
  rw [clampN_at (by unfold nrmN; omega), Nat.mod_eq_of_lt (show n * P2 (nrmN n) < M by
    have := (up_range h0 h).2.1
    unfold upN at this
    have : P2 256 < M := by rw [M_eq]; exact P2_lt (by omega)
    omega)] at S2
  unfold upN
  have hb : ((blen n : Nat) : Int) ≠ 0 := by omega
  have hk : IntKind.i64.wrap (256 - ((blen n : Nat) : Int)) = ((256 - blen n : Nat) : Int) := by
    rw [IntWalk.i64_in _ (by omega)]; omega
  have hq : Int.tdiv ((256 - blen n : Nat) : Int) 2 = (((256 - blen n) / 2 : Nat) : Int) := by
    rw [Int.tdiv_eq_ediv_of_nonneg (by omega)]; omega
  have hq2 : IntKind.i64.wrap (((256 - blen n) / 2 : Nat) : Int) = (((256 - blen n) / 2 : Nat) : Int) := IntWalk.i64_in _ (by omega)
  have hm : IntKind.i64.wrap ((((256 - blen n) / 2 : Nat) : Int) * 2) = ((nrmN n : Nat) : Int) := by
    rw [IntWalk.i64_in _ (by omega)]; unfold nrmN; omega
  obtain ⟨X, hX⟩ : ∃ X, X = n * P2 (nrmN n) := ⟨_, rfl⟩
  rw [← hX] at S2 ⊢
  obtain ⟨c, hc⟩ : ∃ X, X = nrmN n := ⟨_, rfl⟩
  rw [← hc] at S2 hm ⊢
  obtain ⟨q, hqe⟩ : ∃ X, X = (256 - blen n) / 2 := ⟨_, rfl⟩
  rw [← hqe] at hq hq2 hm
  obtain ⟨k, hke⟩ : ∃ X, X = 256 - blen n := ⟨_, rfl⟩
  rw [← hke] at hk hq
  obtain ⟨l, hle⟩ : ∃ l, l = blen n := ⟨_, rfl⟩
  rw [← hle] at S1 hk hb hl
  have hl2 : decide ((256 : Int) < (l : Int)) = false := decide_eq_false (by omega)
  have hb2 : ((l : Int) == 0) = false := by simp; omega
  clear h0 h hnM hp hX hc hqe hke hle hl
  go_enter Tryz.func61, Tryz.ntmps61
  have HB := Lib.hid (Below.refl w.heap.size w)
  have Gn := Lib.hid (alloc_new (w) (.cells (wcells n) 24))
  replace HB := Lib.hid (below_al HB.out (.cells (wcells n) 24))
  replace Gn := Lib.hid (keepAl (o' := .cells (wcells 0) 24) Gn.out)
  have Go := Lib.hid (alloc_new' (w := (w).alloc (.cells (wcells n) 24)) (n := w.heap.size + 1) (.cells (wcells 0) 24) (by simp))
  replace HB := Lib.hid (below_al HB.out (.cells (wcells 0) 24))
  have cGn := cell_row Gn.out
  have cGo := cell_row Go.out
  go_wp2_with fail
  refine (S1.out _).mono ?_
  rintro e w4 ⟨rfl, hb⟩
  clear cGn cGo
  replace HB := Lib.hid (below_then HB.out hb)
  replace Gn := Lib.hid ((hb.block _ (lt_of_heap Gn.out)).trans Gn.out)
  replace Go := Lib.hid ((hb.block _ (lt_of_heap Go.out)).trans Go.out)
  clear hb
  have cGn := cell_row Gn.out
  have cGo := cell_row Go.out
  go_wp2_with fail
  refine (S2.out _).mono ?_
  rintro e w5 ⟨rfl, hb⟩
  clear cGn cGo
  replace HB := Lib.hid (below_then HB.out hb)
  replace Gn := Lib.hid ((hb.block _ (lt_of_heap Gn.out)).trans Gn.out)
  replace Go := Lib.hid ((hb.block _ (lt_of_heap Go.out)).trans Go.out)
  clear hb
  have sto := st_row (P := Tryz.prog) Go.out rfl (X)
  replace Gn := Lib.hid ((setRow_other (w5) (w.heap.size + 1) _ (wcells (X)) (by (omega))).trans Gn.out)
  replace Go := Lib.hid (setRow_heap (w5) (w.heap.size + 1) _ (wcells (X)) _ _ Go.out)
  replace HB := Lib.hid (below_setRow' HB.out (show _ ≤ w.heap.size + 1 by (omega)) (wcells (X)))
  have cGn := cell_row Gn.out
  have cGo := cell_row Go.out
  go_wp2
  exact bodyPost_ret (v := .tuple #[wv X, .int .i64 (c : Int), .bool true]) (res_ctt Tryz.results61 _ _ _ _ _ _ _ _ rfl rfl rfl Go.out aggW) rfl ⟨rfl, HB.out⟩
set_option maxHeartbeats 1000000 in
theorem normS_no (n : Nat) (hn : n < M) (h : n = 0 ∨ ¬ n < P2 256) (w : World) : Calls Tryz.prog 61 #[wv n] w fun e w' => e = .returned (.tuple #[wv 0, .int .i64 0, .bool false]) ∧ Below w.heap.size w w' := by
  have S1 := Lib.hid (fun w' => len_w n hn w')
  have hc : blen n = 0 ∨ ((256 : Int) < ((blen n : Nat) : Int) ∧ ((blen n : Nat) : Int) ≠ 0) := by
    rcases h with h | h
    · left; rw [h]; exact blen_zero
    · right
      have : ¬ blen n ≤ 256 := fun hh => h (lt_of_blen hh)
      omega
  obtain ⟨l, hle⟩ : ∃ l, l = blen n := ⟨_, rfl⟩
  rw [← hle] at S1 hc
  clear hn h hle
  rcases hc with rfl | ⟨h1, h2⟩
  rotate_left
  have h3 : ((l : Int) == 0) = false := by simp; omega
  have h4 : decide ((256 : Int) < (l : Int)) = true := decide_eq_true h1
  all_goals
    go_enter Tryz.func61, Tryz.ntmps61
    have HB := Lib.hid (Below.refl w.heap.size w)
    have Gn := Lib.hid (alloc_new (w) (.cells (wcells n) 24))
    replace HB := Lib.hid (below_al HB.out (.cells (wcells n) 24))
    replace Gn := Lib.hid (keepAl (o' := .cells (wcells 0) 24) Gn.out)
    have Go := Lib.hid (alloc_new' (w := (w).alloc (.cells (wcells n) 24)) (n := w.heap.size + 1) (.cells (wcells 0) 24) (by simp))
    replace HB := Lib.hid (below_al HB.out (.cells (wcells 0) 24))
    have cGn := cell_row Gn.out
    have cGo := cell_row Go.out
    go_wp2_with fail
    refine (S1.out _).mono ?_
    rintro e w6 ⟨rfl, hb⟩
    clear cGn cGo
    replace HB := Lib.hid (below_then HB.out hb)
    replace Gn := Lib.hid ((hb.block _ (lt_of_heap Gn.out)).trans Gn.out)
    replace Go := Lib.hid ((hb.block _ (lt_of_heap Go.out)).trans Go.out)
    clear hb
    have sto := st_row (P := Tryz.prog) Go.out rfl (0)
    replace Gn := Lib.hid ((setRow_other (w6) (w.heap.size + 1) _ (wcells (0)) (by (omega))).trans Gn.out)
    replace Go := Lib.hid (setRow_heap (w6) (w.heap.size + 1) _ (wcells (0)) _ _ Go.out)
    replace HB := Lib.hid (below_setRow' HB.out (show _ ≤ w.heap.size + 1 by (omega)) (wcells (0)))
    have cGn := cell_row Gn.out
    have cGo := cell_row Go.out
    go_wp2
    exact bodyPost_ret (v := .tuple #[wv 0, .int .i64 0, .bool false]) (res_ctt Tryz.results61 _ _ _ _ _ _ _ _ rfl rfl rfl Go.out aggW) rfl ⟨rfl, HB.out⟩
set_option maxRecDepth 100000 in
set_option maxHeartbeats 1000000 in
theorem norm16_any (n : Nat) (h0 : n ≠ 0) (hm : n < P2 256) (w : World) :
    Calls Tryz.prog 29 #[wv n] w fun e w' => ∃ v, e = .returned (.tuple #[v, .int .i64 (nrmN n : Nat)]) ∧ IsBig w' v (upN n) ∧ Below w.heap.size w w' := by
  have hnM : n < M := Nat.lt_trans hm (by rw [M_eq]; exact P2_lt (by omega))
  have hl : blen n ≤ 256 := blen_le_of hm
  have hp := blen_pos h0
  have hbl : ∀ c, c ≤ 300 → n * P2 c < P2 700 ∧ blen (n * P2 c) = blen n + c := fun c hc => by
    have g1 := Nat.mul_lt_mul_of_pos_right (blen_lt n) (P2_pos c)
    have g2 := Nat.mul_le_mul_right (P2 c) (blen_le h0)
    rw [← P2_add] at g1 g2
    refine ⟨Nat.lt_of_lt_of_le g1 (P2_le (by omega)), blen_eq g1 fun _ => ?_⟩
    rw [show blen n + c - 1 = blen n - 1 + c by omega]
    exact g2
  have S1 := Lib.hid (fun w' => big_any n hnM w')
  have S2 := Lib.hid (fun c v w' (hc : c ≤ 300) h => rlen_any v (n * P2 c) w' (small_of (hbl c hc).1 (by omega)) h)
  have S3 := Lib.hid (fun c v w' (hc : c ≤ 300) h => rshl_any v (n * P2 c) 2 w' (small_of (hbl c hc).1 (by omega)) (by omega) h)
  have HBL := Lib.hid hbl
  obtain ⟨l, hle⟩ : ∃ l, l = blen n := ⟨_, rfl⟩
  have HL := Lib.hid (show 1 ≤ l ∧ l ≤ 256 by omega)
  have HLE := Lib.hid hle
  obtain ⟨K, hK⟩ : ∃ K, K = (256 - l) / 2 := ⟨_, rfl⟩
  have HK := Lib.hid hK
  have HR : Hid (nrmN n = 2 * K) := Lib.hid (by unfold nrmN; rw [hK, hle]; omega)
  have HU : Hid (upN n = n * P2 (2 * K)) := Lib.hid (by unfold upN; rw [HR.out])
  rw [HR.out, HU.out]
  clear h0 hm hnM hl hp hbl hle hK
  go_enter Tryz.func29, Tryz.ntmps29
  have HB := Lib.hid (Below.refl w.heap.size w)
  have Gn := Lib.hid (alloc_new (w) (.cells (wcells n) 24))
  replace HB := Lib.hid (below_al HB.out (.cells (wcells n) 24))
  have cGn := cell_row Gn.out
  go_wp2_with fail
  refine (S1.out _).mono ?_
  rintro e w7 ⟨rb, rfl, hr, hb⟩
  clear cGn
  replace HB := Lib.hid (below_then HB.out hb)
  replace Gn := Lib.hid ((hb.block _ (lt_of_heap Gn.out)).trans Gn.out)
  have Rb := Lib.hid hr
  clear hr hb
  go_wp2
  go_loopw [4, 5] (fun s4 s5 wr => ∃ k : Nat, s5 = .int .i64 ((2 * k : Nat) : Int) ∧ k ≤ K ∧ Hid (IsBig wr s4 (n * P2 (2 * k))) ∧ Hid (Below w.heap.size w wr)) (fun _ s5 _ => 2 * K - (intOf s5).toNat)
  case atStart => exact ⟨0, rfl, by omega, Lib.hid (by rw [Nat.mul_zero, P2_0, Nat.mul_one]; exact Rb.out), HB⟩
  case round =>
    clear HB Rb Gn
    obtain ⟨k, rfl, hk, RB, HB⟩ := hrel
    have hK := HK.out
    have hl := HL.out
    have T2 := Lib.hid (fun v w' h => S2.out (2 * k) v w' (by omega) h)
    rw [(HBL.out (2 * k) (by omega)).2, ← HLE.out] at T2
    by_cases hlt : k < K
    · have T3 := Lib.hid (fun v w' h => S3.out (2 * k) v w' (by omega) h)
      rw [Nat.mul_assoc, ← P2_add, show 2 * k + 2 = 2 * (k + 1) by omega] at T3
      have e1 : ((l + 2 * k : Nat) : Int) < 255 := by omega
      have e2 : IntKind.i64.wrap (((2 * k : Nat) : Int) + 2) = ((2 * (k + 1) : Nat) : Int) := by rw [IntWalk.i64_in _ (by omega)]; omega
      obtain ⟨L2, hL2⟩ : ∃ x, x = l + 2 * k := ⟨_, rfl⟩
      rw [← hL2] at T2 e1
      obtain ⟨c, hc⟩ : ∃ x, x = 2 * k := ⟨_, rfl⟩
      have HC := Lib.hid hc
      rw [← hc] at RB T2 T3 e2 ⊢
      obtain ⟨c2, hc2⟩ : ∃ x, x = 2 * (k + 1) := ⟨_, rfl⟩
      have HC2 := Lib.hid hc2
      rw [← hc2] at T3 e2
      have HLT := Lib.hid hlt
      clear hK hl hlt hk hL2 hc hc2
      go_wp2_with fail
      refine (T2.out _ _ RB.out).mono ?_
      rintro e w8 ⟨rfl, hb⟩
      replace HB := Lib.hid (below_then HB.out hb)
      replace RB := Lib.hid (RB.out.below hb)
      clear hb
      go_wp2_with fail
      refine (T3.out _ _ RB.out).mono ?_
      rintro e w9 ⟨rs, rfl, hr, hb⟩
      replace HB := Lib.hid (below_then HB.out hb)
      replace RB := Lib.hid (RB.out.below hb)
      have Rs := Lib.hid hr
      clear hr hb
      go_wp2
      go_roundw
      case rel => exact ⟨k + 1, by rw [← HC2.out], HLT.out, by rw [← HC2.out]; exact Rs, HB⟩
      case measure => have := HLT.out; have := HC.out; have := HC2.out; simp [intOf]; omega
    · obtain rfl : k = K := by omega
      have e1 : ¬ ((l + 2 * k : Nat) : Int) < 255 := by omega
      obtain ⟨L2, hL2⟩ : ∃ x, x = l + 2 * k := ⟨_, rfl⟩
      rw [← hL2] at T2 e1
      obtain ⟨c, hc⟩ : ∃ x, x = 2 * k := ⟨_, rfl⟩
      have HC3 := Lib.hid hc
      rw [← hc] at RB T2 ⊢
      clear hK hl hlt hk hL2 hc
      go_wp2_with fail
      refine (T2.out _ _ RB.out).mono ?_
      rintro e w10 ⟨rfl, hb⟩
      replace HB := Lib.hid (below_then HB.out hb)
      replace RB := Lib.hid (RB.out.below hb)
      clear hb
      go_wp2
      go_ret2
      have hc3 := HC3.out
      subst hc3
      exact ⟨_, rfl, RB.out, HB.out⟩
end Go.Proofs.YtegmmaaapdgocaaGreat
