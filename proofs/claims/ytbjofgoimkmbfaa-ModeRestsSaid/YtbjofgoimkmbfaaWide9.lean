/- THE WALKS of package wide, going on: powers, masks, 0 without a number, a word. -/
import Derived.Test.YtbjofgoimkmbfaaWide8
import Derived.Deep.DeepCutAuto
namespace Go.Proofs.Ytbjofgoimkmbfaa
open Go Go.RowKit

def powerN (n : Int) : Nat := if 0 ≤ n ∧ n < 512 then P2 n.toNat else 0
theorem powerN_lt (n : Int) : powerN n < M := by
  unfold powerN
  split
  · rw [M_eq]; exact P2_lt (by omega)
  · exact M_pos
theorem limb_P2 (k j : Nat) : limb (P2 k) j = if j = k / 64 then P2 (k % 64) else 0 := by
  unfold limb
  rcases Nat.lt_trichotomy j (k / 64) with h | h | h
  · rw [if_neg (by omega), show k = 64 * j + (64 + (k - 64 * j - 64)) by omega, P2_add, Nat.mul_div_cancel_left _ (P2_pos _), P2_add, Nat.mul_mod_right]
  · rw [if_pos h]
    have e : k = 64 * j + k % 64 := by omega
    rw [show P2 k = P2 (64 * j) * P2 (k % 64) by rw [← P2_add, ← e], Nat.mul_div_cancel_left _ (P2_pos _), Nat.mod_eq_of_lt (P2_lt (by omega))]
  · rw [if_neg (by omega), Nat.div_eq_of_lt (P2_lt (by omega)), Nat.zero_mod]
theorem wcells_put {x y h : Nat} {v : Nat} (hh : h < 8) (hv : limb y h = v) (ho : ∀ j, j < 8 → j ≠ h → limb y j = limb x j) : (wcells x).setIfInBounds h (.int .u64 (v : Nat)) = wcells y := by
  subst hv
  apply Array.ext_getElem?
  intro i
  rw [Array.getElem?_setIfInBounds]
  by_cases hi : i < 8
  · by_cases e : h = i
    · subst e; rw [if_pos rfl, wcells_size, if_pos hh, wcells_get _ _ hi]
    · rw [if_neg e, wcells_get _ _ hi, wcells_get _ _ hi, ho i hi (fun h => e h.symm)]
  · have e : h ≠ i := by omega
    rw [if_neg e, Array.getElem?_eq_none (by rw [wcells_size]; omega), Array.getElem?_eq_none (by rw [wcells_size]; omega)]

theorem wrap_P2 (R : Nat) (h : R < 64) : IntKind.u64.wrap (2 ^ min R 64) = (P2 R : Nat) := by
  have e : ((2 : Int) ^ R) = ((P2 R : Nat) : Int) := by rw [P2_eq]; push_cast; rfl
  rw [Nat.min_eq_left (by omega), e, u64wrap_nat, Nat.mod_eq_of_lt (P2_lt h)]
set_option maxHeartbeats 400000 in
theorem power_w (n : Int) (w : World) (h1 : -9223372036854775808 ≤ n) (h2 : n ≤ 9223372036854775807) :
    Calls Try.prog 57 #[.int .i64 n] w fun e w' => e = .returned (wv (powerN n)) ∧ Below w.heap.size w w' := by
  by_cases hn : 0 ≤ n ∧ n < 512
  · obtain ⟨k, rfl⟩ := Int.eq_ofNat_of_zero_le hn.1
    have hk : k < 512 := by omega
    have HP := Lib.hid (show powerN (k : Int) = P2 k by unfold powerN; rw [if_pos hn]; rfl)
    obtain ⟨w0, hw0⟩ : ∃ w0, w0 = (w.alloc (.cells (wcells 0) 31)).alloc (.cells (wcells 0) 31) := ⟨_, rfl⟩
    have g1 : w0.heap[w.heap.size + 1]? = some (.cells (wcells 0) 31 (0, 0)) := by rw [hw0, alloc_new' _ (by simp)]
    have g0 : w0.heap[w.heap.size]? = some (.cells (wcells 0) 31 (0, 0)) := by rw [hw0, alloc_old _ _ _ (by simp), alloc_new]
    have hB : Below w.heap.size w w0 := by rw [hw0]; exact below_al (below_al (Below.refl _ _) _) _
    have cs := cell_row g1 (k / 64)
    rw [wcells_get _ _ (by omega)] at cs
    have fs := free_row g1 (k / 64)
    have G0 := Lib.hid g0; have G1 := Lib.hid g1; have HB := Lib.hid hB
    have hW := Lib.hid hw0
    have HC := Lib.hid cs; have HF := Lib.hid fs; have HL := Lib.hid (lt_of_heap g1)
    have e1 : (k : Int) < 512 := by omega
    have HK := Lib.hid hk
    clear hn hw0 g0 g1 hB cs fs hk
    go_enter Try.func57, Try.ntmps57
    go_upto_region 3 with fail
    rw [← hW.out]
    obtain ⟨Q, hQ⟩ : ∃ Q, Q = k / 64 := ⟨_, rfl⟩
    obtain ⟨R, hR⟩ : ∃ R, R = k % 64 := ⟨_, rfl⟩
    have cs := HC.out
    have fs := HF.out
    rw [← hQ] at cs fs
    have hl := HL.out
    have e2 : (0 : Int) ≤ (Q : Int) := Int.natCast_nonneg _
    have e3 : (Q : Int) < 8 := by omega
    have e4 : (0 : Int) ≤ (R : Int) := Int.natCast_nonneg _
    have q1 : Int.tdiv (k : Int) 64 = (Q : Int) := by rw [Int.tdiv_eq_ediv_of_nonneg (by omega)]; omega
    have q2 : Int.tmod (k : Int) 64 = (R : Int) := by rw [Int.tmod_eq_emod_of_nonneg (by omega)]; omega
    have HQ := Lib.hid hQ; have HR := Lib.hid hR
    clear hW e1 hQ hR h1 h2
    go_upto_region 4 with fail
    rw [wrap_P2 R (by have := HR.out; omega)]
    have hv : limb (P2 k) Q = P2 R := by rw [limb_P2, HQ.out, if_pos rfl, HR.out]
    have ho : ∀ j, j < 8 → j ≠ Q → limb (P2 k) j = limb 0 j := fun j _ hj => by rw [limb_P2, if_neg (by have := HQ.out; omega), limb_zero]
    have g1 := set_row G1.out Q (.int .u64 (P2 R : Nat))
    rw [wcells_put (by omega) hv ho] at g1
    have g0 := (set_other (w := w0) ⟨w.heap.size + 1, Q, none⟩ w.heap.size (.int .u64 (P2 R : Nat)) (by simp)).trans G0.out
    have HB' := Lib.hid (below_set HB.out (show w.heap.size ≤ w.heap.size + 1 by omega) Q (.int .u64 (P2 R : Nat)))
    obtain ⟨w1, hw1⟩ : ∃ w1, w1 = w0.setCell ⟨w.heap.size + 1, Q, none⟩ (.int .u64 (P2 R : Nat)) := ⟨_, rfl⟩
    rw [← hw1] at g0 g1 HB' ⊢
    have G0' := Lib.hid g0
    have c1 := cell_row g1
    have st := st_row (P := Try.prog) g0 rfl (P2 k)
    clear hw1 g0 g1 hv ho cs fs q1 q2 e2 e3 e4 hl
    go_wp2
    exact bodyPost_ret (v := wv _) (results_cell_row rfl _ _ w.heap.size _ _ _ _ rfl (setRow_heap _ _ _ _ _ _ G0'.out) Try.underlying31 rfl (by kernel_rfl)) rfl ⟨by rw [HP.out], below_setRow' HB'.out (Nat.le_refl _) _⟩
  · have HP := Lib.hid (show powerN n = 0 by unfold powerN; rw [if_neg hn])
    have hn' : n < 0 ∨ 512 ≤ n := by omega
    clear hn
    rcases hn' with hn | hn
    all_goals
      go_enter Try.func57, Try.ntmps57
      go_wp2
      exact bodyPost_ret (v := wv 0) (results_cell_row rfl _ _ w.heap.size _ _ _ _ rfl (by rw [alloc_old _ _ _ (by simp), alloc_new]) Try.underlying31 rfl (by kernel_rfl)) rfl ⟨by rw [HP.out], below_al (below_al (Below.refl _ _) _) _⟩

theorem limb_small_n {l : Nat} (h : l ≤ 18446744073709551615) : limb l 0 = l := by
  unfold limb
  rw [P2_00, Nat.div_one, P2_64, Nat.mod_eq_of_lt (by omega)]
theorem isLimbs_one {w : World} {p : Nat} {l : Nat} (hl : l ≤ 18446744073709551615) (h : w.cell? ⟨p, 0, none⟩ = some (.int .u64 (l : Nat))) (hp : p < w.heap.size) : IsLimbs w (.slice (some ⟨p, 0, none⟩) 1 1) l 1 :=
  ⟨⟨_, _, rfl, Nat.le_refl _, fun _ => ⟨p, 0, rfl, hp, fun i hi => by
    obtain rfl : i = 0 := by omega
    rw [limb_small_n hl]; exact h⟩⟩, by rw [Nat.mul_one, P2_64]; omega⟩
theorem one_M : (1 : Nat) % M = 1 := Nat.mod_eq_of_lt (by rw [M_eq]; have := P2_lt (show (0 : Nat) < 512 by decide); rw [P2_0] at this; exact this)
/-- Ones. -/
def maskN (n : Int) : Nat := subN (powerN (max 0 n)) 1

set_option maxHeartbeats 1000000 in
theorem mask_w (n : Int) (w : World) (h1 : -9223372036854775808 ≤ n) (h2 : n ≤ 9223372036854775807) :
    Calls Try.prog 58 #[.int .i64 n] w fun e w' => e = .returned (wv (maskN n)) ∧ Below w.heap.size w w' := by
  have S1 : Hid (∀ w' : World, Calls Try.prog 57 #[.int .i64 (max 0 n)] w' fun e w'' => e = .returned (wv (powerN (max 0 n))) ∧ Below w'.heap.size w' w'') := Lib.hid fun w' => power_w _ w' (by omega) (by omega)
  have S2 : Hid (∀ w' p, w'.cell? ⟨p, 0, none⟩ = some (.int .u64 1) → p < w'.heap.size → Calls Try.prog 43 #[.slice (some ⟨p, 0, none⟩) 1 1] w' fun e w'' => e = .returned (wv 1) ∧ Below w'.heap.size w' w'') := Lib.hid fun w' p hc hp => by
    have := of_w _ 1 1 w' (isLimbs_one (l := 1) (by omega) hc hp)
    rwa [one_M] at this
  have S3 : Hid (∀ w' : World, Calls Try.prog 76 #[wv (powerN (max 0 n)), wv 1] w' fun e w'' => e = .returned (.tuple #[wv (maskN n), .bool (decide (powerN (max 0 n) < 1))]) ∧ Below w'.heap.size w' w'') := Lib.hid fun w' =>
    sub_w _ 1 (powerN_lt _) (by have := one_M; have h := Nat.mod_lt 1 M_pos; omega) w'
  have G0 : Hid ((w.alloc (.cells (wcells 0) 31)).heap[w.heap.size]? = some (.cells (wcells 0) 31 (0, 0))) := Lib.hid (alloc_new w _)
  obtain ⟨P, hP⟩ : ∃ P, P = powerN (max 0 n) := ⟨_, rfl⟩
  obtain ⟨K, hK⟩ : ∃ K, K = maskN n := ⟨_, rfl⟩
  rw [← hP] at S1 S3
  rw [← hK] at S3 ⊢
  obtain ⟨f, hf⟩ : ∃ f, f = decide (P < 1) := ⟨_, rfl⟩
  rw [← hf] at S3
  clear hP hK hf
  go_enter Try.func58, Try.ntmps58
  go_wp2_with fail
  refine (S1.out _).mono ?_
  rintro e w1 ⟨rfl, hb⟩
  have HB1 := Lib.hid (below_then (below_al (Below.refl w.heap.size w) _) hb)
  have G0 := Lib.hid ((hb.block _ (lt_of_heap G0.out)).trans G0.out)
  clear hb
  go_wp2_with fail
  have G0 : Hid ((w1.alloc (.cells #[.int .u64 1] 24)).heap[w.heap.size]? = some (.cells (wcells 0) 31 (0, 0))) := Lib.hid (by rw [alloc_old _ _ _ (lt_of_heap G0.out)]; exact G0.out)
  refine (S2.out _ _ (cell_row (alloc_new w1 _) 0) (by simp)).mono ?_
  rintro e w2 ⟨rfl, hb⟩
  have HB2 := Lib.hid (below_then (below_al HB1.out _) hb)
  have G0 := Lib.hid ((hb.block _ (lt_of_heap G0.out)).trans G0.out)
  clear hb
  go_wp2_with fail
  refine (S3.out _).mono ?_
  rintro e w3 ⟨rfl, hb⟩
  have HB3 := Lib.hid (below_then HB2.out hb)
  have G0 := Lib.hid ((hb.block _ (lt_of_heap G0.out)).trans G0.out)
  clear hb
  have HB4 := Lib.hid (below_al HB3.out (.cells (wcells K) 31))
  have G2 : Hid ((w3.alloc (.cells (wcells K) 31)).heap[w.heap.size]? = some (.cells (wcells 0) 31 (0, 0))) := Lib.hid (by rw [alloc_old _ _ _ (lt_of_heap G0.out)]; exact G0.out)
  have st := st_row (P := Try.prog) G2.out rfl K
  go_wp2
  exact bodyPost_ret (v := wv _) (results_cell_row rfl _ _ w.heap.size _ _ _ _ rfl (setRow_heap _ _ _ _ _ _ G2.out) Try.underlying31 rfl (by kernel_rfl)) rfl ⟨rfl, below_setRow' HB4.out (Nat.le_refl _) _⟩

/-- 0 without a number. -/
def negN (a : Nat) : Nat := subN 0 a
set_option maxHeartbeats 1000000 in
theorem neg_w (a : Nat) (ha : a < M) (w : World) : Calls Try.prog 56 #[wv a] w fun e w' => e = .returned (wv (negN a)) ∧ Below w.heap.size w w' := by
  have S3 : Hid (∀ w' : World, Calls Try.prog 76 #[wv 0, wv a] w' fun e w'' => e = .returned (.tuple #[wv (negN a), .bool (decide (0 < a))]) ∧ Below w'.heap.size w' w'') := Lib.hid fun w' =>
    sub_w 0 a M_pos ha w'
  have G0 : Hid (((w.alloc (.cells (wcells a) 31)).alloc (.cells (wcells 0) 31)).heap[w.heap.size + 1]? = some (.cells (wcells 0) 31 (0, 0))) := Lib.hid (alloc_new' _ (by simp))
  obtain ⟨K, hK⟩ : ∃ K, K = negN a := ⟨_, rfl⟩
  obtain ⟨f, hf⟩ : ∃ f, f = decide (0 < a) := ⟨_, rfl⟩
  rw [← hK, ← hf] at S3
  rw [← hK]
  clear hK hf ha
  go_enter Try.func56, Try.ntmps56
  go_wp2_with fail
  refine (S3.out _).mono ?_
  rintro e w3 ⟨rfl, hb⟩
  have HB3 := Lib.hid (below_then (below_al (below_al (Below.refl w.heap.size w) _) _) hb)
  have G0 := Lib.hid ((hb.block _ (lt_of_heap G0.out)).trans G0.out)
  clear hb
  have HB4 := Lib.hid (below_al HB3.out (.cells (wcells K) 31))
  have G2 : Hid ((w3.alloc (.cells (wcells K) 31)).heap[w.heap.size + 1]? = some (.cells (wcells 0) 31 (0, 0))) := Lib.hid (by rw [alloc_old _ _ _ (lt_of_heap G0.out)]; exact G0.out)
  have st := st_row (P := Try.prog) G2.out rfl K
  go_wp2
  exact bodyPost_ret (v := wv _) (results_cell_row rfl _ _ (w.heap.size + 1) _ _ _ _ rfl (setRow_heap _ _ _ _ _ _ G2.out) Try.underlying31 rfl (by kernel_rfl)) rfl ⟨rfl, below_setRow' HB4.out (by omega) _⟩
end Go.Proofs.Ytbjofgoimkmbfaa
