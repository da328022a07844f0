/- SEVERAL TEXTS of the seat, one behind the other: each says at its head what it proves. -/
import Derived.Shelf.Strconv.Itoa0
import Derived.Test.YtegmmaaapdgocaaGreatRows
import Derived.Test.YtegmmaaapdgocaaGreatWide7
import Derived.Test.YtegmmaaapdgocaaGreatK7
import Derived.Lib.ItoaNum
import Derived.Deep.DeepCutAuto
/- THE LIBRARY's functions on bits, by the kit's shelf: bits.Len64 tells how many binary digits a number below 2^64 has. -/
namespace Go.Proofs.YtegmmaaapdgocaaGreat
open Go Go.Shelf
def bitsRen : Go.Shelf.Ren := ⟨fun | 129 => 128 | n => n, fun | 53 => 22 | 3 => 3 | 4 => 4 | 46 => 117 | 5 => 5 | 9 => 9 | n => n, fun n => n⟩
theorem bitsLaid : Lays.n129 Tryz.prog bitsRen where
  mixed := by kernel_rfl
  f129 := Tryz.func128.trans (congrArg some (by kernel_rfl))
  t3 := Tryz.underlying3
  a3 := Tryz.isAgg3
  z3 := Tryz.sizeOf3
  v3 := Tryz.zeroValue3
  t4 := Tryz.underlying4
  a4 := Tryz.isAgg4
  z4 := Tryz.sizeOf4
  v4 := Tryz.zeroValue4
  t5 := Tryz.underlying5
  a5 := Tryz.isAgg5
  z5 := Tryz.sizeOf5
  v5 := Tryz.zeroValue5
  t9 := Tryz.underlying9
  a9 := Tryz.isAgg9
  z9 := Tryz.sizeOf9
  v9 := Tryz.zeroValue9
  t46 := Tryz.underlying117
  a46 := Tryz.isAgg117
  z46 := Tryz.sizeOf117
  v46 := Tryz.zeroValue117
  t53 := Tryz.underlying22
  a53 := Tryz.isAgg22
  z53 := Tryz.sizeOf22
  v53 := Tryz.zeroValue22
theorem bits_Len64 (x : Int) (w : World) (h0 : 0 ≤ x) (h1 : x ≤ 18446744073709551615) :
    Calls Tryz.prog 128 #[.int .u64 x] w fun e w' => e = .returned (.int .i64 (Lib.bitLen x.toNat)) ∧ w' = w := Any.bits_Len64 bitsLaid x w h0 h1
end Go.Proofs.YtegmmaaapdgocaaGreat

/- THE WALKS of package wide, going on: how many digits a number has. -/
namespace Go.Proofs.YtegmmaaapdgocaaGreat
open Go Go.RowKit

theorem bitLen_blen (x : Nat) (hx : x < P2 64) : Lib.bitLen x = blen x := by
  by_cases h0 : x = 0
  · subst h0
    unfold Lib.bitLen
    rw [Lib.bitLenAux_zero, blen_zero]
  · rw [P2_eq] at hx
    have h := Lib.bitLenAux_bounds 64 x hx h0
    unfold Lib.bitLen
    exact (blen_eq (by rw [P2_eq]; exact h.2.2) (fun _ => by rw [P2_eq]; exact h.2.1)).symm
theorem limb_split (n i : Nat) : n / P2 (64 * i) = limb n i + P2 64 * (n / P2 (64 * (i + 1))) := by
  unfold limb
  rw [show 64 * (i + 1) = 64 * i + 64 from by omega, P2_add, ← Nat.div_div_eq_div_mul]
  exact (Nat.mod_add_div _ _).symm
theorem lt_of_limb_zero {n k : Nat} (h : n < P2 (64 * (k + 1))) (hd : limb n k = 0) : n < P2 (64 * k) := by
  have h1 := limb_split n k
  rw [Nat.div_eq_of_lt h, hd] at h1
  have h2 : n / P2 (64 * k) = 0 := by omega
  exact (Nat.div_eq_zero_iff_lt (P2_pos _)).1 h2
theorem blen_limb {n k : Nat} (h : n < P2 (64 * (k + 1))) (hd : limb n k ≠ 0) : blen n = 64 * k + blen (limb n k) := by
  have e1 := limb_split n k
  rw [Nat.div_eq_of_lt h, Nat.mul_zero, Nat.add_zero] at e1
  refine blen_eq ?_ fun _ => ?_
  · rw [P2_add, Nat.mul_comm, ← Nat.div_lt_iff_lt_mul (P2_pos _), e1]
    exact blen_lt _
  · have h0 := blen_pos hd
    rw [show 64 * k + blen (limb n k) - 1 = 64 * k + (blen (limb n k) - 1) by omega, P2_add, Nat.mul_comm, ← Nat.le_div_iff_mul_le (P2_pos _), e1]
    exact blen_le hd
/-- Limbs without noughts at the end. -/
def IsTrim (w : World) (v : Value) (n : Nat) : Prop := ∃ L, IsLimbs w v n L ∧ (L ≠ 0 → limb n (L - 1) ≠ 0)

set_option maxHeartbeats 400000 in
theorem limbTrim_any (v : Value) (n L : Nat) (w : World) (hL : L ≤ 100000) (hv : IsLimbs w v n L) :
    Calls Tryz.prog 127 #[v] w fun e w' => ∃ r, e = .returned r ∧ ∃ K, K ≤ L ∧ IsLimbs w r n K ∧ (K ≠ 0 → limb n (K - 1) ≠ 0) ∧ w' = w := by
  obtain ⟨⟨a, cap, rfl, hc, hx⟩, hl⟩ := hv
  go_enter Tryz.func127, Tryz.ntmps127
  go_wp2
  go_loop [3] (fun s => ∃ k : Nat, k ≤ L ∧ s = .int .i64 k ∧ n < P2 (64 * k)) (fun s => (intOf s).toNat)
  case atStart => exact ⟨L, Nat.le_refl _, rfl, hl⟩
  case round =>
    obtain ⟨k, hk, rfl, hn⟩ := hrel
    rcases k with _ | k
    · have HN := Lib.hid hn
      clear hx hl hn
      go_wp2
      go_ret
      exact ⟨_, rfl, 0, by omega, ⟨⟨a, 0, by simp, by omega, fun h => by omega⟩, HN.out⟩, fun h => absurd rfl h, rfl⟩
    · obtain ⟨b, o, rfl, hb, hcell⟩ := hx (by omega)
      have hg := hcell k (by omega)
      have HC := Lib.hid hcell
      have HN := Lib.hid hn
      clear hx hl hn hcell
      by_cases hd : limb n k = 0
      · have HD := Lib.hid (lt_of_limb_zero HN.out hd)
        rw [hd] at hg
        clear hd
        go_wp2
        go_round
        case rel => exact ⟨k, by omega, by go_num, HD.out⟩
        case measure => simp [intOf]
      · have hd' : (((limb n k : Nat) : Int) == 0) = false := by simp; exact hd
        have HD := Lib.hid hd
        clear hd
        go_wp2
        go_ret
        exact ⟨_, rfl, k + 1, by omega, ⟨⟨_, _, rfl, by omega, fun _ => ⟨b, o, rfl, hb, fun i hi => HC.out i (by omega)⟩⟩, HN.out⟩, fun _ => HD.out, rfl⟩

set_option maxHeartbeats 400000 in
theorem limbLen_any (v : Value) (n L : Nat) (w : World) (hL : L ≤ 100000) (hv : IsLimbs w v n L) :
    Calls Tryz.prog 103 #[v] w fun e w' => e = .returned (.int .i64 (blen n : Nat)) ∧ w' = w := by
  have HT := Lib.hid (limbTrim_any v n L w hL hv)
  obtain ⟨⟨a, cap, rfl, hc, hx⟩, hl⟩ := hv
  clear hx hl
  go_enter Tryz.func103, Tryz.ntmps103
  go_wp2_with fail
  refine HT.out.mono ?_
  rintro e w1 ⟨r, rfl, K, hK, hv, hne, rfl⟩
  obtain ⟨⟨a2, cap2, rfl, hc2, hx⟩, hl⟩ := hv
  have HL := Lib.hid hl
  rcases K with _ | k
  · clear hx hl hne
    go_wp2_with fail
    go_ret
    refine ⟨ret_int ?_, rfl⟩
    have := HL.out
    rw [show 64 * 0 = 0 from rfl, P2_0] at this
    rw [show n = 0 by omega, blen_zero]; rfl
  · obtain ⟨b, o, rfl, hb, hcell⟩ := hx (by omega)
    have hg := hcell k (by omega)
    have hle := limb_le n k
    have HNE := Lib.hid (hne (by omega))
    have hb64 : blen (limb n k) ≤ 64 := blen_le_of (limb_lt n k)
    have HB := Lib.hid (fun w' => bits_Len64 (limb n k) w' (by omega) (by omega))
    clear hx hl hne hcell
    go_wp2_with fail
    refine (HB.out _).mono ?_
    rintro e w2 ⟨rfl, rfl⟩
    rw [Int.toNat_natCast, bitLen_blen _ (limb_lt n k)]
    go_wp2_with fail
    go_ret
    refine ⟨ret_int ?_, rfl⟩
    rw [blen_limb HL.out HNE.out]
    omega

set_option maxHeartbeats 400000 in
theorem len_w (a : Nat) (ha : a < M) (w : World) : Calls Tryz.prog 76 #[wv a] w fun e w' => e = .returned (.int .i64 (blen a : Nat)) ∧ Below w.heap.size w w' := by
  have S : Hid (∀ w' p, w'.heap[p]? = some (.cells (wcells a) 24 (0, 0)) → Calls Tryz.prog 103 #[.slice (some ⟨p, 0, none⟩) 8 8] w' fun e w'' => e = .returned (.int .i64 (blen a : Nat)) ∧ w'' = w') :=
    Lib.hid fun w' p h => limbLen_any _ a 8 w' (by omega) (isLimbs_w ha h)
  clear ha
  go_enter Tryz.func76, Tryz.ntmps76
  go_wp2_with fail
  refine (S.out _ _ (alloc_new w _)).mono ?_
  rintro e w1 ⟨rfl, rfl⟩
  go_wp2_with fail
  go_ret
  exact ⟨rfl, below_al (Below.refl _ _) _⟩
end Go.Proofs.YtegmmaaapdgocaaGreat

/- THE WALKS of package wide, going on: powers, masks, 0 without a number, a word. -/
namespace Go.Proofs.YtegmmaaapdgocaaGreat
open Go Go.RowKit

def powerN (n : Int) : Nat := if 0 ≤ n ∧ n < 512 then P2 n.toNat else 0
theorem powerN_lt (n : Int) : powerN n < M := by
  unfold powerN
  split
  · rw [M_eq]; exact P2_lt (by omega)
  · exact M_pos
theorem limb_P2 (k j : Nat) : limb (P2 k) j = if j = k / 64 then P2 (k % 64) else 0 := by
  unfold limb
  rcases Nat.lt_trichotomy j (k / 64) with h | h | h
  · rw [if_neg (by omega), show k = 64 * j + (64 + (k - 64 * j - 64)) by omega, P2_add, Nat.mul_div_cancel_left _ (P2_pos _), P2_add, Nat.mul_mod_right]
  · rw [if_pos h]
    have e : k = 64 * j + k % 64 := by omega
    rw [show P2 k = P2 (64 * j) * P2 (k % 64) by rw [← P2_add, ← e], Nat.mul_div_cancel_left _ (P2_pos _), Nat.mod_eq_of_lt (P2_lt (by omega))]
  · rw [if_neg (by omega), Nat.div_eq_of_lt (P2_lt (by omega)), Nat.zero_mod]
theorem wcells_put {x y h : Nat} {v : Nat} (hh : h < 8) (hv : limb y h = v) (ho : ∀ j, j < 8 → j ≠ h → limb y j = limb x j) : (wcells x).setIfInBounds h (.int .u64 (v : Nat)) = wcells y := by
  subst hv
  apply Array.ext_getElem?
  intro i
  rw [Array.getElem?_setIfInBounds]
  by_cases hi : i < 8
  · by_cases e : h = i
    · subst e; rw [if_pos rfl, wcells_size, if_pos hh, wcells_get _ _ hi]
    · rw [if_neg e, wcells_get _ _ hi, wcells_get _ _ hi, ho i hi (fun h => e h.symm)]
  · have e : h ≠ i := by omega
    rw [if_neg e, Array.getElem?_eq_none (by rw [wcells_size]; omega), Array.getElem?_eq_none (by rw [wcells_size]; omega)]

theorem wrap_P2 (R : Nat) (h : R < 64) : IntKind.u64.wrap (2 ^ min R 64) = (P2 R : Nat) := by
  have e : ((2 : Int) ^ R) = ((P2 R : Nat) : Int) := by rw [P2_eq]; push_cast; rfl
  rw [Nat.min_eq_left (by omega), e, u64wrap_nat, Nat.mod_eq_of_lt (P2_lt h)]
set_option maxHeartbeats 400000 in
theorem power_w (n : Int) (w : World) (h1 : -9223372036854775808 ≤ n) (h2 : n ≤ 9223372036854775807) :
    Calls Tryz.prog 130 #[.int .i64 n] w fun e w' => e = .returned (wv (powerN n)) ∧ Below w.heap.size w w' := by
  by_cases hn : 0 ≤ n ∧ n < 512
  · obtain ⟨k, rfl⟩ := Int.eq_ofNat_of_zero_le hn.1
    have hk : k < 512 := by omega
    have HP := Lib.hid (show powerN (k : Int) = P2 k by unfold powerN; rw [if_pos hn]; rfl)
    obtain ⟨w0, hw0⟩ : ∃ w0, w0 = (w.alloc (.cells (wcells 0) 24)).alloc (.cells (wcells 0) 24) := ⟨_, rfl⟩
    have g1 : w0.heap[w.heap.size + 1]? = some (.cells (wcells 0) 24 (0, 0)) := by rw [hw0, alloc_new' _ (by simp)]
    have g0 : w0.heap[w.heap.size]? = some (.cells (wcells 0) 24 (0, 0)) := by rw [hw0, alloc_old _ _ _ (by simp), alloc_new]
    have hB : Below w.heap.size w w0 := by rw [hw0]; exact below_al (below_al (Below.refl _ _) _) _
    have cs := cell_row g1 (k / 64)
    rw [wcells_get _ _ (by omega)] at cs
    have fs := free_row g1 (k / 64)
    have G0 := Lib.hid g0; have G1 := Lib.hid g1; have HB := Lib.hid hB
    have hW := Lib.hid hw0
    have HC := Lib.hid cs; have HF := Lib.hid fs; have HL := Lib.hid (lt_of_heap g1)
    have e1 : (k : Int) < 512 := by omega
    have HK := Lib.hid hk
    clear hn hw0 g0 g1 hB cs fs hk
    go_enter Tryz.func130, Tryz.ntmps130
    go_upto_region 3 with fail
    rw [← hW.out]
    obtain ⟨Q, hQ⟩ : ∃ Q, Q = k / 64 := ⟨_, rfl⟩
    obtain ⟨R, hR⟩ : ∃ R, R = k % 64 := ⟨_, rfl⟩
    have cs := HC.out
    have fs := HF.out
    rw [← hQ] at cs fs
    have hl := HL.out
    have e2 : (0 : Int) ≤ (Q : Int) := Int.natCast_nonneg _
    have e3 : (Q : Int) < 8 := by omega
    have e4 : (0 : Int) ≤ (R : Int) := Int.natCast_nonneg _
    have q1 : Int.tdiv (k : Int) 64 = (Q : Int) := by rw [Int.tdiv_eq_ediv_of_nonneg (by omega)]; omega
    have q2 : Int.tmod (k : Int) 64 = (R : Int) := by rw [Int.tmod_eq_emod_of_nonneg (by omega)]; omega
    have HQ := Lib.hid hQ; have HR := Lib.hid hR
    clear hW e1 hQ hR h1 h2
    go_upto_region 4 with fail
    rw [wrap_P2 R (by have := HR.out; omega)]
    have hv : limb (P2 k) Q = P2 R := by rw [limb_P2, HQ.out, if_pos rfl, HR.out]
    have ho : ∀ j, j < 8 → j ≠ Q → limb (P2 k) j = limb 0 j := fun j _ hj => by rw [limb_P2, if_neg (by have := HQ.out; omega), limb_zero]
    have g1 := set_row G1.out Q (.int .u64 (P2 R : Nat))
    rw [wcells_put (by omega) hv ho] at g1
    have g0 := (set_other (w := w0) ⟨w.heap.size + 1, Q, none⟩ w.heap.size (.int .u64 (P2 R : Nat)) (by simp)).trans G0.out
    have HB' := Lib.hid (below_set HB.out (show w.heap.size ≤ w.heap.size + 1 by omega) Q (.int .u64 (P2 R : Nat)))
    obtain ⟨w1, hw1⟩ : ∃ w1, w1 = w0.setCell ⟨w.heap.size + 1, Q, none⟩ (.int .u64 (P2 R : Nat)) := ⟨_, rfl⟩
    rw [← hw1] at g0 g1 HB' ⊢
    have G0' := Lib.hid g0
    have c1 := cell_row g1
    have st := st_row (P := Tryz.prog) g0 rfl (P2 k)
    clear hw1 g0 g1 hv ho cs fs q1 q2 e2 e3 e4 hl
    go_wp2
    exact bodyPost_ret (v := wv _) (results_cell_row rfl _ _ w.heap.size _ _ _ _ rfl (setRow_heap _ _ _ _ _ _ G0'.out) Tryz.underlying24 rfl (by kernel_rfl)) rfl ⟨by rw [HP.out], below_setRow' HB'.out (Nat.le_refl _) _⟩
  · have HP := Lib.hid (show powerN n = 0 by unfold powerN; rw [if_neg hn])
    have hn' : n < 0 ∨ 512 ≤ n := by omega
    clear hn
    rcases hn' with hn | hn
    all_goals
      go_enter Tryz.func130, Tryz.ntmps130
      go_wp2
      exact bodyPost_ret (v := wv 0) (results_cell_row rfl _ _ w.heap.size _ _ _ _ rfl (by rw [alloc_old _ _ _ (by simp), alloc_new]) Tryz.underlying24 rfl (by kernel_rfl)) rfl ⟨by rw [HP.out], below_al (below_al (Below.refl _ _) _) _⟩

theorem limb_small_n {l : Nat} (h : l ≤ 18446744073709551615) : limb l 0 = l := by
  unfold limb
  rw [P2_00, Nat.div_one, P2_64, Nat.mod_eq_of_lt (by omega)]
theorem isLimbs_one {w : World} {p : Nat} {l : Nat} (hl : l ≤ 18446744073709551615) (h : w.cell? ⟨p, 0, none⟩ = some (.int .u64 (l : Nat))) (hp : p < w.heap.size) : IsLimbs w (.slice (some ⟨p, 0, none⟩) 1 1) l 1 :=
  ⟨⟨_, _, rfl, Nat.le_refl _, fun _ => ⟨p, 0, rfl, hp, fun i hi => by
    obtain rfl : i = 0 := by omega
    rw [limb_small_n hl]; exact h⟩⟩, by rw [Nat.mul_one, P2_64]; omega⟩
theorem one_M : (1 : Nat) % M = 1 := Nat.mod_eq_of_lt (by rw [M_eq]; have := P2_lt (show (0 : Nat) < 512 by decide); rw [P2_0] at this; exact this)
/-- Ones. -/
def maskN (n : Int) : Nat := subN (powerN (max 0 n)) 1

/-- 0 without a number. -/
def negN (a : Nat) : Nat := subN 0 a
set_option maxHeartbeats 1000000 in
theorem neg_w (a : Nat) (ha : a < M) (w : World) : Calls Tryz.prog 134 #[wv a] w fun e w' => e = .returned (wv (negN a)) ∧ Below w.heap.size w w' := by
  have S3 : Hid (∀ w' : World, Calls Tryz.prog 66 #[wv 0, wv a] w' fun e w'' => e = .returned (.tuple #[wv (negN a), .bool (decide (0 < a))]) ∧ Below w'.heap.size w' w'') := Lib.hid fun w' =>
    sub_w 0 a M_pos ha w'
  have G0 : Hid (((w.alloc (.cells (wcells a) 24)).alloc (.cells (wcells 0) 24)).heap[w.heap.size + 1]? = some (.cells (wcells 0) 24 (0, 0))) := Lib.hid (alloc_new' _ (by simp))
  obtain ⟨K, hK⟩ : ∃ K, K = negN a := ⟨_, rfl⟩
  obtain ⟨f, hf⟩ : ∃ f, f = decide (0 < a) := ⟨_, rfl⟩
  rw [← hK, ← hf] at S3
  rw [← hK]
  clear hK hf ha
  go_enter Tryz.func134, Tryz.ntmps134
  go_wp2_with fail
  refine (S3.out _).mono ?_
  rintro e w3 ⟨rfl, hb⟩
  have HB3 := Lib.hid (below_then (below_al (below_al (Below.refl w.heap.size w) _) _) hb)
  have G0 := Lib.hid ((hb.block _ (lt_of_heap G0.out)).trans G0.out)
  clear hb
  have HB4 := Lib.hid (below_al HB3.out (.cells (wcells K) 24))
  have G2 : Hid ((w3.alloc (.cells (wcells K) 24)).heap[w.heap.size + 1]? = some (.cells (wcells 0) 24 (0, 0))) := Lib.hid (by rw [alloc_old _ _ _ (lt_of_heap G0.out)]; exact G0.out)
  have st := st_row (P := Tryz.prog) G2.out rfl K
  go_wp2
  exact bodyPost_ret (v := wv _) (results_cell_row rfl _ _ (w.heap.size + 1) _ _ _ _ rfl (setRow_heap _ _ _ _ _ _ G2.out) Tryz.underlying24 rfl (by kernel_rfl)) rfl ⟨rfl, below_setRow' HB4.out (by omega) _⟩
end Go.Proofs.YtegmmaaapdgocaaGreat

/- THE WALKS of package wide, going on: which is above; a word. -/
namespace Go.Proofs.YtegmmaaapdgocaaGreat
open Go Go.RowKit

theorem labove_step {a b k : Nat} (h : a / P2 (64 * (k + 1)) = b / P2 (64 * (k + 1))) (hd : limb a k = limb b k) : a / P2 (64 * k) = b / P2 (64 * k) := by
  rw [limb_split a k, limb_split b k, h, hd]
theorem labove_lt {a b k : Nat} (h : a / P2 (64 * (k + 1)) = b / P2 (64 * (k + 1))) (hd : limb a k < limb b k) : a < b := by
  have h1 := limb_split a k
  have h2 := limb_split b k
  rw [← h] at h2
  rcases Nat.lt_or_ge a b with hlt | hge
  · exact hlt
  · have := Nat.div_le_div_right (c := P2 (64 * k)) hge
    omega

set_option maxHeartbeats 1000000 in
theorem limbLess_any (va vb : Value) (a b : Nat) (w : World) (ha : IsLimbs w va a 8) (hb : IsLimbs w vb b 8) :
    Calls Tryz.prog 120 #[va, vb] w fun e w' => e = .returned (.bool (decide (a < b))) ∧ w' = w := by
  have HA := Lib.hid ha; have HB := Lib.hid hb
  obtain ⟨aa, ca, rfl, hca, _⟩ := ha.ex
  obtain ⟨ab, cb, rfl, hcb, _⟩ := hb.ex
  have hta : Hid (a / P2 (64 * 8) = b / P2 (64 * 8)) := Lib.hid (by rw [Nat.div_eq_of_lt HA.out.lt, Nat.div_eq_of_lt HB.out.lt])
  clear ha hb
  go_enter Tryz.func120, Tryz.ntmps120
  go_wp2
  go_loop [5] (fun s => ∃ k : Nat, k ≤ 8 ∧ s = .int .i64 ((k : Int) - 1) ∧ a / P2 (64 * k) = b / P2 (64 * k)) (fun s => (intOf s + 1).toNat)
  case atStart => exact ⟨8, Nat.le_refl _, rfl, hta.out⟩
  case round =>
    obtain ⟨k, hk, rfl, he⟩ := hrel
    have HE := Lib.hid he
    clear he
    rcases k with _ | k
    · go_wp2
      go_ret
      refine ⟨ret_bool ?_, rfl⟩
      have := HE.out
      rw [P2_00, Nat.div_one, Nat.div_one] at this
      rw [this]; simp
    · have RA : Hid (Calls Tryz.prog 136 #[.slice aa 8 ca, .int .i64 k] w fun e w'' => e = .returned (.int .u64 (limb a k : Nat)) ∧ w'' = w) := Lib.hid (by
        have := limbAt_any _ a 8 k w (by omega) (by omega) HA.out
        rwa [show limbAtN a (k : Int) = limb a k by unfold limbAtN; rw [if_neg (by omega)]; rfl] at this)
      have RB : Hid (Calls Tryz.prog 136 #[.slice ab 8 cb, .int .i64 k] w fun e w'' => e = .returned (.int .u64 (limb b k : Nat)) ∧ w'' = w) := Lib.hid (by
        have := limbAt_any _ b 8 k w (by omega) (by omega) HB.out
        rwa [show limbAtN b (k : Int) = limb b k by unfold limbAtN; rw [if_neg (by omega)]; rfl] at this)
      have hla := limb_le a k
      have hlb := limb_le b k
      have e0 : ((k + 1 : Nat) : Int) - 1 = (k : Int) := by omega
      rw [e0]
      by_cases hd : limb a k = limb b k
      · have HD := Lib.hid hd
        clear hd
        have hne : (((limb a k : Nat) : Int) != ((limb b k : Nat) : Int)) = false := by rw [HD.out]; simp
        go_wp2_with fail
        refine RA.out.mono ?_
        rintro e w1 ⟨rfl, rfl⟩
        go_wp2_with fail
        refine RB.out.mono ?_
        rintro e w2 ⟨rfl, rfl⟩
        go_wp2
        go_round
        case rel => exact ⟨k, by omega, by go_num, labove_step HE.out HD.out⟩
        case measure => simp [intOf]
      · have hne : (((limb a k : Nat) : Int) != ((limb b k : Nat) : Int)) = true := by simp; omega
        have HD := Lib.hid hd
        clear hd
        go_wp2_with fail
        refine RA.out.mono ?_
        rintro e w1 ⟨rfl, rfl⟩
        go_wp2_with fail
        refine RB.out.mono ?_
        rintro e w2 ⟨rfl, rfl⟩
        go_wp2
        go_ret
        refine ⟨ret_bool ?_, rfl⟩
        have hd := HD.out
        rcases Nat.lt_or_ge (limb a k) (limb b k) with h | h
        · have := labove_lt HE.out h
          simp [h, this]
        · have := labove_lt HE.out.symm (show limb b k < limb a k by omega)
          simp; omega

set_option maxHeartbeats 1000000 in
theorem cmp_w (a b : Nat) (ha : a < M) (hb : b < M) (w : World) : Calls Tryz.prog 90 #[wv a, wv b] w fun e w' => e = .returned (.int .i64 (cmpN a b)) ∧ Below w.heap.size w w' := by
  have hW : ∃ w0, w0 = (w.alloc (.cells (wcells a) 24)).alloc (.cells (wcells b) 24) := ⟨_, rfl⟩
  obtain ⟨w0, hw0⟩ := hW
  have g0 : w0.heap[w.heap.size]? = some (.cells (wcells a) 24 (0, 0)) := by rw [hw0, alloc_old _ _ _ (by simp), alloc_new]
  have g1 : w0.heap[w.heap.size + 1]? = some (.cells (wcells b) 24 (0, 0)) := by rw [hw0, alloc_new' _ (by simp)]
  have HB0 : Hid (Below w.heap.size w w0) := Lib.hid (by rw [hw0]; exact below_al (below_al (Below.refl _ _) _) _)
  have S : Hid (∀ x : Ext w0.heap.size w0, Calls Tryz.prog 120 #[.slice (some ⟨w.heap.size, 0, none⟩) 8 8, .slice (some ⟨w.heap.size + 1, 0, none⟩) 8 8] x.val fun e w'' => e = .returned (.bool (decide (a < b))) ∧ Below x.val.heap.size x.val w'') := Lib.hid fun x =>
    (limbLess_any _ _ a b x.val (isLimbs_w ha ((x.property.block _ (lt_of_heap g0)).trans g0)) (isLimbs_w hb ((x.property.block _ (lt_of_heap g1)).trans g1))).mono fun _ _ ⟨h1, h2⟩ => ⟨h1, by rw [h2]; exact Below.refl _ _⟩
  have HW := Lib.hid hw0
  have hma : a % M = a := Nat.mod_eq_of_lt ha
  have hmb : b % M = b := Nat.mod_eq_of_lt hb
  by_cases hab : a = b
  · subst hab
    have HC := Lib.hid (cmpN_eq (a := a) (b := a) rfl)
    clear hw0 g0 g1 ha hb hma hmb
    go_enter Tryz.func90, Tryz.ntmps90
    go_wp2
    go_ret
    exact ⟨ret_int (by rw [HC.out]), below_al (below_al (Below.refl _ _) _) _⟩
  · have HE := Lib.hid (show decide (a % M = b % M) = false by rw [hma, hmb]; exact decide_eq_false hab)
    have HAB := Lib.hid hab
    clear hw0 g0 g1 ha hb hma hmb hab
    go_enter Tryz.func90, Tryz.ntmps90
    have he := HE.out
    by_cases hlt : a < b
    · have HC := Lib.hid (cmpN_lt hlt)
      rw [decide_eq_true hlt] at S
      clear hlt
      go_wp2_with fail
      rw [← HW.out]
      refine wp_region_ext w0.heap.size (by kernel_rfl) (by kernel_rfl) ?_
      repeat (go_big_quiet_step ((go_at_call 120; exact Calls.quiet_ext (Nat.le_refl _) (S.out _))))
      refine wpQuiet_nil ?_
      intro w4 hb4
      go_wp2
      go_ret
      exact ⟨ret_int (by rw [HC.out]), below_then HB0.out hb4⟩
    · have HC := Lib.hid (cmpN_gt (a := a) (b := b) (by have := HAB.out; omega))
      rw [decide_eq_false hlt] at S
      clear hlt
      go_wp2_with fail
      rw [← HW.out]
      refine wp_region_ext w0.heap.size (by kernel_rfl) (by kernel_rfl) ?_
      repeat (go_big_quiet_step ((go_at_call 120; exact Calls.quiet_ext (Nat.le_refl _) (S.out _))))
      refine wpQuiet_nil ?_
      intro w4 hb4
      go_wp2
      go_ret
      exact ⟨ret_int (by rw [HC.out]), below_then HB0.out hb4⟩

theorem word_limbs (x y : Nat) (hx : x ≤ 18446744073709551615) (hy : y ≤ 18446744073709551615) : limb (y + P2 64 * x) 0 = y ∧ limb (y + P2 64 * x) 1 = x ∧ y + P2 64 * x < P2 (64 * 2) := by
  have h64 := P2_64
  refine ⟨?_, ?_, ?_⟩
  · unfold limb
    rw [P2_00, Nat.div_one, Nat.add_mul_mod_self_left, Nat.mod_eq_of_lt (by omega)]
  · unfold limb
    rw [show 64 * 1 = 64 from rfl, Nat.add_mul_div_left _ _ (P2_pos _), Nat.div_eq_of_lt (by omega), Nat.zero_add, Nat.mod_eq_of_lt (by omega)]
  · rw [show 64 * 2 = 64 + 64 from rfl, P2_add]
    have : P2 64 * (x + 1) ≤ P2 64 * P2 64 := Nat.mul_le_mul_left _ (by omega)
    rw [Nat.mul_add] at this
    omega
theorem word_M (x y : Nat) (hx : x ≤ 18446744073709551615) (hy : y ≤ 18446744073709551615) : y + P2 64 * x < M :=
  Nat.lt_of_lt_of_le (word_limbs x y hx hy).2.2 (by rw [M_eq]; exact P2_le (by decide))

end Go.Proofs.YtegmmaaapdgocaaGreat

/- LITERALS: a number of 512 bits, written out by its lowest limbs. -/
namespace Go.Proofs.YtegmmaaapdgocaaGreat
open Go Go.RowKit
theorem word_cells (x y : Nat) (hx : x ≤ 18446744073709551615) (hy : y ≤ 18446744073709551615) : (#[.int .u64 y, .int .u64 x, .int .u64 0, .int .u64 0, .int .u64 0, .int .u64 0, .int .u64 0, .int .u64 0] : Array Value) = wcells (y + P2 64 * x) := by
  obtain ⟨h0, h1, h2⟩ := word_limbs x y hx hy
  unfold wcells
  rw [h0, h1, limb_gone _ 2 2 h2 (by omega), limb_gone _ 3 2 h2 (by omega), limb_gone _ 4 2 h2 (by omega), limb_gone _ 5 2 h2 (by omega), limb_gone _ 6 2 h2 (by omega), limb_gone _ 7 2 h2 (by omega)]
  rfl
theorem lit_cells (y : Nat) (hy : y ≤ 18446744073709551615) : (#[.int .u64 y, .int .u64 0, .int .u64 0, .int .u64 0, .int .u64 0, .int .u64 0, .int .u64 0, .int .u64 0] : Array Value) = wcells y := by
  have := word_cells 0 y (by omega) hy
  rw [Nat.mul_zero, Nat.add_zero] at this
  exact this
@[go_sem] theorem wcells_ne (n : Nat) : (wcells n = #[]) = False := by unfold wcells; simp
@[go_sem] theorem wset0 (v : Value) : (wcells 0).setIfInBounds 0 v = #[v, .int .u64 0, .int .u64 0, .int .u64 0, .int .u64 0, .int .u64 0, .int .u64 0, .int .u64 0] := by
  unfold wcells; simp only [limb_zero]; rfl
/-- Is a number 0? (a Bool of its own, so that a walk can be told of it) -/
def isZ (a : Nat) : Bool := decide (a % M = 0)
theorem isZ_yes {a : Nat} (h : a = 0) : isZ a = true := by unfold isZ; rw [h, Nat.zero_mod]; rfl
theorem isZ_no {a : Nat} (ha : a < M) (h : a ≠ 0) : isZ a = false := by unfold isZ; rw [Nat.mod_eq_of_lt ha]; exact decide_eq_false h
@[go_sem] theorem isZ_zero : isZ 0 = true := isZ_yes rfl
@[go_sem high] theorem eq_wide_z (a : Nat) (w : World) : (Op.equalIn 10000 24 (.agg (wcells a)) (.agg (wcells 0))).run Tryz.prog w = .ok (isZ a) w := by
  rw [eq_wide a 0 w, Nat.zero_mod]; rfl
theorem ret_i64 {a b : Int} (h : a = b) : Ending.returned (.int .i64 a) = .returned (.int .i64 b) := by rw [h]
theorem clampN_at {k : Nat} (h : k ≤ 512) : clampN (k : Int) = k := by have := clampN_mid (n := (k : Int)) (by omega) (by omega); omega
theorem powerN_at (k : Nat) (hk : k < 512) : powerN (k : Int) = P2 k := by unfold powerN; rw [if_pos ⟨by omega, by omega⟩]; rfl
theorem blen_zero_iff {d : Nat} : (((blen d : Nat) : Int) == 0) = decide (d = 0) := by
  by_cases h : d = 0
  · rw [h, blen_zero]; simp
  · have := blen_pos h
    rw [decide_eq_false h]; simp; omega

theorem P2_1 : P2 1 = 2 := by rw [P2_eq]
end Go.Proofs.YtegmmaaapdgocaaGreat
