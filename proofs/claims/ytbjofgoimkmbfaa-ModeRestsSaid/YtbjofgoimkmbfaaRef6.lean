/- THE WALK of the reference's product. -/
import Derived.Test.YtbjofgoimkmbfaaRef5
namespace Go.Proofs.Ytbjofgoimkmbfaa
open Go Go.RowKit

/-! ### Digits of a product, line by line -/
/-- What stands when the digits below i of a are done. -/
def pS (a b i : Nat) : Nat := a % P2 (32 * i) * b
/-- And the digits below k of b for digit i of a. -/
def pN (a b i k : Nat) : Nat := pS a b i + dig a i * P2 (32 * i) * (b % P2 (32 * k))
/-- What is carried. -/
def pC (a b i k : Nat) : Nat := (pS a b i % P2 (32 * (i + k)) + dig a i * P2 (32 * i) * (b % P2 (32 * k))) / P2 (32 * (i + k))
theorem mod_split (n i : Nat) : n % P2 (32 * (i + 1)) = n % P2 (32 * i) + dig n i * P2 (32 * i) := by
  have h1 := dig_split n i
  have h2 := Nat.div_add_mod n (P2 (32 * i))
  have h3 := Nat.div_add_mod n (P2 (32 * (i + 1)))
  have h4 : P2 (32 * (i + 1)) = P2 (32 * i) * P2 32 := by rw [← P2_add]; congr 1
  rw [h1, Nat.mul_add, ← Nat.mul_assoc, ← h4, Nat.mul_comm (P2 (32 * i)) (dig n i)] at h2
  omega
theorem pS_zero (a b : Nat) : pS a b 0 = 0 := by unfold pS; rw [show 32 * 0 = 0 from rfl, P2_0, Nat.mod_one, Nat.zero_mul]
theorem pN_zero (a b i : Nat) : pN a b i 0 = pS a b i := by unfold pN; rw [show 32 * 0 = 0 from rfl, P2_0, Nat.mod_one, Nat.mul_zero]; rfl
theorem pC_zero (a b i : Nat) : pC a b i 0 = 0 := by
  unfold pC
  rw [show 32 * 0 = 0 from rfl, P2_0, Nat.mod_one, Nat.mul_zero, Nat.add_zero, Nat.add_zero]
  exact Nat.div_eq_of_lt (Nat.mod_lt _ (P2_pos _))
theorem P2_mul_step (i k : Nat) : P2 (32 * i) * P2 (32 * k) = P2 (32 * (i + k)) := by rw [← P2_add]; congr 1; omega
theorem pN_succ (a b i k : Nat) : pN a b i (k + 1) = pN a b i k + P2 (32 * (i + k)) * (dig a i * dig b k) := by
  unfold pN
  rw [mod_split b k, Nat.mul_add, ← Nat.add_assoc]
  congr 1
  rw [← P2_mul_step]
  simp only [Nat.mul_assoc, Nat.mul_comm, Nat.mul_left_comm]
theorem dig_low (n X j k : Nat) (h : j < k) : dig (n + P2 (32 * k) * X) j = dig n j := by
  unfold dig
  rw [show P2 (32 * k) = P2 (32 * j) * (P2 32 * P2 (32 * (k - j - 1))) by rw [← P2_add, ← P2_add]; congr 1; omega, Nat.mul_assoc, Nat.add_mul_div_left _ _ (P2_pos _), Nat.mul_assoc, Nat.add_mul_mod_self_left]
theorem pN_low (a b i k j : Nat) (h : j < i + k) : dig (pN a b i (k + 1)) j = dig (pN a b i k) j := by rw [pN_succ, dig_low _ _ _ _ h]
/-- The sum of one step. -/
def pT (a b i k : Nat) : Nat := pC a b i k + dig (pS a b i) (i + k) + dig a i * dig b k
theorem pT_eq (a b i k : Nat) : (pS a b i % P2 (32 * (i + k + 1)) + dig a i * P2 (32 * i) * (b % P2 (32 * (k + 1)))) / P2 (32 * (i + k)) = pT a b i k := by
  rw [mod_split (pS a b i) (i + k), mod_split b k, Nat.mul_add (dig a i * P2 (32 * i))]
  have : dig a i * P2 (32 * i) * (dig b k * P2 (32 * k)) = P2 (32 * (i + k)) * (dig a i * dig b k) := by
    rw [← P2_mul_step]; simp only [Nat.mul_assoc, Nat.mul_comm, Nat.mul_left_comm]
  rw [this, Nat.mul_comm (dig (pS a b i) (i + k))]
  generalize hU : dig a i * P2 (32 * i) * (b % P2 (32 * k)) = U
  rw [show pS a b i % P2 (32 * (i + k)) + P2 (32 * (i + k)) * dig (pS a b i) (i + k) + (U + P2 (32 * (i + k)) * (dig a i * dig b k)) = pS a b i % P2 (32 * (i + k)) + U + P2 (32 * (i + k)) * (dig (pS a b i) (i + k) + dig a i * dig b k) by rw [Nat.mul_add (P2 (32 * (i + k))) (dig (pS a b i) (i + k))]; omega]
  rw [Nat.add_mul_div_left _ _ (P2_pos _)]
  unfold pT pC
  rw [hU]; omega
theorem pC_succ (a b i k : Nat) : pC a b i (k + 1) = pT a b i k / 4294967296 := by
  rw [← pT_eq, Nat.div_div_eq_div_mul, ← P2_32, ← P2_add]
  unfold pC
  rw [← Nat.add_assoc, show 32 * (i + k + 1) = 32 * (i + k) + 32 by omega]
theorem pN_dig (a b i k : Nat) : dig (pN a b i (k + 1)) (i + k) = pT a b i k % 4294967296 := by
  rw [← pT_eq, ← P2_32]
  unfold dig
  have h := Nat.div_add_mod (pS a b i) (P2 (32 * (i + k + 1)))
  have e : P2 (32 * (i + k + 1)) = P2 (32 * (i + k)) * P2 32 := by rw [← P2_add]; congr 1
  unfold pN
  rw [show pS a b i + dig a i * P2 (32 * i) * (b % P2 (32 * (k + 1))) = (pS a b i % P2 (32 * (i + k + 1)) + dig a i * P2 (32 * i) * (b % P2 (32 * (k + 1)))) + P2 (32 * (i + k)) * (P2 32 * (pS a b i / P2 (32 * (i + k + 1)))) by rw [← Nat.mul_assoc, ← e]; omega]
  rw [Nat.add_mul_div_left _ _ (P2_pos _), Nat.add_mul_mod_self_left]
  rfl
theorem pC_le (a b i k : Nat) : pC a b i k ≤ 4294967295 := by
  apply Nat.le_of_lt_succ
  unfold pC
  rw [show Nat.succ 4294967295 = P2 32 from P2_32.symm, Nat.div_lt_iff_lt_mul (P2_pos _)]
  have h1 := Nat.mod_lt (pS a b i) (P2_pos (32 * (i + k)))
  have h2 := Nat.mod_lt b (P2_pos (32 * k))
  have h3 := dig_le a i
  have h4 : dig a i * P2 (32 * i) * (b % P2 (32 * k)) ≤ 4294967295 * P2 (32 * (i + k)) := by
    rw [← P2_mul_step, Nat.mul_assoc]
    exact Nat.mul_le_mul h3 (Nat.mul_le_mul_left _ (by omega))
  rw [P2_32]
  omega
theorem pT_le (a b i k : Nat) : dig a i * dig b k ≤ 18446744065119617025 := Nat.mul_le_mul (dig_le a i) (dig_le b k)
theorem pS_succ (a b i L : Nat) (hb : b < P2 (32 * L)) : pN a b i L = pS a b (i + 1) := by
  unfold pN pS
  rw [mod_split a i, Nat.add_mul, Nat.mod_eq_of_lt hb]
theorem pS_lt (a b i L : Nat) (hb : b < P2 (32 * L)) : pS a b i < P2 (32 * (i + L)) := by
  unfold pS
  rw [← P2_mul_step]
  rcases Nat.eq_zero_or_pos b with rfl | h
  · rw [Nat.mul_zero]; exact Nat.mul_pos (P2_pos _) (P2_pos _)
  · exact Nat.mul_lt_mul'' (Nat.mod_lt _ (P2_pos _)) hb
theorem pC_top (a b i L : Nat) (hb : b < P2 (32 * L)) : pC a b i L = dig (pS a b (i + 1)) (i + L) := by
  have h1 := pS_lt a b (i + 1) L hb
  have h2 := dig_split (pS a b (i + 1)) (i + L)
  rw [show i + L + 1 = i + 1 + L by omega, Nat.div_eq_of_lt h1] at h2
  have h3 : pS a b (i + 1) / P2 (32 * (i + L)) = dig (pS a b (i + 1)) (i + L) := by omega
  rw [← h3, ← pS_succ a b i L hb]
  unfold pC pN
  rw [Nat.mod_eq_of_lt (pS_lt a b i L hb)]
theorem pS_all (a b L : Nat) (ha : a < P2 (32 * L)) : pS a b L = a * b := by unfold pS; rw [Nat.mod_eq_of_lt ha]

theorem i64wrap (x : Int) (h : 0 ≤ x) (h2 : x ≤ 9223372036854775807) : IntKind.i64.wrap x = x := by
  simp [IntKind.wrap, IntKind.bits, IntKind.signed]
  omega
theorem wrapT (c s x y : Nat) (h1 : c ≤ 4294967295) (h2 : s ≤ 4294967295) (h3 : x ≤ 4294967295) (h4 : y ≤ 4294967295) :
    IntKind.u64.wrap (IntKind.u64.wrap ((c : Int) + IntKind.u64.wrap (s : Int)) + IntKind.u64.wrap (IntKind.u64.wrap (x : Int) * IntKind.u64.wrap (y : Int))) = ((c + s + x * y : Nat) : Int) ∧ c + s + x * y ≤ 18446744073709551615 := by
  have h := Nat.mul_le_mul h3 h4
  have e1 : IntKind.u64.wrap (x : Int) = (x : Int) := by rw [u64wrap]; omega
  have e2 : IntKind.u64.wrap (y : Int) = (y : Int) := by rw [u64wrap]; omega
  rw [e1, e2, ← Int.natCast_mul]
  generalize x * y = p at *
  simp only [u64wrap]
  omega
/-! ### The walk -/
/-- K cells in a block, each known. -/
structure Holds32 (w : World) (g K : Nat) (f : Nat → Nat) : Prop where
  ex : ∃ cs, w.heap[g]? = some (.cells cs 137 (0, 0)) ∧ ∀ j, j < K → cs[j]? = some (.int .u32 (f j : Nat))
theorem Holds32.cell {w : World} {g K : Nat} {f : Nat → Nat} (h : Holds32 w g K f) {j : Nat} (hj : j < K) : w.cell? ⟨g, j, none⟩ = some (.int .u32 (f j : Nat)) := by
  obtain ⟨cs, h1, h2⟩ := h.ex; rw [cell_row h1, h2 j hj]
theorem Holds32.free {w : World} {g K : Nat} {f : Nat → Nat} (h : Holds32 w g K f) (j : Nat) : w.frozen? ⟨g, j, none⟩ = false := by
  obtain ⟨cs, h1, h2⟩ := h.ex; exact free_row h1 j
theorem Holds32.lt {w : World} {g K : Nat} {f : Nat → Nat} (h : Holds32 w g K f) : g < w.heap.size := by
  obtain ⟨cs, h1, h2⟩ := h.ex; exact lt_of_heap h1
theorem Holds32.set {w : World} {g K : Nat} {f f' : Nat → Nat} (h : Holds32 w g K f) {j v : Nat} (hj : j < K) (hv : f' j = v) (ho : ∀ i, i < K → i ≠ j → f' i = f i) : Holds32 (w.setCell ⟨g, j, none⟩ (.int .u32 (v : Nat))) g K f' := by
  obtain ⟨cs, h1, h2⟩ := h.ex
  refine ⟨_, set_row h1 j _, fun i hi => ?_⟩
  have hs : j < cs.size := by
    rcases Nat.lt_or_ge j cs.size with h | h
    · exact h
    · have := h2 j hj; rw [Array.getElem?_eq_none h] at this; cases this
  rw [Array.getElem?_setIfInBounds]
  by_cases e : j = i
  · subst e; simp [hs, hv]
  · rw [if_neg e, h2 i hi, ho i hi (fun h => e h.symm)]
set_option maxHeartbeats 2000000 in
theorem mul_any (va vb : Value) (a b : Nat) (w : World) (hsa : a < BIG) (hsb : b < BIG) (ha : IsBig w va a) (hb : IsBig w vb b) :
    Calls Try.prog 85 #[va, vb] w (GivesBig (a * b) w) := by
  obtain ⟨La, hra, hma⟩ := ha
  obtain ⟨Lb, hrb, hmb⟩ := hb
  have hla := small_len hra hma hsa
  have hlb := small_len hrb hmb hsb
  obtain ⟨⟨aa, ca, rfl, hca, hxa⟩, hna⟩ := hra
  obtain ⟨⟨ab, cb, rfl, hcb, hxb⟩, hnb⟩ := hrb
  have HNA := Lib.hid hna; have HNB := Lib.hid hnb
  have HXA := Lib.hid hxa; have HXB := Lib.hid hxb
  clear hna hnb hma hmb hsa hsb hxa hxb
  go_enter Try.func85, Try.ntmps85
  go_wp2_with (obtain ⟨i0, hi, hz0, hz1, hz2⟩ := info_parts infoU32; refine wpList_make_full _ rfl _ _ 35 rfl w.heap.size 137 i0 (.int .u32 0) 1 Try.underlying35 hi hz0 hz1 _ _ _ _ (La + Lb) rfl rfl ?hL ?hC ?b2 ?b3 ?b4 ?_)
  case hL => omega
  case hC => omega
  case b2 => rw [hz2]; omega
  case b3 => unfold maxLen; omega
  case b4 => exact Nat.le_refl _
  intro w0 hown hgrow
  have hB0 : Below w.heap.size w w0 := (Below.refl _ _).grown hgrow (Nat.le_refl _) (fun k hk => by cases hk)
  have hH0 : Holds32 w0 w.heap.size (La + Lb) (fun j => dig (pS a b 0) j) := by
    obtain ⟨hlen, ⟨h1, _⟩ | ⟨g, cap, cur, hv, hbg, hg, hnc, hcz, hcs, htake⟩⟩ := hown
    · cases h1
    · cases hv
      refine ⟨cur, hg, fun j hj => ?_⟩
      have h1 : (madeCells #[Value.int IntKind.u32 0] ((La + Lb) * 1)).toList[j]? = some (.int .u32 0) := by
        rw [toList_madeCells_one]; exact List.getElem?_replicate_of_lt (by omega)
      have h2 : (madeCells #[Value.int IntKind.u32 0] ((La + Lb) * 1)).toList = List.take ((La + Lb) * 1) cur.toList := by rw [htake, Nat.mul_one]
      rw [h2, List.getElem?_take, if_pos (by omega)] at h1
      rw [pS_zero, dig_zero, ← Array.getElem?_toList]; exact h1
  clear hown hgrow hi hz0 hz1 hz2
  have HB0 := Lib.hid hB0
  have HH0 := Lib.hid hH0
  clear hB0 hH0
  go_wp2
  go_loopw [6, 7, 8] (fun s c t wr => ∃ i : Nat, i ≤ La ∧ s = .int .i64 i ∧ Holds32 wr w.heap.size (La + Lb) (fun j => dig (pS a b i) j) ∧ Below w.heap.size w wr) (fun s _ _ _ => (La - (intOf s).toNat))
  case atStart => exact ⟨0, by omega, rfl, HH0.out, HB0.out⟩
  case round =>
    obtain ⟨i, hi, rfl, hH, hbel⟩ := hrel
    clear HB0 HH0
    have HB := Lib.hid hbel
    have HH := Lib.hid hH
    clear hbel hH
    obtain ⟨wo, rfl⟩ : ∃ wo : World, wo = wr := ⟨_, rfl⟩
    by_cases hlt : i < La
    · go_wp2
      go_loopw [7, 8] (fun c t wr => ∃ k : Nat, k ≤ Lb ∧ t = .int .i64 k ∧ c = .int .u64 (pC a b i k : Nat) ∧ Holds32 wr w.heap.size (La + Lb) (fun j => if j < i + k then dig (pN a b i k) j else dig (pS a b i) j) ∧ Below w.heap.size w wr) (fun _ t _ => (Lb - (intOf t).toNat))
      case atStart => exact ⟨0, by omega, rfl, by rw [pC_zero]; rfl, by
        obtain ⟨cs, h1, h2⟩ := HH.out.ex
        exact ⟨cs, h1, fun j hj => by rw [h2 j hj, pN_zero]; simp⟩, HB.out⟩
      case round =>
        obtain ⟨k, hk, rfl, rfl, hH, hbel⟩ := hrel
        clear HB HH
        by_cases hlt2 : k < Lb
        · obtain ⟨ba, oa, rfl, hba, hca'⟩ := HXA.out (by omega)
          obtain ⟨bb, ob, rfl, hbb, hcb'⟩ := HXB.out (by omega)
          have ga := (hbel.cell (p := ⟨ba, oa + i, none⟩) hba).trans (hca' i hlt)
          have gb := (hbel.cell (p := ⟨bb, ob + k, none⟩) hbb).trans (hcb' k hlt2)
          have gs := hH.cell (j := i + k) (by omega)
          have gf := hH.free (i + k)
          have gl := hH.lt
          rw [if_neg (by omega)] at gs
          have HW := Lib.hid (wrapT (pC a b i k) (dig (pS a b i) (i + k)) (dig a i) (dig b k) (pC_le a b i k) (dig_le _ _) (dig_le a i) (dig_le b k))
          have HH := Lib.hid hH
          have HB := Lib.hid hbel
          clear hca' hcb' hH hbel
          have e0 : (0 : Int) ≤ (i : Int) + (k : Int) := by omega
          have e1 : (i : Int) + (k : Int) < (La : Int) + (Lb : Int) := by omega
          have e2 : (i : Int) + (k : Int) < ((La + Lb : Nat) : Int) := by omega
          have e3 : IntKind.i64.wrap ((i : Int) + (k : Int)) = (i : Int) + (k : Int) := i64wrap _ (by omega) (by omega)
          have e4 : ((i : Int) + (k : Int)).toNat = i + k := by omega
          have e5 : (0 : Int) ≤ (i : Int) := Int.natCast_nonneg _
          have e6 : (0 : Int) ≤ (k : Int) := Int.natCast_nonneg _
          have e7 : (i : Int) < (La : Int) := by omega
          have e8 : (k : Int) < (Lb : Int) := by omega
          go_wp2
          go_region_held3 (fun w' => w'.cell? ⟨ba, oa + i, none⟩ = some (.int .u32 (dig a i : Nat)) ∧ w'.cell? ⟨bb, ob + k, none⟩ = some (.int .u32 (dig b k : Nat)) ∧ w'.cell? ⟨w.heap.size, i + k, none⟩ = some (.int .u32 (dig (pS a b i) (i + k) : Nat))) (go_keep) (fail)
          rw [HW.out.1]
          obtain ⟨T, hT⟩ : ∃ T, T = pC a b i k + dig (pS a b i) (i + k) + dig a i * dig b k := ⟨_, rfl⟩
          have hTl := HW.out.2
          rw [← hT] at hTl ⊢
          have HT := Lib.hid (show T = pT a b i k from hT)
          obtain ⟨wd, hwd⟩ : ∃ wd : World, wd = wr.drew := ⟨_, rfl⟩
          rw [← hwd]
          have HHd : Hid (Holds32 wd w.heap.size (La + Lb) (fun j => if j < i + k then dig (pN a b i k) j else dig (pS a b i) j)) := Lib.hid (by rw [hwd]; exact ⟨HH.out.ex⟩)
          have HBd : Hid (Below w.heap.size w wd) := Lib.hid (by rw [hwd]; exact HB.out.drew)
          have gs := HHd.out.cell (j := i + k) (by omega)
          have gf := HHd.out.free (i + k)
          have gl := HHd.out.lt
          rw [if_neg (by omega)] at gs
          clear HW HH HB hT hwd ga gb
          go_wp2
          have HHn : Hid (Holds32 (wd.setCell ⟨w.heap.size, i + k, none⟩ (.int .u32 ((T % 4294967296 : Nat) : Int))) w.heap.size (La + Lb) (fun j => if j < i + (k + 1) then dig (pN a b i (k + 1)) j else dig (pS a b i) j)) := Lib.hid (by
            refine HHd.out.set (by omega) ?_ ?_
            · rw [if_pos (by omega), pN_dig, HT.out]
            · intro j hj hne
              by_cases hlow : j < i + k
              · rw [if_pos (by omega), if_pos hlow, pN_low _ _ _ _ _ hlow]
              · rw [if_neg (by omega), if_neg hlow])
          have HBn := Lib.hid (below_set HBd.out (Nat.le_refl _) (i + k) (.int .u32 ((T % 4294967296 : Nat) : Int)))
          have hcT : ((T : Nat) : Int) / 4294967296 = ((pC a b i (k + 1) : Nat) : Int) := by rw [pC_succ, ← HT.out]; omega
          go_roundw
          case rel => exact ⟨k + 1, by omega, by go_num, by rw [← hcT], HHn.out, HBn.out⟩
          case measure => simp [intOf]; omega
        · obtain ⟨hk2⟩ : Nonempty (Lb ≤ k ∧ k ≤ Lb) := ⟨by omega, hk⟩
          have hke : k = Lb := by omega
          have gs := hH.cell (j := i + Lb) (by omega)
          have gf := hH.free (i + Lb)
          have gl := hH.lt
          have HC := Lib.hid (show pC a b i k = dig (pS a b (i + 1)) (i + Lb) by rw [hke, pC_top a b i Lb HNB.out])
          have hcl := pC_le a b i k
          have e0 : (0 : Int) ≤ (i : Int) + (Lb : Int) := by omega
          have e1 : (i : Int) + (Lb : Int) < (La : Int) + (Lb : Int) := by omega
          have e2 : (i : Int) + (Lb : Int) < ((La + Lb : Nat) : Int) := by omega
          have e3 : IntKind.i64.wrap ((i : Int) + (Lb : Int)) = (i : Int) + (Lb : Int) := i64wrap _ (by omega) (by omega)
          have e4 : ((i : Int) + (Lb : Int)).toNat = i + Lb := by omega
          have HH := Lib.hid hH
          have HB := Lib.hid hbel
          have HK := Lib.hid hke
          obtain ⟨C, hC⟩ : ∃ C, C = pC a b i k := ⟨_, rfl⟩
          rw [← hC] at hcl HC ⊢
          clear hH hbel hke hC
          go_wp2
          have hCm : IntKind.u32.wrap (C : Int) = (C : Int) := by rw [u32wrap]; omega
          have HHn : Hid (Holds32 (wr.setCell ⟨w.heap.size, i + Lb, none⟩ (.int .u32 (C : Nat))) w.heap.size (La + Lb) (fun j => dig (pS a b (i + 1)) j)) := Lib.hid (by
            refine HH.out.set (by omega) HC.out.symm ?_
            intro j hj hne
            rw [HK.out]
            by_cases hlow : j < i + Lb
            · rw [if_pos hlow, pS_succ _ _ _ _ HNB.out]
            · rw [if_neg hlow, dig_big _ _ (i + Lb) (pS_lt a b i Lb HNB.out) (by omega), dig_big _ _ (i + 1 + Lb) (pS_lt a b (i + 1) Lb HNB.out) (by omega)])
          have HBn := Lib.hid (below_set HB.out (Nat.le_refl _) (i + Lb) (.int .u32 (C : Nat)))
          go_roundw
          case rel => exact ⟨i + 1, by omega, by go_num, HHn.out, HBn.out⟩
          case measure => simp [intOf]; omega
    · have hR : IsRaw wo (.slice (some ⟨w.heap.size, 0, none⟩) (La + Lb) (La + Lb)) (a * b) (La + Lb) := by
        have h1 : i = La := by omega
        subst h1
        have h2 := pS_lt a b i Lb HNB.out
        rw [pS_all a b i HNA.out] at h2
        refine ⟨⟨_, _, rfl, Nat.le_refl _, fun _ => ⟨_, 0, rfl, HH.out.lt, fun j hj => ?_⟩⟩, h2⟩
        rw [Nat.zero_add, HH.out.cell hj, pS_all a b i HNA.out]
      have hT := trim_any _ (a * b) (La + Lb) _ (by omega) hR
      have HT := Lib.hid hT
      clear hR hT HH
      go_wp2_with fail
      refine HT.out.mono ?_
      rintro e w1 ⟨r, rfl, hr, rfl⟩
      have HR := Lib.hid hr; clear hr
      go_wp2_with fail
      go_ret
      exact ⟨r, rfl, HR.out, HB.out⟩
end Go.Proofs.Ytbjofgoimkmbfaa
