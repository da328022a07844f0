/- THE WALKS of package limb, going on: numbers of any length, made limb by limb, shifted up and down; which is above. -/
import Derived.Test.YtegmmaaapdgocaaGreatK11
import Derived.Test.YtegmmaaapdgocaaGreatK6
import Derived.Test.YtegmmaaapdgocaaGreatK2
namespace Go.Proofs.YtegmmaaapdgocaaGreat
open Go Go.RowKit

theorem limb_down (n i k r : Nat) (hr : r < 64) : (limb n (i + k) / P2 r) ||| (limb n (i + k + 1) * P2 (64 - r) % P2 64) = limb (n / P2 (64 * k + r)) i := by
  apply Nat.eq_of_testBit_eq
  intro j
  rw [Nat.testBit_or, bit_div, bit_mod, bit_mul, limb_bit, limb_bit, limb_bit, bit_div]
  by_cases hj : j < 64
  · by_cases hrj : r + j < 64
    · have g1 : ¬ (64 - r ≤ j) := by omega
      have g2 : 64 * (i + k) + (r + j) = 64 * k + r + (64 * i + j) := by omega
      simp [hj, hrj, g1, g2]
    · have g1 : 64 - r ≤ j := by omega
      have g2 : 64 * (i + k + 1) + (j - (64 - r)) = 64 * k + r + (64 * i + j) := by omega
      have g3 : j - (64 - r) < 64 := by omega
      simp [hj, hrj, g1, g2, g3]
  · have g1 : ¬ (r + j < 64) := by omega
    simp [hj, g1]
theorem limb_up (n i k r : Nat) (hr : r < 64) : (limbAtN n ((i : Int) - k) * P2 r % P2 64) ||| (limbAtN n ((i : Int) - k - 1) / P2 (64 - r)) = limb (n * P2 (64 * k + r)) i := by
  apply Nat.eq_of_testBit_eq
  intro j
  rw [limb_bit, Nat.testBit_or, bit_mod, bit_mul, bit_div, bit_mul]
  have f1 : ∀ (x : Nat), (limbAtN n ((i : Int) - k)).testBit x = (decide (k ≤ i) && (decide (x < 64) && n.testBit (64 * (i - k) + x))) := by
    intro x
    unfold limbAtN
    by_cases hk : k ≤ i
    · rw [if_neg (by omega), limb_bit, show ((i : Int) - k).toNat = i - k by omega]
      simp [hk]
    · rw [if_pos (by omega)]
      simp [hk]
  have f2 : ∀ (x : Nat), (limbAtN n ((i : Int) - k - 1)).testBit x = (decide (k + 1 ≤ i) && (decide (x < 64) && n.testBit (64 * (i - k - 1) + x))) := by
    intro x
    unfold limbAtN
    by_cases hk : k + 1 ≤ i
    · rw [if_neg (by omega), limb_bit, show ((i : Int) - k - 1).toNat = i - k - 1 by omega]
      simp [hk]
    · rw [if_pos (by omega)]
      simp [hk]
  rw [f1, f2]
  by_cases hj : j < 64
  · by_cases hrj : r ≤ j
    · by_cases hk : k ≤ i
      · have g2 : 64 * k + r ≤ 64 * i + j := by omega
        have g3 : 64 * (i - k) + (j - r) = 64 * i + j - (64 * k + r) := by omega
        have g4 : j - r < 64 := by omega
        have g5 : ¬ (64 - r + j < 64) := by omega
        simp [hj, hrj, hk, g2, g3, g4, g5]
      · have g2 : ¬ (64 * k + r ≤ 64 * i + j) := by omega
        have g6 : ¬ (k + 1 ≤ i) := by omega
        simp [hj, hk, g2, g6]
    · by_cases hk : k + 1 ≤ i
      · have g2 : 64 * k + r ≤ 64 * i + j := by omega
        have g3 : 64 * (i - k - 1) + (64 - r + j) = 64 * i + j - (64 * k + r) := by omega
        have g4 : 64 - r + j < 64 := by omega
        simp [hj, hrj, hk, g2, g3, g4]
      · have g2 : ¬ (64 * k + r ≤ 64 * i + j) := by omega
        simp [hj, hrj, hk, g2]
  · have g : ¬ (64 - r + j < 64) := by omega
    simp [hj, g]
theorem limbAtN_lt (n : Nat) (i : Int) : limbAtN n i < P2 64 := by
  unfold limbAtN
  split
  · exact P2_pos _
  · exact limb_lt _ _
/-- L cells in a block, each known. -/
structure Holds64 (w : World) (g K : Nat) (f : Nat → Nat) : Prop where
  ex : ∃ cs, w.heap[g]? = some (.cells cs 22 (0, 0)) ∧ ∀ j, j < K → cs[j]? = some (.int .u64 (f j : Nat))
theorem Holds64.cell {w : World} {g K : Nat} {f : Nat → Nat} (h : Holds64 w g K f) {j : Nat} (hj : j < K) : w.cell? ⟨g, j, none⟩ = some (.int .u64 (f j : Nat)) := by
  obtain ⟨cs, h1, h2⟩ := h.ex; rw [cell_row h1, h2 j hj]
theorem Holds64.free {w : World} {g K : Nat} {f : Nat → Nat} (h : Holds64 w g K f) (j : Nat) : w.frozen? ⟨g, j, none⟩ = false := by
  obtain ⟨cs, h1, h2⟩ := h.ex; exact free_row h1 j
theorem Holds64.lt {w : World} {g K : Nat} {f : Nat → Nat} (h : Holds64 w g K f) : g < w.heap.size := by
  obtain ⟨cs, h1, h2⟩ := h.ex; exact lt_of_heap h1
theorem Holds64.then {w w' : World} {g K : Nat} {f : Nat → Nat} (h : Holds64 w g K f) (hb : Below w.heap.size w w') : Holds64 w' g K f := by
  obtain ⟨cs, h1, h2⟩ := h.ex
  exact ⟨cs, (hb.block _ (lt_of_heap h1)).trans h1, h2⟩
theorem Holds64.set {w : World} {g K : Nat} {f f' : Nat → Nat} (h : Holds64 w g K f) {j v : Nat} (hj : j < K) (hv : f' j = v) (ho : ∀ i, i < K → i ≠ j → f' i = f i) : Holds64 (w.setCell ⟨g, j, none⟩ (.int .u64 (v : Nat))) g K f' := by
  obtain ⟨cs, h1, h2⟩ := h.ex
  refine ⟨_, set_row h1 j _, fun i hi => ?_⟩
  have hs : j < cs.size := by
    rcases Nat.lt_or_ge j cs.size with h | h
    · exact h
    · have := h2 j hj; rw [Array.getElem?_eq_none h] at this; cases this
  rw [Array.getElem?_setIfInBounds]
  by_cases e : j = i
  · subst e; simp [hs, hv]
  · rw [if_neg e, h2 i hi, ho i hi (fun h => e h.symm)]
/-- A function value that tells a limb of each place below L, in whatever world comes of w. -/
def TellsN (P : Program) (f : FuncId) (caps : Array Value) (w : World) (L : Nat) (g : Nat → Nat) : Prop :=
  ∀ (i : Nat) (w' : World), i < L → Below w.heap.size w w' → Calls P f (#[.int .i64 i] ++ caps) w' fun e w'' => e = .returned (.int .u64 (g i : Nat)) ∧ Below w'.heap.size w' w''
/-- A slice that lies in a block from B on. -/
def Fresh (B : Nat) (v : Value) : Prop := ∀ b o L cap, v = .slice (some ⟨b, o, none⟩) L cap → 0 < L → B ≤ b
theorem Fresh.le {B C : Nat} {v : Value} (h : Fresh B v) (hc : C ≤ B) : Fresh C v := fun b o L cap e hl => Nat.le_trans hc (h b o L cap e hl)
/-- Limbs are as they were, where blocks below theirs are written. -/
theorem IsLimbs.extR {B B0 : Nat} {R : List Aim} {w : World} {v : Value} {n L : Nat} (h : IsLimbs w v n L) (hf : Fresh B0 v) (hB : w.heap.size ≤ B) (hR : ∀ r ∈ R, r.block < B0) (x : ExtR B R w) : IsLimbs x.val v n L := by
  obtain ⟨⟨a, cap, rfl, hc, hx⟩, hl⟩ := h
  refine ⟨⟨a, cap, rfl, hc, fun h0 => ?_⟩, hl⟩
  obtain ⟨b, o, rfl, hb', hcell⟩ := hx h0
  have hge := hf b o L cap rfl h0
  refine ⟨b, o, rfl, Nat.lt_of_lt_of_le hb' x.size, fun i hi => ?_⟩
  rw [← hcell i hi]
  simp only [World.cell?, x.block b (Nat.lt_of_lt_of_le hb' hB) (fun r hr => by have := hR r hr; omega)]
/-- What a function gives that makes a list of limbs. -/
def GivesLimbs (m L : Nat) (W : World) (e : Ending) (w' : World) : Prop := ∃ r K, e = .returned r ∧ K ≤ L ∧ IsLimbs w' r m K ∧ Below W.heap.size W w' ∧ Fresh W.heap.size r
theorem infoU64' : (Tryz.prog.info? 22).map (fun i => (i.zero, i.size, i.bytes)) = some (some (.int .u64 0), 1, 8) := by kernel_rfl

set_option maxHeartbeats 400000 in
theorem limbTrim2_any (a : Option Addr) (cap n L : Nat) (w : World) (hL : L ≤ 100000) (hv : IsLimbs w (.slice a L cap) n L) :
    Calls Tryz.prog 127 #[.slice a L cap] w fun e w' => ∃ r, e = .returned r ∧ ∃ K, K ≤ L ∧ IsLimbs w r n K ∧ (0 < K → ∃ c, r = .slice a K c) ∧ w' = w := by
  obtain ⟨⟨a', cap', he, hc, hx⟩, hl⟩ := hv
  cases he
  go_enter Tryz.func127, Tryz.ntmps127
  go_wp2
  go_loop [3] (fun s => ∃ k : Nat, k ≤ L ∧ s = .int .i64 k ∧ n < P2 (64 * k)) (fun s => (intOf s).toNat)
  case atStart => exact ⟨L, Nat.le_refl _, rfl, hl⟩
  case round =>
    obtain ⟨k, hk, rfl, hn⟩ := hrel
    rcases k with _ | k
    · have HN := Lib.hid hn
      clear hx hl hn
      go_wp2
      go_ret
      exact ⟨_, rfl, 0, by omega, ⟨⟨a, 0, by simp, by omega, fun h => by omega⟩, HN.out⟩, fun h => by omega, rfl⟩
    · obtain ⟨b, o, rfl, hb, hcell⟩ := hx (by omega)
      have hg := hcell k (by omega)
      have HC := Lib.hid hcell
      have HN := Lib.hid hn
      clear hx hl hn hcell
      by_cases hd : limb n k = 0
      · have HD := Lib.hid (lt_of_limb_zero HN.out hd)
        rw [hd] at hg
        clear hd
        go_wp2
        go_round
        case rel => exact ⟨k, by omega, by go_num, HD.out⟩
        case measure => simp [intOf]
      · have hd' : (((limb n k : Nat) : Int) == 0) = false := by simp; exact hd
        have HD := Lib.hid hd
        clear hd
        go_wp2
        go_ret
        exact ⟨_, rfl, k + 1, by omega, ⟨⟨_, _, rfl, by omega, fun _ => ⟨b, o, rfl, hb, fun i hi => HC.out i (by omega)⟩⟩, HN.out⟩, fun _ => ⟨_, rfl⟩, rfl⟩

attribute [local go_sem ↓] Go.wp_at_zero Go.wp_at_succ
set_option maxHeartbeats 1000000 in
theorem limbMade_any (f : FuncId) (caps : Array Value) (m L : Nat) (w : World) (hL : L ≤ 100000) (hm : m < P2 (64 * L)) (hcall : Enters Tryz.prog f) (hT : TellsN Tryz.prog f caps w L (limb m)) :
    Calls Tryz.prog 144 #[.int .i64 L, .func (.func f) #[] caps] w (GivesLimbs m L w) := by
  unfold Enters at hcall
  have HT := Lib.hid hT; have HM := Lib.hid hm; have HL := Lib.hid hL
  clear hT hm
  go_enter Tryz.func144, Tryz.ntmps144
  go_wp2_with (obtain ⟨i0, hi, hz0, hz1, hz2⟩ := info_parts infoU64'; refine wpList_make_full _ rfl _ _ 142 rfl w.heap.size 22 i0 (.int .u64 0) 1 Tryz.underlying142 hi hz0 hz1 _ _ _ _ L rfl rfl ?hL ?hC ?b2 ?b3 ?b4 ?_)
  case hL => omega
  case hC => omega
  case b2 => rw [hz2]; omega
  case b3 => unfold maxLen; omega
  case b4 => exact Nat.le_refl _
  intro w0 hown hgrow
  have hB0 : Below w.heap.size w w0 := (Below.refl _ _).grown hgrow (Nat.le_refl _) (fun k hk => by cases hk)
  have hH0 : Holds64 w0 w.heap.size L (fun j => if j < 0 then limb m j else 0) := by
    obtain ⟨hlen, ⟨h1, _⟩ | ⟨g, cap, cur, hv, hbg, hg, hnc, hcz, hcs, htake⟩⟩ := hown
    · cases h1
    · cases hv
      refine ⟨cur, hg, fun j hj => ?_⟩
      have h1 : (madeCells #[Value.int IntKind.u64 0] (L * 1)).toList[j]? = some (.int .u64 0) := by
        rw [toList_madeCells_one]; exact List.getElem?_replicate_of_lt (by omega)
      have h2 : (madeCells #[Value.int IntKind.u64 0] (L * 1)).toList = List.take (L * 1) cur.toList := by rw [htake, Nat.mul_one]
      rw [h2, List.getElem?_take, if_pos (by omega)] at h1
      rw [if_neg (by omega), ← Array.getElem?_toList]; exact h1
  clear hown hgrow hi hz0 hz1 hz2
  have HB0 := Lib.hid hB0
  have HH0 := Lib.hid hH0
  clear hB0 hH0
  go_wp2
  go_loopw [11] (fun s wr => ∃ k : Nat, k ≤ L ∧ s = .int .i64 k ∧ Hid (Holds64 wr w.heap.size L (fun j => if j < k then limb m j else 0)) ∧ Hid (Below w.heap.size w wr)) (fun s _ => L - (intOf s).toNat)
  case atStart => exact ⟨0, Nat.zero_le _, rfl, HH0, HB0⟩
  case round =>
    obtain ⟨k, hk, rfl, HH, HB⟩ := hrel
    clear HB0 HH0
    by_cases hlt : k < L
    · have e1 : (k : Int) < (L : Int) := by omega
      have e0 : (0 : Int) ≤ (k : Int) := Int.natCast_nonneg _
      have R := Lib.hid (HT.out k wr hlt HB.out)
      go_wp2_with fail
      refine R.out.mono ?_
      rintro e w2 ⟨rfl, hb2⟩
      have HH2 := Lib.hid (HH.out.then hb2)
      have HB2 := Lib.hid (below_then HB.out hb2)
      have gs := HH2.out.cell hlt
      have gf := HH2.out.free k
      rw [if_neg (Nat.lt_irrefl k)] at gs
      clear hb2
      go_wp2
      go_roundw
      case rel =>
        refine ⟨k + 1, by omega, by go_num, Lib.hid (HH2.out.set hlt (if_pos (Nat.lt_succ_self k)) fun i hi hne => ?_), Lib.hid (below_set HB2.out (Nat.le_refl _) _ _)⟩
        by_cases h : i < k
        · rw [if_pos h, if_pos (by omega)]
        · rw [if_neg h, if_neg (by omega)]
      case measure => simp [intOf]; omega
    · obtain rfl : k = L := by omega
      have R : Hid (IsLimbs wr (.slice (some ⟨w.heap.size, 0, none⟩) k k) m k) := Lib.hid ⟨⟨_, k, rfl, Nat.le_refl _, fun _ => ⟨_, 0, rfl, HH.out.lt, fun i hi => by
        rw [Nat.zero_add, HH.out.cell hi, if_pos hi]⟩⟩, HM.out⟩
      go_wp2_with fail
      refine (limbTrim2_any _ _ m k _ HL.out R.out).mono ?_
      rintro e w2 ⟨r, rfl, K, hK, hv, hfr, rfl⟩
      have HV := Lib.hid hv
      have HF : Hid (Fresh w.heap.size r) := Lib.hid (by
        intro b o L2 cap h hl
        obtain ⟨a', cap', hs, _⟩ := hv.ex
        rw [hs] at h
        cases h
        obtain ⟨c, hc⟩ := hfr hl
        rw [hs] at hc
        cases hc
        exact Nat.le_refl _)
      clear hv hfr
      go_wp2
      go_ret
      exact ⟨r, K, rfl, hK, HV.out, HB.out, HF.out⟩

theorem wrap_up (x r : Nat) : IntKind.u64.wrap ((x : Int) * 2 ^ r) = ((x * P2 r % P2 64 : Nat) : Int) := mul_u64 x r
set_option maxHeartbeats 1000000 in
theorem limbDown1_any (v : Value) (n L i k r : Nat) (p q s : Nat) (w : World) (hi : i ≤ 100000) (hk : k ≤ 100000) (hr : r < 64) (hv : IsLimbs w v n L)
    (hp : w.cell? ⟨p, 0, none⟩ = some v) (hq : w.cell? ⟨q, 0, none⟩ = some (.int .i64 k)) (hs : w.cell? ⟨s, 0, none⟩ = some (.int .i64 r)) :
    Calls Tryz.prog 146 #[.int .i64 i, .pointer (some ⟨p, 0, none⟩), .pointer (some ⟨q, 0, none⟩), .pointer (some ⟨s, 0, none⟩)] w fun e w' => e = .returned (.int .u64 (limb (n / P2 (64 * k + r)) i : Nat)) ∧ Below w.heap.size w w' := by
  have ep := ext_cell hp (block_lt_of_cell hp)
  have eq := ext_cell hq (block_lt_of_cell hq)
  have es := ext_cell hs (block_lt_of_cell hs)
  have S1 : Hid (∀ x : Ext w.heap.size w, Calls Tryz.prog 136 #[v, .int .i64 ((i : Int) + k)] x.val fun e w'' => e = .returned (.int .u64 (limb n (i + k) : Nat)) ∧ Below x.val.heap.size x.val w'') := Lib.hid fun x => by
    have := limbAt_any v n L ((i : Int) + k) x.val (by omega) (by omega) (hv.below x.property (Nat.le_refl _))
    rw [show limbAtN n ((i : Int) + k) = limb n (i + k) by unfold limbAtN; rw [if_neg (by omega)]; congr 1] at this
    exact this.mono fun _ _ ⟨h2, h3⟩ => ⟨h2, by rw [h3]; exact Below.refl _ _⟩
  have S2 : Hid (∀ x : Ext w.heap.size w, Calls Tryz.prog 136 #[v, .int .i64 ((i : Int) + k + 1)] x.val fun e w'' => e = .returned (.int .u64 (limb n (i + k + 1) : Nat)) ∧ Below x.val.heap.size x.val w'') := Lib.hid fun x => by
    have := limbAt_any v n L ((i : Int) + k + 1) x.val (by omega) (by omega) (hv.below x.property (Nat.le_refl _))
    rw [show limbAtN n ((i : Int) + k + 1) = limb n (i + k + 1) by unfold limbAtN; rw [if_neg (by omega)]; congr 1] at this
    exact this.mono fun _ _ ⟨h2, h3⟩ => ⟨h2, by rw [h3]; exact Below.refl _ _⟩
  have hval : bits .or .u64 ((limb n (i + k) : Int) / 2 ^ r) (IntKind.u64.wrap ((limb n (i + k + 1) : Int) * 2 ^ (64 - r))) = ((limb (n / P2 (64 * k + r)) i : Nat) : Int) := by
    rw [← limb_down n i k r hr, mul_u64, div_u64, or_u64 _ _ (div_lt (limb_lt _ _)) (Nat.mod_lt _ (P2_pos _))]
  have HV := Lib.hid hval
  have h0 : (0 : Int) ≤ (r : Int) := Int.natCast_nonneg _
  have h1 : (r : Int) < 64 := by omega
  have h2 : (i : Int) ≤ 100000 := by omega
  have h3 : (k : Int) ≤ 100000 := by omega
  clear hp hq hs hv hval hi hk hr
  go_enter Tryz.func146, Tryz.ntmps146
  go_wp2_with fail
  refine wp_region_ext w.heap.size (by kernel_rfl) (by kernel_rfl) ?_
  repeat (go_big_quiet_step (first | (with_reducible exact Calls.quiet_ext (Nat.le_refl _) (S1.out _)) | (with_reducible exact Calls.quiet_ext (Nat.le_refl _) (S2.out _))))
  refine wpQuiet_nil ?_
  intro w2 hb2
  go_wp2
  go_ret
  exact ⟨ret_int HV.out, hb2⟩

set_option maxHeartbeats 1000000 in
theorem limbUp1_any (v : Value) (n L i k r : Nat) (p q s : Nat) (w : World) (hi : i ≤ 100000) (hk : k ≤ 100000) (hr : r < 64) (hv : IsLimbs w v n L)
    (hp : w.cell? ⟨p, 0, none⟩ = some v) (hq : w.cell? ⟨q, 0, none⟩ = some (.int .i64 k)) (hs : w.cell? ⟨s, 0, none⟩ = some (.int .i64 r)) :
    Calls Tryz.prog 145 #[.int .i64 i, .pointer (some ⟨p, 0, none⟩), .pointer (some ⟨q, 0, none⟩), .pointer (some ⟨s, 0, none⟩)] w fun e w' => e = .returned (.int .u64 (limb (n * P2 (64 * k + r)) i : Nat)) ∧ Below w.heap.size w w' := by
  have ep := ext_cell hp (block_lt_of_cell hp)
  have eq := ext_cell hq (block_lt_of_cell hq)
  have es := ext_cell hs (block_lt_of_cell hs)
  have S1 : Hid (∀ x : Ext w.heap.size w, Calls Tryz.prog 136 #[v, .int .i64 ((i : Int) - k)] x.val fun e w'' => e = .returned (.int .u64 (limbAtN n ((i : Int) - k) : Nat)) ∧ Below x.val.heap.size x.val w'') := Lib.hid fun x =>
    (limbAt_any v n L ((i : Int) - k) x.val (by omega) (by omega) (hv.below x.property (Nat.le_refl _))).mono fun _ _ ⟨h2, h3⟩ => ⟨h2, by rw [h3]; exact Below.refl _ _⟩
  have S2 : Hid (∀ x : Ext w.heap.size w, Calls Tryz.prog 136 #[v, .int .i64 ((i : Int) - k - 1)] x.val fun e w'' => e = .returned (.int .u64 (limbAtN n ((i : Int) - k - 1) : Nat)) ∧ Below x.val.heap.size x.val w'') := Lib.hid fun x =>
    (limbAt_any v n L ((i : Int) - k - 1) x.val (by omega) (by omega) (hv.below x.property (Nat.le_refl _))).mono fun _ _ ⟨h2, h3⟩ => ⟨h2, by rw [h3]; exact Below.refl _ _⟩
  have hval : bits .or .u64 (IntKind.u64.wrap ((limbAtN n ((i : Int) - k) : Int) * 2 ^ r)) ((limbAtN n ((i : Int) - k - 1) : Int) / 2 ^ (64 - r)) = ((limb (n * P2 (64 * k + r)) i : Nat) : Int) := by
    rw [← limb_up n i k r hr, mul_u64, div_u64, or_u64 _ _ (Nat.mod_lt _ (P2_pos _)) (div_lt (limbAtN_lt _ _))]
  have HV := Lib.hid hval
  have h0 : (0 : Int) ≤ (r : Int) := Int.natCast_nonneg _
  have h1 : (r : Int) < 64 := by omega
  have h2 : (i : Int) ≤ 100000 := by omega
  have h3 : (k : Int) ≤ 100000 := by omega
  clear hp hq hs hv hval hi hk hr
  go_enter Tryz.func145, Tryz.ntmps145
  go_wp2_with fail
  refine wp_region_ext w.heap.size (by kernel_rfl) (by kernel_rfl) ?_
  repeat (go_big_quiet_step (first | (with_reducible exact Calls.quiet_ext (Nat.le_refl _) (S1.out _)) | (with_reducible exact Calls.quiet_ext (Nat.le_refl _) (S2.out _))))
  refine wpQuiet_nil ?_
  intro w2 hb2
  go_wp2
  go_ret
  exact ⟨ret_int HV.out, hb2⟩
theorem enters_up1 : Enters Tryz.prog 145 := fun args w => by simp [go_sem]
theorem enters_dn1 : Enters Tryz.prog 146 := fun args w => by simp [go_sem]

set_option maxHeartbeats 1000000 in
/-- Shifted down. -/
theorem limbDown_any (v : Value) (n L c : Nat) (w : World) (hL : L ≤ 3000) (hc : c ≤ 65536) (hc0 : 0 < c) (hv : IsLimbs w v n L) :
    Calls Tryz.prog 137 #[v, .int .i64 (-(c : Int))] w (GivesLimbs (n / P2 c) L w) := by
  have hnL := hv.lt
  obtain ⟨K, hK⟩ : ∃ K, K = c / 64 := ⟨_, rfl⟩
  obtain ⟨R, hR⟩ : ∃ R, R = c % 64 := ⟨_, rfl⟩
  have ec : c = 64 * K + R := by omega
  have S : Hid (∀ (w' : World) (p q s : Nat), IsLimbs w' v n L → w'.cell? ⟨p, 0, none⟩ = some v → w'.cell? ⟨q, 0, none⟩ = some (.int .i64 K) → w'.cell? ⟨s, 0, none⟩ = some (.int .i64 R) →
      Calls Tryz.prog 144 #[.int .i64 (max 0 ((L : Int) - K)), .func (.func 146) #[] #[.pointer (some ⟨p, 0, none⟩), .pointer (some ⟨q, 0, none⟩), .pointer (some ⟨s, 0, none⟩)]] w' (GivesLimbs (n / P2 c) (L - K) w')) := Lib.hid fun w' p q s h hp hq hs => by
    rw [show max 0 ((L : Int) - K) = ((L - K : Nat) : Int) by omega]
    refine limbMade_any _ _ (n / P2 c) (L - K) w' (by omega) ?_ enters_dn1 fun i w2 hi hb => ?_
    · rw [Nat.div_lt_iff_lt_mul (P2_pos _), ← P2_add]
      exact Nat.lt_of_lt_of_le hnL (P2_le (by omega))
    · have := limbDown1_any v n L i K R p q s w2 (by omega) (by omega) (by omega) (h.older hb) ((hb.cell (block_lt_of_cell hp)).trans hp) ((hb.cell (block_lt_of_cell hq)).trans hq) ((hb.cell (block_lt_of_cell hs)).trans hs)
      rwa [← ec] at this
  have q1 : (c : Int) / 64 = (K : Int) := by omega
  have q2 : (c : Int) % 64 = (R : Int) := by omega
  obtain ⟨⟨a, cap, rfl, hcap, _⟩, _⟩ := id hv
  have HV := Lib.hid hv
  have h1 : (c : Int) ≤ 65536 := by omega
  have h2 : (L : Int) ≤ 3000 := by omega
  have h3 : (K : Int) ≤ 65536 := by omega
  have h4 : 0 < (c : Int) := by omega
  clear hv hnL ec hK hR
  go_enter Tryz.func137, Tryz.ntmps137
  go_wp2_with fail
  refine (S.out _ _ _ _ ?_ ?_ ?_ ?_).mono ?_
  · exact HV.out.older (below_al (below_al (below_al (Below.refl _ _) _) _) _)
  · go_simp
  · go_simp
  · go_simp
  rintro e w2 ⟨r, N, rfl, hN, hr, hb, hf⟩
  have HR := Lib.hid hr; have HB := Lib.hid hb; have HF := Lib.hid (hf.le (show w.heap.size ≤ _ by simp only [World.size_alloc]; omega))
  clear hr hb hf
  go_wp2
  go_ret
  exact ⟨r, N, rfl, by omega, HR.out, below_then (below_al (below_al (below_al (Below.refl _ _) _) _) _) HB.out, HF.out⟩

set_option maxHeartbeats 1000000 in
/-- Shifted up. -/
theorem limbUpN_any (v : Value) (n L c : Nat) (w : World) (hL : L ≤ 3000) (hc : c ≤ 65536) (hv : IsLimbs w v n L) :
    Calls Tryz.prog 137 #[v, .int .i64 c] w (GivesLimbs (n * P2 c) (L + c / 64 + 1) w) := by
  have hnL := hv.lt
  obtain ⟨K, hK⟩ : ∃ K, K = c / 64 := ⟨_, rfl⟩
  obtain ⟨R, hR⟩ : ∃ R, R = c % 64 := ⟨_, rfl⟩
  have ec : c = 64 * K + R := by omega
  have S : Hid (∀ (w' : World) (p q s : Nat), IsLimbs w' v n L → w'.cell? ⟨p, 0, none⟩ = some v → w'.cell? ⟨q, 0, none⟩ = some (.int .i64 K) → w'.cell? ⟨s, 0, none⟩ = some (.int .i64 R) →
      Calls Tryz.prog 144 #[.int .i64 ((L : Int) + K + 1), .func (.func 145) #[] #[.pointer (some ⟨p, 0, none⟩), .pointer (some ⟨q, 0, none⟩), .pointer (some ⟨s, 0, none⟩)]] w' (GivesLimbs (n * P2 c) (L + c / 64 + 1) w')) := Lib.hid fun w' p q s h hp hq hs => by
    rw [show (L : Int) + K + 1 = ((L + c / 64 + 1 : Nat) : Int) by omega]
    refine limbMade_any _ _ (n * P2 c) (L + c / 64 + 1) w' (by omega) ?_ enters_up1 fun i w2 hi hb => ?_
    · have h1 : n * P2 c < P2 (64 * L) * P2 c := Nat.mul_lt_mul_of_pos_right hnL (P2_pos _)
      rw [← P2_add] at h1
      exact Nat.lt_of_lt_of_le h1 (P2_le (by omega))
    · have := limbUp1_any v n L i K R p q s w2 (by omega) (by omega) (by omega) (h.older hb) ((hb.cell (block_lt_of_cell hp)).trans hp) ((hb.cell (block_lt_of_cell hq)).trans hq) ((hb.cell (block_lt_of_cell hs)).trans hs)
      rwa [← ec] at this
  have q1 : (c : Int) / 64 = (K : Int) := by omega
  have q2 : (c : Int) % 64 = (R : Int) := by omega
  have hLL : L + c / 64 + 1 = L + K + 1 := by omega
  obtain ⟨⟨a, cap, rfl, hcap, _⟩, _⟩ := id hv
  have HV := Lib.hid hv
  have h1 : (c : Int) ≤ 65536 := by omega
  have h2 : (L : Int) ≤ 3000 := by omega
  have h3 : (K : Int) ≤ 65536 := by omega
  have h4 : (0 : Int) ≤ (K : Int) := by omega
  have h5 : (0 : Int) ≤ (c : Int) := by omega
  clear hv hnL ec hK hR hLL
  go_enter Tryz.func137, Tryz.ntmps137
  go_wp2_with fail
  refine (S.out _ _ _ _ ?_ ?_ ?_ ?_).mono ?_
  · exact HV.out.older (below_al (below_al (below_al (Below.refl _ _) _) _) _)
  · go_simp
  · go_simp
  · go_simp
  rintro e w2 ⟨r, N, rfl, hN, hr, hb, hf⟩
  have HR := Lib.hid hr; have HB := Lib.hid hb; have HN := Lib.hid hN; have HF := Lib.hid (hf.le (show w.heap.size ≤ _ by simp only [World.size_alloc]; omega))
  clear hr hb hN hf
  go_wp2
  go_ret
  exact ⟨r, N, rfl, HN.out, HR.out, below_then (below_al (below_al (below_al (Below.refl _ _) _) _) _) HB.out, HF.out⟩

set_option maxHeartbeats 1000000 in
theorem limbLess2_any (va vb : Value) (a b La Lb : Nat) (w : World) (hLa : La ≤ 3000) (hLb : Lb ≤ 3000) (ha : IsLimbs w va a La) (hb : IsLimbs w vb b Lb) :
    Calls Tryz.prog 120 #[va, vb] w fun e w' => e = .returned (.bool (decide (a < b))) ∧ w' = w := by
  have HA := Lib.hid ha; have HB := Lib.hid hb
  obtain ⟨aa, ca, rfl, hca, _⟩ := ha.ex
  obtain ⟨ab, cb, rfl, hcb, _⟩ := hb.ex
  obtain ⟨K, hK⟩ : ∃ K, K = max La Lb := ⟨_, rfl⟩
  have hta : Hid (a / P2 (64 * K) = b / P2 (64 * K)) := Lib.hid (by
    rw [Nat.div_eq_of_lt (Nat.lt_of_lt_of_le HA.out.lt (P2_le (by omega))), Nat.div_eq_of_lt (Nat.lt_of_lt_of_le HB.out.lt (P2_le (by omega)))])
  have HKK := Lib.hid (show max (La : Int) (Lb : Int) - 1 = (K : Int) - 1 by omega)
  have hKb : K ≤ 3000 := by omega
  have i1 : (La : Int) ≤ 3000 := by omega
  have i2 : (Lb : Int) ≤ 3000 := by omega
  clear ha hb hK
  go_enter Tryz.func120, Tryz.ntmps120
  go_wp2
  go_loop [5] (fun s => ∃ k : Nat, k ≤ K ∧ s = .int .i64 ((k : Int) - 1) ∧ a / P2 (64 * k) = b / P2 (64 * k)) (fun s => (intOf s + 1).toNat)
  case atStart => exact ⟨K, Nat.le_refl _, by rw [HKK.out], hta.out⟩
  case round =>
    obtain ⟨k, hk, rfl, he⟩ := hrel
    have HE := Lib.hid he
    clear he
    rcases k with _ | k
    · go_wp2
      go_ret
      refine ⟨ret_bool ?_, rfl⟩
      have := HE.out
      rw [P2_00, Nat.div_one, Nat.div_one] at this
      rw [this]; simp
    · have RA : Hid (Calls Tryz.prog 136 #[.slice aa La ca, .int .i64 k] w fun e w'' => e = .returned (.int .u64 (limb a k : Nat)) ∧ w'' = w) := Lib.hid (by
        have := limbAt_any _ a La k w (by omega) (by omega) HA.out
        rwa [show limbAtN a (k : Int) = limb a k by unfold limbAtN; rw [if_neg (by omega)]; rfl] at this)
      have RB : Hid (Calls Tryz.prog 136 #[.slice ab Lb cb, .int .i64 k] w fun e w'' => e = .returned (.int .u64 (limb b k : Nat)) ∧ w'' = w) := Lib.hid (by
        have := limbAt_any _ b Lb k w (by omega) (by omega) HB.out
        rwa [show limbAtN b (k : Int) = limb b k by unfold limbAtN; rw [if_neg (by omega)]; rfl] at this)
      have hla := limb_le a k
      have hlb := limb_le b k
      have e0 : ((k + 1 : Nat) : Int) - 1 = (k : Int) := by omega
      rw [e0]
      by_cases hd : limb a k = limb b k
      · have HD := Lib.hid hd
        clear hd
        have hne : (((limb a k : Nat) : Int) != ((limb b k : Nat) : Int)) = false := by rw [HD.out]; simp
        go_wp2_with fail
        refine RA.out.mono ?_
        rintro e w1 ⟨rfl, rfl⟩
        go_wp2_with fail
        refine RB.out.mono ?_
        rintro e w2 ⟨rfl, rfl⟩
        go_wp2
        go_round
        case rel => exact ⟨k, by omega, by go_num, labove_step HE.out HD.out⟩
        case measure => simp [intOf]
      · have hne : (((limb a k : Nat) : Int) != ((limb b k : Nat) : Int)) = true := by simp; omega
        have HD := Lib.hid hd
        clear hd
        go_wp2_with fail
        refine RA.out.mono ?_
        rintro e w1 ⟨rfl, rfl⟩
        go_wp2_with fail
        refine RB.out.mono ?_
        rintro e w2 ⟨rfl, rfl⟩
        go_wp2
        go_ret
        refine ⟨ret_bool ?_, rfl⟩
        have hd := HD.out
        rcases Nat.lt_or_ge (limb a k) (limb b k) with h | h
        · have := labove_lt HE.out h
          simp [h, this]
        · have := labove_lt HE.out.symm (show limb b k < limb a k by omega)
          simp; omega
end Go.Proofs.YtegmmaaapdgocaaGreat
