/- THE WALKS of package limb, going on: numbers of any length, made limb by limb, shifted up and down; which is above. -/
import Derived.Test.YtffengboblekpaaDoorK11
import Derived.Test.YtffengboblekpaaDoorK6
import Derived.Test.YtffengboblekpaaDoorK2
namespace Go.Proofs.YtffengboblekpaaDoor
open Go Go.RowKit

theorem limb_down (n i k r : Nat) (hr : r < 64) : (limb n (i + k) / P2 r) ||| (limb n (i + k + 1) * P2 (64 - r) % P2 64) = limb (n / P2 (64 * k + r)) i := by
  apply Nat.eq_of_testBit_eq
  intro j
  rw [Nat.testBit_or, bit_div, bit_mod, bit_mul, limb_bit, limb_bit, limb_bit, bit_div]
  by_cases hj : j < 64
  · by_cases hrj : r + j < 64
    · have g1 : ¬ (64 - r ≤ j) := by omega
      have g2 : 64 * (i + k) + (r + j) = 64 * k + r + (64 * i + j) := by omega
      simp [hj, hrj, g1, g2]
    · have g1 : 64 - r ≤ j := by omega
      have g2 : 64 * (i + k + 1) + (j - (64 - r)) = 64 * k + r + (64 * i + j) := by omega
      have g3 : j - (64 - r) < 64 := by omega
      simp [hj, hrj, g1, g2, g3]
  · have g1 : ¬ (r + j < 64) := by omega
    simp [hj, g1]
theorem limb_up (n i k r : Nat) (hr : r < 64) : (limbAtN n ((i : Int) - k) * P2 r % P2 64) ||| (limbAtN n ((i : Int) - k - 1) / P2 (64 - r)) = limb (n * P2 (64 * k + r)) i := by
  apply Nat.eq_of_testBit_eq
  intro j
  rw [limb_bit, Nat.testBit_or, bit_mod, bit_mul, bit_div, bit_mul]
  have f1 : ∀ (x : Nat), (limbAtN n ((i : Int) - k)).testBit x = (decide (k ≤ i) && (decide (x < 64) && n.testBit (64 * (i - k) + x))) := by
    intro x
    unfold limbAtN
    by_cases hk : k ≤ i
    · rw [if_neg (by omega), limb_bit, show ((i : Int) - k).toNat = i - k by omega]
      simp [hk]
    · rw [if_pos (by omega)]
      simp [hk]
  have f2 : ∀ (x : Nat), (limbAtN n ((i : Int) - k - 1)).testBit x = (decide (k + 1 ≤ i) && (decide (x < 64) && n.testBit (64 * (i - k - 1) + x))) := by
    intro x
    unfold limbAtN
    by_cases hk : k + 1 ≤ i
    · rw [if_neg (by omega), limb_bit, show ((i : Int) - k - 1).toNat = i - k - 1 by omega]
      simp [hk]
    · rw [if_pos (by omega)]
      simp [hk]
  rw [f1, f2]
  by_cases hj : j < 64
  · by_cases hrj : r ≤ j
    · by_cases hk : k ≤ i
      · have g2 : 64 * k + r ≤ 64 * i + j := by omega
        have g3 : 64 * (i - k) + (j - r) = 64 * i + j - (64 * k + r) := by omega
        have g4 : j - r < 64 := by omega
        have g5 : ¬ (64 - r + j < 64) := by omega
        simp [hj, hrj, hk, g2, g3, g4, g5]
      · have g2 : ¬ (64 * k + r ≤ 64 * i + j) := by omega
        have g6 : ¬ (k + 1 ≤ i) := by omega
        simp [hj, hk, g2, g6]
    · by_cases hk : k + 1 ≤ i
      · have g2 : 64 * k + r ≤ 64 * i + j := by omega
        have g3 : 64 * (i - k - 1) + (64 - r + j) = 64 * i + j - (64 * k + r) := by omega
        have g4 : 64 - r + j < 64 := by omega
        simp [hj, hrj, hk, g2, g3, g4]
      · have g2 : ¬ (64 * k + r ≤ 64 * i + j) := by omega
        simp [hj, hrj, hk, g2]
  · have g : ¬ (64 - r + j < 64) := by omega
    simp [hj, g]
theorem limbAtN_lt (n : Nat) (i : Int) : limbAtN n i < P2 64 := by
  unfold limbAtN
  split
  · exact P2_pos _
  · exact limb_lt _ _
/-- L cells in a block, each known. -/
structure Holds64 (w : World) (g K : Nat) (f : Nat → Nat) : Prop where
  ex : ∃ cs, w.heap[g]? = some (.cells cs 22 (0, 0)) ∧ ∀ j, j < K → cs[j]? = some (.int .u64 (f j : Nat))
theorem Holds64.cell {w : World} {g K : Nat} {f : Nat → Nat} (h : Holds64 w g K f) {j : Nat} (hj : j < K) : w.cell? ⟨g, j, none⟩ = some (.int .u64 (f j : Nat)) := by
  obtain ⟨cs, h1, h2⟩ := h.ex; rw [cell_row h1, h2 j hj]
theorem Holds64.free {w : World} {g K : Nat} {f : Nat → Nat} (h : Holds64 w g K f) (j : Nat) : w.frozen? ⟨g, j, none⟩ = false := by
  obtain ⟨cs, h1, h2⟩ := h.ex; exact free_row h1 j
theorem Holds64.lt {w : World} {g K : Nat} {f : Nat → Nat} (h : Holds64 w g K f) : g < w.heap.size := by
  obtain ⟨cs, h1, h2⟩ := h.ex; exact lt_of_heap h1
theorem Holds64.then {w w' : World} {g K : Nat} {f : Nat → Nat} (h : Holds64 w g K f) (hb : Below w.heap.size w w') : Holds64 w' g K f := by
  obtain ⟨cs, h1, h2⟩ := h.ex
  exact ⟨cs, (hb.block _ (lt_of_heap h1)).trans h1, h2⟩
theorem Holds64.set {w : World} {g K : Nat} {f f' : Nat → Nat} (h : Holds64 w g K f) {j v : Nat} (hj : j < K) (hv : f' j = v) (ho : ∀ i, i < K → i ≠ j → f' i = f i) : Holds64 (w.setCell ⟨g, j, none⟩ (.int .u64 (v : Nat))) g K f' := by
  obtain ⟨cs, h1, h2⟩ := h.ex
  refine ⟨_, set_row h1 j _, fun i hi => ?_⟩
  have hs : j < cs.size := by
    rcases Nat.lt_or_ge j cs.size with h | h
    · exact h
    · have := h2 j hj; rw [Array.getElem?_eq_none h] at this; cases this
  rw [Array.getElem?_setIfInBounds]
  by_cases e : j = i
  · subst e; simp [hs, hv]
  · rw [if_neg e, h2 i hi, ho i hi (fun h => e h.symm)]
/-- A function value that tells a limb of each place below L, in whatever world comes of w. -/
def TellsN (P : Program) (f : FuncId) (caps : Array Value) (w : World) (L : Nat) (g : Nat → Nat) : Prop :=
  ∀ (i : Nat) (w' : World), i < L → Below w.heap.size w w' → Calls P f (#[.int .i64 i] ++ caps) w' fun e w'' => e = .returned (.int .u64 (g i : Nat)) ∧ Below w'.heap.size w' w''
/-- A slice that lies in a block from B on. -/
def Fresh (B : Nat) (v : Value) : Prop := ∀ b o L cap, v = .slice (some ⟨b, o, none⟩) L cap → 0 < L → B ≤ b
theorem Fresh.le {B C : Nat} {v : Value} (h : Fresh B v) (hc : C ≤ B) : Fresh C v := fun b o L cap e hl => Nat.le_trans hc (h b o L cap e hl)
/-- Limbs are as they were, where blocks below theirs are written. -/
theorem IsLimbs.extR {B B0 : Nat} {R : List Aim} {w : World} {v : Value} {n L : Nat} (h : IsLimbs w v n L) (hf : Fresh B0 v) (hB : w.heap.size ≤ B) (hR : ∀ r ∈ R, r.block < B0) (x : ExtR B R w) : IsLimbs x.val v n L := by
  obtain ⟨⟨a, cap, rfl, hc, hx⟩, hl⟩ := h
  refine ⟨⟨a, cap, rfl, hc, fun h0 => ?_⟩, hl⟩
  obtain ⟨b, o, rfl, hb', hcell⟩ := hx h0
  have hge := hf b o L cap rfl h0
  refine ⟨b, o, rfl, Nat.lt_of_lt_of_le hb' x.size, fun i hi => ?_⟩
  rw [← hcell i hi]
  simp only [World.cell?, x.block b (Nat.lt_of_lt_of_le hb' hB) (fun r hr => by have := hR r hr; omega)]
/-- What a function gives that makes a list of limbs. -/
def GivesLimbs (m L : Nat) (W : World) (e : Ending) (w' : World) : Prop := ∃ r K, e = .returned r ∧ K ≤ L ∧ IsLimbs w' r m K ∧ Below W.heap.size W w' ∧ Fresh W.heap.size r
theorem infoU64' : (Tryd.prog.info? 22).map (fun i => (i.zero, i.size, i.bytes)) = some (some (.int .u64 0), 1, 8) := by kernel_rfl

set_option maxHeartbeats 400000 in
theorem limbTrim2_any (a : Option Addr) (cap n L : Nat) (w : World) (hL : L ≤ 100000) (hv : IsLimbs w (.slice a L cap) n L) :
    Calls Tryd.prog 95 #[.slice a L cap] w fun e w' => ∃ r, e = .returned r ∧ ∃ K, K ≤ L ∧ IsLimbs w r n K ∧ (0 < K → ∃ c, r = .slice a K c) ∧ w' = w := by
  obtain ⟨⟨a', cap', he, hc, hx⟩, hl⟩ := hv
  cases he
  go_enter Tryd.func95, Tryd.ntmps95
  go_wp2
  go_loop [3] (fun s => ∃ k : Nat, k ≤ L ∧ s = .int .i64 k ∧ n < P2 (64 * k)) (fun s => (intOf s).toNat)
  case atStart => exact ⟨L, Nat.le_refl _, rfl, hl⟩
  case round =>
    obtain ⟨k, hk, rfl, hn⟩ := hrel
    rcases k with _ | k
    · have HN := Lib.hid hn
      clear hx hl hn
      go_wp2
      go_ret
      exact ⟨_, rfl, 0, by omega, ⟨⟨a, 0, by simp, by omega, fun h => by omega⟩, HN.out⟩, fun h => by omega, rfl⟩
    · obtain ⟨b, o, rfl, hb, hcell⟩ := hx (by omega)
      have hg := hcell k (by omega)
      have HC := Lib.hid hcell
      have HN := Lib.hid hn
      clear hx hl hn hcell
      by_cases hd : limb n k = 0
      · have HD := Lib.hid (lt_of_limb_zero HN.out hd)
        rw [hd] at hg
        clear hd
        go_wp2
        go_round
        case rel => exact ⟨k, by omega, by go_num, HD.out⟩
        case measure => simp [intOf]
      · have hd' : (((limb n k : Nat) : Int) == 0) = false := by simp; exact hd
        have HD := Lib.hid hd
        clear hd
        go_wp2
        go_ret
        exact ⟨_, rfl, k + 1, by omega, ⟨⟨_, _, rfl, by omega, fun _ => ⟨b, o, rfl, hb, fun i hi => HC.out i (by omega)⟩⟩, HN.out⟩, fun _ => ⟨_, rfl⟩, rfl⟩

attribute [local go_sem ↓] Go.wp_at_zero Go.wp_at_succ
theorem wrap_up (x r : Nat) : IntKind.u64.wrap ((x : Int) * 2 ^ r) = ((x * P2 r % P2 64 : Nat) : Int) := mul_u64 x r
set_option maxHeartbeats 1000000 in
theorem limbLess2_any (va vb : Value) (a b La Lb : Nat) (w : World) (hLa : La ≤ 3000) (hLb : Lb ≤ 3000) (ha : IsLimbs w va a La) (hb : IsLimbs w vb b Lb) :
    Calls Tryd.prog 91 #[va, vb] w fun e w' => e = .returned (.bool (decide (a < b))) ∧ w' = w := by
  have HA := Lib.hid ha; have HB := Lib.hid hb
  obtain ⟨aa, ca, rfl, hca, _⟩ := ha.ex
  obtain ⟨ab, cb, rfl, hcb, _⟩ := hb.ex
  obtain ⟨K, hK⟩ : ∃ K, K = max La Lb := ⟨_, rfl⟩
  have hta : Hid (a / P2 (64 * K) = b / P2 (64 * K)) := Lib.hid (by
    rw [Nat.div_eq_of_lt (Nat.lt_of_lt_of_le HA.out.lt (P2_le (by omega))), Nat.div_eq_of_lt (Nat.lt_of_lt_of_le HB.out.lt (P2_le (by omega)))])
  have HKK := Lib.hid (show max (La : Int) (Lb : Int) - 1 = (K : Int) - 1 by omega)
  have hKb : K ≤ 3000 := by omega
  have i1 : (La : Int) ≤ 3000 := by omega
  have i2 : (Lb : Int) ≤ 3000 := by omega
  clear ha hb hK
  go_enter Tryd.func91, Tryd.ntmps91
  go_wp2
  go_loop [5] (fun s => ∃ k : Nat, k ≤ K ∧ s = .int .i64 ((k : Int) - 1) ∧ a / P2 (64 * k) = b / P2 (64 * k)) (fun s => (intOf s + 1).toNat)
  case atStart => exact ⟨K, Nat.le_refl _, by rw [HKK.out], hta.out⟩
  case round =>
    obtain ⟨k, hk, rfl, he⟩ := hrel
    have HE := Lib.hid he
    clear he
    rcases k with _ | k
    · go_wp2
      go_ret
      refine ⟨ret_bool ?_, rfl⟩
      have := HE.out
      rw [P2_00, Nat.div_one, Nat.div_one] at this
      rw [this]; simp
    · have RA : Hid (Calls Tryd.prog 108 #[.slice aa La ca, .int .i64 k] w fun e w'' => e = .returned (.int .u64 (limb a k : Nat)) ∧ w'' = w) := Lib.hid (by
        have := limbAt_any _ a La k w (by omega) (by omega) HA.out
        rwa [show limbAtN a (k : Int) = limb a k by unfold limbAtN; rw [if_neg (by omega)]; rfl] at this)
      have RB : Hid (Calls Tryd.prog 108 #[.slice ab Lb cb, .int .i64 k] w fun e w'' => e = .returned (.int .u64 (limb b k : Nat)) ∧ w'' = w) := Lib.hid (by
        have := limbAt_any _ b Lb k w (by omega) (by omega) HB.out
        rwa [show limbAtN b (k : Int) = limb b k by unfold limbAtN; rw [if_neg (by omega)]; rfl] at this)
      have hla := limb_le a k
      have hlb := limb_le b k
      have e0 : ((k + 1 : Nat) : Int) - 1 = (k : Int) := by omega
      rw [e0]
      by_cases hd : limb a k = limb b k
      · have HD := Lib.hid hd
        clear hd
        have hne : (((limb a k : Nat) : Int) != ((limb b k : Nat) : Int)) = false := by rw [HD.out]; simp
        go_wp2_with fail
        refine RA.out.mono ?_
        rintro e w1 ⟨rfl, rfl⟩
        go_wp2_with fail
        refine RB.out.mono ?_
        rintro e w2 ⟨rfl, rfl⟩
        go_wp2
        go_round
        case rel => exact ⟨k, by omega, by go_num, labove_step HE.out HD.out⟩
        case measure => simp [intOf]
      · have hne : (((limb a k : Nat) : Int) != ((limb b k : Nat) : Int)) = true := by simp; omega
        have HD := Lib.hid hd
        clear hd
        go_wp2_with fail
        refine RA.out.mono ?_
        rintro e w1 ⟨rfl, rfl⟩
        go_wp2_with fail
        refine RB.out.mono ?_
        rintro e w2 ⟨rfl, rfl⟩
        go_wp2
        go_ret
        refine ⟨ret_bool ?_, rfl⟩
        have hd := HD.out
        rcases Nat.lt_or_ge (limb a k) (limb b k) with h | h
        · have := labove_lt HE.out h
          simp [h, this]
        · have := labove_lt HE.out.symm (show limb b k < limb a k by omega)
          simp; omega
end Go.Proofs.YtffengboblekpaaDoor
