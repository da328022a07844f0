/- SEVERAL TEXTS of the seat, one behind the other: each says at its head what it proves. -/
import Derived.Test.YtegmmaaapdgocaaGreatK3
import Derived.Laws.CopyOwn
/- THE WALKS of package wide, going on: sums and differences by their limbs; 0 without a number; masks. -/
namespace Go.Proofs.YtegmmaaapdgocaaGreat
open Go Go.RowKit

/-! ### Sums and differences -/
theorem enters_limbAdd : Enters Tryz.prog 143 := fun args w => by simp [go_sem]
theorem enters_limbSub : Enters Tryz.prog 98 := fun args w => by simp [go_sem]
/-- What is carried into limb k of a sum. -/
def cAdd (a b k : Nat) : Nat := (a % P2 (64 * k) + b % P2 (64 * k)) / P2 (64 * k)
/-- What is borrowed by limb k of a difference. -/
def cSub (a b k : Nat) : Nat := if a % P2 (64 * k) < b % P2 (64 * k) then 1 else 0
theorem P2_00 : P2 (64 * 0) = 1 := by rw [P2_eq]
theorem cAdd_zero (a b : Nat) : cAdd a b 0 = 0 := by unfold cAdd; rw [P2_00, Nat.mod_one, Nat.mod_one]
theorem cSub_zero (a b : Nat) : cSub a b 0 = 0 := by unfold cSub; rw [P2_00, Nat.mod_one, Nat.mod_one]; rfl
theorem cAdd_le (a b k : Nat) : cAdd a b k ≤ 1 := by
  unfold cAdd
  have h1 := Nat.mod_lt a (P2_pos (64 * k))
  have h2 := Nat.mod_lt b (P2_pos (64 * k))
  exact Nat.le_of_lt_succ (by rw [Nat.div_lt_iff_lt_mul (P2_pos _)]; omega)
theorem cSub_le (a b k : Nat) : cSub a b k ≤ 1 := by unfold cSub; split <;> omega
/-- The lower limbs, and one more. -/
theorem limb_low (a i : Nat) : a % P2 (64 * (i + 1)) = a % P2 (64 * i) + P2 (64 * i) * limb a i := by
  unfold limb
  have e : P2 (64 * (i + 1)) = P2 (64 * i) * P2 64 := by rw [← P2_add]; congr 1
  rw [e, Nat.mod_mul]
theorem limb_of_low (a i : Nat) : limb a i = a % P2 (64 * (i + 1)) / P2 (64 * i) := by
  rw [limb_low, Nat.add_mul_div_left _ _ (P2_pos _), Nat.div_eq_of_lt (Nat.mod_lt _ (P2_pos _)), Nat.zero_add]
theorem limb_add (a b i : Nat) : limb (a + b) i = (limb a i + limb b i + cAdd a b i) % P2 64 ∧ cAdd a b (i + 1) = (limb a i + limb b i + cAdd a b i) / P2 64 := by
  have e : P2 (64 * (i + 1)) = P2 (64 * i) * P2 64 := by rw [← P2_add]; congr 1
  have hx := P2_pos (64 * i)
  have ha := limb_low a i
  have hb := limb_low b i
  have hs : (a % P2 (64 * (i + 1)) + b % P2 (64 * (i + 1))) / P2 (64 * i) = limb a i + limb b i + cAdd a b i := by
    rw [ha, hb]
    rw [show a % P2 (64 * i) + P2 (64 * i) * limb a i + (b % P2 (64 * i) + P2 (64 * i) * limb b i) = (a % P2 (64 * i) + b % P2 (64 * i)) + P2 (64 * i) * (limb a i + limb b i) by rw [Nat.mul_add]; omega]
    rw [Nat.add_mul_div_left _ _ hx]
    unfold cAdd; omega
  constructor
  · rw [← hs, limb_of_low, Nat.add_mod, e, ← Nat.mod_mul_right_div_self]
  · unfold cAdd at *
    rw [← hs, Nat.div_div_eq_div_mul, ← e]
theorem carries_add (a b : Nat) : Carries Tryz.prog 143 a b (a + b) (cAdd a b) := by
  intro i w hi
  have := limbAdd_any (limb a i) (limb b i) (cAdd a b i) (cAdd_le a b i) w
  rw [← (limb_add a b i).1, ← (limb_add a b i).2] at this
  exact this
/-- The difference, modulo 2^512. -/
def subN (a b : Nat) : Nat := (a + M - b) % M
theorem subN_lt (a b : Nat) : subN a b < M := Nat.mod_lt _ M_pos
theorem limb_sub (a b i : Nat) (hb : b < M) (hi : i < 8) : limb (subN a b) i = (limb a i + P2 64 - limb b i - cSub a b i) % P2 64 ∧ cSub a b (i + 1) = if limb a i < limb b i + cSub a b i then 1 else 0 := by
  have e : P2 (64 * (i + 1)) = P2 (64 * i) * P2 64 := by rw [← P2_add]; congr 1
  have hx := P2_pos (64 * i)
  have ha := limb_low a i
  have hbl := limb_low b i
  have la := limb_lt a i
  have lb := limb_lt b i
  have ma := Nat.mod_lt a hx
  have mb := Nat.mod_lt b hx
  have cl := cSub_le a b i
  constructor
  · unfold subN
    rw [limb_mod _ _ hi, limb_of_low]
    -- modulo 2^(64(i+1))
    have hM : ∃ q, M = P2 (64 * (i + 1)) * q := ⟨P2 (512 - 64 * (i + 1)), by rw [M_eq, ← P2_add]; congr 1; omega⟩
    obtain ⟨q, hq⟩ := hM
    have hY := P2_pos (64 * (i + 1))
    generalize hYY : P2 (64 * (i + 1)) = Y at *
    have h1 : (a + M - b) % Y = (a % Y + Y - b % Y) % Y := by
      have da := Nat.div_add_mod a Y
      have db := Nat.div_add_mod b Y
      have hbY := Nat.mod_lt b hY
      have hbq : b / Y < q := by rw [Nat.div_lt_iff_lt_mul hY, Nat.mul_comm, ← hq]; exact hb
      have : a + M - b = (a % Y + Y - b % Y) + Y * (a / Y + (q - 1 - b / Y)) := by
        have e1 : Y * (a / Y + (q - 1 - b / Y)) = Y * (a / Y) + Y * (q - 1 - b / Y) := Nat.mul_add _ _ _
        have e2 : Y * q = Y * (q - 1 - b / Y) + Y * (b / Y) + Y := by
          rw [← Nat.mul_add, ← Nat.mul_succ]; congr 1; omega
        omega
      rw [this, Nat.add_mul_mod_self_left]
    rw [h1, ha, hbl, e]
    have h2 : (a % P2 (64 * i) + P2 (64 * i) * limb a i + P2 (64 * i) * P2 64 - (b % P2 (64 * i) + P2 (64 * i) * limb b i)) = (a % P2 (64 * i) + P2 (64 * i) * cSub a b i - b % P2 (64 * i)) + P2 (64 * i) * (limb a i + P2 64 - limb b i - cSub a b i) := by
      have e1 : P2 (64 * i) * (limb a i + P2 64 - limb b i - cSub a b i) + P2 (64 * i) * limb b i + P2 (64 * i) * cSub a b i = P2 (64 * i) * limb a i + P2 (64 * i) * P2 64 := by
        rw [← Nat.mul_add, ← Nat.mul_add, ← Nat.mul_add]; congr 1; omega
      have e2 : b % P2 (64 * i) ≤ a % P2 (64 * i) + P2 (64 * i) * cSub a b i := by
        unfold cSub
        split
        · rw [Nat.mul_one]; omega
        · rw [Nat.mul_zero]; omega
      omega
    have h3 : a % P2 (64 * i) + P2 (64 * i) * cSub a b i - b % P2 (64 * i) < P2 (64 * i) := by
      unfold cSub
      split
      · rw [Nat.mul_one]; omega
      · rw [Nat.mul_zero]; omega
    rw [h2, Nat.mod_mul_right_div_self, Nat.add_mul_div_left _ _ hx, Nat.div_eq_of_lt h3, Nat.zero_add]
  · rw [show cSub a b (i + 1) = if a % P2 (64 * (i + 1)) < b % P2 (64 * (i + 1)) then 1 else 0 from rfl, ha, hbl]
    have key : (a % P2 (64 * i) + P2 (64 * i) * limb a i < b % P2 (64 * i) + P2 (64 * i) * limb b i) ↔ limb a i < limb b i + cSub a b i := by
      unfold cSub
      rcases Nat.lt_trichotomy (limb a i) (limb b i) with h | h | h
      · have h1 : P2 (64 * i) * (limb a i + 1) ≤ P2 (64 * i) * limb b i := Nat.mul_le_mul_left _ h
        rw [Nat.mul_add] at h1
        constructor
        · intro _; split <;> omega
        · intro _; omega
      · rw [h]
        split
        · constructor <;> intro <;> omega
        · constructor <;> intro <;> omega
      · have h1 : P2 (64 * i) * (limb b i + 1) ≤ P2 (64 * i) * limb a i := Nat.mul_le_mul_left _ h
        rw [Nat.mul_add] at h1
        constructor
        · intro _; omega
        · intro h2
          split at h2
          · omega
          · omega
    by_cases h : limb a i < limb b i + cSub a b i
    · rw [if_pos h, if_pos (key.2 h)]
    · rw [if_neg h, if_neg (fun h' => h (key.1 h'))]
theorem carries_sub (a b : Nat) (hb : b < M) : Carries Tryz.prog 98 a b (subN a b) (cSub a b) := by
  intro i w hi
  have := limbSub_any (limb a i) (limb b i) (cSub a b i) (cSub_le a b i) w
  rw [← (limb_sub a b i hb hi).1, ← (limb_sub a b i hb hi).2] at this
  exact this
theorem cAdd_over {a b : Nat} (ha : a < M) (hb : b < M) : decide (cAdd a b 8 ≠ 0) = decide (M ≤ a + b) := by
  unfold cAdd
  rw [show 64 * 8 = 512 from rfl, ← M_eq, Nat.mod_eq_of_lt ha, Nat.mod_eq_of_lt hb]
  apply decide_eq_decide.2
  rw [ne_eq, Nat.div_eq_zero_iff_lt M_pos]
  omega
theorem cSub_below {a b : Nat} (ha : a < M) (hb : b < M) : decide (cSub a b 8 ≠ 0) = decide (a < b) := by
  unfold cSub
  rw [show 64 * 8 = 512 from rfl, ← M_eq, Nat.mod_eq_of_lt ha, Nat.mod_eq_of_lt hb]
  apply decide_eq_decide.2
  split <;> simp [*]


set_option maxHeartbeats 400000 in
theorem add_w (a b : Nat) (ha : a < M) (hb : b < M) (w : World) : Calls Tryz.prog 135 #[wv a, wv b] w fun e w' => e = .returned (.tuple #[wv ((a + b) % M), .bool (decide (M ≤ a + b))]) ∧ Below w.heap.size w w' := by
  have S : Hid (∀ w' : World, Calls Tryz.prog 97 #[wv a, wv b, .func (.func 143) #[] #[]] w' fun e w'' => e = .returned (.tuple #[wv ((a + b) % M), .bool (decide (M ≤ a + b))]) ∧ Below w'.heap.size w' w'') := Lib.hid fun w' => by
    have := both_any 143 a b (a + b) (cAdd a b) (cAdd_zero a b) w' enters_limbAdd (carries_add a b)
    rw [cAdd_over ha hb] at this
    unfold wv at *
    rwa [wcells_mod]
  obtain ⟨s, hs⟩ : ∃ s, s = (a + b) % M := ⟨_, rfl⟩
  obtain ⟨o, ho⟩ : ∃ o, o = decide (M ≤ a + b) := ⟨_, rfl⟩
  rw [← hs, ← ho] at S ⊢
  clear hs ho ha hb
  have G2 : Hid ((((w.alloc (.cells (wcells a) 24)).alloc (.cells (wcells b) 24)).alloc (.cells (wcells 0) 24)).heap[w.heap.size + 2]? = some (.cells (wcells 0) 24 (0, 0))) := Lib.hid (by rw [alloc_new' _ (by simp)])
  go_enter Tryz.func135, Tryz.ntmps135
  go_wp2_with fail
  refine (S.out _).mono ?_
  rintro e w1 ⟨rfl, hb⟩
  have HB1 := Lib.hid (below_then (below_al (below_al (below_al (Below.refl w.heap.size w) _) _) _) hb)
  have G2 := Lib.hid ((hb.block _ (lt_of_heap G2.out)).trans G2.out)
  clear hb
  have st := st_row (P := Tryz.prog) G2.out rfl s
  have c2 := cell_row (setRow_heap w1 _ _ (wcells s) _ _ G2.out)
  go_wp2
  exact bodyPost_ret (v := .tuple #[wv s, .bool o]) (by simp [results, Tryz.results135, go_sem, c2]) rfl ⟨rfl, below_setRow' HB1.out (by omega) _⟩

set_option maxHeartbeats 400000 in
theorem sub_w (a b : Nat) (ha : a < M) (hb : b < M) (w : World) : Calls Tryz.prog 66 #[wv a, wv b] w fun e w' => e = .returned (.tuple #[wv (subN a b), .bool (decide (a < b))]) ∧ Below w.heap.size w w' := by
  have S : Hid (∀ w' : World, Calls Tryz.prog 97 #[wv a, wv b, .func (.func 98) #[] #[]] w' fun e w'' => e = .returned (.tuple #[wv (subN a b), .bool (decide (a < b))]) ∧ Below w'.heap.size w' w'') := Lib.hid fun w' => by
    have := both_any 98 a b (subN a b) (cSub a b) (cSub_zero a b) w' enters_limbSub (carries_sub a b hb)
    rw [cSub_below ha hb] at this

    exact this
  obtain ⟨s, hs⟩ : ∃ s, s = subN a b := ⟨_, rfl⟩
  obtain ⟨o, ho⟩ : ∃ o, o = decide (a < b) := ⟨_, rfl⟩
  rw [← hs, ← ho] at S ⊢
  clear hs ho ha hb
  have G2 : Hid ((((w.alloc (.cells (wcells a) 24)).alloc (.cells (wcells b) 24)).alloc (.cells (wcells 0) 24)).heap[w.heap.size + 2]? = some (.cells (wcells 0) 24 (0, 0))) := Lib.hid (by rw [alloc_new' _ (by simp)])
  go_enter Tryz.func66, Tryz.ntmps66
  go_wp2_with fail
  refine (S.out _).mono ?_
  rintro e w1 ⟨rfl, hb⟩
  have HB1 := Lib.hid (below_then (below_al (below_al (below_al (Below.refl w.heap.size w) _) _) _) hb)
  have G2 := Lib.hid ((hb.block _ (lt_of_heap G2.out)).trans G2.out)
  clear hb
  have st := st_row (P := Tryz.prog) G2.out rfl s
  have c2 := cell_row (setRow_heap w1 _ _ (wcells s) _ _ G2.out)
  go_wp2
  exact bodyPost_ret (v := .tuple #[wv s, .bool o]) (by simp [results, Tryz.results66, go_sem, c2]) rfl ⟨rfl, below_setRow' HB1.out (by omega) _⟩
end Go.Proofs.YtegmmaaapdgocaaGreat

/- THE WALKS of package wide, going on: the number of limbs; powers, masks; 0 without a number; a word. -/
namespace Go.Proofs.YtegmmaaapdgocaaGreat
open Go Go.RowKit

theorem infoU64 : (Tryz.prog.info? 22).map (·.size) = some 1 := by kernel_rfl
def limbsV (n k : Nat) : List Value := (List.range k).map fun i => .int .u64 (limb n i : Nat)
theorem limbsV_get (n k i : Nat) (h : i < k) : (limbsV n k)[i]? = some (.int .u64 (limb n i : Nat)) := by
  unfold limbsV; simp [h]
theorem limb_gone (n i L : Nat) (h : n < P2 (64 * L)) (hi : L ≤ i) : limb n i = 0 := by
  unfold limb
  rw [Nat.div_eq_of_lt (Nat.lt_of_lt_of_le h (P2_le (by omega)))]
  exact Nat.zero_mod _
theorem splice_limbs (n L : Nat) (h : n < P2 (64 * L)) : (splice (wcells 0).toList 0 (limbsV n (Nat.min L 8))).toArray = wcells n := by
  apply Array.ext_getElem?
  intro i
  have hlen : (limbsV n (Nat.min L 8)).length = Nat.min L 8 := by simp [limbsV]
  unfold splice
  rw [List.take_zero, List.nil_append, List.getElem?_toArray, hlen, Nat.zero_add]
  have hm : Nat.min L 8 ≤ 8 := Nat.min_le_right _ _
  by_cases h1 : i < Nat.min L 8
  · rw [List.getElem?_append_left (by omega), limbsV_get _ _ _ h1, wcells_get _ _ (by omega)]
  · rw [List.getElem?_append_right (by omega), hlen, List.getElem?_drop, show Nat.min L 8 + (i - Nat.min L 8) = i by omega, Array.getElem?_toList]
    by_cases h2 : i < 8
    · have hL : L ≤ i := by
        have : Nat.min L 8 = min L 8 := rfl
        omega
      rw [wcells_get _ _ h2, wcells_get _ _ h2, limb_zero, limb_gone n i L h hL]
    · rw [Array.getElem?_eq_none (by rw [wcells_size]; omega), Array.getElem?_eq_none (by rw [wcells_size]; omega)]

set_option maxHeartbeats 1000000 in
theorem of_w (v : Value) (n L : Nat) (w : World) (hv : IsLimbs w v n L) : Calls Tryz.prog 106 #[v] w fun e w' => e = .returned (wv (n % M)) ∧ Below w.heap.size w w' := by
  obtain ⟨⟨a, cap, rfl, hcap, hx⟩, hn⟩ := hv
  have HX := Lib.hid hx; have HN := Lib.hid hn
  clear hx hn
  have hlen : Hid ((limbsV n (Nat.min L 8)).length = Nat.min L 8) := Lib.hid (by simp [limbsV])
  have hm : Hid (Nat.min L 8 ≤ 8) := Lib.hid (Nat.min_le_right _ _)
  go_enter Tryz.func106, Tryz.ntmps106
  go_wp2_with (refine wpList_copy_splice rfl _ _ _ _ rfl 22 Tryz.underlying142 infoU64 _ _ 8 8 L cap rfl rfl (w.heap.size + 1) 0 (wcells 0).toList 24 ?hg (limbsV n (Nat.min L 8)) ?hn ?hpos ?hfit ?h1 (w.heap.size + 1) ((w.alloc (.cells (wcells 0) 24)).alloc (.cells (wcells 0) 24)) ?hb ?hBg ?_)
  case hg => rw [Array.toArray_toList, alloc_new' _ (by simp)]
  case hn => exact hlen.out
  case hpos =>
    intro h0
    have hmin : Nat.min L 8 = min L 8 := rfl
    have hlo := hlen.out
    obtain ⟨b, o, rfl, hb, hcell⟩ := HX.out (by omega)
    refine ⟨_, rfl, fun j u hu => ?_⟩
    have hj : j < Nat.min L 8 := by
      rcases Nat.lt_or_ge j (Nat.min L 8) with h | h
      · exact h
      · rw [List.getElem?_eq_none (by have := hlen.out; omega)] at hu; cases hu
    rw [limbsV_get _ _ _ hj] at hu
    cases hu
    rw [Addr.add_lit]
    rw [((below_al (below_al (Below.refl w.heap.size w) (.cells (wcells 0) 24)) (.cells (wcells 0) 24)).cell (p := ⟨b, o + j, none⟩) hb)]
    exact hcell j (by omega)
  case hfit => rw [hlen.out]; have := hm.out; simp [wcells]; omega
  case h1 =>
    intro u hu
    unfold limbsV at hu
    rw [List.mem_map] at hu
    obtain ⟨i, _, rfl⟩ := hu
    rfl
  case hb => exact Below.refl _ _
  case hBg => omega
  intro w2 hg2 hb2
  have HG2 := Lib.hid hg2.out
  have g1 : w2.heap[w.heap.size]? = some (.cells (wcells 0) 24 (0, 0)) := by
    rw [hb2.block _ (by omega), alloc_old _ _ _ (by simp), alloc_new]
  have HB2 := Lib.hid ((below_al (below_al (Below.refl w.heap.size w) (.cells (wcells 0) 24)) (.cells (wcells 0) 24)).trans (hb2.mono (by omega)))
  have g2 := hg2.out
  rw [splice_limbs n L HN.out] at g2
  have c2 := cell_row g2
  have st := st_row (P := Tryz.prog) g1 rfl n
  have G1 := Lib.hid g1
  clear hg2 hb2 g1 g2 HG2
  go_wp2
  rw [show wv (n % M) = wv n from congrArg Value.agg (wcells_mod n)]
  exact bodyPost_ret (v := wv n) (results_cell_row rfl _ _ w.heap.size _ _ _ _ rfl (setRow_heap _ _ _ _ _ _ G1.out) Tryz.underlying24 rfl (by kernel_rfl)) rfl ⟨rfl, below_setRow' HB2.out (Nat.le_refl _) _⟩
end Go.Proofs.YtegmmaaapdgocaaGreat

/- THE WALKS of package wide, going on: a digit, the sign, shifted down with it. -/
namespace Go.Proofs.YtegmmaaapdgocaaGreat
open Go Go.RowKit

theorem M_half2 : P2 511 + P2 511 = M := by rw [M_eq, show 512 = 511 + 1 from rfl, P2_add, show P2 1 = 2 by rw [P2_eq]]; omega
def limbAtN (n : Nat) (i : Int) : Nat := if i < 0 then 0 else limb n i.toNat
set_option maxHeartbeats 400000 in
theorem limbAt_any (v : Value) (n L : Nat) (i : Int) (w : World) (h1 : -9223372036854775808 ≤ i) (h2 : i ≤ 9223372036854775807) (hv : IsLimbs w v n L) :
    Calls Tryz.prog 136 #[v, .int .i64 i] w fun e w' => e = .returned (.int .u64 (limbAtN n i : Nat)) ∧ w' = w := by
  obtain ⟨⟨a, cap, rfl, hc, hx⟩, hl⟩ := hv
  by_cases hi : i < 0
  · clear hx hl
    go_enter Tryz.func136, Tryz.ntmps136
    go_wp2
    go_ret
    exact ⟨ret_int (by unfold limbAtN; rw [if_pos hi]; rfl), rfl⟩
  obtain ⟨k, rfl⟩ := Int.eq_ofNat_of_zero_le (by omega : 0 ≤ i)
  have he : limbAtN n (k : Int) = limb n k := by unfold limbAtN; rw [if_neg hi]; rfl
  by_cases hk : L ≤ k
  · have hd := limb_gone n k L hl hk
    have HD := Lib.hid hd; have HE := Lib.hid he
    clear hx hl hd he
    go_enter Tryz.func136, Tryz.ntmps136
    go_wp2
    all_goals (go_ret; exact ⟨ret_int (by rw [HE.out, HD.out]; rfl), rfl⟩)
  · obtain ⟨b, o, rfl, hb, hcell⟩ := hx (by omega)
    have hk' : k < L := by omega
    have hg := hcell k hk'
    have hle := limb_le n k
    have HE := Lib.hid he
    clear hx hl hcell he
    go_enter Tryz.func136, Tryz.ntmps136
    go_wp2
    go_ret
    exact ⟨ret_int (by rw [HE.out]), rfl⟩

def bitN (n : Nat) (i : Int) : Bool := if i < 0 then false else n.testBit i.toNat
theorem and_one (x : Nat) (hx : x < P2 64) : bits .and .u64 (x : Int) 1 = ((x % 2 : Nat) : Int) := by
  have := u64_and_nat x 1 (by rw [P2_64] at hx; exact hx) (by decide)
  rw [Nat.and_one_is_mod] at this
  exact this
theorem bit_of_limb (n k : Nat) : (bits .and .u64 ((limb n (k / 64) : Int) / 2 ^ (k % 64)) 1 == 1) = n.testBit k := by
  have h := limb_bit n (k / 64) (k % 64)
  rw [show 64 * (k / 64) + k % 64 = k by omega] at h
  rw [div_u64, and_one _ (div_lt (limb_lt _ _))]
  have h64 : k % 64 < 64 := Nat.mod_lt _ (by decide)
  simp only [h64, decide_true, Bool.true_and] at h
  rw [← h, ← Nat.add_zero (k % 64), ← bit_div, Nat.testBit_zero, Nat.add_zero]
  by_cases h1 : limb n (k / 64) / P2 (k % 64) % 2 = 1
  · rw [h1]; rfl
  · have h2 : limb n (k / 64) / P2 (k % 64) % 2 = 0 := by omega
    rw [h2]; rfl
/-- The whole of a wide, as a slice. -/
theorem isLimbs_w {w : World} {p : Nat} {a : Nat} (ha : a < M) {t : TypeId} (h : w.heap[p]? = some (.cells (wcells a) t (0, 0))) : IsLimbs w (.slice (some ⟨p, 0, none⟩) 8 8) a 8 :=
  ⟨⟨_, _, rfl, Nat.le_refl _, fun _ => ⟨p, 0, rfl, lt_of_heap h, fun i hi => by rw [Nat.zero_add, cell_row h, wcells_get _ _ hi]⟩⟩, by rw [M_eq] at ha; exact ha⟩

theorem bit_511 {a : Nat} (ha : a < M) : bitN a 511 = decide (P2 511 ≤ a) := by
  unfold bitN
  rw [if_neg (by decide), show (511 : Int).toNat = 511 from rfl]
  have h := M_half2
  by_cases h1 : P2 511 ≤ a
  · have h2 : a / P2 511 = 1 := by
      have := P2_pos 511
      rw [Nat.div_eq_iff this]; omega
    have h3 := bit_div a 511 0
    rw [Nat.add_zero] at h3
    rw [← h3, h2, decide_eq_true h1]; rfl
  · have h3 := bit_div a 511 0
    rw [Nat.add_zero] at h3
    rw [← h3, Nat.div_eq_of_lt (by omega), decide_eq_false h1]; rfl

end Go.Proofs.YtegmmaaapdgocaaGreat
