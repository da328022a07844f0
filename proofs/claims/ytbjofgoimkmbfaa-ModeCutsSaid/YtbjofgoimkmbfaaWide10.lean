/- THE WALKS of package wide, going on: which is above; a word. -/
import Derived.Test.YtbjofgoimkmbfaaWide9
namespace Go.Proofs.Ytbjofgoimkmbfaa
open Go Go.RowKit

theorem labove_step {a b k : Nat} (h : a / P2 (64 * (k + 1)) = b / P2 (64 * (k + 1))) (hd : limb a k = limb b k) : a / P2 (64 * k) = b / P2 (64 * k) := by
  rw [limb_split a k, limb_split b k, h, hd]
theorem labove_lt {a b k : Nat} (h : a / P2 (64 * (k + 1)) = b / P2 (64 * (k + 1))) (hd : limb a k < limb b k) : a < b := by
  have h1 := limb_split a k
  have h2 := limb_split b k
  rw [← h] at h2
  rcases Nat.lt_or_ge a b with hlt | hge
  · exact hlt
  · have := Nat.div_le_div_right (c := P2 (64 * k)) hge
    omega

set_option maxHeartbeats 1000000 in
theorem limbLess_any (va vb : Value) (a b : Nat) (w : World) (ha : IsLimbs w va a 8) (hb : IsLimbs w vb b 8) :
    Calls Try.prog 150 #[va, vb] w fun e w' => e = .returned (.bool (decide (a < b))) ∧ w' = w := by
  have HA := Lib.hid ha; have HB := Lib.hid hb
  obtain ⟨aa, ca, rfl, hca, _⟩ := ha.ex
  obtain ⟨ab, cb, rfl, hcb, _⟩ := hb.ex
  have hta : Hid (a / P2 (64 * 8) = b / P2 (64 * 8)) := Lib.hid (by rw [Nat.div_eq_of_lt HA.out.lt, Nat.div_eq_of_lt HB.out.lt])
  clear ha hb
  go_enter Try.func150, Try.ntmps150
  go_wp2
  go_loop [5] (fun s => ∃ k : Nat, k ≤ 8 ∧ s = .int .i64 ((k : Int) - 1) ∧ a / P2 (64 * k) = b / P2 (64 * k)) (fun s => (intOf s + 1).toNat)
  case atStart => exact ⟨8, Nat.le_refl _, rfl, hta.out⟩
  case round =>
    obtain ⟨k, hk, rfl, he⟩ := hrel
    have HE := Lib.hid he
    clear he
    rcases k with _ | k
    · go_wp2
      go_ret
      refine ⟨ret_bool ?_, rfl⟩
      have := HE.out
      rw [P2_00, Nat.div_one, Nat.div_one] at this
      rw [this]; simp
    · have RA : Hid (Calls Try.prog 184 #[.slice aa 8 ca, .int .i64 k] w fun e w'' => e = .returned (.int .u64 (limb a k : Nat)) ∧ w'' = w) := Lib.hid (by
        have := limbAt_any _ a 8 k w (by omega) (by omega) HA.out
        rwa [show limbAtN a (k : Int) = limb a k by unfold limbAtN; rw [if_neg (by omega)]; rfl] at this)
      have RB : Hid (Calls Try.prog 184 #[.slice ab 8 cb, .int .i64 k] w fun e w'' => e = .returned (.int .u64 (limb b k : Nat)) ∧ w'' = w) := Lib.hid (by
        have := limbAt_any _ b 8 k w (by omega) (by omega) HB.out
        rwa [show limbAtN b (k : Int) = limb b k by unfold limbAtN; rw [if_neg (by omega)]; rfl] at this)
      have hla := limb_le a k
      have hlb := limb_le b k
      have e0 : ((k + 1 : Nat) : Int) - 1 = (k : Int) := by omega
      rw [e0]
      by_cases hd : limb a k = limb b k
      · have HD := Lib.hid hd
        clear hd
        have hne : (((limb a k : Nat) : Int) != ((limb b k : Nat) : Int)) = false := by rw [HD.out]; simp
        go_wp2_with fail
        refine RA.out.mono ?_
        rintro e w1 ⟨rfl, rfl⟩
        go_wp2_with fail
        refine RB.out.mono ?_
        rintro e w2 ⟨rfl, rfl⟩
        go_wp2
        go_round
        case rel => exact ⟨k, by omega, by go_num, labove_step HE.out HD.out⟩
        case measure => simp [intOf]
      · have hne : (((limb a k : Nat) : Int) != ((limb b k : Nat) : Int)) = true := by simp; omega
        have HD := Lib.hid hd
        clear hd
        go_wp2_with fail
        refine RA.out.mono ?_
        rintro e w1 ⟨rfl, rfl⟩
        go_wp2_with fail
        refine RB.out.mono ?_
        rintro e w2 ⟨rfl, rfl⟩
        go_wp2
        go_ret
        refine ⟨ret_bool ?_, rfl⟩
        have hd := HD.out
        rcases Nat.lt_or_ge (limb a k) (limb b k) with h | h
        · have := labove_lt HE.out h
          simp [h, this]
        · have := labove_lt HE.out.symm (show limb b k < limb a k by omega)
          simp; omega

set_option maxHeartbeats 1000000 in
theorem cmp_w (a b : Nat) (ha : a < M) (hb : b < M) (w : World) : Calls Try.prog 77 #[wv a, wv b] w fun e w' => e = .returned (.int .i64 (cmpN a b)) ∧ Below w.heap.size w w' := by
  have hW : ∃ w0, w0 = (w.alloc (.cells (wcells a) 31)).alloc (.cells (wcells b) 31) := ⟨_, rfl⟩
  obtain ⟨w0, hw0⟩ := hW
  have g0 : w0.heap[w.heap.size]? = some (.cells (wcells a) 31 (0, 0)) := by rw [hw0, alloc_old _ _ _ (by simp), alloc_new]
  have g1 : w0.heap[w.heap.size + 1]? = some (.cells (wcells b) 31 (0, 0)) := by rw [hw0, alloc_new' _ (by simp)]
  have HB0 : Hid (Below w.heap.size w w0) := Lib.hid (by rw [hw0]; exact below_al (below_al (Below.refl _ _) _) _)
  have S : Hid (∀ x : Ext w0.heap.size w0, Calls Try.prog 150 #[.slice (some ⟨w.heap.size, 0, none⟩) 8 8, .slice (some ⟨w.heap.size + 1, 0, none⟩) 8 8] x.val fun e w'' => e = .returned (.bool (decide (a < b))) ∧ Below x.val.heap.size x.val w'') := Lib.hid fun x =>
    (limbLess_any _ _ a b x.val (isLimbs_w ha ((x.property.block _ (lt_of_heap g0)).trans g0)) (isLimbs_w hb ((x.property.block _ (lt_of_heap g1)).trans g1))).mono fun _ _ ⟨h1, h2⟩ => ⟨h1, by rw [h2]; exact Below.refl _ _⟩
  have HW := Lib.hid hw0
  have hma : a % M = a := Nat.mod_eq_of_lt ha
  have hmb : b % M = b := Nat.mod_eq_of_lt hb
  by_cases hab : a = b
  · subst hab
    have HC := Lib.hid (cmpN_eq (a := a) (b := a) rfl)
    clear hw0 g0 g1 ha hb hma hmb
    go_enter Try.func77, Try.ntmps77
    go_wp2
    go_ret
    exact ⟨ret_int (by rw [HC.out]), below_al (below_al (Below.refl _ _) _) _⟩
  · have HE := Lib.hid (show decide (a % M = b % M) = false by rw [hma, hmb]; exact decide_eq_false hab)
    have HAB := Lib.hid hab
    clear hw0 g0 g1 ha hb hma hmb hab
    go_enter Try.func77, Try.ntmps77
    have he := HE.out
    by_cases hlt : a < b
    · have HC := Lib.hid (cmpN_lt hlt)
      rw [decide_eq_true hlt] at S
      clear hlt
      go_wp2_with fail
      rw [← HW.out]
      refine wp_region_ext w0.heap.size (by kernel_rfl) (by kernel_rfl) ?_
      repeat (go_big_quiet_step ((go_at_call 150; exact Calls.quiet_ext (Nat.le_refl _) (S.out _))))
      refine wpQuiet_nil ?_
      intro w4 hb4
      go_wp2
      go_ret
      exact ⟨ret_int (by rw [HC.out]), below_then HB0.out hb4⟩
    · have HC := Lib.hid (cmpN_gt (a := a) (b := b) (by have := HAB.out; omega))
      rw [decide_eq_false hlt] at S
      clear hlt
      go_wp2_with fail
      rw [← HW.out]
      refine wp_region_ext w0.heap.size (by kernel_rfl) (by kernel_rfl) ?_
      repeat (go_big_quiet_step ((go_at_call 150; exact Calls.quiet_ext (Nat.le_refl _) (S.out _))))
      refine wpQuiet_nil ?_
      intro w4 hb4
      go_wp2
      go_ret
      exact ⟨ret_int (by rw [HC.out]), below_then HB0.out hb4⟩

set_option maxHeartbeats 400000 in
theorem low_w (a : Nat) (w : World) : Calls Try.prog 59 #[wv a] w fun e w' => e = .returned (.agg #[.int .u64 (limb a 1), .int .u64 (limb a 0)]) ∧ Below w.heap.size w w' := by
  go_enter Try.func59, Try.ntmps59
  go_wp2
  exact bodyPost_ret (v := .agg #[.int .u64 (limb a 1), .int .u64 (limb a 0)]) (results_cell_row rfl _ _ (w.heap.size + 1) _ _ _ _ rfl (alloc_new' _ (by simp)) Try.underlying40 rfl (by kernel_rfl)) rfl ⟨rfl, below_al (below_al (Below.refl _ _) _) _⟩

theorem word_limbs (x y : Nat) (hx : x ≤ 18446744073709551615) (hy : y ≤ 18446744073709551615) : limb (y + P2 64 * x) 0 = y ∧ limb (y + P2 64 * x) 1 = x ∧ y + P2 64 * x < P2 (64 * 2) := by
  have h64 := P2_64
  refine ⟨?_, ?_, ?_⟩
  · unfold limb
    rw [P2_00, Nat.div_one, Nat.add_mul_mod_self_left, Nat.mod_eq_of_lt (by omega)]
  · unfold limb
    rw [show 64 * 1 = 64 from rfl, Nat.add_mul_div_left _ _ (P2_pos _), Nat.div_eq_of_lt (by omega), Nat.zero_add, Nat.mod_eq_of_lt (by omega)]
  · rw [show 64 * 2 = 64 + 64 from rfl, P2_add]
    have : P2 64 * (x + 1) ≤ P2 64 * P2 64 := Nat.mul_le_mul_left _ (by omega)
    rw [Nat.mul_add] at this
    omega
theorem word_M (x y : Nat) (hx : x ≤ 18446744073709551615) (hy : y ≤ 18446744073709551615) : y + P2 64 * x < M :=
  Nat.lt_of_lt_of_le (word_limbs x y hx hy).2.2 (by rw [M_eq]; exact P2_le (by decide))

set_option maxHeartbeats 400000 in
/-- The number of a word. -/
theorem from_w (x y : Nat) (hx : x ≤ 18446744073709551615) (hy : y ≤ 18446744073709551615) (w : World) : Calls Try.prog 60 #[.agg #[.int .u64 x, .int .u64 y]] w fun e w' => e = .returned (wv (y + P2 64 * x)) ∧ Below w.heap.size w w' := by
  have HM := word_M x y hx hy
  have R : Hid (∀ w' p, w'.heap[p]? = some (.cells #[.int .u64 y, .int .u64 x] 24 (0, 0)) → Calls Try.prog 43 #[.slice (some ⟨p, 0, none⟩) 2 2] w' fun e w'' => e = .returned (wv (y + P2 64 * x)) ∧ Below w'.heap.size w' w'') := Lib.hid fun w' p h => by
    have hl := word_limbs x y hx hy
    have := of_w _ (y + P2 64 * x) 2 w' ⟨⟨some ⟨p, 0, none⟩, 2, rfl, Nat.le_refl _, fun _ => ⟨p, 0, rfl, lt_of_heap h, fun i hi => by
      rw [Nat.zero_add, cell_row h]
      rcases i with _ | _ | i
      · rw [hl.1]; rfl
      · rw [hl.2.1]; rfl
      · omega⟩⟩, hl.2.2⟩
    rwa [Nat.mod_eq_of_lt HM] at this
  have G1 : Hid ((((w.alloc (.cells #[.int .u64 x, .int .u64 y] 40)).alloc (.cells (wcells 0) 31)).alloc (.cells #[.int .u64 y, .int .u64 x] 24)).heap[w.heap.size + 1]? = some (.cells (wcells 0) 31 (0, 0))) := Lib.hid (by rw [alloc_old _ _ _ (by simp), alloc_new' _ (by simp)])
  obtain ⟨N, hN⟩ : ∃ N, N = y + P2 64 * x := ⟨_, rfl⟩
  rw [← hN] at R ⊢
  clear hN HM
  go_enter Try.func60, Try.ntmps60
  go_wp2_with fail
  refine (R.out _ _ (alloc_new' _ (by simp))).mono ?_
  rintro e w1 ⟨rfl, hb⟩
  have HB1 := Lib.hid (below_then (below_al (below_al (below_al (Below.refl w.heap.size w) _) _) _) hb)
  have G1 := Lib.hid ((hb.block _ (lt_of_heap G1.out)).trans G1.out)
  clear hb
  have st := st_row (P := Try.prog) G1.out rfl N
  go_wp2
  exact bodyPost_ret (v := wv N) (results_cell_row rfl _ _ (w.heap.size + 1) _ _ _ _ rfl (setRow_heap _ _ _ _ _ _ G1.out) Try.underlying31 rfl (by kernel_rfl)) rfl ⟨rfl, below_setRow' HB1.out (by omega) _⟩
end Go.Proofs.Ytbjofgoimkmbfaa
