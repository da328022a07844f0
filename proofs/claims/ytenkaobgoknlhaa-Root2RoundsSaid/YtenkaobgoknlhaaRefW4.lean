/- THE WALK of the reference's shift down with a sign. -/
import Derived.Test.YtenkaobgoknlhaaK9
import Derived.Test.YtenkaobgoknlhaaWide7
import Derived.Deep.DeepCutAuto
import Derived.Deep.RegionWith
namespace Go.Proofs.Ytenkaobgoknlhaa
open Go Go.RowKit

def clampR (n : Int) : Nat := if n < 0 then 0 else if 600 < n then 600 else n.toNat
theorem clampR_le (n : Int) : clampR n ≤ 600 := by unfold clampR; split <;> (try split) <;> omega
theorem clampR_neg {n : Int} (h : n < 0) : clampR n = 0 := if_pos h
theorem clampR_hi {n : Int} (h : 600 < n) : clampR n = 600 := by unfold clampR; rw [if_neg (by omega), if_pos h]
theorem clampR_mid {n : Int} (h : 0 ≤ n) (h2 : n ≤ 600) : (clampR n : Int) = n := by unfold clampR; rw [if_neg (by omega), if_neg (by omega)]; omega
theorem M_small : M < BIG := by rw [M_eq]; exact P2_small (by omega)
theorem sarN_low {a c : Nat} (ha : a < M) (h : a < P2 511) : a / P2 c % M = sarN a (min c 512) := by
  unfold sarN
  rw [if_neg (by omega), Nat.add_zero]
  rcases Nat.le_total c 512 with hc | hc
  · rw [Nat.min_eq_left hc, Nat.mod_eq_of_lt (Nat.lt_of_le_of_lt (Nat.div_le_self _ _) ha)]
  · rw [Nat.min_eq_right hc, ← M_eq, Nat.div_eq_of_lt ha, Nat.div_eq_of_lt (Nat.lt_of_lt_of_le ha (by rw [M_eq]; exact P2_le hc)), Nat.zero_mod]
theorem up_eq (d K q r : Nat) (hd : 0 < d) (hr : r < d) (hq : q < K) : (d * K - (d * q + r) + (d - 1)) / d = K - q := by
  have h : d * K - (d * q + r) + (d - 1) = d * (K - q) + (d - 1 - r) := by
    have h1 : d * K = d * q + d * (K - q) := by rw [← Nat.mul_add]; congr 1; omega
    have h2 : d ≤ d * (K - q) := Nat.le_mul_of_pos_right _ (by omega)
    omega
  rw [h, Nat.mul_add_div hd, Nat.div_eq_of_lt (by omega), Nat.add_zero]
theorem sarN_high {a c : Nat} (ha : a < M) (h : P2 511 ≤ a) : (M - (M - a + (P2 c - 1)) / P2 c) % M = sarN a (min c 512) ∧ (M - a + (P2 c - 1)) / P2 c ≤ M := by
  unfold sarN
  rw [if_pos h]
  rcases Nat.le_total c 512 with hc | hc
  · rw [Nat.min_eq_left hc]
    have hm := M_split hc
    have hd := P2_pos c
    have hq : a / P2 c < P2 (512 - c) := by rw [Nat.div_lt_iff_lt_mul hd, Nat.mul_comm, ← hm]; exact ha
    have hr := Nat.mod_lt a hd
    have hda := Nat.div_add_mod a (P2 c)
    have hu := up_eq (P2 c) (P2 (512 - c)) (a / P2 c) (a % P2 c) hd hr hq
    rw [hda, ← hm] at hu
    have hKM : P2 (512 - c) ≤ M := by rw [M_eq]; exact P2_le (by omega)
    rw [hu]
    clear hda hr hu hm
    generalize a / P2 c = q at *
    generalize P2 (512 - c) = K at *
    refine ⟨?_, by omega⟩
    rw [Nat.mod_eq_of_lt (by omega)]
    omega
  · rw [Nat.min_eq_right hc, ← M_eq, Nat.div_eq_of_lt ha, Nat.sub_self, P2_0]
    have h1 : P2 511 + P2 511 = M := M_half
    have h2 : M ≤ P2 c := by rw [M_eq]; exact P2_le hc
    have h3 : (M - a + (P2 c - 1)) / P2 c = 1 := by
      rw [Nat.div_eq_iff (by omega)]
      omega
    rw [h3]
    refine ⟨?_, by omega⟩
    rw [Nat.mod_eq_of_lt (by omega)]
    omega

attribute [local go_sem ↓] Go.wp_at_zero Go.wp_at_succ
set_option maxHeartbeats 2000000 in
theorem rsar_any (a : Nat) (ha : a < M) (n : Int) (w : World) (h1 : -9223372036854775808 ≤ n) (h2 : n ≤ 9223372036854775807) :
    Calls Try.prog 54 #[wv a, .int .i64 n] w fun e w' => e = .returned (wv (sarN a (min (clampR n) 512))) ∧ Below w.heap.size w w' := by
  have hM := M_pos
  have S0 := Lib.hid (fun w' => rminus_any a ha w')
  have S1 := Lib.hid (fun w' => big_any a ha w')
  have S2 := Lib.hid (fun (v : Value) (c : Nat) (hc : c ≤ 600) (w' : World) h => rshr_any v a c w' (small_M ha) (by omega) h)
  have HA := Lib.hid ha
  have hcl := clampR_le n
  have HC := Lib.hid (show (n < 0 → clampR n = 0) ∧ (600 < n → clampR n = 600) ∧ (0 ≤ n → n ≤ 600 → (clampR n : Int) = n) from ⟨clampR_neg, clampR_hi, clampR_mid⟩)
  clear ha
  obtain ⟨c, hc⟩ : ∃ c, c = clampR n := ⟨_, rfl⟩
  rw [← hc] at hcl HC ⊢
  clear hc
  go_enter Try.func54, Try.ntmps54
  go_upto_region 1 with fail
  go_cut [1] (fun s1 wx => s1 = .int .i64 c ∧ wx = (w.alloc (.cells (wcells a) 26)).alloc (.cells (wcells 0) 26))
  case first =>
    rcases (show n < 0 ∨ 0 ≤ n by omega) with hn | hn
    · have := HC.out.1 hn
      go_wp2
      go_meet
      exact ⟨by rw [this]; rfl, rfl⟩
    · rcases (show 600 < n ∨ n ≤ 600 by omega) with hn2 | hn2
      · have := HC.out.2.1 hn2
        go_wp2
        go_meet
        exact ⟨by rw [this]; rfl, rfl⟩
      · have := HC.out.2.2 hn hn2
        go_wp2
        all_goals go_meet
        all_goals exact ⟨by rw [this], rfl⟩
  case rest =>
    obtain ⟨rfl, rfl⟩ := hcut
    have hB0 : Below w.heap.size w ((w.alloc (.cells (wcells a) 26)).alloc (.cells (wcells 0) 26)) := below_al (below_al (Below.refl _ _) _) _
    obtain ⟨w0, hw0⟩ : ∃ w0, w0 = (w.alloc (.cells (wcells a) 26)).alloc (.cells (wcells 0) 26) := ⟨_, rfl⟩
    have g0 : w0.heap[w.heap.size]? = some (.cells (wcells a) 26 (0, 0)) := by rw [hw0, alloc_old _ _ _ (by simp), alloc_new]
    have g1 : w0.heap[w.heap.size + 1]? = some (.cells (wcells 0) 26 (0, 0)) := by rw [hw0, alloc_new' _ (by simp)]
    rw [← hw0] at hB0 ⊢
    have G0 := Lib.hid g0; have G1 := Lib.hid g1; have HB0 := Lib.hid hB0
    have c0 := cell_row g0
    clear hw0 g0 g1 hB0
    by_cases hneg : P2 511 ≤ a
    · have hd : decide (P2 511 ≤ a) = true := decide_eq_true hneg
      rw [hd] at S0
      have S3 : Hid (∀ (v v2 : Value) (w' : World), IsBig w' v M → IsBig w' v2 a → Calls Try.prog 36 #[v, v2] w' (GivesBig (M - a) w')) := Lib.hid fun v v2 w' h h' => by
        have e : a + (M - a) = M := Nat.add_sub_cancel' (Nat.le_of_lt HA.out)
        exact sub_any v v2 a (M - a) w' (by rw [e]; exact M_small) (by rw [e]; exact h) h'
      have SW := Lib.hid (fun w' => whole_any w')
      have HNEG := Lib.hid hneg
      clear hneg hd
      go_wp2_with fail
      refine (S0.out _).mono ?_
      rintro e w1 ⟨rfl, hb⟩
      have HB1 := Lib.hid (below_then HB0.out hb)
      have G0 := Lib.hid ((hb.block _ (lt_of_heap G0.out)).trans G0.out)
      have G1 := Lib.hid ((hb.block _ (lt_of_heap G1.out)).trans G1.out)
      clear hb
      have c1 := cell_row G0.out
      clear c0
      go_upto_region 5 with fail
      go_cut [7] (fun s7 wx => IsBig wx s7 (M - a) ∧ wx.heap[w.heap.size + 1]? = some (.cells (wcells 0) 26 (0, 0)) ∧ Below w.heap.size w wx)
      case first =>
        have G0 := Lib.hid (show w1.drew.heap[w.heap.size]? = some (.cells (wcells a) 26 (0, 0)) from G0.out)
        have G1 := Lib.hid (show w1.drew.heap[w.heap.size + 1]? = some (.cells (wcells 0) 26 (0, 0)) from G1.out)
        have HB := Lib.hid HB1.out.drew
        have c2 := cell_row G0.out
        go_region_with (first
          | (go_at_call 38
             refine (SW.out _).mono ?_
             rintro e wA ⟨rA, rfl, hr, hb⟩
             have HB := Lib.hid (below_then HB.out hb)
             have RA := Lib.hid hr
             have G0 := Lib.hid ((hb.block _ (lt_of_heap G0.out)).trans G0.out)
             have G1 := Lib.hid ((hb.block _ (lt_of_heap G1.out)).trans G1.out)
             have c2 := cell_row G0.out
             try have RB := Lib.hid (RB.out.below hb)
             clear hr hb)
          | (go_at_call 32
             refine (S1.out _).mono ?_
             rintro e wB ⟨rB, rfl, hr, hb⟩
             have HB := Lib.hid (below_then HB.out hb)
             have RB := Lib.hid hr
             have G0 := Lib.hid ((hb.block _ (lt_of_heap G0.out)).trans G0.out)
             have G1 := Lib.hid ((hb.block _ (lt_of_heap G1.out)).trans G1.out)
             have c2 := cell_row G0.out
             try have RA := Lib.hid (RA.out.below hb)
             clear hr hb)
          | (go_at_call 36
             refine (S3.out _ _ _ RA.out RB.out).mono ?_
             rintro e wC ⟨rC, rfl, hr, hb⟩
             have HB := Lib.hid (below_then HB.out hb)
             have RC := Lib.hid hr
             have G1 := Lib.hid ((hb.block _ (lt_of_heap G1.out)).trans G1.out)
             clear hr hb))
        all_goals (go_wp2; go_meet; exact ⟨RC.out, G1.out, HB.out⟩)
      case rest =>
        obtain ⟨hm, hg, hb⟩ := hcut
        obtain ⟨U, hU⟩ : ∃ U, U = (M - a + (P2 c - 1)) / P2 c := ⟨_, rfl⟩
        have HU := Lib.hid (show sarN a (min c 512) = (M - U) % M ∧ U ≤ M by
          have := sarN_high (c := c) HA.out HNEG.out
          rw [← hU] at this
          exact ⟨this.1.symm, this.2⟩)
        have hpc := P2_pos c
        have T1 := Lib.hid (fun w' => power_any c (by omega) w')
        have T2 := Lib.hid (fun w' => small_any 1 w' (by omega))
        have T3 : Hid (∀ (v v2 : Value) (w' : World), IsBig w' v (P2 c) → IsBig w' v2 1 → Calls Try.prog 36 #[v, v2] w' (GivesBig (P2 c - 1) w')) := Lib.hid fun v v2 w' h h' => by
          have e : 1 + (P2 c - 1) = P2 c := by omega
          exact sub_any v v2 1 (P2 c - 1) w' (by rw [e]; exact P2_small (by omega)) (by rw [e]; exact h) h'
        have hs1 : M - a + (P2 c - 1) < BIG := by
          have e1 := P2_lt (show (512 : Nat) < 700 by omega)
          have e2 := P2_lt (show c < 700 by omega)
          have e3 : P2 700 + P2 700 = P2 701 := by rw [show 701 = 700 + 1 from rfl, P2_add, show P2 1 = 2 by rw [P2_eq]]; omega
          have e4 : P2 701 < BIG := P2_small (by omega)
          rw [M_eq]; omega
        have T4 : Hid (∀ (v v2 : Value) (w' : World), IsBig w' v (M - a) → IsBig w' v2 (P2 c - 1) → Calls Try.prog 62 #[v, v2] w' (GivesBig (M - a + (P2 c - 1)) w')) := Lib.hid fun v v2 w' h h' =>
          add_any v v2 _ _ w' (Nat.lt_of_le_of_lt (Nat.sub_le _ _) M_small) (Nat.lt_of_le_of_lt (Nat.sub_le _ _) (P2_small (by omega))) h h'
        have T5 : Hid (∀ (v : Value) (w' : World), IsBig w' v (M - a + (P2 c - 1)) → Calls Try.prog 34 #[v, .int .i64 c] w' (GivesBig U w')) := Lib.hid fun v w' h => by
          have := rshr_any v _ c w' hs1 (by omega) h
          rwa [← hU] at this
        have T6 : Hid (∀ (v v2 : Value) (w' : World), IsBig w' v M → IsBig w' v2 U → Calls Try.prog 36 #[v, v2] w' (GivesBig (M - U) w')) := Lib.hid fun v v2 w' h h' => by
          have e : U + (M - U) = M := Nat.add_sub_cancel' HU.out.2
          exact sub_any v v2 U (M - U) w' (by rw [e]; exact M_small) (by rw [e]; exact h) h'
        have T7 : Hid (∀ (v : Value) (w' : World), IsBig w' v (M - U) → Calls Try.prog 29 #[v] w' fun e w'' => e = .returned (.tuple #[wv (sarN a (min c 512)), .bool (decide (M ≤ M - U))]) ∧ Below w'.heap.size w' w'') := Lib.hid fun v w' h => by
          have := wide_any v (M - U) w' (Nat.lt_of_le_of_lt (Nat.sub_le _ _) M_small) h
          rwa [← HU.out.1] at this
        have RM := Lib.hid hm; have G1 := Lib.hid hg; have HB := Lib.hid hb
        clear hm hg hb hU hpc hs1 c1
        obtain ⟨f, hf⟩ : ∃ f, f = decide (M ≤ M - U) := ⟨_, rfl⟩
        rw [← hf] at T7
        clear hf
        go_wp2_with fail
        refine (T1.out _).mono ?_
        rintro e w2 ⟨r2, rfl, hr, hb⟩
        have HB2 := Lib.hid (below_then HB.out hb)
        have Rr2 := Lib.hid hr
        have RM := Lib.hid (RM.out.below hb)
        have G1 := Lib.hid ((hb.block _ (lt_of_heap G1.out)).trans G1.out)
        clear hr hb
        go_wp2_with fail
        refine (T2.out _).mono ?_
        rintro e w3 ⟨r3, rfl, hr, hb⟩
        have HB3 := Lib.hid (below_then HB2.out hb)
        have Rr3 := Lib.hid hr
        have RM := Lib.hid (RM.out.below hb)
        have G1 := Lib.hid ((hb.block _ (lt_of_heap G1.out)).trans G1.out)
        have Rr2 := Lib.hid (Rr2.out.below hb)
        clear hr hb
        go_wp2_with fail
        refine (T3.out _ _ _ Rr2.out Rr3.out).mono ?_
        rintro e w4 ⟨r4, rfl, hr, hb⟩
        have HB4 := Lib.hid (below_then HB3.out hb)
        have Rr4 := Lib.hid hr
        have RM := Lib.hid (RM.out.below hb)
        have G1 := Lib.hid ((hb.block _ (lt_of_heap G1.out)).trans G1.out)
        clear hr hb
        go_wp2_with fail
        refine (T4.out _ _ _ RM.out Rr4.out).mono ?_
        rintro e w5 ⟨r5, rfl, hr, hb⟩
        have HB5 := Lib.hid (below_then HB4.out hb)
        have Rr5 := Lib.hid hr
        have G1 := Lib.hid ((hb.block _ (lt_of_heap G1.out)).trans G1.out)
        clear hr hb
        go_wp2_with fail
        refine (T5.out _ _ Rr5.out).mono ?_
        rintro e w6 ⟨r6, rfl, hr, hb⟩
        have HB6 := Lib.hid (below_then HB5.out hb)
        have Rr6 := Lib.hid hr
        have G1 := Lib.hid ((hb.block _ (lt_of_heap G1.out)).trans G1.out)
        clear hr hb
        go_wp2_with fail
        refine (SW.out _).mono ?_
        rintro e w7 ⟨r7, rfl, hr, hb⟩
        have HB7 := Lib.hid (below_then HB6.out hb)
        have Rr7 := Lib.hid hr
        have G1 := Lib.hid ((hb.block _ (lt_of_heap G1.out)).trans G1.out)
        have Rr6 := Lib.hid (Rr6.out.below hb)
        clear hr hb
        go_wp2_with fail
        refine (T6.out _ _ _ Rr7.out Rr6.out).mono ?_
        rintro e w8 ⟨r8, rfl, hr, hb⟩
        have HB8 := Lib.hid (below_then HB7.out hb)
        have Rr8 := Lib.hid hr
        have G1 := Lib.hid ((hb.block _ (lt_of_heap G1.out)).trans G1.out)
        clear hr hb
        go_wp2_with fail
        refine (T7.out _ _ Rr8.out).mono ?_
        rintro e w9 ⟨rfl, hb⟩
        have HB9 := Lib.hid (below_then HB8.out hb)
        have G1 := Lib.hid ((hb.block _ (lt_of_heap G1.out)).trans G1.out)
        clear hb
        have g2 := G1.out
        have hz := lt_of_heap g2
        have HBa := Lib.hid (below_al HB9.out (.cells (wcells (sarN a (min c 512))) 26))
        have G2 : Hid ((w9.alloc (.cells (wcells (sarN a (min c 512))) 26)).heap[w.heap.size + 1]? = some (.cells (wcells 0) 26 (0, 0))) := Lib.hid (by rw [alloc_old _ _ _ hz]; exact g2)
        have st := st_row (P := Try.prog) G2.out rfl (sarN a (min c 512))
        clear g2
        go_wp2
        exact bodyPost_ret (v := wv _) (results_cell_row rfl _ _ (w.heap.size + 1) _ _ _ _ rfl (setRow_heap _ _ _ _ _ _ G2.out) Try.underlying26 rfl (by kernel_rfl)) rfl ⟨rfl, below_setRow' HBa.out (by omega) _⟩
    · have hd : decide (P2 511 ≤ a) = false := decide_eq_false hneg
      rw [hd] at S0
      have HE := Lib.hid (sarN_low (c := c) HA.out (by omega))
      have T7 : Hid (∀ (v : Value) (w' : World), IsBig w' v (a / P2 c) → Calls Try.prog 29 #[v] w' fun e w'' => e = .returned (.tuple #[wv (sarN a (min c 512)), .bool (decide (M ≤ a / P2 c))]) ∧ Below w'.heap.size w' w'') := Lib.hid fun v w' h => by
        have := wide_any v (a / P2 c) w' (Nat.lt_of_le_of_lt (Nat.div_le_self _ _) (small_M HA.out)) h
        rwa [HE.out] at this
      have T5 := Lib.hid (fun (v : Value) (w' : World) h => S2.out v c hcl w' h)
      obtain ⟨f, hf⟩ : ∃ f, f = decide (M ≤ a / P2 c) := ⟨_, rfl⟩
      rw [← hf] at T7
      clear hneg hd hf
      go_wp2_with fail
      refine (S0.out _).mono ?_
      rintro e w1 ⟨rfl, hb⟩
      have HB1 := Lib.hid (below_then HB0.out hb)
      have G0 := Lib.hid ((hb.block _ (lt_of_heap G0.out)).trans G0.out)
      have G1 := Lib.hid ((hb.block _ (lt_of_heap G1.out)).trans G1.out)
      clear hb
      have c1 := cell_row G0.out
      clear c0
      go_wp2_with fail
      refine (S1.out _).mono ?_
      rintro e w2 ⟨r2, rfl, hr, hb⟩
      have HB2 := Lib.hid (below_then HB1.out hb)
      have Rr2 := Lib.hid hr
      have G1 := Lib.hid ((hb.block _ (lt_of_heap G1.out)).trans G1.out)
      clear hr hb
      go_wp2_with fail
      refine (T5.out _ _ Rr2.out).mono ?_
      rintro e w3 ⟨r3, rfl, hr, hb⟩
      have HB3 := Lib.hid (below_then HB2.out hb)
      have Rr3 := Lib.hid hr
      have G1 := Lib.hid ((hb.block _ (lt_of_heap G1.out)).trans G1.out)
      clear hr hb
      go_wp2_with fail
      refine (T7.out _ _ Rr3.out).mono ?_
      rintro e w9 ⟨rfl, hb⟩
      have HB9 := Lib.hid (below_then HB3.out hb)
      have G1 := Lib.hid ((hb.block _ (lt_of_heap G1.out)).trans G1.out)
      clear hb
      have g2 := G1.out
      have hz := lt_of_heap g2
      have HBa := Lib.hid (below_al HB9.out (.cells (wcells (sarN a (min c 512))) 26))
      have G2 : Hid ((w9.alloc (.cells (wcells (sarN a (min c 512))) 26)).heap[w.heap.size + 1]? = some (.cells (wcells 0) 26 (0, 0))) := Lib.hid (by rw [alloc_old _ _ _ hz]; exact g2)
      have st := st_row (P := Try.prog) G2.out rfl (sarN a (min c 512))
      clear g2 c1
      go_wp2
      exact bodyPost_ret (v := wv _) (results_cell_row rfl _ _ (w.heap.size + 1) _ _ _ _ rfl (setRow_heap _ _ _ _ _ _ G2.out) Try.underlying26 rfl (by kernel_rfl)) rfl ⟨rfl, below_setRow' HBa.out (by omega) _⟩
end Go.Proofs.Ytenkaobgoknlhaa
