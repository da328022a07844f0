/- THE WALKS of the laws on products, going on: shifted down, and in part. -/
import Derived.Test.YtenkaobgoknlhaaLaw03
namespace Go.Proofs.Ytenkaobgoknlhaa
open Go Go.RowKit

def clampS (n : Int) : Nat := if n < 0 then 0 else if 1100 < n then 1100 else n.toNat
theorem clampS_le (n : Int) : clampS n ≤ 1100 := by unfold clampS; split <;> (try split) <;> omega
theorem clampS_eq (n : Int) : min (max n 0) 1100 = (clampS n : Int) := by unfold clampS; split <;> (try split) <;> omega
theorem clampS_P (n : Int) : clampP n = min (clampS n) 1024 := by unfold clampS clampP; split <;> (try split) <;> (try split) <;> omega
theorem prod_cap {p : Nat} (hp : p < P2 1024) (c : Nat) : p / P2 (min c 1024) = p / P2 c ∧ decide (p % P2 (min c 1024) ≠ 0) = (cmpN (p / P2 c * P2 c) p != 0) := by
  have hd := Nat.div_add_mod p (P2 c)
  rw [Nat.mul_comm] at hd
  have e : p / P2 (min c 1024) = p / P2 c ∧ p % P2 (min c 1024) = p % P2 c := by
    rcases Nat.le_total c 1024 with h | h
    · rw [Nat.min_eq_left h]; exact ⟨rfl, rfl⟩
    · have hc : p < P2 c := Nat.lt_of_lt_of_le hp (P2_le h)
      rw [Nat.min_eq_right h, Nat.div_eq_of_lt hp, Nat.div_eq_of_lt hc, Nat.mod_eq_of_lt hp, Nat.mod_eq_of_lt hc]; exact ⟨rfl, rfl⟩
  refine ⟨e.1, ?_⟩
  rw [e.2]
  by_cases h : p % P2 c = 0
  · rw [cmpN_eq (by omega), h]; simp
  · rw [cmpN_lt (by omega), decide_eq_true h]; rfl

attribute [local go_sem ↓] Go.wp_at_zero Go.wp_at_succ
set_option maxRecDepth 100000 in
set_option maxHeartbeats 2000000 in
theorem prodHigh_any (a b : Nat) (n : Int) (w : World) (ha : a < M) (hb : b < M) (_h0 : -9223372036854775808 ≤ n) (_h1 : n ≤ 9223372036854775807) :
    Calls Try.prog 10 #[wv a, wv b, .int .i64 n] w fun e w' => e = .returned (.bool true) ∧ Below w.heap.size w w' := by
  have hpl : a * b < P2 1024 := prod_lt ha hb
  have hcl := clampS_le n
  have hce := clampS_eq n
  have S1 := Lib.hid (fun w' => rmul3_any a b ha hb w')
  have S4 := Lib.hid (fun w' => high_w a b n ha hb w')
  rw [clampS_P, (prod_cap hpl _).1, (prod_cap hpl _).2] at S4
  obtain ⟨c, hc⟩ : ∃ x, x = clampS n := ⟨_, rfl⟩
  rw [← hc] at hcl hce S4
  obtain ⟨p, hp⟩ : ∃ x, x = a * b := ⟨_, rfl⟩
  rw [← hp] at S1 S4 hpl
  have hps : p < BIG := small_of hpl (by omega)
  have hdv : p / P2 c ≤ p := Nat.div_le_self _ _
  have hml : p / P2 c * P2 c ≤ p := Nat.div_mul_le_self _ _
  have S2 := Lib.hid (fun v w' h => rshr_any v p c w' hps (by omega) h)
  have S3 := Lib.hid (fun v w' h => wide_any v (p / P2 c) w' (by omega) h)
  have S5 := Lib.hid (fun v w' h => rshl_any v (p / P2 c) c w' (by omega) (by omega) h)
  have S6 := Lib.hid (fun v v2 w' h h' => cmp_any v v2 (p / P2 c * P2 c) p w' (by omega) hps h h')
  have SA := Lib.hid (fun w' => awake03_any w')
  obtain ⟨h, hh⟩ : ∃ x, x = p / P2 c := ⟨_, rfl⟩
  rw [← hh] at S2 S3 S4 S5 S6
  obtain ⟨bk, hbk⟩ : ∃ x, x = h * P2 c := ⟨_, rfl⟩
  rw [← hbk] at S4 S5 S6
  obtain ⟨q, hq⟩ : ∃ x, x = h % M := ⟨_, rfl⟩
  rw [← hq] at S3 S4
  obtain ⟨C, hC⟩ : ∃ x, x = cmpN bk p := ⟨_, rfl⟩
  rw [← hC] at S4 S6
  obtain ⟨f, hf⟩ : ∃ x, x = decide (M ≤ h) := ⟨_, rfl⟩
  rw [← hf] at S3
  have HC := Lib.hid hce
  clear ha hb hpl hcl hce hc hp hps hdv hml hh hbk hq hC hf
  go_enter Try.func10, Try.ntmps10
  have HB := Lib.hid (Below.refl w.heap.size w)
  have Ga := Lib.hid (alloc_new (w) (.cells (wcells a) 26))
  replace HB := Lib.hid (below_al HB.out (.cells (wcells a) 26))
  replace Ga := Lib.hid (keepAl (o' := .cells (wcells b) 26) Ga.out)
  have Gb := Lib.hid (alloc_new' (w := (w).alloc (.cells (wcells a) 26)) (n := w.heap.size + 1) (.cells (wcells b) 26) (by simp))
  replace HB := Lib.hid (below_al HB.out (.cells (wcells b) 26))
  go_upto_region 2 with fail
  rw [HC.out]
  obtain ⟨wL, hw⟩ : ∃ wx, wx = ((w).alloc (.cells (wcells a) 26)).alloc (.cells (wcells b) 26) := ⟨_, rfl⟩
  rw [← hw] at Ga Gb HB ⊢
  clear hw
  have cGa := cell_row Ga.out
  have cGb := cell_row Gb.out
  go_wp2_with fail
  refine (S1.out _).mono ?_
  rintro e w1 ⟨rp, rfl, hr, hb⟩
  clear cGa cGb
  replace HB := Lib.hid (below_then HB.out hb)
  replace Ga := Lib.hid ((hb.block _ (lt_of_heap Ga.out)).trans Ga.out)
  replace Gb := Lib.hid ((hb.block _ (lt_of_heap Gb.out)).trans Gb.out)
  have Rp := Lib.hid hr
  clear hr hb
  have cGa := cell_row Ga.out
  have cGb := cell_row Gb.out
  go_wp2_with fail
  refine (S2.out _ _ Rp.out).mono ?_
  rintro e w2 ⟨rh, rfl, hr, hb⟩
  clear cGa cGb
  replace HB := Lib.hid (below_then HB.out hb)
  replace Ga := Lib.hid ((hb.block _ (lt_of_heap Ga.out)).trans Ga.out)
  replace Gb := Lib.hid ((hb.block _ (lt_of_heap Gb.out)).trans Gb.out)
  replace Rp := Lib.hid (Rp.out.below hb)
  have Rh := Lib.hid hr
  clear hr hb
  have cGa := cell_row Ga.out
  have cGb := cell_row Gb.out
  go_wp2_with fail
  refine (S3.out _ _ Rh.out).mono ?_
  rintro e w3 ⟨rfl, hb⟩
  clear cGa cGb
  replace HB := Lib.hid (below_then HB.out hb)
  replace Ga := Lib.hid ((hb.block _ (lt_of_heap Ga.out)).trans Ga.out)
  replace Gb := Lib.hid ((hb.block _ (lt_of_heap Gb.out)).trans Gb.out)
  replace Rp := Lib.hid (Rp.out.below hb)
  replace Rh := Lib.hid (Rh.out.below hb)
  clear hb
  replace Ga := Lib.hid (keepAl (o' := .cells (wcells q) 26) Ga.out)
  replace Gb := Lib.hid (keepAl (o' := .cells (wcells q) 26) Gb.out)
  replace Rp := Lib.hid (Rp.out.below (below_al (Below.refl (w3).heap.size (w3)) (.cells (wcells q) 26)))
  replace Rh := Lib.hid (Rh.out.below (below_al (Below.refl (w3).heap.size (w3)) (.cells (wcells q) 26)))
  have Gq := Lib.hid (alloc_new (w3) (.cells (wcells q) 26))
  replace HB := Lib.hid (below_al HB.out (.cells (wcells q) 26))
  have cGa := cell_row Ga.out
  have cGb := cell_row Gb.out
  have cGq := cell_row Gq.out
  go_wp2_with fail
  refine (S4.out _).mono ?_
  rintro e w4 ⟨rfl, hb⟩
  clear cGa cGb cGq
  replace HB := Lib.hid (below_then HB.out hb)
  replace Ga := Lib.hid ((hb.block _ (lt_of_heap Ga.out)).trans Ga.out)
  replace Gb := Lib.hid ((hb.block _ (lt_of_heap Gb.out)).trans Gb.out)
  replace Rp := Lib.hid (Rp.out.below hb)
  replace Rh := Lib.hid (Rh.out.below hb)
  replace Gq := Lib.hid ((hb.block _ (lt_of_heap Gq.out)).trans Gq.out)
  clear hb
  replace Ga := Lib.hid (keepAl (o' := .cells (wcells q) 26) Ga.out)
  replace Gb := Lib.hid (keepAl (o' := .cells (wcells q) 26) Gb.out)
  replace Rp := Lib.hid (Rp.out.below (below_al (Below.refl (w4).heap.size (w4)) (.cells (wcells q) 26)))
  replace Rh := Lib.hid (Rh.out.below (below_al (Below.refl (w4).heap.size (w4)) (.cells (wcells q) 26)))
  replace Gq := Lib.hid (keepAl (o' := .cells (wcells q) 26) Gq.out)
  have Gg := Lib.hid (alloc_new (w4) (.cells (wcells q) 26))
  replace HB := Lib.hid (below_al HB.out (.cells (wcells q) 26))
  have cGa := cell_row Ga.out
  have cGb := cell_row Gb.out
  have cGq := cell_row Gq.out
  have cGg := cell_row Gg.out
  go_wp2_with fail
  refine (S5.out _ _ Rh.out).mono ?_
  rintro e w5 ⟨rs, rfl, hr, hb⟩
  clear cGa cGb cGq cGg
  replace HB := Lib.hid (below_then HB.out hb)
  replace Ga := Lib.hid ((hb.block _ (lt_of_heap Ga.out)).trans Ga.out)
  replace Gb := Lib.hid ((hb.block _ (lt_of_heap Gb.out)).trans Gb.out)
  replace Rp := Lib.hid (Rp.out.below hb)
  replace Rh := Lib.hid (Rh.out.below hb)
  replace Gq := Lib.hid ((hb.block _ (lt_of_heap Gq.out)).trans Gq.out)
  replace Gg := Lib.hid ((hb.block _ (lt_of_heap Gg.out)).trans Gg.out)
  have Rs := Lib.hid hr
  clear hr hb
  have cGa := cell_row Ga.out
  have cGb := cell_row Gb.out
  have cGq := cell_row Gq.out
  have cGg := cell_row Gg.out
  go_wp2_with fail
  refine (S6.out _ _ _ Rs.out Rp.out).mono ?_
  rintro e w6 ⟨rfl, hb⟩
  clear cGa cGb cGq cGg
  replace HB := Lib.hid (below_then HB.out hb)
  replace Ga := Lib.hid ((hb.block _ (lt_of_heap Ga.out)).trans Ga.out)
  replace Gb := Lib.hid ((hb.block _ (lt_of_heap Gb.out)).trans Gb.out)
  replace Rp := Lib.hid (Rp.out.below hb)
  replace Rh := Lib.hid (Rh.out.below hb)
  replace Gq := Lib.hid ((hb.block _ (lt_of_heap Gq.out)).trans Gq.out)
  replace Gg := Lib.hid ((hb.block _ (lt_of_heap Gg.out)).trans Gg.out)
  replace Rs := Lib.hid (Rs.out.below hb)
  clear hb
  have cGa := cell_row Ga.out
  have cGb := cell_row Gb.out
  have cGq := cell_row Gq.out
  have cGg := cell_row Gg.out
  go_wp2_with fail
  refine (SA.out _).mono ?_
  rintro e w7 ⟨rfl, hb⟩
  clear cGa cGb cGq cGg
  replace HB := Lib.hid (below_then HB.out hb)
  replace Ga := Lib.hid ((hb.block _ (lt_of_heap Ga.out)).trans Ga.out)
  replace Gb := Lib.hid ((hb.block _ (lt_of_heap Gb.out)).trans Gb.out)
  replace Gq := Lib.hid ((hb.block _ (lt_of_heap Gq.out)).trans Gq.out)
  replace Gg := Lib.hid ((hb.block _ (lt_of_heap Gg.out)).trans Gg.out)
  clear hb
  have cGa := cell_row Ga.out
  have cGb := cell_row Gb.out
  have cGq := cell_row Gq.out
  have cGg := cell_row Gg.out
  go_wp2
  go_ret
  exact ⟨rfl, HB.out⟩

theorem rowS_small {a b m i k : Nat} (ha : a < M) (hb : b < M) : colS a b m i + rowS a b m i k < BIG := by
  have h1 := part_lt (m := m) (i := i) (k := k) ha hb
  rw [← colS_eq, ← rowS_eq, ← Nat.add_mul] at h1
  have h2 : colS a b m i + rowS a b m i k ≤ (colS a b m i + rowS a b m i k) * P2 (64 * m) := Nat.le_mul_of_pos_right _ (P2_pos _)
  exact small_of (Nat.lt_of_le_of_lt h2 h1) (by omega)
/-- Two numbers in the first blocks of the call's own. -/
structure Two (w wr : World) (a b : Nat) : Prop where
  below : Below w.heap.size w wr
  ga : wr.heap[w.heap.size]? = some (.cells (wcells a) 26 (0, 0))
  gb : wr.heap[w.heap.size + 1]? = some (.cells (wcells b) 26 (0, 0))
theorem Two.then {w wr w2 : World} {a b : Nat} (h : Two w wr a b) (hb : Below wr.heap.size wr w2) : Two w w2 a b :=
  ⟨below_then h.below hb, (hb.block _ (lt_of_heap h.ga)).trans h.ga, (hb.block _ (lt_of_heap h.gb)).trans h.gb⟩

attribute [local go_sem ↓] Go.wp_at_zero Go.wp_at_succ
set_option maxRecDepth 100000 in
set_option maxHeartbeats 4000000 in
theorem rpart_any (a b m : Nat) (ha : a < M) (hb : b < M) (hm : m ≤ 14) (w : World) : Calls Try.prog 75 #[wv a, wv b, .int .i64 m] w (GivesBig (colS a b m 8) w) := by
  have HMa := Lib.hid ha; have HMb := Lib.hid hb
  have hm' : (m : Int) ≤ 14 := by omega
  clear ha hb hm
  go_enter Try.func75, Try.ntmps75
  have HB := Lib.hid (Below.refl w.heap.size w)
  have Ga := Lib.hid (alloc_new (w) (.cells (wcells a) 26))
  replace HB := Lib.hid (below_al HB.out (.cells (wcells a) 26))
  replace Ga := Lib.hid (keepAl (o' := .cells (wcells b) 26) Ga.out)
  have Gb := Lib.hid (alloc_new' (w := (w).alloc (.cells (wcells a) 26)) (n := w.heap.size + 1) (.cells (wcells b) 26) (by simp))
  replace HB := Lib.hid (below_al HB.out (.cells (wcells b) 26))
  go_wp2
  go_loopw [7, 8] (fun s7 s8 wr => ∃ i : Nat, s8 = .int .i64 i ∧ i ≤ 8 ∧ Hid (IsBig wr s7 (colS a b m i)) ∧ Hid (Two w wr a b)) (fun _ s8 _ => 8 - (intOf s8).toNat)
  case atStart => exact ⟨0, rfl, by omega, Lib.hid (isBig_nil _ _ _), Lib.hid ⟨below_al HB.out _, by rw [alloc_old _ _ _ (by simp <;> omega)]; exact Ga.out, by rw [alloc_old _ _ _ (by simp)]; exact Gb.out⟩⟩
  case round =>
    clear HB Ga Gb
    obtain ⟨i, rfl, hi, HR, HT⟩ := hrel
    by_cases hlt : i < 8
    · have e1 : (i : Int) < 8 := by omega
      have e0 : (0 : Int) ≤ (i : Int) := Int.natCast_nonneg _
      go_wp2
      obtain ⟨wo, hwo⟩ : ∃ wo : World, wo = wr := ⟨_, rfl⟩
      rw [← hwo] at HR HT ⊢
      clear hwo
      rename_i _ _ s7 _ _
      go_loopw [7, 9] (fun t7 s9 wr => ∃ k : Nat, s9 = .int .i64 k ∧ k ≤ 8 ∧ Hid (IsBig wr t7 (colS a b m i + rowS a b m i k)) ∧ Hid (Two w wr a b)) (fun _ s9 _ => 8 - (intOf s9).toNat)
      case atStart => exact ⟨0, rfl, by omega, HR, HT⟩
      case round =>
        clear HR HT
        obtain ⟨k, rfl, hk, HR, HT⟩ := hrel
        by_cases hkl : k < 8
        · have e2 : (k : Int) < 8 := by omega
          have e3 : (0 : Int) ≤ (k : Int) := Int.natCast_nonneg _
          by_cases hmk : m ≤ i + k
          · have e4 : (m : Int) ≤ (i : Int) + (k : Int) := by omega
            have hrow : rowS a b m i (k + 1) = rowS a b m i k + limb a i * limb b k * P2 (64 * (i + k - m)) := by rw [rowS, if_pos hmk]
            have hsm := rowS_small (a := a) (b := b) (m := m) (i := i) (k := k + 1) HMa.out HMb.out
            rw [hrow] at hsm
            have hla := limb_le a i
            have hlb := limb_le b k
            have hls := limb_small a i
            have hls2 := limb_small b k
            have hpr : limb a i * limb b k ≤ limb a i * limb b k * P2 (64 * (i + k - m)) := Nat.le_mul_of_pos_right _ (P2_pos _)
            have ca := wcells_get a i hlt
            have cb := wcells_get b k hkl
            have S1 := Lib.hid (fun v v2 w' h h' => mul_any v v2 (limb a i) (limb b k) w' hls hls2 h h')
            have S2 : Hid (∀ (v : Value) (w' : World), IsBig w' v (limb a i * limb b k) → Calls Try.prog 49 #[v, .int .i64 (64 * ((i : Int) + (k : Int) - (m : Int)))] w' (GivesBig (limb a i * limb b k * P2 (64 * (i + k - m))) w')) := Lib.hid fun v w' h => by
              rw [show 64 * ((i : Int) + (k : Int) - (m : Int)) = ((64 * (i + k - m) : Nat) : Int) by omega]
              exact rshl_any v _ _ w' (by omega) (by omega) h
            have S3 := Lib.hid (fun v v2 w' h h' => add_any v v2 (colS a b m i + rowS a b m i k) (limb a i * limb b k * P2 (64 * (i + k - m))) w' (by omega) (by omega) h h')
            obtain ⟨x, hx⟩ : ∃ x, x = limb a i := ⟨_, rfl⟩
            obtain ⟨y, hy⟩ : ∃ x, x = limb b k := ⟨_, rfl⟩
            rw [← hx] at ca hla S1 S2 S3 hrow
            rw [← hy] at cb hlb S1 S2 S3 hrow
            have HX := Lib.hid hla; have HY := Lib.hid hlb
            obtain ⟨N, hN⟩ : ∃ x, x = colS a b m i + rowS a b m i k := ⟨_, rfl⟩
            have HN2 := Lib.hid (show colS a b m i + rowS a b m i (k + 1) = N + x * y * P2 (64 * (i + k - m)) by rw [hrow, hN]; omega)
            rw [← hN] at S3 HR
            obtain ⟨Z, hZ⟩ : ∃ z, z = x * y * P2 (64 * (i + k - m)) := ⟨_, rfl⟩
            obtain ⟨XY, hXY⟩ : ∃ z, z = x * y := ⟨_, rfl⟩
            rw [← hZ] at S2 S3 HN2
            rw [← hXY] at S1 S2
            have CA := Lib.hid ca; have CB := Lib.hid cb; have HK := Lib.hid hkl; have HI := Lib.hid hlt
            have k0 : wr.drew.cell? ⟨w.heap.size, i, none⟩ = some (.int .u64 x) := (cell_row HT.out.ga i).trans ca
            have k1 : wr.drew.cell? ⟨w.heap.size + 1, k, none⟩ = some (.int .u64 y) := (cell_row HT.out.gb k).trans cb
            have HT := Lib.hid (HT.out.then (Below.refl wr.heap.size wr).drew)
            have RN := Lib.hid (HR.out.below (Below.refl wr.heap.size wr).drew)
            have w1 : IntKind.i64.wrap ((i : Int) + (k : Int)) = (i : Int) + (k : Int) := i64wrap _ (by omega) (by omega)
            have w2 : IntKind.i64.wrap ((i : Int) + (k : Int) - (m : Int)) = (i : Int) + (k : Int) - (m : Int) := i64wrap _ (by omega) (by omega)
            have w3 : IntKind.i64.wrap (64 * ((i : Int) + (k : Int) - (m : Int))) = 64 * ((i : Int) + (k : Int) - (m : Int)) := i64wrap _ (by omega) (by omega)
            clear hrow hsm hla hlb hls hls2 hpr ca cb hx hy hN hZ hXY hmk hk hi hkl hlt HR
            go_wp2_with fail
            go_region_held3 (fun w' => w'.cell? ⟨w.heap.size, i, none⟩ = some (.int .u64 x) ∧ w'.cell? ⟨w.heap.size + 1, k, none⟩ = some (.int .u64 y))
              (first
                | go_keep
                | exact ⟨(cell_row HT.out.ga i).trans CA.out, (cell_row HT.out.gb k).trans CB.out⟩)
              (first
                | (go_at_call 37
                   refine (small_any _ _ ?hM).mono ?_
                   case hM => first | exact HX.out | exact HY.out
                   rintro e wA ⟨rA, rfl, hr, hb⟩
                   have HT := Lib.hid (HT.out.then hb)
                   have RN := Lib.hid (RN.out.below hb)
                   (try have RA := Lib.hid (RA.out.below hb))
                   (try have RB := Lib.hid (RB.out.below hb))
                   first | have RA : Hid (IsBig wA rA x) := Lib.hid hr | have RB : Hid (IsBig wA rA y) := Lib.hid hr)
                | (go_at_call 73
                   (with_reducible refine (S1.out _ _ _ RA.out RB.out).mono ?_)
                   rintro e wA ⟨rM, rfl, hr, hb⟩
                   have HT := Lib.hid (HT.out.then hb)
                   have RN := Lib.hid (RN.out.below hb)
                   have RM := Lib.hid hr)
                | (go_at_call 49
                   (with_reducible refine (S2.out _ _ RM.out).mono ?_)
                   rintro e wA ⟨rS, rfl, hr, hb⟩
                   have HT := Lib.hid (HT.out.then hb)
                   have RN := Lib.hid (RN.out.below hb)
                   have RS := Lib.hid hr)
                | (go_at_call 62
                   (with_reducible refine (S3.out _ _ _ RN.out RS.out).mono ?_)
                   rintro e wA ⟨rD, rfl, hr, hb⟩
                   have HT := Lib.hid (HT.out.then hb)
                   have RD := Lib.hid hr))
            all_goals
              clear w1 w2 w3
              go_wp2
              go_roundw
              case rel => exact ⟨k + 1, by go_num, HK.out, by rw [HN2.out]; exact RD, HT⟩
              case measure => have := HK.out; simp [intOf]; omega
          · have e4 : ¬ (m : Int) ≤ (i : Int) + (k : Int) := by omega
            have hrow : rowS a b m i (k + 1) = rowS a b m i k := by rw [rowS, if_neg hmk]; rfl
            have HN2 := Lib.hid hrow
            have HK := Lib.hid hkl
            clear hrow hmk hk hi hkl hlt
            go_wp2
            go_roundw
            case rel => exact ⟨k + 1, by go_num, HK.out, by rw [HN2.out]; exact HR, HT⟩
            case measure => have := HK.out; simp [intOf]; omega
        · obtain rfl : k = 8 := by omega
          have HK := Lib.hid hlt
          clear hlt hi hk hkl
          go_wp2
          go_roundw
          case rel => exact ⟨i + 1, by go_num, HK.out, HR, HT⟩
          case measure => have := HK.out; simp [intOf]; omega
    · obtain rfl : i = 8 := by omega
      clear hlt hi
      go_wp2
      go_ret
      exact ⟨_, rfl, HR.out, HT.out.below⟩
end Go.Proofs.Ytenkaobgoknlhaa
