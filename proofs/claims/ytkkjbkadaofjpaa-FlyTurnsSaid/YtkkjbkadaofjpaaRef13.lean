/- THE WALKS of the reference of fly: digits, their sums, a difference modulo 2^512. -/
import Derived.Test.YtkkjbkadaofjpaaK9
import Derived.Test.YtkkjbkadaofjpaaLoose3
import Derived.Test.YtkkjbkadaofjpaaInts
import Derived.Test.YtkkjbkadaofjpaaFlyN
import Derived.Test.YtkkjbkadaofjpaaK14
namespace Go.Proofs.Ytkkjbkadaofjpaa
open Go Go.RowKit

/-- What is above 0, and what is below. -/
def posS (zs : List Int) : Nat := zs.foldl (fun a d => a * P2 2 + d.toNat) 0
def negS (zs : List Int) : Nat := zs.foldl (fun a d => a * P2 2 + (-d).toNat) 0
theorem posS_succ (zs : List Int) (k : Nat) (d : Int) (h : zs[k]? = some d) : posS (zs.take (k + 1)) = posS (zs.take k) * P2 2 + d.toNat := take_foldl _ _ zs k d h
theorem negS_succ (zs : List Int) (k : Nat) (d : Int) (h : zs[k]? = some d) : negS (zs.take (k + 1)) = negS (zs.take k) * P2 2 + (-d).toNat := take_foldl _ _ zs k d h
theorem sums_spec (zs : List Int) (hz : ∀ d ∈ zs, isDig d = true) : ∀ k, k ≤ zs.length → posS (zs.take k) < P2 (2 * k) ∧ negS (zs.take k) < P2 (2 * k) ∧ digitsZ (zs.take k) = (posS (zs.take k) : Int) - (negS (zs.take k) : Int) := by
  intro k
  induction k with
  | zero => intro _; exact ⟨by rw [List.take_zero]; exact P2_pos _, by rw [List.take_zero]; exact P2_pos _, by rw [List.take_zero]; rfl⟩
  | succ k ih =>
    intro hk
    obtain ⟨h1, h2, h3⟩ := ih (by omega)
    obtain ⟨d, hd⟩ : ∃ d, zs[k]? = some d := ⟨zs[k]'(by omega), List.getElem?_eq_getElem _⟩
    obtain ⟨d1, d2⟩ := isDig_iff.1 (hz d (List.mem_of_getElem? hd))
    rw [posS_succ zs k d hd, negS_succ zs k d hd, digitsZ_succ zs k d hd, h3, show 2 * (k + 1) = 2 * k + 2 by omega, P2_add, P2_2]
    refine ⟨by omega, by omega, ?_⟩
    push_cast
    omega

attribute [local go_sem ↓] Go.wp_at_zero Go.wp_at_succ
theorem is13_any (d : Int) (w : World) : Calls Try.prog 28 #[.int .i64 d] w fun e w' => e = .returned (.bool (isDig d)) ∧ Below w.heap.size w w' := by
  unfold isDig
  have HB := Lib.hid (Below.refl w.heap.size w)
  go_enter Try.func28, Try.ntmps28
  by_cases h1 : -3 ≤ d
  · by_cases h2 : d ≤ 3
    · rw [decide_eq_true h1, decide_eq_true h2]
      go_wp2
      go_ret
      exact ⟨rfl, HB.out⟩
    · rw [decide_eq_true h1, decide_eq_false h2]
      go_wp2
      go_ret
      exact ⟨rfl, HB.out⟩
  · rw [decide_eq_false h1, Bool.false_and]
    go_wp2
    go_ret
    exact ⟨rfl, HB.out⟩

set_option maxRecDepth 100000 in
set_option maxHeartbeats 2000000 in
theorem rwide13_any (va vb : Value) (a b : Nat) (w : World) (ha : a < BIG) (hb : b < BIG) (h1 : IsBig w va a) (h2 : IsBig w vb b) :
    Calls Try.prog 30 #[va, vb] w fun e w' => e = .returned (wv (toW ((a : Int) - b))) ∧ Below w.heap.size w w' := by
  have hA : a % M < M := Nat.mod_lt _ M_pos
  have hB : b % M < M := Nat.mod_lt _ M_pos
  have h2M : M + M < BIG := by
    have : M + M = P2 513 := by rw [show 513 = 512 + 1 from rfl, P2_twice, ← M_eq]; omega
    rw [this]; exact P2_small (by omega)
  have S1 := Lib.hid (fun w' h => wide_any va a w' ha h)
  have S2 := Lib.hid (fun w' h => wide_any vb b w' hb h)
  have S3 := Lib.hid (fun w' => big_any (a % M) hA w')
  have S4 := Lib.hid (fun w' => whole_any w')
  have S5 := Lib.hid (fun v v2 w' h h' => add_any v v2 (a % M) M w' (by omega) (by omega) h h')
  have S6 := Lib.hid (fun w' => big_any (b % M) hB w')
  have S7 : Hid (∀ (v v2 : Value) (w' : World), IsBig w' v (a % M + M) → IsBig w' v2 (b % M) → Calls Try.prog 58 #[v, v2] w' (GivesBig (a % M + M - b % M) w')) := Lib.hid fun v v2 w' h h' =>
    sub_any v v2 (b % M) (a % M + M - b % M) w' (by rw [Nat.add_sub_cancel' (by omega)]; omega) (by rw [Nat.add_sub_cancel' (by omega)]; exact h) h'
  have S8 := Lib.hid (fun v w' h => wide_any v (a % M + M - b % M) w' (by omega) h)
  have hT : (a % M + M - b % M) % M = toW ((a : Int) - b) := by
    refine (toW_unique (Nat.mod_lt _ M_pos) ?_).symm
    rw [show a % M + M - b % M = a % M + (M - b % M) by omega]
    push_cast
    rw [Int.emod_emod_of_dvd _ (Int.dvd_refl _), show ((M - b % M : Nat) : Int) = (M : Int) - ((b : Int) % (M : Int)) by omega, show (a : Int) % (M : Int) + ((M : Int) - (b : Int) % (M : Int)) = (a : Int) % (M : Int) - (b : Int) % (M : Int) + M by omega, Int.add_emod_right, ← Int.sub_emod]
  rw [hT] at S8
  obtain ⟨T, hTe⟩ : ∃ T, T = toW ((a : Int) - b) := ⟨_, rfl⟩
  rw [← hTe] at S8 ⊢
  obtain ⟨A, hAe⟩ : ∃ x, x = a % M := ⟨_, rfl⟩
  obtain ⟨B, hBe⟩ : ∃ x, x = b % M := ⟨_, rfl⟩
  rw [← hAe] at S1 S3 S5 S7 S8
  rw [← hBe] at S2 S6 S7 S8
  obtain ⟨C, hC⟩ : ∃ x, x = A + M := ⟨_, rfl⟩
  rw [← hC] at S5 S7 S8
  obtain ⟨D, hD⟩ : ∃ x, x = C - B := ⟨_, rfl⟩
  rw [← hD] at S7 S8
  obtain ⟨f1, hf1⟩ : ∃ x, x = decide (M ≤ a) := ⟨_, rfl⟩
  obtain ⟨f2, hf2⟩ : ∃ x, x = decide (M ≤ b) := ⟨_, rfl⟩
  obtain ⟨f3, hf3⟩ : ∃ x, x = decide (M ≤ D) := ⟨_, rfl⟩
  rw [← hf1] at S1
  rw [← hf2] at S2
  rw [← hf3] at S8
  have Ra := Lib.hid h1; have Rb := Lib.hid h2
  clear hA hB h2M hT hTe hAe hBe hC hD hf1 hf2 hf3 ha hb h1 h2
  go_enter Try.func30, Try.ntmps30
  have HB := Lib.hid (Below.refl w.heap.size w)
  replace Ra := Lib.hid (Ra.out.below (below_al (Below.refl (w).heap.size (w)) (.cells (wcells 0) 31)))
  replace Rb := Lib.hid (Rb.out.below (below_al (Below.refl (w).heap.size (w)) (.cells (wcells 0) 31)))
  have Go := Lib.hid (alloc_new (w) (.cells (wcells 0) 31))
  replace HB := Lib.hid (below_al HB.out (.cells (wcells 0) 31))
  have cGo := cell_row Go.out
  go_wp2_with fail
  refine (S1.out _ Ra.out).mono ?_
  rintro e w1 ⟨rfl, hb⟩
  clear cGo
  replace HB := Lib.hid (below_then HB.out hb)
  replace Ra := Lib.hid (Ra.out.below hb)
  replace Rb := Lib.hid (Rb.out.below hb)
  replace Go := Lib.hid ((hb.block _ (lt_of_heap Go.out)).trans Go.out)
  clear hb
  replace Ra := Lib.hid (Ra.out.below (below_al (Below.refl (w1).heap.size (w1)) (.cells (wcells A) 31)))
  replace Rb := Lib.hid (Rb.out.below (below_al (Below.refl (w1).heap.size (w1)) (.cells (wcells A) 31)))
  replace Go := Lib.hid (keepAl (o' := .cells (wcells A) 31) Go.out)
  have Gx := Lib.hid (alloc_new (w1) (.cells (wcells A) 31))
  replace HB := Lib.hid (below_al HB.out (.cells (wcells A) 31))
  have cGo := cell_row Go.out
  have cGx := cell_row Gx.out
  go_wp2_with fail
  refine (S2.out _ Rb.out).mono ?_
  rintro e w2 ⟨rfl, hb⟩
  clear cGo cGx
  replace HB := Lib.hid (below_then HB.out hb)
  replace Ra := Lib.hid (Ra.out.below hb)
  replace Rb := Lib.hid (Rb.out.below hb)
  replace Go := Lib.hid ((hb.block _ (lt_of_heap Go.out)).trans Go.out)
  replace Gx := Lib.hid ((hb.block _ (lt_of_heap Gx.out)).trans Gx.out)
  clear hb
  replace Ra := Lib.hid (Ra.out.below (below_al (Below.refl (w2).heap.size (w2)) (.cells (wcells B) 31)))
  replace Rb := Lib.hid (Rb.out.below (below_al (Below.refl (w2).heap.size (w2)) (.cells (wcells B) 31)))
  replace Go := Lib.hid (keepAl (o' := .cells (wcells B) 31) Go.out)
  replace Gx := Lib.hid (keepAl (o' := .cells (wcells B) 31) Gx.out)
  have Gy := Lib.hid (alloc_new (w2) (.cells (wcells B) 31))
  replace HB := Lib.hid (below_al HB.out (.cells (wcells B) 31))
  go_upto_region 3 with fail
  obtain ⟨wL, hw⟩ : ∃ wx, wx = (w2).alloc (.cells (wcells B) 31) := ⟨_, rfl⟩
  rw [← hw] at Go Gx Gy HB ⊢
  clear hw
  have hz := lt_of_heap Go.out
  have xGo := ext_row (B := wL.heap.size) Go.out (lt_of_heap Go.out)
  have xGx := ext_row (B := wL.heap.size) Gx.out (lt_of_heap Gx.out)
  have xGy := ext_row (B := wL.heap.size) Gy.out (lt_of_heap Gy.out)
  apply wp_region_loose (looseR [_, _, _, _, _, _, _, _, _, _, _, Lft.val undef, Lft.val undef, _]) (pureL [8, 9, 10, 13])
  · kernel_rfl
  · kernel_rfl
  · kernel_rfl
  · exact allocs_ok [31] rfl (by intro T hT; simp only [List.mem_cons, List.not_mem_nil, or_false] at hT; subst hT; exact makes_wide)
  · exact looseR_st _
  · change wpL _ _ _ _ _ _ _ 14 0 _ _
    refine wpL_calm wL rfl rfl rfl rfl (fun K hK K0 hK0 => ?_)
    go_simp
    first | refine hK _ _ rfl rfl ?_ | refine hK0 _ rfl ?_
    clear hK hK0 K K0
    refine wpL_call (Lft.big A) (big_some w _) rfl rfl rfl rfl (by first | rfl | go_simp) rfl (fun w' hC hF => ?_) (fun v1 hv1 => ?_)
    · obtain ⟨x, rfl⟩ := hC
      go_simp
      go_at_call 33
      exact gives_loose (S3.out _)
    refine wpL_call (Lft.big M) (big_some w _) rfl rfl rfl rfl (by first | rfl | go_simp) rfl (fun w' hC hF => ?_) (fun v2 hv2 => ?_)
    · obtain ⟨x, rfl⟩ := hC
      go_simp
      go_at_call 40
      exact gives_loose (S4.out _)
    refine wpL_call (Lft.big C) (big_some w _) rfl rfl rfl rfl (by first | rfl | go_simp) rfl (fun w' hC hF => ?_) (fun v3 hv3 => ?_)
    · obtain ⟨x, rfl⟩ := hC
      go_simp
      go_at_call 36
      exact gives_loose (S5.out _ _ _ (hF 1 _ 23 rfl rfl rfl rfl (by decide)) (hF 2 _ 24 rfl rfl rfl rfl (by decide)))
    refine wpL_calm wL rfl rfl rfl rfl (fun K hK K0 hK0 => ?_)
    go_simp
    first | refine hK _ _ rfl rfl ?_ | refine hK0 _ rfl ?_
    clear hK hK0 K K0
    refine wpL_call (Lft.big B) (big_some w _) rfl rfl rfl rfl (by first | rfl | go_simp) rfl (fun w' hC hF => ?_) (fun v5 hv5 => ?_)
    · obtain ⟨x, rfl⟩ := hC
      go_simp
      go_at_call 33
      exact gives_loose (S6.out _)
    refine wpL_call (Lft.big D) (big_some w _) rfl rfl rfl rfl (by first | rfl | go_simp) rfl (fun w' hC hF => ?_) (fun v6 hv6 => ?_)
    · obtain ⟨x, rfl⟩ := hC
      go_simp
      go_at_call 58
      exact gives_loose (S7.out _ _ _ (hF 3 _ 25 rfl rfl rfl rfl (by decide)) (hF 5 _ 27 rfl rfl rfl rfl (by decide)))
    refine wpL_call (Lft.val (.tuple #[wv T, .bool f3])) (val_some wL _) rfl rfl rfl rfl (by first | rfl | go_simp) rfl (fun w' hC hF => ?_) (fun v7 hv7 => ?_)
    · obtain ⟨x, rfl⟩ := hC
      go_simp
      go_at_call 55
      exact val_loose (S8.out _ _ (hF 6 _ 28 rfl rfl rfl rfl (by decide)))
    obtain ⟨_, rfl⟩ := hv7
    refine wpL_pure wL rfl rfl rfl rfl (fun K hK K0 hK0 => ?_)
    go_simp
    first | refine hK _ _ rfl rfl ?_ | refine hK0 _ rfl ?_
    clear hK hK0 K K0
    refine wpL_pure wL rfl rfl rfl rfl (fun K hK K0 hK0 => ?_)
    go_simp
    first | refine hK _ _ rfl rfl ?_ | refine hK0 _ rfl ?_
    clear hK hK0 K K0
    refine wpL_pure wL rfl rfl rfl rfl (fun K hK K0 hK0 => ?_)
    go_simp
    first | refine hK _ _ rfl rfl ?_ | refine hK0 _ rfl ?_
    clear hK hK0 K K0
    refine wpL_alloc rfl rfl rfl rfl (fun g11 hg11 => ?_)
    refine wpL_store rfl rfl ?_
    refine wpL_pure wL rfl rfl rfl rfl (fun K hK K0 hK0 => ?_)
    go_simp
    first | refine hK _ _ rfl rfl ?_ | refine hK0 _ rfl ?_
    clear hK hK0 K K0
    refine wpL_nil (endL [(31, .tmp 9, .tmp 30)] rfl (by intro q hq; simp only [List.mem_cons, List.not_mem_nil, or_false] at hq; subst hq; exact fits_wv (by kernel_rfl) _) (fun w3 hb hst hap hfin => ?_))
    have Gr : Hid (w3.heap[g11]? = some (.cells (wcells (T)) 31 (0, 0))) := Lib.hid (hst 12 _ _ _ _ g11 rfl rfl rfl)
    replace HB := Lib.hid (below_then HB.out hb)
    replace Go := Lib.hid ((hb.block _ (lt_of_heap Go.out)).trans Go.out)
    replace Gx := Lib.hid ((hb.block _ (lt_of_heap Gx.out)).trans Gx.out)
    replace Gy := Lib.hid ((hb.block _ (lt_of_heap Gy.out)).trans Gy.out)
    clear hb hst hap hfin xGo xGx xGy
    have cGo := cell_row Go.out
    have cGr := cell_row Gr.out
    go_upto_region 4 with fail
    clear cGo cGr
    have cr := cell_row Gr.out
    have sto := st_row (P := Try.prog) Go.out rfl (T)
    replace Gr := Lib.hid ((setRow_other (w3) (w.heap.size) _ (wcells (T)) (by (omega))).trans Gr.out)
    replace Go := Lib.hid (setRow_heap (w3) (w.heap.size) _ (wcells (T)) _ _ Go.out)
    replace HB := Lib.hid (below_setRow' HB.out (show _ ≤ w.heap.size by (omega)) (wcells (T)))
    go_wp2
    exact bodyPost_ret (v := wv T) (results_cell_row rfl _ _ w.heap.size _ _ _ _ rfl Go.out Try.underlying31 rfl (by kernel_rfl)) rfl ⟨rfl, HB.out⟩

set_option maxRecDepth 100000 in
set_option maxHeartbeats 2000000 in
theorem rsum13_any (v : Value) (zs : List Int) (w : World) (hl : zs.length ≤ 400) (hz : ∀ d ∈ zs, isDig d = true) (hv : IsIntsN w v zs) :
    Calls Try.prog 29 #[v] w fun e w' => ∃ va vb, e = .returned (.tuple #[va, vb]) ∧ IsBig w' va (posS zs) ∧ IsBig w' vb (negS zs) ∧ Below w.heap.size w w' := by
  have HS := Lib.hid (sums_spec zs hz)
  obtain ⟨a, cap, rfl, hcap, hcells⟩ := hv
  have HE : Hid (posS (zs.take zs.length) = posS zs ∧ negS (zs.take zs.length) = negS zs) := Lib.hid (by rw [List.take_length]; exact ⟨rfl, rfl⟩)
  obtain ⟨n, hn⟩ : ∃ n, n = zs.length := ⟨_, rfl⟩
  rw [← hn] at hl hcap hcells HS HE ⊢
  have hl' : (n : Int) ≤ 400 := by omega
  have HC := Lib.hid hcells; have HX := Lib.hid hz; have HN := Lib.hid hn; have HL := Lib.hid hl
  clear hcells hz hn hl
  go_enter Try.func29, Try.ntmps29
  have HB := Lib.hid (Below.refl w.heap.size w)
  go_wp2
  go_loopw [4, 5, 6] (fun s4 s5 s6 wr => ∃ k : Nat, s6 = .int .i64 k ∧ k ≤ n ∧ Hid (IsBig wr s4 (posS (zs.take k))) ∧ Hid (IsBig wr s5 (negS (zs.take k))) ∧ Hid (Below w.heap.size w wr)) (fun _ _ s6 _ => n - (intOf s6).toNat)
  case atStart => exact ⟨0, rfl, by omega, Lib.hid (by rw [List.take_zero]; exact isBig_nil _ _ _), Lib.hid (by rw [List.take_zero]; exact isBig_nil _ _ _), Lib.hid (below_al (below_al (Below.refl _ _) _) _)⟩
  case round =>
    clear HB
    obtain ⟨k, rfl, hk, RA, RB, HB⟩ := hrel
    by_cases hlt : k < n
    · have e1 : (k : Int) < (n : Int) := by omega
      have e0 : (0 : Int) ≤ (k : Int) := Int.natCast_nonneg _
      obtain ⟨z, hz⟩ : ∃ z, zs[k]? = some z := ⟨zs[k]'(by have := HN.out; omega), List.getElem?_eq_getElem _⟩
      obtain ⟨z1, z2⟩ := isDig_iff.1 (HX.out z (List.mem_of_getElem? hz))
      obtain ⟨b, o, rfl, hbl, hcell⟩ := HC.out (by omega)
      have hC : Hid (w.cell? ⟨b, o + k, none⟩ = some (.int .i64 z)) := Lib.hid (hcell k z hz)
      have HBL := Lib.hid hbl
      have hB0 : ∀ x, x < P2 802 → x < BIG := fun x h => small_of h (by omega)
      have hB1 : ∀ x, x < P2 (2 * k) → x < P2 800 := fun x h => Nat.lt_of_lt_of_le h (P2_le (by have := HL.out; omega))
      obtain ⟨p1, p2, _⟩ := HS.out k hk
      have hp1 := hB1 _ p1
      have hp2 := hB1 _ p2
      have h802 : P2 802 = P2 800 * 4 := by rw [show 802 = 800 + 2 from rfl, P2_add, P2_2]
      have h4 := P2_2
      have HP := Lib.hid (posS_succ zs k z hz)
      have HQ := Lib.hid (negS_succ zs k z hz)
      have HLT := Lib.hid hlt
      obtain ⟨p, hp⟩ : ∃ p, p = posS (zs.take k) := ⟨_, rfl⟩
      obtain ⟨q, hq⟩ : ∃ q, q = negS (zs.take k) := ⟨_, rfl⟩
      rw [← hp] at RA HP hp1
      rw [← hq] at RB HQ hp2
      have h800 := P2_pos 800
      have hp4' : p * P2 2 < P2 802 := by rw [h802, h4]; omega
      have hq4' : q * P2 2 < P2 802 := by rw [h802, h4]; omega
      have T1 := Lib.hid (fun v w' h => rshl_any v p 2 w' (hB0 _ (by omega)) (by omega) h)
      have T2 := Lib.hid (fun v w' h => rshl_any v q 2 w' (hB0 _ (by omega)) (by omega) h)
      have TA := Lib.hid (fun x (hx : x ≤ 3) v v2 w' h h' => add_any v v2 (p * P2 2) x w' (hB0 _ hp4') (hB0 _ (by omega)) h h')
      have TB := Lib.hid (fun x (hx : x ≤ 3) v v2 w' h h' => add_any v v2 (q * P2 2) x w' (hB0 _ hq4') (hB0 _ (by omega)) h h')
      obtain ⟨p4, hp4⟩ : ∃ x, x = p * P2 2 := ⟨_, rfl⟩
      obtain ⟨q4, hq4⟩ : ∃ x, x = q * P2 2 := ⟨_, rfl⟩
      rw [← hp4] at T1 TA HP
      rw [← hq4] at T2 TB HQ
      clear hB0 hB1 p1 p2 hp1 hp2 h802 h4 hp hq h800 hp4' hq4' hp4 hq4 hcell hz hbl hlt hk
      rcases (show 0 < z ∨ z = 0 ∨ z < 0 by omega) with h0 | h0 | h0
      · obtain ⟨D, rfl⟩ := Int.eq_ofNat_of_zero_le (show 0 ≤ z by omega)
        have S3 := Lib.hid (fun w' => small_any D w' (by omega))
        have S4 := Lib.hid (TA.out D (by omega))
        have hw : IntKind.u64.wrap (D : Int) = (D : Int) := by rw [u64wrap]; omega
        have hneg : ¬ (D : Int) < 0 := by omega
        have e3 : posS (zs.take (k + 1)) = p4 + D := by rw [HP.out, Int.toNat_natCast]
        have e4 : negS (zs.take (k + 1)) = q4 := by rw [HQ.out]; omega
        have E3 := Lib.hid e3; have E4 := Lib.hid e4
        clear e3 e4 z1 z2
        go_wp2_with fail
        refine (T1.out _ _ RA.out).mono ?_
        rintro e w4 ⟨rp, rfl, hr, hb⟩
        replace HB := Lib.hid (below_then HB.out hb)
        replace RA := Lib.hid (RA.out.below hb)
        replace RB := Lib.hid (RB.out.below hb)
        have Rp := Lib.hid hr
        clear hr hb
        go_wp2_with fail
        refine (T2.out _ _ RB.out).mono ?_
        rintro e w5 ⟨rq, rfl, hr, hb⟩
        replace HB := Lib.hid (below_then HB.out hb)
        replace RA := Lib.hid (RA.out.below hb)
        replace RB := Lib.hid (RB.out.below hb)
        replace Rp := Lib.hid (Rp.out.below hb)
        have Rq := Lib.hid hr
        clear hr hb
        have c0 : w5.cell? ⟨b, o + k, none⟩ = some (.int .i64 (D : Int)) := (HB.out.cell (p := ⟨b, o + k, none⟩) HBL.out).trans hC.out
        go_wp2_with fail
        refine (S3.out _).mono ?_
        rintro e w6 ⟨rd, rfl, hr, hb⟩
        replace HB := Lib.hid (below_then HB.out hb)
        replace Rp := Lib.hid (Rp.out.below hb)
        replace Rq := Lib.hid (Rq.out.below hb)
        have Rd := Lib.hid hr
        clear hr hb
        go_wp2_with fail
        refine (S4.out _ _ _ Rp.out Rd.out).mono ?_
        rintro e w7 ⟨rs, rfl, hr, hb⟩
        replace HB := Lib.hid (below_then HB.out hb)
        replace Rp := Lib.hid (Rp.out.below hb)
        replace Rq := Lib.hid (Rq.out.below hb)
        replace Rd := Lib.hid (Rd.out.below hb)
        have Rs := Lib.hid hr
        clear hr hb
        have c0 : w7.cell? ⟨b, o + k, none⟩ = some (.int .i64 (D : Int)) := (HB.out.cell (p := ⟨b, o + k, none⟩) HBL.out).trans hC.out
        go_wp2
        go_roundw
        case rel => exact ⟨k + 1, by go_num, HLT.out, by rw [E3.out]; exact Rs, by rw [E4.out]; exact Rq, HB⟩
        case measure => have := HLT.out; simp [intOf]; omega
      · subst h0
        have E3 : Hid (posS (zs.take (k + 1)) = p4) := Lib.hid (by rw [HP.out]; rfl)
        have E4 : Hid (negS (zs.take (k + 1)) = q4) := Lib.hid (by rw [HQ.out]; rfl)
        clear z1 z2
        go_wp2_with fail
        refine (T1.out _ _ RA.out).mono ?_
        rintro e w8 ⟨rp, rfl, hr, hb⟩
        replace HB := Lib.hid (below_then HB.out hb)
        replace RA := Lib.hid (RA.out.below hb)
        replace RB := Lib.hid (RB.out.below hb)
        have Rp := Lib.hid hr
        clear hr hb
        go_wp2_with fail
        refine (T2.out _ _ RB.out).mono ?_
        rintro e w9 ⟨rq, rfl, hr, hb⟩
        replace HB := Lib.hid (below_then HB.out hb)
        replace RA := Lib.hid (RA.out.below hb)
        replace RB := Lib.hid (RB.out.below hb)
        replace Rp := Lib.hid (Rp.out.below hb)
        have Rq := Lib.hid hr
        clear hr hb
        have c0 : w9.cell? ⟨b, o + k, none⟩ = some (.int .i64 0) := (HB.out.cell (p := ⟨b, o + k, none⟩) HBL.out).trans hC.out
        go_wp2
        go_roundw
        case rel => exact ⟨k + 1, by go_num, HLT.out, by rw [E3.out]; exact Rp, by rw [E4.out]; exact Rq, HB⟩
        case measure => have := HLT.out; simp [intOf]; omega
      · obtain ⟨D, hD⟩ := Int.eq_ofNat_of_zero_le (show 0 ≤ -z by omega)
        have S3 := Lib.hid (fun w' => small_any D w' (by omega))
        have S4 := Lib.hid (TB.out D (by omega))
        have hwn : IntKind.i64.wrap (-z) = (D : Int) := by rw [hD]; exact IntWalk.i64_in _ (by omega)
        have hw : IntKind.u64.wrap (D : Int) = (D : Int) := by rw [u64wrap]; omega
        have hneg : ¬ 0 < z := by omega
        have e3 : posS (zs.take (k + 1)) = p4 := by rw [HP.out]; omega
        have e4 : negS (zs.take (k + 1)) = q4 + D := by rw [HQ.out, hD, Int.toNat_natCast]
        have E3 := Lib.hid e3; have E4 := Lib.hid e4
        clear e3 e4 z1 z2 hD
        go_wp2_with fail
        refine (T1.out _ _ RA.out).mono ?_
        rintro e w10 ⟨rp, rfl, hr, hb⟩
        replace HB := Lib.hid (below_then HB.out hb)
        replace RA := Lib.hid (RA.out.below hb)
        replace RB := Lib.hid (RB.out.below hb)
        have Rp := Lib.hid hr
        clear hr hb
        go_wp2_with fail
        refine (T2.out _ _ RB.out).mono ?_
        rintro e w11 ⟨rq, rfl, hr, hb⟩
        replace HB := Lib.hid (below_then HB.out hb)
        replace RA := Lib.hid (RA.out.below hb)
        replace RB := Lib.hid (RB.out.below hb)
        replace Rp := Lib.hid (Rp.out.below hb)
        have Rq := Lib.hid hr
        clear hr hb
        have c0 : w11.cell? ⟨b, o + k, none⟩ = some (.int .i64 z) := (HB.out.cell (p := ⟨b, o + k, none⟩) HBL.out).trans hC.out
        go_wp2_with fail
        refine (S3.out _).mono ?_
        rintro e w12 ⟨rd, rfl, hr, hb⟩
        replace HB := Lib.hid (below_then HB.out hb)
        replace Rp := Lib.hid (Rp.out.below hb)
        replace Rq := Lib.hid (Rq.out.below hb)
        have Rd := Lib.hid hr
        clear hr hb
        go_wp2_with fail
        refine (S4.out _ _ _ Rq.out Rd.out).mono ?_
        rintro e w13 ⟨rs, rfl, hr, hb⟩
        replace HB := Lib.hid (below_then HB.out hb)
        replace Rp := Lib.hid (Rp.out.below hb)
        replace Rq := Lib.hid (Rq.out.below hb)
        replace Rd := Lib.hid (Rd.out.below hb)
        have Rs := Lib.hid hr
        clear hr hb
        go_wp2
        go_roundw
        case rel => exact ⟨k + 1, by go_num, HLT.out, by rw [E3.out]; exact Rp, by rw [E4.out]; exact Rs, HB⟩
        case measure => have := HLT.out; simp [intOf]; omega
    · obtain rfl : k = n := by omega
      clear hk hlt
      go_wp2
      exact bodyPost_ret (v := .tuple #[u4, u5]) (by simp [results, Try.results29, go_sem]) rfl ⟨_, _, rfl, by rw [← HE.out.1]; exact RA.out, by rw [← HE.out.2]; exact RB.out, HB.out⟩
end Go.Proofs.Ytkkjbkadaofjpaa
