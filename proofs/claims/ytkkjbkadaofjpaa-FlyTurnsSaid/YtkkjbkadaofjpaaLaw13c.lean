/- THE WALK of the law on digits with the other sign. -/
import Derived.Test.YtkkjbkadaofjpaaLaw13
namespace Go.Proofs.Ytkkjbkadaofjpaa
open Go Go.RowKit

theorem wrap_dig {d : Int} (h : isDig d = true) : IntKind.i64.wrap (-d) = -d := by
  obtain ⟨h1, h2⟩ := isDig_iff.1 h
  exact IntWalk.i64_in _ (by omega)
theorem turned_dig {zs : List Int} (h : ∀ d ∈ zs, isDig d = true) : ∀ d ∈ turned zs, isDig d = true := by
  intro d hd
  unfold turned at hd
  obtain ⟨x, hx, rfl⟩ := List.mem_map.1 hd
  have hx' := h x hx
  rw [wrap_dig hx']
  obtain ⟨h1, h2⟩ := isDig_iff.1 hx'
  exact isDig_yes (by omega) (by omega)
theorem turned_bad {zs : List Int} (hb : ∀ z ∈ zs, -9223372036854775808 ≤ z ∧ z ≤ 9223372036854775807) (h : ∃ d ∈ zs, isDig d = false) : ∃ d ∈ turned zs, isDig d = false := by
  obtain ⟨d, hd, hf⟩ := h
  refine ⟨IntKind.i64.wrap (-d), List.mem_map.2 ⟨d, hd, rfl⟩, ?_⟩
  have hr := hb d hd
  have hn : ¬ (-3 ≤ d ∧ d ≤ 3) := fun hh => by rw [isDig_yes hh.1 hh.2] at hf; cases hf
  have key : ∀ x : Int, ¬ (-3 ≤ x ∧ x ≤ 3) → isDig x = false := fun x hx => by
    cases he : isDig x with
    | false => rfl
    | true => exact absurd (isDig_iff.1 he) hx
  by_cases hm : d = -9223372036854775808
  · subst hm
    exact key _ (by rw [show IntKind.i64.wrap (-(-9223372036854775808)) = -9223372036854775808 from rfl]; omega)
  · rw [IntWalk.i64_in _ (by omega)]
    exact key _ (by omega)
theorem fold_turned : ∀ (zs : List Int) (acc : Int), (∀ d ∈ zs, isDig d = true) → (turned zs).foldl (fun z d => 4 * z + d) (-acc) = -(zs.foldl (fun z d => 4 * z + d) acc) := by
  intro zs
  induction zs with
  | nil => intro acc _; rfl
  | cons d zs ih =>
    intro acc h
    have hd := wrap_dig (h d List.mem_cons_self)
    have := ih (4 * acc + d) (fun x hx => h x (List.mem_cons_of_mem _ hx))
    unfold turned at this ⊢
    rw [List.map_cons, List.foldl_cons, List.foldl_cons, hd, ← this]
    congr 1
    omega
theorem digitsZ_turned {zs : List Int} (h : ∀ d ∈ zs, isDig d = true) : digitsZ (turned zs) = -digitsZ zs := by
  have := fold_turned zs 0 h
  unfold digitsZ
  simpa using this
theorem toW_neg (z : Int) : toW z + toW (-z) = 0 ∨ toW z + toW (-z) = M := by
  have h1 := toW_cast z
  have h2 := toW_cast (-z)
  have h3 := toW_lt z
  have h4 := toW_lt (-z)
  have hd : (M : Int) ∣ (toW z : Int) + (toW (-z) : Int) := by
    rw [h1, h2]
    refine Int.dvd_of_emod_eq_zero ?_
    rw [← Int.add_emod, Int.add_right_neg, Int.zero_emod]
  obtain ⟨k, hk⟩ := hd
  have hM := M_i
  have hk0 : 0 ≤ k := by
    apply Int.not_lt.1
    intro h
    have := Int.mul_le_mul_of_nonneg_left (show k ≤ -1 by omega) (Int.le_of_lt hM)
    omega
  have hk2 : k < 2 := by
    apply Int.not_le.1
    intro h
    have := Int.mul_le_mul_of_nonneg_left h (Int.le_of_lt hM)
    omega
  rcases (show k = 0 ∨ k = 1 by omega) with rfl | rfl
  · left; omega
  · right; omega

attribute [local go_sem ↓] Go.wp_at_zero Go.wp_at_succ
set_option maxRecDepth 100000 in
set_option maxHeartbeats 4000000 in
theorem flyTurns_core (v : Value) (zs : List Int) (A B : Nat) (f : Bool) (w : World) (hl : zs.length ≤ 400) (hv : IsIntsN w v zs) (hA : A < M) (hB : B < M) (hs : A + B = 0 ∨ A + B = M)
    (h1 : ∀ w' : World, IsIntsN w' v zs → Calls Try.prog 27 #[v] w' fun e w'' => e = .returned (.tuple #[wv A, .bool f]) ∧ Below w'.heap.size w' w'')
    (h2 : ∀ (r : Value) (w' : World), IsIntsN w' r (turned zs) → Calls Try.prog 27 #[r] w' fun e w'' => e = .returned (.tuple #[wv B, .bool f]) ∧ Below w'.heap.size w' w'') :
    Calls Try.prog 6 #[v] w fun e w' => e = .returned (.bool true) ∧ Below w.heap.size w w' := by
  have SA := Lib.hid (fun w' => awake13_any w')
  have S1 := Lib.hid h1; have S2 := Lib.hid h2
  have ST := Lib.hid (fun w' h => turn_any v zs w' hl h)
  have S3 := Lib.hid (fun w' => big_any A hA w')
  have S4 := Lib.hid (fun w' => big_any B hB w')
  have S5 := Lib.hid (fun va vb w' h h' => add_any va vb A B w' (small_M hA) (small_M hB) h h')
  have hMB : M < BIG := by rw [M_eq]; exact P2_small (by omega)
  have hXB : A + B < BIG := by have := M_pos; omega
  have S6 := Lib.hid (fun v w' h => rlen_any v (A + B) w' hXB h)
  have S7 := Lib.hid (fun w' => whole_any w')
  have S8 := Lib.hid (fun v v2 w' h h' => cmp_any v v2 (A + B) M w' hXB hMB h h')
  obtain ⟨X, hX⟩ : ∃ x, x = A + B := ⟨_, rfl⟩
  rw [← hX] at S5 S6 S8 hs
  have HS := Lib.hid hs
  have LV := Lib.hid hv
  have HTL : Hid ((turned zs).length = zs.length) := Lib.hid (List.length_map _)
  obtain ⟨a, cap, rfl, hcap, hcells⟩ := hv
  obtain ⟨n, hn⟩ : ∃ n, n = zs.length := ⟨_, rfl⟩
  rw [← hn] at hl hcells LV S1 ST HTL ⊢
  have e400 : ¬ (400 : Int) < (n : Int) := by omega
  have HC := Lib.hid hcells; have HN := Lib.hid hn
  clear hcells hn hl hcap h1 h2 hs hX hMB hXB hA hB
  go_enter Try.func6, Try.ntmps6
  have HB := Lib.hid (Below.refl w.heap.size w)
  go_wp2_with fail
  refine (ST.out _ LV.out).mono ?_
  rintro e w1 ⟨r, rfl, hI, hb⟩
  have HI := Lib.hid hI
  replace HB := Lib.hid (below_then HB.out hb)
  have LV1 := Lib.hid (LV.out.older hb)
  obtain ⟨a2, cap2, rfl, _, hcells2⟩ := hI
  rw [HTL.out] at hcells2 HI ⊢
  have HC2 := Lib.hid hcells2
  clear hcells2 hb
  go_wp2
  go_loopw [4] (fun s4 wr => ∃ k : Nat, s4 = .int .i64 k ∧ k ≤ n ∧ Hid (Below w1.heap.size w1 wr)) (fun s4 _ => n - (intOf s4).toNat)
  case atStart => exact ⟨0, rfl, by omega, Lib.hid (Below.refl _ _)⟩
  case round =>
    obtain ⟨k, rfl, hk, HBL⟩ := hrel
    by_cases hlt : k < n
    · have e1 : (k : Int) < (n : Int) := by omega
      have e0 : (0 : Int) ≤ (k : Int) := Int.natCast_nonneg _
      obtain ⟨z, hz⟩ : ∃ z, zs[k]? = some z := ⟨zs[k]'(by have := HN.out; omega), List.getElem?_eq_getElem _⟩
      have hz2 : (turned zs)[k]? = some (IntKind.i64.wrap (-z)) := by unfold turned; rw [List.getElem?_map, hz]; rfl
      obtain ⟨b1, o1, rfl, hbl1, hcell1⟩ := HC.out (by omega)
      obtain ⟨b2, o2, rfl, hbl2, hcell2⟩ := HC2.out (by omega)
      obtain ⟨y, hy⟩ : ∃ y, y = IntKind.i64.wrap (-z) := ⟨_, rfl⟩
      rw [← hy] at hz2
      have hy2 := hy.symm
      have hs1 := HBL.out.size
      have hs0 := HB.out.size
      have x1 := ext_cell (B := wr.heap.size) ((HBL.out.cell (p := ⟨b1, o1 + k, none⟩) (Nat.lt_of_lt_of_le hbl1 hs0)).trans ((HB.out.cell (p := ⟨b1, o1 + k, none⟩) hbl1).trans (hcell1 k z hz))) (by omega)
      have x2 := ext_cell (B := wr.heap.size) ((HBL.out.cell (p := ⟨b2, o2 + k, none⟩) hbl2).trans (hcell2 k y hz2)) (by omega)
      have HLT := Lib.hid hlt
      clear hcell1 hcell2 hz hz2 hbl1 hbl2 hlt hk hs1 hs0 hy
      go_upto_region 9 with fail
      refine wp_region_ext wr.heap.size (by kernel_rfl) (by kernel_rfl) ?_
      repeat (go_big_quiet_step (fail))
      refine wpQuiet_nil ?_
      intro w1 hb
      replace HBL := Lib.hid (below_then HBL.out hb)
      clear hb
      clear x1 x2
      go_wp2
      go_roundw
      case rel => exact ⟨k + 1, by go_num, HLT.out, HBL⟩
      case measure => have := HLT.out; simp [intOf]; omega
    · obtain rfl : k = n := by omega
      replace HB := Lib.hid (below_then HB.out HBL.out)
      have KI := Lib.hid (HI.out.older HBL.out)
      have LV2 := Lib.hid (LV1.out.older HBL.out)
      clear hk hlt HC HC2 HI LV LV1
      go_wp2_with fail
      refine (S1.out _ LV2.out).mono ?_
      rintro e w2 ⟨rfl, hb⟩
      replace HB := Lib.hid (below_then HB.out hb)
      replace KI := Lib.hid (KI.out.older hb)
      clear hb
      replace KI := Lib.hid (KI.out.older (below_al (Below.refl (w2).heap.size (w2)) (.cells (wcells A) 31)))
      have Ga := Lib.hid (alloc_new (w2) (.cells (wcells A) 31))
      replace HB := Lib.hid (below_al HB.out (.cells (wcells A) 31))
      have cGa := cell_row Ga.out
      go_wp2_with fail
      refine (S2.out _ _ KI.out).mono ?_
      rintro e w3 ⟨rfl, hb⟩
      clear cGa
      replace HB := Lib.hid (below_then HB.out hb)
      replace KI := Lib.hid (KI.out.older hb)
      replace Ga := Lib.hid ((hb.block _ (lt_of_heap Ga.out)).trans Ga.out)
      clear hb
      replace Ga := Lib.hid (keepAl (o' := .cells (wcells B) 31) Ga.out)
      have Gb := Lib.hid (alloc_new (w3) (.cells (wcells B) 31))
      replace HB := Lib.hid (below_al HB.out (.cells (wcells B) 31))
      go_upto_region 13 with fail
      obtain ⟨wT, hw⟩ : ∃ wx, wx = (w3).alloc (.cells (wcells B) 31) := ⟨_, rfl⟩
      rw [← hw] at Ga Gb HB ⊢
      clear hw
      have xGa := ext_row (B := wT.heap.size) Ga.out (lt_of_heap Ga.out)
      have xGb := ext_row (B := wT.heap.size) Gb.out (lt_of_heap Gb.out)
      apply wp_region_loose (looseR [_, _, _, _, _, _]) (pureL [])
      · kernel_rfl
      · kernel_rfl
      · kernel_rfl
      · exact allocs_ok [] rfl (by intro T hT; cases hT)
      · exact looseR_st _
      · change wpL _ _ _ _ _ _ _ 6 0 _ _
        refine wpL_calm wT rfl rfl rfl rfl (fun K hK K0 hK0 => ?_)
        go_simp
        first | refine hK _ _ rfl rfl ?_ | refine hK0 _ rfl ?_
        clear hK hK0 K K0
        refine wpL_call (Lft.big A) (big_some w _) rfl rfl rfl rfl (by first | rfl | go_simp) rfl (fun w' hC hF => ?_) (fun v1 hv1 => ?_)
        · obtain ⟨x, rfl⟩ := hC
          go_simp
          go_at_call 33
          exact gives_loose (S3.out _)
        refine wpL_calm wT rfl rfl rfl rfl (fun K hK K0 hK0 => ?_)
        go_simp
        first | refine hK _ _ rfl rfl ?_ | refine hK0 _ rfl ?_
        clear hK hK0 K K0
        refine wpL_call (Lft.big B) (big_some w _) rfl rfl rfl rfl (by first | rfl | go_simp) rfl (fun w' hC hF => ?_) (fun v3 hv3 => ?_)
        · obtain ⟨x, rfl⟩ := hC
          go_simp
          go_at_call 33
          exact gives_loose (S4.out _)
        refine wpL_call (Lft.big X) (big_some w _) rfl rfl rfl rfl (by first | rfl | go_simp) rfl (fun w' hC hF => ?_) (fun v4 hv4 => ?_)
        · obtain ⟨x, rfl⟩ := hC
          go_simp
          go_at_call 36
          exact gives_loose (S5.out _ _ _ (hF 1 _ 48 rfl rfl rfl rfl (by decide)) (hF 3 _ 50 rfl rfl rfl rfl (by decide)))
        refine wpL_call (Lft.big X) (big_some wT _) rfl rfl rfl rfl rfl rfl (fun w' hC hF => ?_) (fun v5 hv5 => ?_)
        · obtain ⟨x, rfl⟩ := hC
          have hf := hF 4 _ 51 rfl rfl rfl rfl (by decide)
          go_simp
          exact ⟨Below.refl _ _, hf⟩
        refine wpL_nil (endL [] rfl (by intro q hq; cases hq) (fun w4 hb hst hap hfin => ?_))
        have Rs : Hid (IsBig w4 v5 X) := Lib.hid (hfin rfl 5 _ 9 rfl rfl rfl rfl)
        replace HB := Lib.hid (below_then HB.out hb)
        replace Ga := Lib.hid ((hb.block _ (lt_of_heap Ga.out)).trans Ga.out)
        replace Gb := Lib.hid ((hb.block _ (lt_of_heap Gb.out)).trans Gb.out)
        clear hb hst hap hfin xGa xGb
        rcases HS.out with rfl | rfl
        · rw [blen_zero] at S6
          go_wp2_with fail
          refine (S6.out _ _ Rs.out).mono ?_
          rintro e w5 ⟨rfl, hb⟩
          replace HB := Lib.hid (below_then HB.out hb)
          replace Rs := Lib.hid (Rs.out.below hb)
          clear hb
          go_wp2_with fail
          refine (SA.out _).mono ?_
          rintro e w6 ⟨rfl, hb⟩
          replace HB := Lib.hid (below_then HB.out hb)
          replace Rs := Lib.hid (Rs.out.below hb)
          clear hb
          go_wp2
          go_ret
          exact ⟨rfl, HB.out⟩
        · rw [show cmpN M M = 0 by unfold cmpN; simp] at S8
          have hb0 := blen_pos (show M ≠ 0 by have := M_pos; omega)
          obtain ⟨l, hl⟩ : ∃ l, l = blen M := ⟨_, rfl⟩
          rw [← hl] at S6 hb0
          have hl0 : ((l : Int) == 0) = false := by simp; omega
          have hl1 : ¬ (l : Int) = 0 := by omega
          clear hl hb0
          go_wp2_with fail
          refine (S6.out _ _ Rs.out).mono ?_
          rintro e w7 ⟨rfl, hb⟩
          replace HB := Lib.hid (below_then HB.out hb)
          replace Rs := Lib.hid (Rs.out.below hb)
          clear hb
          go_wp2_with fail
          refine (S7.out _).mono ?_
          rintro e w8 ⟨rh, rfl, hr, hb⟩
          replace HB := Lib.hid (below_then HB.out hb)
          replace Rs := Lib.hid (Rs.out.below hb)
          have Rh := Lib.hid hr
          clear hr hb
          go_wp2_with fail
          refine (S8.out _ _ _ Rs.out Rh.out).mono ?_
          rintro e w9 ⟨rfl, hb⟩
          replace HB := Lib.hid (below_then HB.out hb)
          replace Rs := Lib.hid (Rs.out.below hb)
          replace Rh := Lib.hid (Rh.out.below hb)
          clear hb
          go_wp2_with fail
          refine (SA.out _).mono ?_
          rintro e w10 ⟨rfl, hb⟩
          replace HB := Lib.hid (below_then HB.out hb)
          replace Rs := Lib.hid (Rs.out.below hb)
          replace Rh := Lib.hid (Rh.out.below hb)
          clear hb
          go_wp2
          go_ret
          exact ⟨rfl, HB.out⟩
theorem flyTurns_any (v : Value) (zs : List Int) (w : World) (hv : IsIntsN w v zs) (hb : ∀ z ∈ zs, -9223372036854775808 ≤ z ∧ z ≤ 9223372036854775807) :
    Calls Try.prog 6 #[v] w fun e w' => e = .returned (.bool true) ∧ Below w.heap.size w w' := by
  by_cases hl : zs.length ≤ 400
  · have htl : (turned zs).length = zs.length := List.length_map _
    by_cases hz : ∀ d ∈ zs, isDig d = true
    · refine flyTurns_core v zs (toW (digitsZ zs)) (toW (digitsZ (turned zs))) true w hl hv (toW_lt _) (toW_lt _) ?_ (fun w' h => convert_yes v zs w' (by omega) hz h) (fun r w' h => convert_yes r (turned zs) w' (by omega) (turned_dig hz) h)
      rw [digitsZ_turned hz]
      exact toW_neg _
    · have hz' : ∃ d ∈ zs, isDig d = false := by
        refine Classical.byContradiction fun h => hz fun d hd => ?_
        cases hd' : isDig d with
        | true => rfl
        | false => exact absurd ⟨d, hd, hd'⟩ h
      exact flyTurns_core v zs 0 0 false w hl hv M_pos M_pos (Or.inl rfl) (fun w' h => convert_no v zs w' (by omega) hz' h) (fun r w' h => convert_no r (turned zs) w' (by omega) (turned_bad hb hz') h)
  · have SA := Lib.hid (fun w' => awake13_any w')
    obtain ⟨a, cap, rfl, _, _⟩ := hv
    have e1 : (400 : Int) < (zs.length : Int) := by omega
    obtain ⟨n, hn⟩ : ∃ n, n = zs.length := ⟨_, rfl⟩
    rw [← hn] at e1 ⊢
    clear hb hn hl
    go_enter Try.func6, Try.ntmps6
    have HB := Lib.hid (Below.refl w.heap.size w)
    go_wp2_with fail
    refine (SA.out _).mono ?_
    rintro e w11 ⟨rfl, hb⟩
    replace HB := Lib.hid (below_then HB.out hb)
    clear hb
    go_wp2
    go_ret
    exact ⟨rfl, HB.out⟩
end Go.Proofs.Ytkkjbkadaofjpaa
