/- THE WALK of the law on sums and powers. -/
import Derived.Test.YtenkaobgoknlhaaLaw03b
import Derived.Test.YtenkaobgoknlhaaProd6
namespace Go.Proofs.Ytenkaobgoknlhaa
open Go Go.RowKit

theorem sum_le : ∀ (xs : List Nat), (∀ x ∈ xs, x < M) → xs.sum ≤ xs.length * M := by
  intro xs
  induction xs with
  | nil => intro _; exact Nat.zero_le _
  | cons x xs ih =>
    intro h
    have h1 := h x List.mem_cons_self
    have h2 := ih fun y hy => h y (List.mem_cons_of_mem _ hy)
    rw [List.sum_cons, List.length_cons, Nat.add_mul, Nat.one_mul]
    omega
theorem ext_wides {w0 w : World} {v : Value} {xs : List Nat} (h : IsWides w0 v xs) (hb : Below w0.heap.size w0 w) (x : Ext w.heap.size w) : IsWides x.val v xs := h.older (below_then hb x.property)

attribute [local go_sem ↓] Go.wp_at_zero Go.wp_at_succ
set_option maxRecDepth 100000 in
set_option maxHeartbeats 4000000 in
theorem prodSums_any (v : Value) (xs : List Nat) (a : Nat) (n : Int) (w : World) (hv : IsWides w v xs) (hx : ∀ x ∈ xs, x < M) (ha : a < M) (h0 : 0 ≤ n) (_h1 : n ≤ 255) :
    Calls Try.prog 22 #[v, wv a, .int .u8 n] w fun e w' => e = .returned (.bool true) ∧ Below w.heap.size w w' := by
  have SA := Lib.hid (fun w' => awake03_any w')
  have HV := Lib.hid hv
  obtain ⟨ad, cap, rfl, hcap, hcells⟩ := hv
  by_cases h20 : 20 < xs.length
  · have h20' : (20 : Int) < (xs.length : Nat) := by omega
    obtain ⟨L, hL⟩ : ∃ L, L = xs.length := ⟨_, rfl⟩
    rw [← hL] at h20' HV hcap ⊢
    clear h0 _h1 ha hx hcells h20 hL HV hcap
    go_enter Try.func22, Try.ntmps22
    have HB := Lib.hid (Below.refl w.heap.size w)
    have Ga := Lib.hid (alloc_new (w) (.cells (wcells a) 26))
    replace HB := Lib.hid (below_al HB.out (.cells (wcells a) 26))
    have cGa := cell_row Ga.out
    go_wp2_with fail
    refine (SA.out _).mono ?_
    rintro e w1 ⟨rfl, hb⟩
    clear cGa
    replace HB := Lib.hid (below_then HB.out hb)
    replace Ga := Lib.hid ((hb.block _ (lt_of_heap Ga.out)).trans Ga.out)
    clear hb
    have cGa := cell_row Ga.out
    go_wp2
    go_ret
    exact ⟨rfl, HB.out⟩
  · have hlen : xs.length ≤ 20 := by omega
    have h20' : ¬ (20 : Int) < (xs.length : Nat) := by omega
    have hsum : ∀ k, (xs.take k).sum ≤ 20 * M := fun k => by
      have h2 := sum_le (xs.take k) fun x hx' => hx x (List.mem_of_mem_take hx')
      have h3 : (xs.take k).length ≤ 20 := by rw [List.length_take]; omega
      exact Nat.le_trans h2 (Nat.mul_le_mul_right _ h3)
    have h32 : P2 517 = 32 * M := by rw [M_eq, show 517 = 5 + 512 from rfl, P2_add, show P2 5 = 32 by rw [P2_eq]]
    have h517 : P2 517 < BIG := P2_small (by omega)
    have hMp := M_pos
    have hsb : ∀ k, (xs.take k).sum < BIG := fun k => by have := hsum k; omega
    have S1 := Lib.hid (fun k x (hxM : x < M) v v2 w' h h' => add_any v v2 (xs.take k).sum x w' (hsb k) (small_M hxM) h h')
    have S2 := Lib.hid (fun v w' h => wide_any v xs.sum w' (by have := hsb xs.length; rwa [List.take_length] at this) h)
    have S3 := Lib.hid (fun w' h => psum_any (.slice ad xs.length cap) xs w' hx (by omega) h)
    have SB := Lib.hid (fun x (hxM : x < M) w' => big_any x hxM w')
    have HX := Lib.hid hx
    obtain ⟨N, hN⟩ : ∃ N : Nat, N = (n % 20).toNat := ⟨_, rfl⟩
    have hN20 : N < 20 := by omega
    have hN20i : (N : Int) ≤ 20 := by omega
    have hr1 : Int.tmod n 20 = (N : Int) := by rw [Int.tmod_eq_emod_of_nonneg h0]; omega
    have hr2 : IntKind.u8.wrap (N : Int) = (N : Int) := IntWalk.u8_in _ (by omega)
    have hr3 : IntKind.i64.wrap (N : Int) = (N : Int) := IntWalk.i64_in _ (by omega)
    have SP : Hid (∀ w' : World, Calls Try.prog 94 #[wv a, .int .i64 (N : Int)] w' fun e w'' => e = .returned (.tuple #[wv (pwV a N), .bool (pwF a N)]) ∧ Below w'.heap.size w' w'') := Lib.hid fun w' => ppower_any a (N : Int) w' ha (by omega) (by omega)
    have SQ : Hid (∀ w' : World, Calls Try.prog 94 #[wv a, .int .i64 (-1)] w' fun e w'' => e = .returned (.tuple #[wv 1, .bool true]) ∧ Below w'.heap.size w' w'') := Lib.hid fun w' => ppower_any a (-1) w' ha (by omega) (by omega)
    have SM := Lib.hid (fun k v v2 w' h h' => mul_any v v2 (pwV a k) a w' (small_M (pwV_lt a k)) (small_M ha) h h')
    have hbig : ∀ {x y : Nat}, x < M → y < M → x * y < BIG := fun hx hy => small_of (prod_lt hx hy) (by omega)
    have SW := Lib.hid (fun k v w' h => wide_any v (pwV a k * a) w' (hbig (pwV_lt a k) ha) h)
    have S9 := Lib.hid (fun w' => small_any 1 w' (by omega))
    have E1 : (#[.int .u64 1, .int .u64 0, .int .u64 0, .int .u64 0, .int .u64 0, .int .u64 0, .int .u64 0, .int .u64 0] : Array Value) = wcells 1 := lit_cells 1 (by decide)
    have HC := Lib.hid hcells; have HMa := Lib.hid ha
    obtain ⟨L, hL⟩ : ∃ L, L = xs.length := ⟨_, rfl⟩
    rw [← hL] at h20' S3 HV HC ⊢
    have HL := Lib.hid hL
    clear h0 _h1 ha hx hcells h20 hL hcap hsum h32 h517 hMp hsb hN hN20 hbig hlen
    go_enter Try.func22, Try.ntmps22
    have HB := Lib.hid (Below.refl w.heap.size w)
    have Ga := Lib.hid (alloc_new (w) (.cells (wcells a) 26))
    replace HB := Lib.hid (below_al HB.out (.cells (wcells a) 26))
    have cGa := cell_row Ga.out
    go_wp2
    clear cGa
    go_loopw [7, 8] (fun s7 s8 wr => ∃ k : Nat, s8 = .int .i64 k ∧ k ≤ L ∧ Hid (IsBig wr s7 (xs.take k).sum) ∧ Hid (Below w.heap.size w wr) ∧ Hid (wr.heap[w.heap.size]? = some (.cells (wcells a) 26 (0, 0)))) (fun _ s8 _ => L - (intOf s8).toNat)
    case atStart => exact ⟨0, rfl, Nat.zero_le _, Lib.hid (by rw [List.take_zero, List.sum_nil]; exact isBig_nil _ _ _), Lib.hid (below_al HB.out _), Lib.hid (keepAl Ga.out)⟩
    case round =>
      clear HB Ga
      obtain ⟨k, rfl, hk, RS, HB, Ga⟩ := hrel
      by_cases hlt : k < L
      · have e1 : (k : Int) < (L : Int) := by omega
        have e0 : (0 : Int) ≤ (k : Int) := Int.natCast_nonneg _
        obtain ⟨x, hx⟩ : ∃ x, xs[k]? = some x := ⟨xs[k]'(by have := HL.out; omega), List.getElem?_eq_getElem _⟩
        have hxM : x < M := HX.out x (List.mem_of_getElem? hx)
        obtain ⟨b, o, rfl, hbl, hcell⟩ := HC.out (by have := HL.out; omega)
        have hc : ∀ j, j < 8 → wr.cell? ⟨b, o + k * 8 + j, none⟩ = some (.int .u64 (limb x j : Nat)) := fun j hj => (HB.out.cell (p := ⟨b, o + k * 8 + j, none⟩) hbl).trans (hcell k x hx j hj)
        have c0 := hc 0 (by decide)
        rw [Nat.add_zero] at c0
        have c1 := hc 1 (by decide); have c2 := hc 2 (by decide); have c3 := hc 3 (by decide); have c4 := hc 4 (by decide); have c5 := hc 5 (by decide); have c6 := hc 6 (by decide); have c7 := hc 7 (by decide)
        have T1 := Lib.hid (fun w' => SB.out x hxM w')
        have T2 := Lib.hid (fun v v2 w' h h' => S1.out k x hxM v v2 w' h h')
        rw [← take_sum xs k x hx] at T2
        have HLT := Lib.hid hlt
        clear hcell hc hx hxM hlt hk
        have cGa := cell_row Ga.out
        go_wp2_with fail
        refine (T1.out _).mono ?_
        rintro e w2 ⟨rx, rfl, hr, hb⟩
        clear cGa
        replace HB := Lib.hid (below_then HB.out hb)
        replace Ga := Lib.hid ((hb.block _ (lt_of_heap Ga.out)).trans Ga.out)
        replace RS := Lib.hid (RS.out.below hb)
        have Rx := Lib.hid hr
        clear hr hb
        clear c0 c1 c2 c3 c4 c5 c6 c7
        have cGa := cell_row Ga.out
        go_wp2_with fail
        refine (T2.out _ _ _ RS.out Rx.out).mono ?_
        rintro e w3 ⟨ry, rfl, hr, hb⟩
        clear cGa
        replace HB := Lib.hid (below_then HB.out hb)
        replace Ga := Lib.hid ((hb.block _ (lt_of_heap Ga.out)).trans Ga.out)
        replace RS := Lib.hid (RS.out.below hb)
        replace Rx := Lib.hid (Rx.out.below hb)
        have Ry := Lib.hid hr
        clear hr hb
        go_wp2
        go_roundw
        case rel => exact ⟨k + 1, by go_num, HLT.out, Ry, HB, Ga⟩
        case measure => have := HLT.out; simp [intOf]; omega
      · obtain rfl : k = L := by omega
        have HE := Lib.hid (show (xs.take k).sum = xs.sum by rw [HL.out, List.take_length])
        rw [HE.out] at RS
        clear hk hlt HE
        obtain ⟨T, hT⟩ : ∃ T, T = xs.sum % M := ⟨_, rfl⟩
        rw [← hT] at S2 S3
        obtain ⟨f0, hf0⟩ : ∃ T, T = decide (M ≤ xs.sum) := ⟨_, rfl⟩
        rw [← hf0] at S2
        clear hT hf0 S1
        have cGa := cell_row Ga.out
        go_wp2_with fail
        refine (S2.out _ _ RS.out).mono ?_
        rintro e w4 ⟨rfl, hb⟩
        clear cGa
        replace HB := Lib.hid (below_then HB.out hb)
        replace Ga := Lib.hid ((hb.block _ (lt_of_heap Ga.out)).trans Ga.out)
        replace RS := Lib.hid (RS.out.below hb)
        clear hb
        have HO1 := Lib.hid (lt_of_heap Ga.out)
        replace Ga := Lib.hid (keepAl (o' := .cells (wcells T) 26) Ga.out)
        have Gt := Lib.hid (alloc_new (w4) (.cells (wcells T) 26))
        replace HB := Lib.hid (below_al HB.out (.cells (wcells T) 26))
        have cGa := cell_row Ga.out
        have cGt := cell_row Gt.out
        go_wp2_with fail
        refine (S9.out _).mono ?_
        rintro e w5 ⟨rp, rfl, hr, hb⟩
        clear cGa cGt
        replace HB := Lib.hid (below_then HB.out hb)
        replace Ga := Lib.hid ((hb.block _ (lt_of_heap Ga.out)).trans Ga.out)
        replace Gt := Lib.hid ((hb.block _ (lt_of_heap Gt.out)).trans Gt.out)
        have Rp := Lib.hid hr
        clear hr hb
        have HO2 := Lib.hid (lt_of_heap Gt.out)
        replace Ga := Lib.hid (keepAl (o' := .cells (wcells 1) 26) Ga.out)
        replace Gt := Lib.hid (keepAl (o' := .cells (wcells 1) 26) Gt.out)
        have Go := Lib.hid (alloc_new (w5) (.cells (wcells 1) 26))
        replace HB := Lib.hid (below_al HB.out (.cells (wcells 1) 26))
        have cGa := cell_row Ga.out
        have cGt := cell_row Gt.out
        have cGo := cell_row Go.out
        go_wp2_with fail
        clear cGa cGt cGo
        have ho1 := HO1.out; have ho2 := HO2.out
        go_loopw [11, 13, 14] (fun _s11 s13 s14 wr => ∃ k : Nat, s14 = .int .i64 k ∧ k ≤ N ∧ s13 = .bool (pwF a k) ∧ Hid (Below w.heap.size w wr) ∧ Hid (wr.heap[w.heap.size]? = some (.cells (wcells a) 26 (0, 0))) ∧ Hid (wr.heap[w4.heap.size]? = some (.cells (wcells T) 26 (0, 0))) ∧ Hid (wr.heap[w5.heap.size]? = some (.cells (wcells (pwV a k)) 26 (0, 0)))) (fun _ _ s14 _ => N - (intOf s14).toNat)
        case atStart => exact ⟨0, rfl, Nat.zero_le _, rfl, HB, Ga, Gt, Go⟩
        case round =>
          clear HB Ga Gt Go
          obtain ⟨i, rfl, hi, rfl, HB, Ga, Gt, Go⟩ := hrel
          by_cases hlt : i < N
          · have e1 : (i : Int) < (N : Int) := by omega
            have hVM := pwV_lt a i
            have T1 := Lib.hid (fun w' => SB.out (pwV a i) hVM w')
            have T2 := Lib.hid (fun w' => SB.out a HMa.out w')
            have T3 := Lib.hid (fun v v2 w' h h' => SM.out i v v2 w' h h')
            have T4 := Lib.hid (fun v w' h => SW.out i v w' h)
            have HVs := Lib.hid (show pwV a (i + 1) = pwV a i * a % M from rfl)
            have HF := Lib.hid (show pwF a (i + 1) = (pwF a i && decide (pwV a i * a < M)) from rfl)
            have hnl : decide (M ≤ pwV a i * a) = !decide (pwV a i * a < M) := by by_cases h : pwV a i * a < M <;> simp [h] <;> omega
            rw [hnl, ← HVs.out] at T4
            obtain ⟨V, hV⟩ : ∃ V, V = pwV a i := ⟨_, rfl⟩
            obtain ⟨V2, hV2⟩ : ∃ V, V = pwV a (i + 1) := ⟨_, rfl⟩
            obtain ⟨f, hf⟩ : ∃ f, f = decide (pwV a i * a < M) := ⟨_, rfl⟩
            rw [← hf] at T4 HF
            rw [← hV2] at T4
            rw [← hV] at T1 T3 T4 Go hVM
            obtain ⟨pr, hpr⟩ : ∃ V3, V3 = V * a := ⟨_, rfl⟩
            rw [← hpr] at T3 T4
            obtain ⟨F, hF⟩ : ∃ F, F = pwF a i := ⟨_, rfl⟩
            rw [← hF] at HF ⊢
            have HV2 := Lib.hid hV2; have HLT := Lib.hid hlt; have HVM := Lib.hid hVM
            clear hV hV2 hf hF hpr hlt hi hnl HVs hVM
            go_upto_region 14 with fail
            go_cut [11] (fun s11 wx => IsBig wx s11 pr ∧ wx.heap[w.heap.size]? = some (.cells (wcells a) 26 (0, 0)) ∧ wx.heap[w4.heap.size]? = some (.cells (wcells T) 26 (0, 0)) ∧ wx.heap[w5.heap.size]? = some (.cells (wcells V) 26 (0, 0)) ∧ Below w.heap.size w wx)
            case first =>
              have k0 := cell_row Ga.out
              have k1 := cell_row Go.out
              have HB := Lib.hid HB.out.drew
              have HA0 := Lib.hid (show wr.drew.heap[w.heap.size]? = some (.cells (wcells a) 26 (0, 0)) from Ga.out)
              have HA1 := Lib.hid (show wr.drew.heap[w5.heap.size]? = some (.cells (wcells V) 26 (0, 0)) from Go.out)
              have HA2 := Lib.hid (show wr.drew.heap[w4.heap.size]? = some (.cells (wcells T) 26 (0, 0)) from Gt.out)
              go_region_held3 (fun w' => (∀ j, w'.cell? ⟨w.heap.size, j, none⟩ = (wcells a)[j]?) ∧ (∀ j, w'.cell? ⟨w5.heap.size, j, none⟩ = (wcells V)[j]?))
                (first
                  | (go_keep; done)
                  | (go_split_ands
                     refine ⟨keepRow hb ?_, keepRow hb ?_⟩ <;> assumption))
                (first
                  | (go_at_call 32
                     first
                       | with_reducible refine (T1.out _).mono ?_
                       | with_reducible refine (T2.out _).mono ?_
                     rintro e wA ⟨rA, rfl, hr, hb⟩
                     have HB := Lib.hid (below_then HB.out hb)
                     (try have RA := Lib.hid (RA.out.below hb))
                     (try have RB := Lib.hid (RB.out.below hb))
                     have HA0 := Lib.hid ((hb.block _ (lt_of_heap HA0.out)).trans HA0.out)
                     have HA1 := Lib.hid ((hb.block _ (lt_of_heap HA1.out)).trans HA1.out)
                     have HA2 := Lib.hid ((hb.block _ (lt_of_heap HA2.out)).trans HA2.out)
                     first | have RA : Hid (IsBig wA rA V) := Lib.hid hr | have RB : Hid (IsBig wA rA a) := Lib.hid hr)
                  | (go_at_call 73
                     refine (T3.out _ _ _ RA.out RB.out).mono ?_
                     rintro e wA ⟨rM, rfl, hr, hb⟩
                     have HB := Lib.hid (below_then HB.out hb)
                     have HA0 := Lib.hid ((hb.block _ (lt_of_heap HA0.out)).trans HA0.out)
                     have HA1 := Lib.hid ((hb.block _ (lt_of_heap HA1.out)).trans HA1.out)
                     have HA2 := Lib.hid ((hb.block _ (lt_of_heap HA2.out)).trans HA2.out)
                     have RM := Lib.hid hr))
              all_goals (go_wp2; go_meet; exact ⟨RM.out, HA0.out, HA2.out, HA1.out, HB.out⟩)
            case rest =>
              obtain ⟨hx, hg1, hg2, hg3, hbw⟩ := hcut
              have RM := Lib.hid hx
              replace Ga := Lib.hid hg1; replace Gt := Lib.hid hg2; replace Go := Lib.hid hg3; replace HB := Lib.hid hbw
              clear hx hg1 hg2 hg3 hbw
              have cGa := cell_row Ga.out
              have cGt := cell_row Gt.out
              have cGo := cell_row Go.out
              go_wp2_with fail
              refine (T4.out _ _ RM.out).mono ?_
              rintro e w6 ⟨rfl, hb⟩
              clear cGa cGt cGo
              replace HB := Lib.hid (below_then HB.out hb)
              replace Ga := Lib.hid ((hb.block _ (lt_of_heap Ga.out)).trans Ga.out)
              replace Gt := Lib.hid ((hb.block _ (lt_of_heap Gt.out)).trans Gt.out)
              replace Go := Lib.hid ((hb.block _ (lt_of_heap Go.out)).trans Go.out)
              replace RM := Lib.hid (RM.out.below hb)
              clear hb
              have HO3 := Lib.hid (lt_of_heap Go.out)
              replace Ga := Lib.hid (keepAl (o' := .cells (wcells V2) 26) Ga.out)
              replace Gt := Lib.hid (keepAl (o' := .cells (wcells V2) 26) Gt.out)
              replace Go := Lib.hid (keepAl (o' := .cells (wcells V2) 26) Go.out)
              have Gn := Lib.hid (alloc_new (w6) (.cells (wcells V2) 26))
              replace HB := Lib.hid (below_al HB.out (.cells (wcells V2) 26))
              have sto := st_row (P := Try.prog) Go.out rfl (V2)
              replace Ga := Lib.hid ((setRow_other ((w6).alloc (.cells (wcells V2) 26)) (w5.heap.size) _ (wcells (V2)) (by (have := HO3.out; omega))).trans Ga.out)
              replace Gt := Lib.hid ((setRow_other ((w6).alloc (.cells (wcells V2) 26)) (w5.heap.size) _ (wcells (V2)) (by (have := HO3.out; omega))).trans Gt.out)
              replace Gn := Lib.hid ((setRow_other ((w6).alloc (.cells (wcells V2) 26)) (w5.heap.size) _ (wcells (V2)) (by (have := HO3.out; omega))).trans Gn.out)
              replace Go := Lib.hid (setRow_heap ((w6).alloc (.cells (wcells V2) 26)) (w5.heap.size) _ (wcells (V2)) _ _ Go.out)
              replace HB := Lib.hid (below_setRow' HB.out (show _ ≤ w5.heap.size by (have := HO3.out; omega)) (wcells (V2)))
              cases F <;> cases f
              all_goals
                go_wp2
                go_roundw
                case rel => exact ⟨i + 1, by go_num, HLT.out, by rw [HF.out]; rfl, HB, Ga, Gt, by rw [← HV2.out]; exact Go⟩
                case measure => have := HLT.out; simp [intOf]; omega
          · obtain rfl : i = N := by omega
            have e1 : ¬ (i : Int) < (i : Int) := by omega
            obtain ⟨V, hV⟩ : ∃ V, V = pwV a i := ⟨_, rfl⟩
            obtain ⟨F, hF⟩ : ∃ F, F = pwF a i := ⟨_, rfl⟩
            rw [← hV] at Go
            rw [← hV, ← hF] at SP
            rw [← hF]
            clear hlt hi hV hF SM SW SB
            have cGa := cell_row Ga.out
            have cGt := cell_row Gt.out
            have cGo := cell_row Go.out
            go_wp2_with fail
            refine (SP.out _).mono ?_
            rintro e w7 ⟨rfl, hb⟩
            clear cGa cGt cGo
            replace HB := Lib.hid (below_then HB.out hb)
            replace Ga := Lib.hid ((hb.block _ (lt_of_heap Ga.out)).trans Ga.out)
            replace Gt := Lib.hid ((hb.block _ (lt_of_heap Gt.out)).trans Gt.out)
            replace Go := Lib.hid ((hb.block _ (lt_of_heap Go.out)).trans Go.out)
            clear hb
            replace Ga := Lib.hid (keepAl (o' := .cells (wcells V) 26) Ga.out)
            replace Gt := Lib.hid (keepAl (o' := .cells (wcells V) 26) Gt.out)
            replace Go := Lib.hid (keepAl (o' := .cells (wcells V) 26) Go.out)
            have Gp := Lib.hid (alloc_new (w7) (.cells (wcells V) 26))
            replace HB := Lib.hid (below_al HB.out (.cells (wcells V) 26))
            have cGa := cell_row Ga.out
            have cGt := cell_row Gt.out
            have cGo := cell_row Go.out
            have cGp := cell_row Gp.out
            go_wp2_with fail
            refine (SQ.out _).mono ?_
            rintro e w8 ⟨rfl, hb⟩
            clear cGa cGt cGo cGp
            replace HB := Lib.hid (below_then HB.out hb)
            replace Ga := Lib.hid ((hb.block _ (lt_of_heap Ga.out)).trans Ga.out)
            replace Gt := Lib.hid ((hb.block _ (lt_of_heap Gt.out)).trans Gt.out)
            replace Go := Lib.hid ((hb.block _ (lt_of_heap Go.out)).trans Go.out)
            replace Gp := Lib.hid ((hb.block _ (lt_of_heap Gp.out)).trans Gp.out)
            clear hb
            replace Ga := Lib.hid (keepAl (o' := .cells (wcells 1) 26) Ga.out)
            replace Gt := Lib.hid (keepAl (o' := .cells (wcells 1) 26) Gt.out)
            replace Go := Lib.hid (keepAl (o' := .cells (wcells 1) 26) Go.out)
            replace Gp := Lib.hid (keepAl (o' := .cells (wcells 1) 26) Gp.out)
            have Gz := Lib.hid (alloc_new (w8) (.cells (wcells 1) 26))
            replace HB := Lib.hid (below_al HB.out (.cells (wcells 1) 26))
            have cGa := cell_row Ga.out
            have cGt := cell_row Gt.out
            have cGo := cell_row Go.out
            have cGp := cell_row Gp.out
            have cGz := cell_row Gz.out
            go_upto_region 19 with fail
            clear cGa cGt cGo cGp cGz
            cases F
            all_goals
              obtain ⟨w9, hw⟩ : ∃ wx, wx = (w8).alloc (.cells (wcells 1) 26) := ⟨_, rfl⟩
              rw [← hw] at Ga Gt Go Gp Gz HB ⊢
              clear hw
              have xGa := ext_row (B := w9.heap.size) Ga.out (lt_of_heap Ga.out)
              have xGt := ext_row (B := w9.heap.size) Gt.out (lt_of_heap Gt.out)
              have xGo := ext_row (B := w9.heap.size) Go.out (lt_of_heap Go.out)
              have xGp := ext_row (B := w9.heap.size) Gp.out (lt_of_heap Gp.out)
              have xGz := ext_row (B := w9.heap.size) Gz.out (lt_of_heap Gz.out)
              refine wp_region_ext w9.heap.size (by kernel_rfl) (by kernel_rfl) ?_
              repeat (go_big_quiet_step (first | (go_at_call 95; with_reducible exact Calls.quiet_ext (Nat.le_refl _) (S3.out _ (ext_wides HV.out HB.out _))) | (go_at_call 69; with_reducible exact Calls.quiet_ext (Nat.le_refl _) (SA.out _))))
              refine wpQuiet_nil ?_
              intro w10 hb
              clear xGa xGt xGo xGp xGz
              replace HB := Lib.hid (below_then HB.out hb)
              replace Ga := Lib.hid ((hb.block _ (lt_of_heap Ga.out)).trans Ga.out)
              replace Gt := Lib.hid ((hb.block _ (lt_of_heap Gt.out)).trans Gt.out)
              replace Go := Lib.hid ((hb.block _ (lt_of_heap Go.out)).trans Go.out)
              replace Gp := Lib.hid ((hb.block _ (lt_of_heap Gp.out)).trans Gp.out)
              replace Gz := Lib.hid ((hb.block _ (lt_of_heap Gz.out)).trans Gz.out)
              clear hb
              go_wp2
              go_ret
              exact ⟨rfl, HB.out⟩
end Go.Proofs.Ytenkaobgoknlhaa
