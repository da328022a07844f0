/- THE WALK of root2's steps, with any function that takes them. -/
import Derived.Test.YtenkaobgoknlhaaRt2N
import Derived.Test.YtenkaobgoknlhaaR2c
import Derived.Test.YtenkaobgoknlhaaLoose3
namespace Go.Proofs.Ytenkaobgoknlhaa
open Go Go.RowKit

/-- The digit that comes next; what is left behind i digits. -/
def rdgN (n i : Nat) : Nat := rtN 2 n / P2 (127 - i) % 2
def rlfN (n i : Nat) : Nat := n - rtT (rtN 2 n) (128 - i) * rtT (rtN 2 n) (128 - i)
theorem rlf_le (n i : Nat) : rlfN n i ≤ n := Nat.sub_le _ _
theorem rdg_le1 (n i : Nat) : rdgN n i ≤ 1 := by unfold rdgN; omega
theorem rlf_start {n : Nat} (h : n < P2 256) : rlfN n 0 = n := by
  unfold rlfN
  rw [show 128 - 0 = 128 from rfl, rtT_top (rt_lt h), Nat.mul_zero, Nat.sub_zero]
theorem rlf_end (n : Nat) : rlfN n 128 = n - rtN 2 n * rtN 2 n := by unfold rlfN; rw [show 128 - 128 = 0 from rfl, rtT_zero]

theorem But.extR {S : Nat → Prop} {w0 w : World} {R : List Aim} (h : But S w0 w) (x : ExtR w.heap.size R w) (hS : ∀ r ∈ R, S r.block) : But S w0 x.val :=
  h.trans ⟨x.os, x.tape, x.output, x.size, fun k hk hs => x.block k hk fun r hr e => hs (by rw [e]; exact hS r hr)⟩
attribute [local go_sem ↓] Go.wp_at_zero Go.wp_at_succ
set_option maxRecDepth 100000 in
set_option maxHeartbeats 4000000 in
theorem runR_any (f : FuncId) (caps : Array Value) (n : Nat) (Inv : Nat → World → Prop) (w : World) (hn : n < P2 256) (hcall : Enters Try.prog f)
    (hst : ∀ i w1 w2, Inv i w1 → But (fun k => k = w.heap.size + 1 ∨ k = w.heap.size + 2) w1 w2 → Inv i w2)
    (hdo : ∀ i w', i < 128 → w.heap.size + 3 ≤ w'.heap.size → Inv i w' → Calls Try.prog f (#[.int .i64 (rdgN n i : Nat), wv (rlfN n (i + 1))] ++ caps) w' fun e w'' => e = .returned (.tuple #[]) ∧ Inv (i + 1) w'' ∧ But (fun k => ¬ (k = w.heap.size ∨ k = w.heap.size + 1 ∨ k = w.heap.size + 2)) w' w'')
    (h0 : Inv 0 w) :
    Calls Try.prog 142 #[wv n, .func (.func f) #[] caps] w fun e w' => e = .returned (.tuple #[]) ∧ Inv 128 w' ∧ w.heap.size ≤ w'.heap.size := by
  unfold Enters at hcall
  have HN := Lib.hid hn; have HST := Lib.hid hst; have HDO := Lib.hid hdo; have H0 := Lib.hid h0
  clear hn hst hdo h0
  go_enter Try.func142, Try.ntmps142
  have HB := Lib.hid (Below.refl w.heap.size w)
  have Gn := Lib.hid (alloc_new (w) (.cells (wcells n) 26))
  replace HB := Lib.hid (below_al HB.out (.cells (wcells n) 26))
  have HBut : Hid (But (fun k => k = w.heap.size + 1 ∨ k = w.heap.size + 2) w (w.alloc (.cells (wcells n) 26))) := Lib.hid ((But.refl _ w).al _)
  go_upto_region 1 with fail
  have hsz : (w.alloc (.cells (wcells n) 26)).heap.size = w.heap.size + 1 := by simp
  obtain ⟨w0, hw⟩ : ∃ wx, wx = (w.alloc (.cells (wcells n) 26)) := ⟨_, rfl⟩
  rw [← hw] at Gn HB HBut hsz ⊢
  clear hw
  have HSZ := Lib.hid hsz
  clear hsz
  have q1 := cell_row Gn.out
  replace Gn := Lib.hid (keepAl (o' := .cells (wcells n) 26) Gn.out)
  have Gl := Lib.hid (alloc_new (w0) (.cells (wcells n) 26))
  replace HB := Lib.hid (below_al HB.out (.cells (wcells n) 26))
  replace Gn := Lib.hid (keepAl (o' := .cells (wcells 0) 26) Gn.out)
  replace Gl := Lib.hid (keepAl (o' := .cells (wcells 0) 26) Gl.out)
  have Gt := Lib.hid (alloc_new' (w := (w0).alloc (.cells (wcells n) 26)) (n := w0.heap.size + 1) (.cells (wcells 0) 26) (by simp))
  replace HB := Lib.hid (below_al HB.out (.cells (wcells 0) 26))
  go_wp2
  rw [HSZ.out] at Gl Gt ⊢
  clear HSZ
  go_loopw [6] (fun s6 wr => ∃ i : Nat, s6 = .int .i64 (127 - (i : Int)) ∧ i ≤ 128 ∧ Hid (Inv i wr) ∧ Hid (wr.heap[w.heap.size]? = some (.cells (wcells n) 26 (0, 0))) ∧ Hid (wr.heap[w.heap.size + 1]? = some (.cells (wcells (rlfN n i)) 26 (0, 0))) ∧ Hid (wr.heap[w.heap.size + 1 + 1]? = some (.cells (wcells (2 * rtT (rtN 2 n) (128 - i))) 26 (0, 0)))) (fun s6 _ => (intOf s6 + 1).toNat)
  case atStart =>
    refine ⟨0, rfl, by omega, Lib.hid (HST.out 0 w _ H0.out ((HBut.out.al _).al _)), Gn, ?_, ?_⟩
    · rw [rlf_start HN.out]; exact Gl
    · rw [show 128 - 0 = 128 from rfl, rtT_top (rt_lt HN.out)]; exact Gt
  case round =>
    clear HB Gn Gl Gt HBut
    obtain ⟨i, rfl, hi, HI, Gn, Gl, Gt⟩ := hrel
    by_cases hlt : i < 128
    · obtain ⟨T, hT⟩ : ∃ T : Nat, T = 127 - i := ⟨_, rfl⟩
      have eT : 127 - (i : Int) = (T : Int) := by omega
      have hK : 128 - i = T + 1 := by omega
      have hS := rt_lt HN.out
      obtain ⟨st1, st2, st3⟩ := rt_step n T
      have hdg : rdgN n i = rtN 2 n / P2 T % 2 := by unfold rdgN; rw [hT]
      have hr1 : rlfN n i = n - rtT (rtN 2 n) (T + 1) * rtT (rtN 2 n) (T + 1) := by unfold rlfN; rw [hK]
      have hr2 : rlfN n (i + 1) = n - rtT (rtN 2 n) T * rtT (rtN 2 n) T := by unfold rlfN; rw [show 128 - (i + 1) = T by omega]
      have ht := rtT_le (rtN 2 n) (T + 1)
      have HNT0 := Lib.hid (show 128 - (i + 1) = T by omega)
      rw [hr1] at Gl
      rw [hK] at Gt
      obtain ⟨t0, ht0⟩ : ∃ t, t = rtT (rtN 2 n) (T + 1) := ⟨_, rfl⟩
      rw [← ht0] at st1 st2 st3 ht Gl Gt
      obtain ⟨L, hL⟩ : ∃ L, L = n - t0 * t0 := ⟨_, rfl⟩
      rw [← hL] at st1 st2 Gl
      obtain ⟨W2, hW2⟩ : ∃ W, W = 2 * t0 := ⟨_, rfl⟩
      rw [← hW2] at st1 st2 Gt
      have h129 : W2 < P2 129 := by rw [show 129 = 128 + 1 from rfl, P2_twice]; omega
      have hMb : P2 256 < M := by rw [M_eq]; exact P2_lt (by omega)
      have hLM : L < M := by have := HN.out; omega
      have hA : W2 * P2 T < P2 256 := by
        have h1 := Nat.mul_lt_mul_of_pos_right h129 (P2_pos T)
        rw [← P2_add] at h1
        exact Nat.lt_of_lt_of_le h1 (P2_le (by omega))
      have hB : P2 (2 * T) ≤ P2 254 := P2_le (by omega)
      have h254 : P2 254 < P2 256 := P2_lt (by omega)
      have h257 : P2 256 + P2 256 < M := by
        have : P2 257 = P2 256 * 2 := P2_twice 256
        have h3 : P2 257 < M := by rw [M_eq]; exact P2_lt (by omega)
        omega
      have S1 : Hid (∀ w' : World, Calls Try.prog 51 #[wv W2, .int .i64 (T : Int)] w' fun e w'' => e = .returned (wv (W2 * P2 T)) ∧ Below w'.heap.size w' w'') := Lib.hid fun w' => by
        have := shl_any W2 (T : Nat) w' (by omega) (by omega)
        rw [clampN_at (by omega), Nat.mod_eq_of_lt (by omega)] at this
        exact this
      have S2 : Hid (∀ w' : World, Calls Try.prog 45 #[.int .i64 (2 * (T : Int))] w' fun e w'' => e = .returned (wv (P2 (2 * T))) ∧ Below w'.heap.size w' w'') := Lib.hid fun w' => by
        rw [show 2 * (T : Int) = ((2 * T : Nat) : Int) by omega]
        have := power_w ((2 * T : Nat) : Int) w' (by omega) (by omega)
        rwa [powerN_at _ (by omega)] at this
      have S3 : Hid (∀ (v : Value) (w' : World), IsWides w' v [W2 * P2 T, P2 (2 * T)] → Calls Try.prog 95 #[v] w' fun e w'' => e = .returned (wv (W2 * P2 T + P2 (2 * T))) ∧ Below w'.heap.size w' w'') := Lib.hid fun v w' h => by
        have := psum_any v [W2 * P2 T, P2 (2 * T)] w' (fun x hx => by simp at hx; rcases hx with rfl | rfl <;> omega) (by simp) h
        rw [show [W2 * P2 T, P2 (2 * T)].sum = W2 * P2 T + P2 (2 * T) by simp, Nat.mod_eq_of_lt (by omega)] at this
        exact this
      have S4 := Lib.hid (fun w' => sub_w L (W2 * P2 T + P2 (2 * T)) hLM (by omega) w')
      have S5 : Hid (∀ w' : World, Calls Try.prog 45 #[.int .i64 ((T : Int) + 1)] w' fun e w'' => e = .returned (wv (P2 (T + 1))) ∧ Below w'.heap.size w' w'') := Lib.hid fun w' => by
        rw [show (T : Int) + 1 = ((T + 1 : Nat) : Int) by omega]
        have := power_w ((T + 1 : Nat) : Int) w' (by omega) (by omega)
        rwa [powerN_at _ (by omega)] at this
      have h128 : P2 (T + 1) ≤ P2 128 := P2_le (by omega)
      have h129' : P2 129 < P2 256 := P2_lt (by omega)
      have h128' : P2 128 < P2 256 := P2_lt (by omega)
      have S6 : Hid (∀ w' : World, Calls Try.prog 63 #[wv W2, wv (P2 (T + 1))] w' fun e w'' => e = .returned (.tuple #[wv (W2 + P2 (T + 1)), .bool false]) ∧ Below w'.heap.size w' w'') := Lib.hid fun w' => by
        have := add_w W2 (P2 (T + 1)) (by omega) (by omega) w'
        rw [Nat.mod_eq_of_lt (by omega), decide_eq_false (by omega)] at this
        exact this
      have hsub : W2 * P2 T + P2 (2 * T) ≤ L → subN L (W2 * P2 T + P2 (2 * T)) = L - (W2 * P2 T + P2 (2 * T)) := fun h => by
        unfold subN
        rw [show L + M - (W2 * P2 T + P2 (2 * T)) = (L - (W2 * P2 T + P2 (2 * T))) + M by omega, Nat.add_mod_right, Nat.mod_eq_of_lt (by omega)]
      have hP2 : P2 (T + 1) = 2 * P2 T := by rw [P2_twice, Nat.mul_comm]
      obtain ⟨D, hD⟩ : ∃ D, D = W2 * P2 T + P2 (2 * T) := ⟨_, rfl⟩
      rw [← hD] at S3 S4 hsub st1 st2
      obtain ⟨A, hAe⟩ : ∃ A, A = W2 * P2 T := ⟨_, rfl⟩
      rw [← hAe] at S1 S3
      obtain ⟨Bp, hBe⟩ : ∃ A, A = P2 (2 * T) := ⟨_, rfl⟩
      rw [← hBe] at S2 S3
      obtain ⟨V, hV⟩ : ∃ V, V = subN L D := ⟨_, rfl⟩
      obtain ⟨F, hF⟩ : ∃ F, F = decide (L < D) := ⟨_, rfl⟩
      rw [← hV, ← hF] at S4
      rw [← hV] at hsub
      have HST1 := Lib.hid st1; have HST2 := Lib.hid st2; have HST3 := Lib.hid st3
      have HSUB := Lib.hid hsub; have HF := Lib.hid hF; have HLT := Lib.hid hlt; have HR2 := Lib.hid hr2; have HDG0 := Lib.hid hdg
      have HTI := Lib.hid eT.symm; have HW2 := Lib.hid hW2; have HL := Lib.hid hL; have HP2 := Lib.hid hP2; have Ht0 := Lib.hid ht0
      rw [eT]
      have eT0 : (0 : Int) ≤ (T : Int) := Int.natCast_nonneg _
      have eT1 : (T : Int) ≤ 127 := by omega
      have hw2 : IntKind.i64.wrap (2 * (T : Int)) = 2 * (T : Int) := IntWalk.i64_in _ (by omega)
      have hw3 : IntKind.i64.wrap ((T : Int) + 1) = (T : Int) + 1 := IntWalk.i64_in _ (by omega)
      have UB := Lib.hid (But.refl (fun k => k = w.heap.size + 1 ∨ k = w.heap.size + 1 + 1) wr)
      have HZ := Lib.hid (lt_of_heap Gt.out)
      clear hT eT hK hS st1 st2 st3 hdg hr1 hr2 ht ht0 hL hW2 h129 hMb hLM hA hB h254 h257 h128 h129' h128' hsub hP2 hD hAe hBe hV hF hlt hi
      have cGn := cell_row Gn.out
      have cGl := cell_row Gl.out
      have cGt := cell_row Gt.out
      go_upto_region 5 with fail
      clear cGn cGl cGt
      have xGn := ext_row (B := wr.heap.size) Gn.out (lt_of_heap Gn.out)
      have xGl := ext_row (B := wr.heap.size) Gl.out (lt_of_heap Gl.out)
      have xGt := ext_row (B := wr.heap.size) Gt.out (lt_of_heap Gt.out)
      apply wp_region_loose (looseR [_, _, _, _, _, _, _, _, _, _, _, _, _, Lft.val undef, Lft.val undef, _]) (pureL [10, 11, 12, 15])
      · kernel_rfl
      · kernel_rfl
      · kernel_rfl
      · exact allocs_ok [26] rfl (by intro T hT; simp only [List.mem_cons, List.not_mem_nil, or_false] at hT; subst hT; exact makes_wide)
      · exact looseR_st _
      · change wpL _ _ _ _ _ _ _ 16 0 _ _
        refine wpL_calm wr rfl rfl rfl rfl (fun K hK K0 hK0 => ?_)
        go_simp
        first | refine hK _ _ rfl rfl ?_ | refine hK0 _ rfl ?_
        clear hK hK0 K K0
        refine wpL_calm wr rfl rfl rfl rfl (fun K hK K0 hK0 => ?_)
        go_simp
        first | refine hK _ _ rfl rfl ?_ | refine hK0 _ rfl ?_
        clear hK hK0 K K0
        refine wpL_calm wr rfl rfl rfl rfl (fun K hK K0 hK0 => ?_)
        go_simp
        first | refine hK _ _ rfl rfl ?_ | refine hK0 _ rfl ?_
        clear hK hK0 K K0
        refine wpL_calm wr rfl rfl rfl rfl (fun K hK K0 hK0 => ?_)
        go_simp
        apply Exists.intro
        apply And.intro
        · intro x
          go_at_call 51
          with_reducible exact S1.out _
        refine hK _ _ rfl rfl ?_
        clear hK hK0 K K0
        refine wpL_calm wr rfl rfl rfl rfl (fun K hK K0 hK0 => ?_)
        go_simp
        first | refine hK _ _ rfl rfl ?_ | refine hK0 _ rfl ?_
        clear hK hK0 K K0
        refine wpL_calm wr rfl rfl rfl rfl (fun K hK K0 hK0 => ?_)
        go_simp
        first | refine hK _ _ rfl rfl ?_ | refine hK0 _ rfl ?_
        clear hK hK0 K K0
        refine wpL_calm wr rfl rfl rfl rfl (fun K hK K0 hK0 => ?_)
        go_simp
        apply Exists.intro
        apply And.intro
        · intro x
          go_at_call 45
          with_reducible exact S2.out _
        refine hK _ _ rfl rfl ?_
        clear hK hK0 K K0
        refine wpL_row wr (fun g => .slice (some ⟨g, 0, none⟩) 2 2) (.cells (w16 A Bp) 26) (fun _ => rfl) rfl rfl rfl rfl (by first | rfl | go_simp) rfl (by rintro w' ⟨x, rfl⟩; go_simp) (fun g7 => ?_)
        refine wpL_call (Lft.val (wv D)) (val_some wr _) rfl rfl rfl rfl (by first | rfl | go_simp) rfl (fun w' hC hF => ?_) (fun v8 hv8 => ?_)
        · obtain ⟨x, rfl⟩ := hC
          go_simp
          go_at_call 95
          exact val_loose (S3.out _ _ (isWides2 (hF 7 _ 23 rfl rfl rfl rfl (by decide)).2))
        obtain ⟨_, rfl⟩ := hv8
        refine wpL_calm wr rfl rfl rfl rfl (fun K hK K0 hK0 => ?_)
        go_simp
        apply Exists.intro
        apply And.intro
        · intro x
          go_at_call 64
          with_reducible exact S4.out _
        refine hK _ _ rfl rfl ?_
        clear hK hK0 K K0
        refine wpL_pure wr rfl rfl rfl rfl (fun K hK K0 hK0 => ?_)
        go_simp
        first | refine hK _ _ rfl rfl ?_ | refine hK0 _ rfl ?_
        clear hK hK0 K K0
        refine wpL_pure wr rfl rfl rfl rfl (fun K hK K0 hK0 => ?_)
        go_simp
        first | refine hK _ _ rfl rfl ?_ | refine hK0 _ rfl ?_
        clear hK hK0 K K0
        refine wpL_pure wr rfl rfl rfl rfl (fun K hK K0 hK0 => ?_)
        go_simp
        first | refine hK _ _ rfl rfl ?_ | refine hK0 _ rfl ?_
        clear hK hK0 K K0
        refine wpL_alloc rfl rfl rfl rfl (fun g13 hg13 => ?_)
        refine wpL_store rfl rfl ?_
        refine wpL_pure wr rfl rfl rfl rfl (fun K hK K0 hK0 => ?_)
        go_simp
        first | refine hK _ _ rfl rfl ?_ | refine hK0 _ rfl ?_
        clear hK hK0 K K0
        refine wpL_nil (endL [(26, .tmp 7, .tmp 26)] rfl (by intro q hq; simp only [List.mem_cons, List.not_mem_nil, or_false] at hq; subst hq; exact fits_wv (by kernel_rfl) _) (fun w1 hb hst hap hfin => ?_))
        have Gs : Hid (w1.heap[g13]? = some (.cells (wcells (V)) 26 (0, 0))) := Lib.hid (hst 14 _ _ _ _ g13 rfl rfl rfl)
        replace UB := Lib.hid (UB.out.trans (But.of_below hb))
        replace Gn := Lib.hid ((hb.block _ (lt_of_heap Gn.out)).trans Gn.out)
        replace Gl := Lib.hid ((hb.block _ (lt_of_heap Gl.out)).trans Gl.out)
        replace Gt := Lib.hid ((hb.block _ (lt_of_heap Gt.out)).trans Gt.out)
        clear hb hst hap hfin xGn xGl xGt
        have hgz := HZ.out
        rcases (show (F = false ∧ D ≤ L) ∨ (F = true ∧ ¬ D ≤ L) by
          rw [HF.out]
          rcases Nat.lt_or_ge L D with h | h
          · right; exact ⟨decide_eq_true h, by omega⟩
          · left; exact ⟨decide_eq_false (by omega), h⟩) with ⟨rfl, hle⟩ | ⟨rfl, hle⟩
        · skip
          obtain ⟨r1, r2, r3⟩ := HST2.out (HST1.out.1 hle)
          have HX : Hid (V = rlfN n (i + 1)) := Lib.hid (by rw [HR2.out, r3, HSUB.out hle])
          have HDG : Hid (rdgN n i = 1) := Lib.hid (by rw [HDG0.out, r2])
          have HNT : Hid (W2 + P2 (T + 1) = 2 * rtT (rtN 2 n) (128 - (i + 1))) := Lib.hid (by rw [HNT0.out, r1, HP2.out, HW2.out]; omega)
          obtain ⟨NT, hNT⟩ : ∃ NT, NT = W2 + P2 (T + 1) := ⟨_, rfl⟩
          rw [← hNT] at S6 HNT
          obtain ⟨Pw, hPw⟩ : ∃ Pw, Pw = P2 (T + 1) := ⟨_, rfl⟩
          rw [← hPw] at S5 S6
          obtain ⟨X, hX⟩ : ∃ X, X = V := ⟨_, rfl⟩
          rw [← hX] at HX Gs
          clear r1 r2 r3 hle hNT hPw hX HST1 HST2 HST3 HSUB HR2 HDG0 HNT0 HP2 HW2 HL Ht0 HF S1 S2 S3 S4
          have q2 := cell_row Gs.out
          have stl := st_row (P := Try.prog) Gl.out rfl (X)
          replace Gn := Lib.hid ((setRow_other (w1) (w.heap.size + 1) _ (wcells (X)) (by (omega))).trans Gn.out)
          replace Gt := Lib.hid ((setRow_other (w1) (w.heap.size + 1) _ (wcells (X)) (by (omega))).trans Gt.out)
          replace Gs := Lib.hid ((setRow_other (w1) (w.heap.size + 1) _ (wcells (X)) (by (omega))).trans Gs.out)
          replace Gl := Lib.hid (setRow_heap (w1) (w.heap.size + 1) _ (wcells (X)) _ _ Gl.out)
          replace UB := Lib.hid (But.row UB.out (by first | exact Or.inl rfl | exact Or.inr rfl) (wcells (X)))
          have cGn := cell_row Gn.out
          have cGl := cell_row Gl.out
          have cGt := cell_row Gt.out
          have cGs := cell_row Gs.out
          go_upto_region 9 with fail
          clear cGn cGl cGt cGs stl
          clear q2
          obtain ⟨wK, hw⟩ : ∃ wx, wx = (w1).setRow (w.heap.size + 1) (wcells (X)) := ⟨_, rfl⟩
          rw [← hw] at Gn Gl Gt Gs UB ⊢
          clear hw
          go_cut [] (fun wx => wx.heap[w.heap.size]? = some (.cells (wcells n) 26 (0, 0)) ∧ wx.heap[w.heap.size + 1]? = some (.cells (wcells X) 26 (0, 0)) ∧ wx.heap[w.heap.size + 1 + 1]? = some (.cells (wcells NT) 26 (0, 0)) ∧ But (fun k => k = w.heap.size + 1 ∨ k = w.heap.size + 1 + 1) wr wx)
          case first =>
            have k0 : ∀ j, wK.drew.cell? ⟨w.heap.size + 1 + 1, j, none⟩ = (wcells W2)[j]? := cell_row Gt.out
            have UL := Lib.hid UB.out.drew
            have A0 := Lib.hid (show wK.drew.heap[w.heap.size]? = some (.cells (wcells n) 26 (0, 0)) from Gn.out)
            have A1 := Lib.hid (show wK.drew.heap[w.heap.size + 1]? = some (.cells (wcells X) 26 (0, 0)) from Gl.out)
            have A2 := Lib.hid (show wK.drew.heap[w.heap.size + 1 + 1]? = some (.cells (wcells W2) 26 (0, 0)) from Gt.out)
            go_region_with
              (first
                | (go_at_call 45
                   refine (S5.out _).mono ?_
                   rintro e wA ⟨rfl, hb⟩
                   have A0 := Lib.hid ((hb.block _ (lt_of_heap A0.out)).trans A0.out)
                   have A1 := Lib.hid ((hb.block _ (lt_of_heap A1.out)).trans A1.out)
                   have A2 := Lib.hid ((hb.block _ (lt_of_heap A2.out)).trans A2.out)
                   have UL := Lib.hid (UL.out.trans (But.of_below hb))
                   have cA := cell_row A2.out
                   clear hb)
                | (go_at_call 63
                   refine (S6.out _).mono ?_
                   rintro e wB ⟨rfl, hb⟩
                   have A0 := Lib.hid ((hb.block _ (lt_of_heap A0.out)).trans A0.out)
                   have A1 := Lib.hid ((hb.block _ (lt_of_heap A1.out)).trans A1.out)
                   have A2 := Lib.hid ((hb.block _ (lt_of_heap A2.out)).trans A2.out)
                   have UL := Lib.hid (UL.out.trans (But.of_below hb))
                   have st := st_row (P := Try.prog) A2.out rfl NT
                   clear hb))
            all_goals
              go_wp2
              go_meet
              exact ⟨(setRow_other _ _ _ _ (by omega)).trans A0.out, (setRow_other _ _ _ _ (by omega)).trans A1.out, setRow_heap _ _ _ _ _ _ A2.out, But.row UL.out (by exact Or.inr rfl) _⟩
          case rest =>
          obtain ⟨hg1, hg2, hg3, hbu⟩ := hcut
          replace Gn := Lib.hid hg1; replace Gl := Lib.hid hg2; replace Gt := Lib.hid hg3; replace UB := Lib.hid hbu
          clear hg1 hg2 hg3 hbu Gs
          have cGn := cell_row Gn.out
          have cGl := cell_row Gl.out
          have cGt := cell_row Gt.out
          have HIN : Hid (Inv i wc) := Lib.hid (HST.out i wr _ HI.out UB.out)

          have HW := Lib.hid (show w.heap.size + 3 ≤ wc.heap.size by have := lt_of_heap Gt.out; omega)
          have SI : Hid (Calls Try.prog f (#[.int .i64 1, wv X] ++ caps) wc fun e w'' => e = .returned (.tuple #[]) ∧ Inv (i + 1) w'' ∧ But (fun k => ¬ (k = w.heap.size ∨ k = w.heap.size + 1 ∨ k = w.heap.size + 2)) wc w'') := Lib.hid (by
            have := HDO.out i wc HLT.out HW.out HIN.out
            rw [HDG.out, ← HX.out] at this
            exact this)
          go_wp2_with fail
          refine SI.out.mono ?_
          rintro e wE ⟨rfl, hI, hb⟩
          have HI4 := Lib.hid hI
          have Gn4 := Lib.hid (hb.heap Gn.out (fun h => h (Or.inl rfl)))
          have Gl4 := Lib.hid (hb.heap Gl.out (fun h => h (Or.inr (Or.inl (by omega)))))
          have Gt4 := Lib.hid (hb.heap Gt.out (fun h => h (Or.inr (Or.inr (by omega)))))
          clear hb hI
          rw [HX.out] at Gl4
          rw [HNT.out] at Gt4
          have hw1 : IntKind.i64.wrap ((T : Int) - 1) = (T : Int) - 1 := IntWalk.i64_in _ (by omega)
          go_wp2
          go_roundw
          case rel => exact ⟨i + 1, by congr 1; have := HTI.out; omega, HLT.out, HI4, Gn4, Gl4, Gt4⟩
          case measure => have := HTI.out; have := HLT.out; simp [intOf]; (try omega)
        · skip
          obtain ⟨r1, r2⟩ := HST3.out (fun h => hle (HST1.out.2 h))
          have HX : Hid (L = rlfN n (i + 1)) := Lib.hid (by rw [HR2.out, r1, HL.out])
          have HDG : Hid (rdgN n i = 0) := Lib.hid (by rw [HDG0.out, r2])
          have HNT : Hid (W2 = 2 * rtT (rtN 2 n) (128 - (i + 1))) := Lib.hid (by rw [HNT0.out, r1, HW2.out])
          obtain ⟨X, hX⟩ : ∃ X, X = L := ⟨_, rfl⟩
          rw [← hX] at HX Gl
          clear r1 r2 hle hX HST1 HST2 HST3 HSUB HR2 HDG0 HNT0 HP2 HW2 HL Ht0 HF S1 S2 S3 S4 S5 S6
          have cGn := cell_row Gn.out
          have cGl := cell_row Gl.out
          have cGt := cell_row Gt.out
          have HIN : Hid (Inv i w1) := Lib.hid (HST.out i wr _ HI.out UB.out)

          have HW := Lib.hid (show w.heap.size + 3 ≤ w1.heap.size by have := lt_of_heap Gt.out; omega)
          have SI : Hid (Calls Try.prog f (#[.int .i64 0, wv X] ++ caps) w1 fun e w'' => e = .returned (.tuple #[]) ∧ Inv (i + 1) w'' ∧ But (fun k => ¬ (k = w.heap.size ∨ k = w.heap.size + 1 ∨ k = w.heap.size + 2)) w1 w'') := Lib.hid (by
            have := HDO.out i w1 HLT.out HW.out HIN.out
            rw [HDG.out, ← HX.out] at this
            exact this)
          go_wp2_with fail
          refine SI.out.mono ?_
          rintro e wE ⟨rfl, hI, hb⟩
          have HI4 := Lib.hid hI
          have Gn4 := Lib.hid (hb.heap Gn.out (fun h => h (Or.inl rfl)))
          have Gl4 := Lib.hid (hb.heap Gl.out (fun h => h (Or.inr (Or.inl (by omega)))))
          have Gt4 := Lib.hid (hb.heap Gt.out (fun h => h (Or.inr (Or.inr (by omega)))))
          clear hb hI
          rw [HX.out] at Gl4
          rw [HNT.out] at Gt4
          have hw1 : IntKind.i64.wrap ((T : Int) - 1) = (T : Int) - 1 := IntWalk.i64_in _ (by omega)
          go_wp2
          go_roundw
          case rel => exact ⟨i + 1, by congr 1; have := HTI.out; omega, HLT.out, HI4, Gn4, Gl4, Gt4⟩
          case measure => have := HTI.out; have := HLT.out; simp [intOf]; (try omega)
    · obtain rfl : i = 128 := by omega
      have HSQ := Lib.hid (show w.heap.size ≤ wr.heap.size by have := lt_of_heap Gt.out; omega)
      clear hi hlt Gn Gl Gt
      go_wp2
      exact bodyPost_end (v := .tuple #[]) (by simp [results, Try.results142, go_sem]) rfl ⟨rfl, HI.out, HSQ.out⟩
end Go.Proofs.Ytenkaobgoknlhaa
