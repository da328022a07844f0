/- THE WALK of the law on a wide's looks. -/
import Derived.Test.YtbjofgoimkmbfaaLaw02c
import Derived.Test.YtbjofgoimkmbfaaLit
namespace Go.Proofs.Ytbjofgoimkmbfaa
open Go Go.RowKit

theorem bitN_hi {a : Nat} (ha : a < M) {n : Int} (h : n < 0 ∨ 512 ≤ n) : bitN a n = false := by
  unfold bitN
  split
  · rfl
  · obtain ⟨k, rfl⟩ := Int.eq_ofNat_of_zero_le (show 0 ≤ n by omega)
    exact bitM_lt ha (by omega)
theorem bitN_mid (a k : Nat) : bitN a (k : Int) = (a / P2 k).testBit 0 := by
  unfold bitN
  rw [if_neg (by omega), bit_div, Nat.add_zero]; rfl
theorem mask_ref {n : Int} (h : 0 < n) : maskN n = (P2 (min n 512).toNat - 1) % M := by
  have hM := M_pos
  unfold maskN powerN
  rw [show max 0 n = n by omega]
  by_cases h2 : n < 512
  · rw [if_pos ⟨by omega, h2⟩, show min n 512 = n by omega]
    unfold subN
    have := P2_pos n.toNat
    rw [show P2 n.toNat + M - 1 = (P2 n.toNat - 1) + M by omega, Nat.add_mod_right]
  · rw [if_neg (by omega), show min n 512 = 512 by omega, show (512 : Int).toNat = 512 from rfl, ← M_eq, subN_zero_one, Nat.mod_eq_of_lt (by omega)]
theorem mask_none {n : Int} (h : n ≤ 0) : maskN n = 0 := by
  unfold maskN powerN subN
  rw [show max 0 n = 0 by omega, if_pos (by decide), show (0 : Int).toNat = 0 from rfl, P2_0, Nat.add_sub_cancel_left, Nat.mod_self]
theorem neg_ref (a : Nat) : negN a = (M - a) % M := by
  unfold negN subN
  rw [Nat.zero_add]

theorem ext_bigB {w0 w : World} {v : Value} {n : Nat} (h : IsBig w0 v n) (hb : Below w0.heap.size w0 w) (x : Ext w.heap.size w) : IsBig x.val v n := h.below (below_then hb x.property)
attribute [local go_sem ↓] Go.wp_at_zero Go.wp_at_succ
set_option maxRecDepth 100000 in
set_option maxHeartbeats 8000000 in
theorem wideLooks_any (a : Nat) (n : Int) (x y : Nat) (w : World) (ha : a < M) (h1 : -9223372036854775808 ≤ n) (h2 : n ≤ 9223372036854775807) (hx : x ≤ 18446744073709551615) (hy : y ≤ 18446744073709551615) :
    Calls Try.prog 5 #[wv a, .int .i64 n, .agg #[.int .u64 x, .int .u64 y]] w fun e w' => e = .returned (.bool true) ∧ Below w.heap.size w w' := by
  have hsa := small_M ha
  have hM := M_pos
  have HA := Lib.hid ha
  have SBig := Lib.hid (fun w' => big_any a ha w')
  have SL := Lib.hid (fun w' => len_w a ha w')
  have SRL := Lib.hid (fun v w' h => rlen_any v a w' hsa h)
  obtain ⟨LA, hLA⟩ : ∃ L, L = blen a := ⟨_, rfl⟩
  rw [← hLA] at SL SRL
  have SBt := Lib.hid (fun w' => bit_w a ha n w' h1 h2)
  obtain ⟨bn, hbn⟩ : ∃ L, L = bitN a n := ⟨_, rfl⟩
  rw [← hbn] at SBt
  have SM := Lib.hid (fun w' => minus_w a ha w')
  have SRM := Lib.hid (fun w' => rminus_any a ha w')
  obtain ⟨mb, hmb⟩ : ∃ T, T = decide (P2 511 ≤ a) := ⟨_, rfl⟩
  rw [← hmb] at SM SRM
  have SN := Lib.hid (fun w' => neg_w a ha w')
  obtain ⟨NG, hNG⟩ : ∃ T, T = negN a := ⟨_, rfl⟩
  rw [← hNG] at SN
  have SP := Lib.hid (fun w' => power_w n w' h1 h2)
  obtain ⟨PW, hPW⟩ : ∃ T, T = powerN n := ⟨_, rfl⟩
  rw [← hPW] at SP
  have SMk := Lib.hid (fun w' => mask_w n w' h1 h2)
  obtain ⟨MK, hMK⟩ : ∃ T, T = maskN n := ⟨_, rfl⟩
  rw [← hMK] at SMk
  have SLo := Lib.hid (fun w' => low_w a w')
  have SF := Lib.hid (fun w' => from_w x y hx hy w')
  have EW := word_cells x y hx hy
  obtain ⟨NW, hNW⟩ : ∃ T, T = y + P2 64 * x := ⟨_, rfl⟩
  rw [← hNW] at SF EW
  have SA := Lib.hid (fun w' => awake02_any w')
  have SW := Lib.hid (fun w' => whole_any w')
  have SSub : Hid (∀ (v v2 : Value) (w' : World), IsBig w' v M → IsBig w' v2 a → Calls Try.prog 48 #[v, v2] w' (GivesBig (M - a) w')) := Lib.hid fun v v2 w' h h' => sub_any v v2 a (M - a) w' (by rw [show a + (M - a) = M by omega]; exact M_small) (by rw [show a + (M - a) = M by omega]; exact h) h'
  have SWn : Hid (∀ (v : Value) (w' : World), IsBig w' v (M - a) → Calls Try.prog 41 #[v] w' fun e w'' => e = .returned (.tuple #[wv NG, .bool (decide (M ≤ M - a))]) ∧ Below w'.heap.size w' w'') := Lib.hid fun v w' h => by
    have := wide_any v (M - a) w' (Nat.lt_of_le_of_lt (Nat.sub_le _ _) M_small) h
    rw [← neg_ref a, ← hNG] at this
    exact this
  obtain ⟨MA, hMA⟩ : ∃ T, T = M - a := ⟨_, rfl⟩
  obtain ⟨f1, hf1⟩ : ∃ T, T = decide (M ≤ M - a) := ⟨_, rfl⟩
  rw [← hf1] at SWn
  rw [← hMA] at SSub SWn
  have HBN := Lib.hid hbn; have HPW := Lib.hid hPW; have HMK := Lib.hid hMK; have H1 := Lib.hid h1; have H2 := Lib.hid h2
  clear ha hLA hbn hmb hNG hPW hMK hNW hMA hf1 hM hsa hx hy
  have SOne := Lib.hid (fun w' => small_any 1 w' (by omega))
  rcases (show n < 0 ∨ n = 0 ∨ (0 < n ∧ n < 512) ∨ 512 ≤ n by omega) with hn | hn | ⟨hn, hn2⟩ | hn
  · have e1 : bn = false := by rw [HBN.out]; exact bitN_hi HA.out (Or.inl hn)
    have e2 : PW = 0 := by rw [HPW.out]; unfold powerN; rw [if_neg (by omega)]
    have e3 : MK = 0 := by rw [HMK.out]; exact mask_none (by omega)
    subst e1 e2 e3
    go_enter Try.func5, Try.ntmps5
    go_wp2_with fail
    have Ga : Hid (((w.alloc (.cells (wcells a) 31)).alloc (.cells #[.int .u64 x, .int .u64 y] 40)).heap[w.heap.size]? = some (.cells (wcells a) 31 (0, 0))) := Lib.hid (by rw [alloc_old _ _ _ (by simp), alloc_new])
    have Gw : Hid (((w.alloc (.cells (wcells a) 31)).alloc (.cells #[.int .u64 x, .int .u64 y] 40)).heap[w.heap.size + 1]? = some (.cells #[.int .u64 x, .int .u64 y] 40 (0, 0))) := Lib.hid (by rw [alloc_new' _ (by simp)])
    have HB := Lib.hid (below_al (below_al (Below.refl w.heap.size w) (.cells (wcells a) 31)) (.cells #[.int .u64 x, .int .u64 y] 40))
    refine (SBig.out _).mono ?_
    rintro e wr ⟨r1, rfl, hr, hb⟩
    replace HB := Lib.hid (below_then HB.out hb)
    replace Ga := Lib.hid ((hb.block _ (lt_of_heap Ga.out)).trans Ga.out)
    replace Gw := Lib.hid ((hb.block _ (lt_of_heap Gw.out)).trans Gw.out)
    have R1 := Lib.hid hr
    have B1 := Lib.hid (Below.refl wr.heap.size wr)
    clear hr hb
    have cGa := cell_row Ga.out
    have cGw := cell_row Gw.out
    clear cGa cGw
    have HZ2 := Lib.hid (lt_of_heap Gw.out)
    have HZ3 := Lib.hid B1.out.size
    replace Ga := Lib.hid (keepAl (o' := .cells (wcells 0) 31) Ga.out)
    replace Gw := Lib.hid (keepAl (o' := .cells (wcells 0) 31) Gw.out)
    replace B1 := Lib.hid (below_al B1.out (.cells (wcells 0) 31))
    have Gp := Lib.hid (alloc_new (wr) (.cells (wcells 0) 31))
    replace HB := Lib.hid (below_al HB.out (.cells (wcells 0) 31))
    replace Ga := Lib.hid (keepAl (o' := .cells (wcells 0) 31) Ga.out)
    replace Gw := Lib.hid (keepAl (o' := .cells (wcells 0) 31) Gw.out)
    replace B1 := Lib.hid (below_al B1.out (.cells (wcells 0) 31))
    replace Gp := Lib.hid (keepAl (o' := .cells (wcells 0) 31) Gp.out)
    have Gm := Lib.hid (alloc_new' (w := (wr).alloc (.cells (wcells 0) 31)) (n := wr.heap.size + 1) (.cells (wcells 0) 31) (by simp))
    replace HB := Lib.hid (below_al HB.out (.cells (wcells 0) 31))
    go_upto_region 4 with fail
    obtain ⟨w1, hw⟩ : ∃ wx, wx = ((wr).alloc (.cells (wcells 0) 31)).alloc (.cells (wcells 0) 31) := ⟨_, rfl⟩
    rw [← hw] at Ga Gw B1 Gp Gm HB ⊢
    clear hw
    have cGa := cell_row Ga.out
    have cGw := cell_row Gw.out
    have cGp := cell_row Gp.out
    have cGm := cell_row Gm.out
    go_upto_region 8 with fail
    clear cGa cGw cGp cGm
    have cGa := cell_row Ga.out
    have cGw := cell_row Gw.out
    have cGp := cell_row Gp.out
    have cGm := cell_row Gm.out
    go_wp2_with fail
    refine (SW.out _).mono ?_
    rintro e w2 ⟨rW, rfl, hr, hb⟩
    clear cGa cGw cGp cGm
    replace HB := Lib.hid (below_then HB.out hb)
    replace Ga := Lib.hid ((hb.block _ (lt_of_heap Ga.out)).trans Ga.out)
    replace Gw := Lib.hid ((hb.block _ (lt_of_heap Gw.out)).trans Gw.out)
    replace B1 := Lib.hid (below_then B1.out hb)
    replace Gp := Lib.hid ((hb.block _ (lt_of_heap Gp.out)).trans Gp.out)
    replace Gm := Lib.hid ((hb.block _ (lt_of_heap Gm.out)).trans Gm.out)
    have RW := Lib.hid hr
    clear hr hb
    have cGa := cell_row Ga.out
    have cGw := cell_row Gw.out
    have cGp := cell_row Gp.out
    have cGm := cell_row Gm.out
    go_wp2_with fail
    refine (SSub.out _ _ _ RW.out (R1.out.below B1.out)).mono ?_
    rintro e w3 ⟨rS, rfl, hr, hb⟩
    clear cGa cGw cGp cGm
    replace HB := Lib.hid (below_then HB.out hb)
    replace Ga := Lib.hid ((hb.block _ (lt_of_heap Ga.out)).trans Ga.out)
    replace Gw := Lib.hid ((hb.block _ (lt_of_heap Gw.out)).trans Gw.out)
    replace B1 := Lib.hid (below_then B1.out hb)
    replace Gp := Lib.hid ((hb.block _ (lt_of_heap Gp.out)).trans Gp.out)
    replace Gm := Lib.hid ((hb.block _ (lt_of_heap Gm.out)).trans Gm.out)
    replace RW := Lib.hid (RW.out.below hb)
    have RS := Lib.hid hr
    clear hr hb
    have cGa := cell_row Ga.out
    have cGw := cell_row Gw.out
    have cGp := cell_row Gp.out
    have cGm := cell_row Gm.out
    go_wp2_with fail
    refine (SWn.out _ _ RS.out).mono ?_
    rintro e w4 ⟨rfl, hb⟩
    clear cGa cGw cGp cGm
    replace HB := Lib.hid (below_then HB.out hb)
    replace Ga := Lib.hid ((hb.block _ (lt_of_heap Ga.out)).trans Ga.out)
    replace Gw := Lib.hid ((hb.block _ (lt_of_heap Gw.out)).trans Gw.out)
    replace B1 := Lib.hid (below_then B1.out hb)
    replace Gp := Lib.hid ((hb.block _ (lt_of_heap Gp.out)).trans Gp.out)
    replace Gm := Lib.hid ((hb.block _ (lt_of_heap Gm.out)).trans Gm.out)
    replace RS := Lib.hid (RS.out.below hb)
    clear hb
    replace Ga := Lib.hid (keepAl (o' := .cells (wcells NG) 31) Ga.out)
    replace Gw := Lib.hid (keepAl (o' := .cells (wcells NG) 31) Gw.out)
    replace B1 := Lib.hid (below_al B1.out (.cells (wcells NG) 31))
    replace Gp := Lib.hid (keepAl (o' := .cells (wcells NG) 31) Gp.out)
    replace Gm := Lib.hid (keepAl (o' := .cells (wcells NG) 31) Gm.out)
    have Gn := Lib.hid (alloc_new (w4) (.cells (wcells NG) 31))
    replace HB := Lib.hid (below_al HB.out (.cells (wcells NG) 31))
    have cGa := cell_row Ga.out
    have cGw := cell_row Gw.out
    have cGp := cell_row Gp.out
    have cGm := cell_row Gm.out
    have cGn := cell_row Gn.out
    go_upto_region 9 with fail
    clear cGa cGw cGp cGm cGn
    obtain ⟨w5, hw⟩ : ∃ wx, wx = (w4).alloc (.cells (wcells NG) 31) := ⟨_, rfl⟩
    rw [← hw] at Ga Gw B1 Gp Gm Gn HB ⊢
    clear hw
    have xGa := ext_row (B := w5.heap.size) Ga.out (lt_of_heap Ga.out)
    have xGw := ext_row (B := w5.heap.size) Gw.out (lt_of_heap Gw.out)
    have xGp := ext_row (B := w5.heap.size) Gp.out (lt_of_heap Gp.out)
    have xGm := ext_row (B := w5.heap.size) Gm.out (lt_of_heap Gm.out)
    have xGn := ext_row (B := w5.heap.size) Gn.out (lt_of_heap Gn.out)
    refine wp_region_ext w5.heap.size (by kernel_rfl) (by kernel_rfl) ?_
    repeat (go_big_quiet_step (first | (go_at_call 51; with_reducible exact Calls.quiet_ext (Nat.le_refl _) (SL.out _)) | (go_at_call 52; with_reducible exact Calls.quiet_ext (Nat.le_refl _) (SRL.out _ _ (ext_bigB R1.out B1.out _))) | (go_at_call 53; with_reducible exact Calls.quiet_ext (Nat.le_refl _) (SBt.out _)) | (go_at_call 54; with_reducible exact Calls.quiet_ext (Nat.le_refl _) (SM.out _)) | (go_at_call 55; with_reducible exact Calls.quiet_ext (Nat.le_refl _) (SRM.out _)) | (go_at_call 56; with_reducible exact Calls.quiet_ext (Nat.le_refl _) (SN.out _)) | (go_at_call 57; with_reducible exact Calls.quiet_ext (Nat.le_refl _) (SP.out _)) | (go_at_call 58; with_reducible exact Calls.quiet_ext (Nat.le_refl _) (SMk.out _)) | (go_at_call 59; with_reducible exact Calls.quiet_ext (Nat.le_refl _) (SLo.out _)) | (go_at_call 60; with_reducible exact Calls.quiet_ext (Nat.le_refl _) (SF.out _)) | (go_at_call 40; with_reducible exact Calls.quiet_ext (Nat.le_refl _) (SA.out _))))
    refine wpQuiet_nil ?_
    intro w6 hb
    clear xGa xGw xGp xGm xGn
    replace HB := Lib.hid (below_then HB.out hb)
    replace Ga := Lib.hid ((hb.block _ (lt_of_heap Ga.out)).trans Ga.out)
    replace Gw := Lib.hid ((hb.block _ (lt_of_heap Gw.out)).trans Gw.out)
    replace B1 := Lib.hid (below_then B1.out hb)
    replace Gp := Lib.hid ((hb.block _ (lt_of_heap Gp.out)).trans Gp.out)
    replace Gm := Lib.hid ((hb.block _ (lt_of_heap Gm.out)).trans Gm.out)
    replace Gn := Lib.hid ((hb.block _ (lt_of_heap Gn.out)).trans Gn.out)
    clear hb
    go_wp2
    go_ret
    exact ⟨rfl, HB.out⟩
  · obtain ⟨k, rfl⟩ := Int.eq_ofNat_of_zero_le (show 0 ≤ n by omega)
    have hk : k < 512 := by omega
    have hn0 : 0 ≤ (k : Int) := by omega
    have hn5 : (k : Int) < 512 := by omega
    have hnn : ¬ 0 < (k : Int) := by omega
    have e3 : MK = 0 := by rw [HMK.out]; exact mask_none (by omega)
    subst e3
    have SSh := Lib.hid (fun v w' h => rshr_any v a k w' (small_M HA.out) (by omega) h)
    have SOd := Lib.hid (fun v w' h => odd_any v (a / P2 k) w' (Nat.lt_of_le_of_lt (Nat.div_le_self _ _) (small_M HA.out)) h)
    rw [← bitN_mid, ← HBN.out] at SOd
    have SPw := Lib.hid (fun w' => power_any k (by omega) w')
    have SWp := Lib.hid (fun v w' h => wide_any v (P2 k) w' (P2_small (by omega)) h)
    have hPk : P2 k < M := by rw [M_eq]; exact P2_lt hk
    rw [Nat.mod_eq_of_lt hPk, show P2 k = PW by rw [HPW.out]; unfold powerN; rw [if_pos ⟨hn0, hn5⟩]; rfl] at SWp
    have ePk : P2 k = PW := by rw [HPW.out]; unfold powerN; rw [if_pos ⟨hn0, hn5⟩]; rfl
    rw [ePk] at SPw
    obtain ⟨f3, hf3⟩ : ∃ f, f = decide (M ≤ PW) := ⟨_, rfl⟩
    rw [← hf3] at SWp
    obtain ⟨AK, hAK⟩ : ∃ f, f = a / P2 k := ⟨_, rfl⟩
    rw [← hAK] at SSh SOd
    clear hf3 hAK hPk ePk
    clear hk hn
    go_enter Try.func5, Try.ntmps5
    go_wp2_with fail
    have Ga : Hid (((w.alloc (.cells (wcells a) 31)).alloc (.cells #[.int .u64 x, .int .u64 y] 40)).heap[w.heap.size]? = some (.cells (wcells a) 31 (0, 0))) := Lib.hid (by rw [alloc_old _ _ _ (by simp), alloc_new])
    have Gw : Hid (((w.alloc (.cells (wcells a) 31)).alloc (.cells #[.int .u64 x, .int .u64 y] 40)).heap[w.heap.size + 1]? = some (.cells #[.int .u64 x, .int .u64 y] 40 (0, 0))) := Lib.hid (by rw [alloc_new' _ (by simp)])
    have HB := Lib.hid (below_al (below_al (Below.refl w.heap.size w) (.cells (wcells a) 31)) (.cells #[.int .u64 x, .int .u64 y] 40))
    refine (SBig.out _).mono ?_
    rintro e wr ⟨r1, rfl, hr, hb⟩
    replace HB := Lib.hid (below_then HB.out hb)
    replace Ga := Lib.hid ((hb.block _ (lt_of_heap Ga.out)).trans Ga.out)
    replace Gw := Lib.hid ((hb.block _ (lt_of_heap Gw.out)).trans Gw.out)
    have R1 := Lib.hid hr
    have B1 := Lib.hid (Below.refl wr.heap.size wr)
    clear hr hb
    have cGa := cell_row Ga.out
    have cGw := cell_row Gw.out
    go_wp2_with fail
    refine (SSh.out _ _ (R1.out.below B1.out)).mono ?_
    rintro e w7 ⟨rh, rfl, hr, hb⟩
    clear cGa cGw
    replace HB := Lib.hid (below_then HB.out hb)
    replace Ga := Lib.hid ((hb.block _ (lt_of_heap Ga.out)).trans Ga.out)
    replace Gw := Lib.hid ((hb.block _ (lt_of_heap Gw.out)).trans Gw.out)
    replace B1 := Lib.hid (below_then B1.out hb)
    have Rh := Lib.hid hr
    clear hr hb
    have cGa := cell_row Ga.out
    have cGw := cell_row Gw.out
    go_wp2_with fail
    refine (SOd.out _ _ Rh.out).mono ?_
    rintro e w8 ⟨rfl, hb⟩
    clear cGa cGw
    replace HB := Lib.hid (below_then HB.out hb)
    replace Ga := Lib.hid ((hb.block _ (lt_of_heap Ga.out)).trans Ga.out)
    replace Gw := Lib.hid ((hb.block _ (lt_of_heap Gw.out)).trans Gw.out)
    replace B1 := Lib.hid (below_then B1.out hb)
    replace Rh := Lib.hid (Rh.out.below hb)
    clear hb
    have cGa := cell_row Ga.out
    have cGw := cell_row Gw.out
    clear cGa cGw
    have HZ2 := Lib.hid (lt_of_heap Gw.out)
    have HZ3 := Lib.hid B1.out.size
    replace Ga := Lib.hid (keepAl (o' := .cells (wcells 0) 31) Ga.out)
    replace Gw := Lib.hid (keepAl (o' := .cells (wcells 0) 31) Gw.out)
    replace B1 := Lib.hid (below_al B1.out (.cells (wcells 0) 31))
    have Gp := Lib.hid (alloc_new (w8) (.cells (wcells 0) 31))
    replace HB := Lib.hid (below_al HB.out (.cells (wcells 0) 31))
    replace Ga := Lib.hid (keepAl (o' := .cells (wcells 0) 31) Ga.out)
    replace Gw := Lib.hid (keepAl (o' := .cells (wcells 0) 31) Gw.out)
    replace B1 := Lib.hid (below_al B1.out (.cells (wcells 0) 31))
    replace Gp := Lib.hid (keepAl (o' := .cells (wcells 0) 31) Gp.out)
    have Gm := Lib.hid (alloc_new' (w := (w8).alloc (.cells (wcells 0) 31)) (n := w8.heap.size + 1) (.cells (wcells 0) 31) (by simp))
    replace HB := Lib.hid (below_al HB.out (.cells (wcells 0) 31))
    go_upto_region 4 with fail
    obtain ⟨w9, hw⟩ : ∃ wx, wx = ((w8).alloc (.cells (wcells 0) 31)).alloc (.cells (wcells 0) 31) := ⟨_, rfl⟩
    rw [← hw] at Ga Gw B1 Gp Gm HB ⊢
    clear hw
    go_upto_region 5 with fail
    have cGa := cell_row Ga.out
    have cGw := cell_row Gw.out
    have cGp := cell_row Gp.out
    have cGm := cell_row Gm.out
    go_wp2_with fail
    refine (SPw.out _).mono ?_
    rintro e w10 ⟨rp, rfl, hr, hb⟩
    clear cGa cGw cGp cGm
    replace HB := Lib.hid (below_then HB.out hb)
    replace Ga := Lib.hid ((hb.block _ (lt_of_heap Ga.out)).trans Ga.out)
    replace Gw := Lib.hid ((hb.block _ (lt_of_heap Gw.out)).trans Gw.out)
    replace B1 := Lib.hid (below_then B1.out hb)
    replace Gp := Lib.hid ((hb.block _ (lt_of_heap Gp.out)).trans Gp.out)
    replace Gm := Lib.hid ((hb.block _ (lt_of_heap Gm.out)).trans Gm.out)
    have Rp := Lib.hid hr
    clear hr hb
    have cGa := cell_row Ga.out
    have cGw := cell_row Gw.out
    have cGp := cell_row Gp.out
    have cGm := cell_row Gm.out
    go_wp2_with fail
    refine (SWp.out _ _ Rp.out).mono ?_
    rintro e w11 ⟨rfl, hb⟩
    clear cGa cGw cGp cGm
    replace HB := Lib.hid (below_then HB.out hb)
    replace Ga := Lib.hid ((hb.block _ (lt_of_heap Ga.out)).trans Ga.out)
    replace Gw := Lib.hid ((hb.block _ (lt_of_heap Gw.out)).trans Gw.out)
    replace B1 := Lib.hid (below_then B1.out hb)
    replace Gp := Lib.hid ((hb.block _ (lt_of_heap Gp.out)).trans Gp.out)
    replace Gm := Lib.hid ((hb.block _ (lt_of_heap Gm.out)).trans Gm.out)
    replace Rp := Lib.hid (Rp.out.below hb)
    clear hb
    have stp := st_row (P := Try.prog) Gp.out rfl (PW)
    replace Ga := Lib.hid ((setRow_other (w11) (w8.heap.size) _ (wcells (PW)) (by (have := HZ2.out; have := HZ3.out; omega))).trans Ga.out)
    replace Gw := Lib.hid ((setRow_other (w11) (w8.heap.size) _ (wcells (PW)) (by (have := HZ2.out; have := HZ3.out; omega))).trans Gw.out)
    replace B1 := Lib.hid (below_setRow' B1.out (show _ ≤ w8.heap.size by (have := HZ2.out; have := HZ3.out; omega)) (wcells (PW)))
    replace Gm := Lib.hid ((setRow_other (w11) (w8.heap.size) _ (wcells (PW)) (by (have := HZ2.out; have := HZ3.out; omega))).trans Gm.out)
    replace Gp := Lib.hid (setRow_heap (w11) (w8.heap.size) _ (wcells (PW)) _ _ Gp.out)
    replace HB := Lib.hid (below_setRow' HB.out (show _ ≤ w8.heap.size by (have := HZ2.out; have := HZ3.out; omega)) (wcells (PW)))
    have cGa := cell_row Ga.out
    have cGw := cell_row Gw.out
    have cGp := cell_row Gp.out
    have cGm := cell_row Gm.out
    go_upto_region 8 with fail
    clear cGa cGw cGp cGm stp
    obtain ⟨w12, hw⟩ : ∃ wx, wx = (w11).setRow (w8.heap.size) (wcells (PW)) := ⟨_, rfl⟩
    rw [← hw] at Ga Gw B1 Gp Gm HB ⊢
    clear hw
    have cGa := cell_row Ga.out
    have cGw := cell_row Gw.out
    have cGp := cell_row Gp.out
    have cGm := cell_row Gm.out
    go_wp2_with fail
    refine (SW.out _).mono ?_
    rintro e w13 ⟨rW, rfl, hr, hb⟩
    clear cGa cGw cGp cGm
    replace HB := Lib.hid (below_then HB.out hb)
    replace Ga := Lib.hid ((hb.block _ (lt_of_heap Ga.out)).trans Ga.out)
    replace Gw := Lib.hid ((hb.block _ (lt_of_heap Gw.out)).trans Gw.out)
    replace B1 := Lib.hid (below_then B1.out hb)
    replace Gp := Lib.hid ((hb.block _ (lt_of_heap Gp.out)).trans Gp.out)
    replace Gm := Lib.hid ((hb.block _ (lt_of_heap Gm.out)).trans Gm.out)
    have RW := Lib.hid hr
    clear hr hb
    have cGa := cell_row Ga.out
    have cGw := cell_row Gw.out
    have cGp := cell_row Gp.out
    have cGm := cell_row Gm.out
    go_wp2_with fail
    refine (SSub.out _ _ _ RW.out (R1.out.below B1.out)).mono ?_
    rintro e w14 ⟨rS, rfl, hr, hb⟩
    clear cGa cGw cGp cGm
    replace HB := Lib.hid (below_then HB.out hb)
    replace Ga := Lib.hid ((hb.block _ (lt_of_heap Ga.out)).trans Ga.out)
    replace Gw := Lib.hid ((hb.block _ (lt_of_heap Gw.out)).trans Gw.out)
    replace B1 := Lib.hid (below_then B1.out hb)
    replace Gp := Lib.hid ((hb.block _ (lt_of_heap Gp.out)).trans Gp.out)
    replace Gm := Lib.hid ((hb.block _ (lt_of_heap Gm.out)).trans Gm.out)
    replace RW := Lib.hid (RW.out.below hb)
    have RS := Lib.hid hr
    clear hr hb
    have cGa := cell_row Ga.out
    have cGw := cell_row Gw.out
    have cGp := cell_row Gp.out
    have cGm := cell_row Gm.out
    go_wp2_with fail
    refine (SWn.out _ _ RS.out).mono ?_
    rintro e w15 ⟨rfl, hb⟩
    clear cGa cGw cGp cGm
    replace HB := Lib.hid (below_then HB.out hb)
    replace Ga := Lib.hid ((hb.block _ (lt_of_heap Ga.out)).trans Ga.out)
    replace Gw := Lib.hid ((hb.block _ (lt_of_heap Gw.out)).trans Gw.out)
    replace B1 := Lib.hid (below_then B1.out hb)
    replace Gp := Lib.hid ((hb.block _ (lt_of_heap Gp.out)).trans Gp.out)
    replace Gm := Lib.hid ((hb.block _ (lt_of_heap Gm.out)).trans Gm.out)
    replace RS := Lib.hid (RS.out.below hb)
    clear hb
    replace Ga := Lib.hid (keepAl (o' := .cells (wcells NG) 31) Ga.out)
    replace Gw := Lib.hid (keepAl (o' := .cells (wcells NG) 31) Gw.out)
    replace B1 := Lib.hid (below_al B1.out (.cells (wcells NG) 31))
    replace Gp := Lib.hid (keepAl (o' := .cells (wcells NG) 31) Gp.out)
    replace Gm := Lib.hid (keepAl (o' := .cells (wcells NG) 31) Gm.out)
    have Gn := Lib.hid (alloc_new (w15) (.cells (wcells NG) 31))
    replace HB := Lib.hid (below_al HB.out (.cells (wcells NG) 31))
    have cGa := cell_row Ga.out
    have cGw := cell_row Gw.out
    have cGp := cell_row Gp.out
    have cGm := cell_row Gm.out
    have cGn := cell_row Gn.out
    go_upto_region 9 with fail
    clear cGa cGw cGp cGm cGn
    obtain ⟨w16, hw⟩ : ∃ wx, wx = (w15).alloc (.cells (wcells NG) 31) := ⟨_, rfl⟩
    rw [← hw] at Ga Gw B1 Gp Gm Gn HB ⊢
    clear hw
    have xGa := ext_row (B := w16.heap.size) Ga.out (lt_of_heap Ga.out)
    have xGw := ext_row (B := w16.heap.size) Gw.out (lt_of_heap Gw.out)
    have xGp := ext_row (B := w16.heap.size) Gp.out (lt_of_heap Gp.out)
    have xGm := ext_row (B := w16.heap.size) Gm.out (lt_of_heap Gm.out)
    have xGn := ext_row (B := w16.heap.size) Gn.out (lt_of_heap Gn.out)
    refine wp_region_ext w16.heap.size (by kernel_rfl) (by kernel_rfl) ?_
    repeat (go_big_quiet_step (first | (go_at_call 51; with_reducible exact Calls.quiet_ext (Nat.le_refl _) (SL.out _)) | (go_at_call 52; with_reducible exact Calls.quiet_ext (Nat.le_refl _) (SRL.out _ _ (ext_bigB R1.out B1.out _))) | (go_at_call 53; with_reducible exact Calls.quiet_ext (Nat.le_refl _) (SBt.out _)) | (go_at_call 54; with_reducible exact Calls.quiet_ext (Nat.le_refl _) (SM.out _)) | (go_at_call 55; with_reducible exact Calls.quiet_ext (Nat.le_refl _) (SRM.out _)) | (go_at_call 56; with_reducible exact Calls.quiet_ext (Nat.le_refl _) (SN.out _)) | (go_at_call 57; with_reducible exact Calls.quiet_ext (Nat.le_refl _) (SP.out _)) | (go_at_call 58; with_reducible exact Calls.quiet_ext (Nat.le_refl _) (SMk.out _)) | (go_at_call 59; with_reducible exact Calls.quiet_ext (Nat.le_refl _) (SLo.out _)) | (go_at_call 60; with_reducible exact Calls.quiet_ext (Nat.le_refl _) (SF.out _)) | (go_at_call 40; with_reducible exact Calls.quiet_ext (Nat.le_refl _) (SA.out _))))
    refine wpQuiet_nil ?_
    intro w17 hb
    clear xGa xGw xGp xGm xGn
    replace HB := Lib.hid (below_then HB.out hb)
    replace Ga := Lib.hid ((hb.block _ (lt_of_heap Ga.out)).trans Ga.out)
    replace Gw := Lib.hid ((hb.block _ (lt_of_heap Gw.out)).trans Gw.out)
    replace B1 := Lib.hid (below_then B1.out hb)
    replace Gp := Lib.hid ((hb.block _ (lt_of_heap Gp.out)).trans Gp.out)
    replace Gm := Lib.hid ((hb.block _ (lt_of_heap Gm.out)).trans Gm.out)
    replace Gn := Lib.hid ((hb.block _ (lt_of_heap Gn.out)).trans Gn.out)
    clear hb
    go_wp2
    go_ret
    exact ⟨rfl, HB.out⟩
  · obtain ⟨k, rfl⟩ := Int.eq_ofNat_of_zero_le (show 0 ≤ n by omega)
    have hk : k < 512 := by omega
    have hn0 : 0 ≤ (k : Int) := by omega
    have hn5 : (k : Int) < 512 := by omega
    have SSh := Lib.hid (fun v w' h => rshr_any v a k w' (small_M HA.out) (by omega) h)
    have SOd := Lib.hid (fun v w' h => odd_any v (a / P2 k) w' (Nat.lt_of_le_of_lt (Nat.div_le_self _ _) (small_M HA.out)) h)
    rw [← bitN_mid, ← HBN.out] at SOd
    have SPw := Lib.hid (fun w' => power_any k (by omega) w')
    have SWp := Lib.hid (fun v w' h => wide_any v (P2 k) w' (P2_small (by omega)) h)
    have hPk : P2 k < M := by rw [M_eq]; exact P2_lt hk
    rw [Nat.mod_eq_of_lt hPk, show P2 k = PW by rw [HPW.out]; unfold powerN; rw [if_pos ⟨hn0, hn5⟩]; rfl] at SWp
    have ePk : P2 k = PW := by rw [HPW.out]; unfold powerN; rw [if_pos ⟨hn0, hn5⟩]; rfl
    rw [ePk] at SPw
    obtain ⟨f3, hf3⟩ : ∃ f, f = decide (M ≤ PW) := ⟨_, rfl⟩
    rw [← hf3] at SWp
    obtain ⟨AK, hAK⟩ : ∃ f, f = a / P2 k := ⟨_, rfl⟩
    rw [← hAK] at SSh SOd
    clear hf3 hAK hPk ePk
    have hmm : P2 k - 1 < BIG := Nat.lt_of_le_of_lt (Nat.sub_le _ _) (P2_small (by omega))
    have hmp := P2_pos k
    have SS1 := Lib.hid (fun v v2 w' h h' => sub_any v v2 1 (P2 k - 1) w' (by rw [show 1 + (P2 k - 1) = P2 k by omega]; exact P2_small (by omega)) h h')
    rw [show 1 + (P2 k - 1) = P2 k by omega] at SS1
    have SWm := Lib.hid (fun v w' h => wide_any v (P2 k - 1) w' hmm h)
    have hmk : (P2 k - 1) % M = MK := by rw [HMK.out, mask_ref (by omega), show (min _ 512 : Int).toNat = k by omega]
    rw [hmk] at SWm
    have SPm : Hid (∀ w' : World, Calls Try.prog 47 #[.int .i64 (min (k : Int) 512)] w' (GivesBig (P2 k) w')) := Lib.hid fun w' => by rw [show min (k : Int) 512 = ((k : Nat) : Int) by omega]; exact power_any k (by omega) w'
    obtain ⟨PM, hPM⟩ : ∃ f, f = P2 k := ⟨_, rfl⟩
    obtain ⟨f4, hf4⟩ : ∃ f, f = decide (M ≤ P2 k - 1) := ⟨_, rfl⟩
    rw [← hf4] at SWm
    rw [← hPM] at SS1 SWm SPm
    obtain ⟨PM1, hPM1⟩ : ∃ f, f = PM - 1 := ⟨_, rfl⟩
    rw [← hPM1] at SS1 SWm
    clear hmm hmp hmk hPM hf4 hPM1
    clear hk
    go_enter Try.func5, Try.ntmps5
    go_wp2_with fail
    have Ga : Hid (((w.alloc (.cells (wcells a) 31)).alloc (.cells #[.int .u64 x, .int .u64 y] 40)).heap[w.heap.size]? = some (.cells (wcells a) 31 (0, 0))) := Lib.hid (by rw [alloc_old _ _ _ (by simp), alloc_new])
    have Gw : Hid (((w.alloc (.cells (wcells a) 31)).alloc (.cells #[.int .u64 x, .int .u64 y] 40)).heap[w.heap.size + 1]? = some (.cells #[.int .u64 x, .int .u64 y] 40 (0, 0))) := Lib.hid (by rw [alloc_new' _ (by simp)])
    have HB := Lib.hid (below_al (below_al (Below.refl w.heap.size w) (.cells (wcells a) 31)) (.cells #[.int .u64 x, .int .u64 y] 40))
    refine (SBig.out _).mono ?_
    rintro e wr ⟨r1, rfl, hr, hb⟩
    replace HB := Lib.hid (below_then HB.out hb)
    replace Ga := Lib.hid ((hb.block _ (lt_of_heap Ga.out)).trans Ga.out)
    replace Gw := Lib.hid ((hb.block _ (lt_of_heap Gw.out)).trans Gw.out)
    have R1 := Lib.hid hr
    have B1 := Lib.hid (Below.refl wr.heap.size wr)
    clear hr hb
    have cGa := cell_row Ga.out
    have cGw := cell_row Gw.out
    go_wp2_with fail
    refine (SSh.out _ _ (R1.out.below B1.out)).mono ?_
    rintro e w18 ⟨rh, rfl, hr, hb⟩
    clear cGa cGw
    replace HB := Lib.hid (below_then HB.out hb)
    replace Ga := Lib.hid ((hb.block _ (lt_of_heap Ga.out)).trans Ga.out)
    replace Gw := Lib.hid ((hb.block _ (lt_of_heap Gw.out)).trans Gw.out)
    replace B1 := Lib.hid (below_then B1.out hb)
    have Rh := Lib.hid hr
    clear hr hb
    have cGa := cell_row Ga.out
    have cGw := cell_row Gw.out
    go_wp2_with fail
    refine (SOd.out _ _ Rh.out).mono ?_
    rintro e w19 ⟨rfl, hb⟩
    clear cGa cGw
    replace HB := Lib.hid (below_then HB.out hb)
    replace Ga := Lib.hid ((hb.block _ (lt_of_heap Ga.out)).trans Ga.out)
    replace Gw := Lib.hid ((hb.block _ (lt_of_heap Gw.out)).trans Gw.out)
    replace B1 := Lib.hid (below_then B1.out hb)
    replace Rh := Lib.hid (Rh.out.below hb)
    clear hb
    have cGa := cell_row Ga.out
    have cGw := cell_row Gw.out
    clear cGa cGw
    have HZ2 := Lib.hid (lt_of_heap Gw.out)
    have HZ3 := Lib.hid B1.out.size
    replace Ga := Lib.hid (keepAl (o' := .cells (wcells 0) 31) Ga.out)
    replace Gw := Lib.hid (keepAl (o' := .cells (wcells 0) 31) Gw.out)
    replace B1 := Lib.hid (below_al B1.out (.cells (wcells 0) 31))
    have Gp := Lib.hid (alloc_new (w19) (.cells (wcells 0) 31))
    replace HB := Lib.hid (below_al HB.out (.cells (wcells 0) 31))
    replace Ga := Lib.hid (keepAl (o' := .cells (wcells 0) 31) Ga.out)
    replace Gw := Lib.hid (keepAl (o' := .cells (wcells 0) 31) Gw.out)
    replace B1 := Lib.hid (below_al B1.out (.cells (wcells 0) 31))
    replace Gp := Lib.hid (keepAl (o' := .cells (wcells 0) 31) Gp.out)
    have Gm := Lib.hid (alloc_new' (w := (w19).alloc (.cells (wcells 0) 31)) (n := w19.heap.size + 1) (.cells (wcells 0) 31) (by simp))
    replace HB := Lib.hid (below_al HB.out (.cells (wcells 0) 31))
    go_upto_region 4 with fail
    obtain ⟨w20, hw⟩ : ∃ wx, wx = ((w19).alloc (.cells (wcells 0) 31)).alloc (.cells (wcells 0) 31) := ⟨_, rfl⟩
    rw [← hw] at Ga Gw B1 Gp Gm HB ⊢
    clear hw
    go_upto_region 5 with fail
    have cGa := cell_row Ga.out
    have cGw := cell_row Gw.out
    have cGp := cell_row Gp.out
    have cGm := cell_row Gm.out
    go_wp2_with fail
    refine (SPw.out _).mono ?_
    rintro e w21 ⟨rp, rfl, hr, hb⟩
    clear cGa cGw cGp cGm
    replace HB := Lib.hid (below_then HB.out hb)
    replace Ga := Lib.hid ((hb.block _ (lt_of_heap Ga.out)).trans Ga.out)
    replace Gw := Lib.hid ((hb.block _ (lt_of_heap Gw.out)).trans Gw.out)
    replace B1 := Lib.hid (below_then B1.out hb)
    replace Gp := Lib.hid ((hb.block _ (lt_of_heap Gp.out)).trans Gp.out)
    replace Gm := Lib.hid ((hb.block _ (lt_of_heap Gm.out)).trans Gm.out)
    have Rp := Lib.hid hr
    clear hr hb
    have cGa := cell_row Ga.out
    have cGw := cell_row Gw.out
    have cGp := cell_row Gp.out
    have cGm := cell_row Gm.out
    go_wp2_with fail
    refine (SWp.out _ _ Rp.out).mono ?_
    rintro e w22 ⟨rfl, hb⟩
    clear cGa cGw cGp cGm
    replace HB := Lib.hid (below_then HB.out hb)
    replace Ga := Lib.hid ((hb.block _ (lt_of_heap Ga.out)).trans Ga.out)
    replace Gw := Lib.hid ((hb.block _ (lt_of_heap Gw.out)).trans Gw.out)
    replace B1 := Lib.hid (below_then B1.out hb)
    replace Gp := Lib.hid ((hb.block _ (lt_of_heap Gp.out)).trans Gp.out)
    replace Gm := Lib.hid ((hb.block _ (lt_of_heap Gm.out)).trans Gm.out)
    replace Rp := Lib.hid (Rp.out.below hb)
    clear hb
    have stp := st_row (P := Try.prog) Gp.out rfl (PW)
    replace Ga := Lib.hid ((setRow_other (w22) (w19.heap.size) _ (wcells (PW)) (by (have := HZ2.out; have := HZ3.out; omega))).trans Ga.out)
    replace Gw := Lib.hid ((setRow_other (w22) (w19.heap.size) _ (wcells (PW)) (by (have := HZ2.out; have := HZ3.out; omega))).trans Gw.out)
    replace B1 := Lib.hid (below_setRow' B1.out (show _ ≤ w19.heap.size by (have := HZ2.out; have := HZ3.out; omega)) (wcells (PW)))
    replace Gm := Lib.hid ((setRow_other (w22) (w19.heap.size) _ (wcells (PW)) (by (have := HZ2.out; have := HZ3.out; omega))).trans Gm.out)
    replace Gp := Lib.hid (setRow_heap (w22) (w19.heap.size) _ (wcells (PW)) _ _ Gp.out)
    replace HB := Lib.hid (below_setRow' HB.out (show _ ≤ w19.heap.size by (have := HZ2.out; have := HZ3.out; omega)) (wcells (PW)))
    have cGa := cell_row Ga.out
    have cGw := cell_row Gw.out
    have cGp := cell_row Gp.out
    have cGm := cell_row Gm.out
    go_upto_region 7 with fail
    clear cGa cGw cGp cGm stp
    obtain ⟨w23, hw⟩ : ∃ wx, wx = (w22).setRow (w19.heap.size) (wcells (PW)) := ⟨_, rfl⟩
    rw [← hw] at Ga Gw B1 Gp Gm HB ⊢
    clear hw
    have cGa := cell_row Ga.out
    have cGw := cell_row Gw.out
    have cGp := cell_row Gp.out
    have cGm := cell_row Gm.out
    go_wp2_with fail
    refine (SPm.out _).mono ?_
    rintro e w24 ⟨rm, rfl, hr, hb⟩
    clear cGa cGw cGp cGm
    replace HB := Lib.hid (below_then HB.out hb)
    replace Ga := Lib.hid ((hb.block _ (lt_of_heap Ga.out)).trans Ga.out)
    replace Gw := Lib.hid ((hb.block _ (lt_of_heap Gw.out)).trans Gw.out)
    replace B1 := Lib.hid (below_then B1.out hb)
    replace Gp := Lib.hid ((hb.block _ (lt_of_heap Gp.out)).trans Gp.out)
    replace Gm := Lib.hid ((hb.block _ (lt_of_heap Gm.out)).trans Gm.out)
    have Rm := Lib.hid hr
    clear hr hb
    have cGa := cell_row Ga.out
    have cGw := cell_row Gw.out
    have cGp := cell_row Gp.out
    have cGm := cell_row Gm.out
    go_wp2_with fail
    refine (SOne.out _).mono ?_
    rintro e w25 ⟨ro, rfl, hr, hb⟩
    clear cGa cGw cGp cGm
    replace HB := Lib.hid (below_then HB.out hb)
    replace Ga := Lib.hid ((hb.block _ (lt_of_heap Ga.out)).trans Ga.out)
    replace Gw := Lib.hid ((hb.block _ (lt_of_heap Gw.out)).trans Gw.out)
    replace B1 := Lib.hid (below_then B1.out hb)
    replace Gp := Lib.hid ((hb.block _ (lt_of_heap Gp.out)).trans Gp.out)
    replace Gm := Lib.hid ((hb.block _ (lt_of_heap Gm.out)).trans Gm.out)
    replace Rm := Lib.hid (Rm.out.below hb)
    have Ro := Lib.hid hr
    clear hr hb
    have cGa := cell_row Ga.out
    have cGw := cell_row Gw.out
    have cGp := cell_row Gp.out
    have cGm := cell_row Gm.out
    go_wp2_with fail
    refine (SS1.out _ _ _ Rm.out Ro.out).mono ?_
    rintro e w26 ⟨rs, rfl, hr, hb⟩
    clear cGa cGw cGp cGm
    replace HB := Lib.hid (below_then HB.out hb)
    replace Ga := Lib.hid ((hb.block _ (lt_of_heap Ga.out)).trans Ga.out)
    replace Gw := Lib.hid ((hb.block _ (lt_of_heap Gw.out)).trans Gw.out)
    replace B1 := Lib.hid (below_then B1.out hb)
    replace Gp := Lib.hid ((hb.block _ (lt_of_heap Gp.out)).trans Gp.out)
    replace Gm := Lib.hid ((hb.block _ (lt_of_heap Gm.out)).trans Gm.out)
    replace Rm := Lib.hid (Rm.out.below hb)
    replace Ro := Lib.hid (Ro.out.below hb)
    have Rs := Lib.hid hr
    clear hr hb
    have cGa := cell_row Ga.out
    have cGw := cell_row Gw.out
    have cGp := cell_row Gp.out
    have cGm := cell_row Gm.out
    go_wp2_with fail
    refine (SWm.out _ _ Rs.out).mono ?_
    rintro e w27 ⟨rfl, hb⟩
    clear cGa cGw cGp cGm
    replace HB := Lib.hid (below_then HB.out hb)
    replace Ga := Lib.hid ((hb.block _ (lt_of_heap Ga.out)).trans Ga.out)
    replace Gw := Lib.hid ((hb.block _ (lt_of_heap Gw.out)).trans Gw.out)
    replace B1 := Lib.hid (below_then B1.out hb)
    replace Gp := Lib.hid ((hb.block _ (lt_of_heap Gp.out)).trans Gp.out)
    replace Gm := Lib.hid ((hb.block _ (lt_of_heap Gm.out)).trans Gm.out)
    replace Rs := Lib.hid (Rs.out.below hb)
    clear hb
    have stm := st_row (P := Try.prog) Gm.out rfl (MK)
    replace Ga := Lib.hid ((setRow_other (w27) (w19.heap.size + 1) _ (wcells (MK)) (by (have := HZ2.out; have := HZ3.out; omega))).trans Ga.out)
    replace Gw := Lib.hid ((setRow_other (w27) (w19.heap.size + 1) _ (wcells (MK)) (by (have := HZ2.out; have := HZ3.out; omega))).trans Gw.out)
    replace B1 := Lib.hid (below_setRow' B1.out (show _ ≤ w19.heap.size + 1 by (have := HZ2.out; have := HZ3.out; omega)) (wcells (MK)))
    replace Gp := Lib.hid ((setRow_other (w27) (w19.heap.size + 1) _ (wcells (MK)) (by (have := HZ2.out; have := HZ3.out; omega))).trans Gp.out)
    replace Gm := Lib.hid (setRow_heap (w27) (w19.heap.size + 1) _ (wcells (MK)) _ _ Gm.out)
    replace HB := Lib.hid (below_setRow' HB.out (show _ ≤ w19.heap.size + 1 by (have := HZ2.out; have := HZ3.out; omega)) (wcells (MK)))
    have cGa := cell_row Ga.out
    have cGw := cell_row Gw.out
    have cGp := cell_row Gp.out
    have cGm := cell_row Gm.out
    go_upto_region 8 with fail
    clear cGa cGw cGp cGm stm
    obtain ⟨w28, hw⟩ : ∃ wx, wx = (w27).setRow (w19.heap.size + 1) (wcells (MK)) := ⟨_, rfl⟩
    rw [← hw] at Ga Gw B1 Gp Gm HB ⊢
    clear hw
    have cGa := cell_row Ga.out
    have cGw := cell_row Gw.out
    have cGp := cell_row Gp.out
    have cGm := cell_row Gm.out
    go_wp2_with fail
    refine (SW.out _).mono ?_
    rintro e w29 ⟨rW, rfl, hr, hb⟩
    clear cGa cGw cGp cGm
    replace HB := Lib.hid (below_then HB.out hb)
    replace Ga := Lib.hid ((hb.block _ (lt_of_heap Ga.out)).trans Ga.out)
    replace Gw := Lib.hid ((hb.block _ (lt_of_heap Gw.out)).trans Gw.out)
    replace B1 := Lib.hid (below_then B1.out hb)
    replace Gp := Lib.hid ((hb.block _ (lt_of_heap Gp.out)).trans Gp.out)
    replace Gm := Lib.hid ((hb.block _ (lt_of_heap Gm.out)).trans Gm.out)
    have RW := Lib.hid hr
    clear hr hb
    have cGa := cell_row Ga.out
    have cGw := cell_row Gw.out
    have cGp := cell_row Gp.out
    have cGm := cell_row Gm.out
    go_wp2_with fail
    refine (SSub.out _ _ _ RW.out (R1.out.below B1.out)).mono ?_
    rintro e w30 ⟨rS, rfl, hr, hb⟩
    clear cGa cGw cGp cGm
    replace HB := Lib.hid (below_then HB.out hb)
    replace Ga := Lib.hid ((hb.block _ (lt_of_heap Ga.out)).trans Ga.out)
    replace Gw := Lib.hid ((hb.block _ (lt_of_heap Gw.out)).trans Gw.out)
    replace B1 := Lib.hid (below_then B1.out hb)
    replace Gp := Lib.hid ((hb.block _ (lt_of_heap Gp.out)).trans Gp.out)
    replace Gm := Lib.hid ((hb.block _ (lt_of_heap Gm.out)).trans Gm.out)
    replace RW := Lib.hid (RW.out.below hb)
    have RS := Lib.hid hr
    clear hr hb
    have cGa := cell_row Ga.out
    have cGw := cell_row Gw.out
    have cGp := cell_row Gp.out
    have cGm := cell_row Gm.out
    go_wp2_with fail
    refine (SWn.out _ _ RS.out).mono ?_
    rintro e w31 ⟨rfl, hb⟩
    clear cGa cGw cGp cGm
    replace HB := Lib.hid (below_then HB.out hb)
    replace Ga := Lib.hid ((hb.block _ (lt_of_heap Ga.out)).trans Ga.out)
    replace Gw := Lib.hid ((hb.block _ (lt_of_heap Gw.out)).trans Gw.out)
    replace B1 := Lib.hid (below_then B1.out hb)
    replace Gp := Lib.hid ((hb.block _ (lt_of_heap Gp.out)).trans Gp.out)
    replace Gm := Lib.hid ((hb.block _ (lt_of_heap Gm.out)).trans Gm.out)
    replace RS := Lib.hid (RS.out.below hb)
    clear hb
    replace Ga := Lib.hid (keepAl (o' := .cells (wcells NG) 31) Ga.out)
    replace Gw := Lib.hid (keepAl (o' := .cells (wcells NG) 31) Gw.out)
    replace B1 := Lib.hid (below_al B1.out (.cells (wcells NG) 31))
    replace Gp := Lib.hid (keepAl (o' := .cells (wcells NG) 31) Gp.out)
    replace Gm := Lib.hid (keepAl (o' := .cells (wcells NG) 31) Gm.out)
    have Gn := Lib.hid (alloc_new (w31) (.cells (wcells NG) 31))
    replace HB := Lib.hid (below_al HB.out (.cells (wcells NG) 31))
    have cGa := cell_row Ga.out
    have cGw := cell_row Gw.out
    have cGp := cell_row Gp.out
    have cGm := cell_row Gm.out
    have cGn := cell_row Gn.out
    go_upto_region 9 with fail
    clear cGa cGw cGp cGm cGn
    obtain ⟨w32, hw⟩ : ∃ wx, wx = (w31).alloc (.cells (wcells NG) 31) := ⟨_, rfl⟩
    rw [← hw] at Ga Gw B1 Gp Gm Gn HB ⊢
    clear hw
    have xGa := ext_row (B := w32.heap.size) Ga.out (lt_of_heap Ga.out)
    have xGw := ext_row (B := w32.heap.size) Gw.out (lt_of_heap Gw.out)
    have xGp := ext_row (B := w32.heap.size) Gp.out (lt_of_heap Gp.out)
    have xGm := ext_row (B := w32.heap.size) Gm.out (lt_of_heap Gm.out)
    have xGn := ext_row (B := w32.heap.size) Gn.out (lt_of_heap Gn.out)
    refine wp_region_ext w32.heap.size (by kernel_rfl) (by kernel_rfl) ?_
    repeat (go_big_quiet_step (first | (go_at_call 51; with_reducible exact Calls.quiet_ext (Nat.le_refl _) (SL.out _)) | (go_at_call 52; with_reducible exact Calls.quiet_ext (Nat.le_refl _) (SRL.out _ _ (ext_bigB R1.out B1.out _))) | (go_at_call 53; with_reducible exact Calls.quiet_ext (Nat.le_refl _) (SBt.out _)) | (go_at_call 54; with_reducible exact Calls.quiet_ext (Nat.le_refl _) (SM.out _)) | (go_at_call 55; with_reducible exact Calls.quiet_ext (Nat.le_refl _) (SRM.out _)) | (go_at_call 56; with_reducible exact Calls.quiet_ext (Nat.le_refl _) (SN.out _)) | (go_at_call 57; with_reducible exact Calls.quiet_ext (Nat.le_refl _) (SP.out _)) | (go_at_call 58; with_reducible exact Calls.quiet_ext (Nat.le_refl _) (SMk.out _)) | (go_at_call 59; with_reducible exact Calls.quiet_ext (Nat.le_refl _) (SLo.out _)) | (go_at_call 60; with_reducible exact Calls.quiet_ext (Nat.le_refl _) (SF.out _)) | (go_at_call 40; with_reducible exact Calls.quiet_ext (Nat.le_refl _) (SA.out _))))
    refine wpQuiet_nil ?_
    intro w33 hb
    clear xGa xGw xGp xGm xGn
    replace HB := Lib.hid (below_then HB.out hb)
    replace Ga := Lib.hid ((hb.block _ (lt_of_heap Ga.out)).trans Ga.out)
    replace Gw := Lib.hid ((hb.block _ (lt_of_heap Gw.out)).trans Gw.out)
    replace B1 := Lib.hid (below_then B1.out hb)
    replace Gp := Lib.hid ((hb.block _ (lt_of_heap Gp.out)).trans Gp.out)
    replace Gm := Lib.hid ((hb.block _ (lt_of_heap Gm.out)).trans Gm.out)
    replace Gn := Lib.hid ((hb.block _ (lt_of_heap Gn.out)).trans Gn.out)
    clear hb
    go_wp2
    go_ret
    exact ⟨rfl, HB.out⟩
  · have e1 : bn = false := by rw [HBN.out]; exact bitN_hi HA.out (Or.inr hn)
    have e2 : PW = 0 := by rw [HPW.out]; unfold powerN; rw [if_neg (by omega)]
    have hn0 : 0 ≤ n := by omega
    have hn1 : 0 < n := by omega
    subst e1 e2
    have hmm : P2 512 - 1 < BIG := Nat.lt_of_le_of_lt (Nat.sub_le _ _) (P2_small (by omega))
    have hmp := P2_pos 512
    have SS1 := Lib.hid (fun v v2 w' h h' => sub_any v v2 1 (P2 512 - 1) w' (by rw [show 1 + (P2 512 - 1) = P2 512 by omega]; exact P2_small (by omega)) h h')
    rw [show 1 + (P2 512 - 1) = P2 512 by omega] at SS1
    have SWm := Lib.hid (fun v w' h => wide_any v (P2 512 - 1) w' hmm h)
    have hmk : (P2 512 - 1) % M = MK := by rw [HMK.out, mask_ref (by omega), show (min _ 512 : Int).toNat = 512 by omega]
    rw [hmk] at SWm
    have SPm : Hid (∀ w' : World, Calls Try.prog 47 #[.int .i64 (min n 512)] w' (GivesBig (P2 512) w')) := Lib.hid fun w' => by rw [show min n 512 = ((512 : Nat) : Int) by omega]; exact power_any 512 (by omega) w'
    obtain ⟨PM, hPM⟩ : ∃ f, f = P2 512 := ⟨_, rfl⟩
    obtain ⟨f4, hf4⟩ : ∃ f, f = decide (M ≤ P2 512 - 1) := ⟨_, rfl⟩
    rw [← hf4] at SWm
    rw [← hPM] at SS1 SWm SPm
    obtain ⟨PM1, hPM1⟩ : ∃ f, f = PM - 1 := ⟨_, rfl⟩
    rw [← hPM1] at SS1 SWm
    clear hmm hmp hmk hPM hf4 hPM1
    go_enter Try.func5, Try.ntmps5
    go_wp2_with fail
    have Ga : Hid (((w.alloc (.cells (wcells a) 31)).alloc (.cells #[.int .u64 x, .int .u64 y] 40)).heap[w.heap.size]? = some (.cells (wcells a) 31 (0, 0))) := Lib.hid (by rw [alloc_old _ _ _ (by simp), alloc_new])
    have Gw : Hid (((w.alloc (.cells (wcells a) 31)).alloc (.cells #[.int .u64 x, .int .u64 y] 40)).heap[w.heap.size + 1]? = some (.cells #[.int .u64 x, .int .u64 y] 40 (0, 0))) := Lib.hid (by rw [alloc_new' _ (by simp)])
    have HB := Lib.hid (below_al (below_al (Below.refl w.heap.size w) (.cells (wcells a) 31)) (.cells #[.int .u64 x, .int .u64 y] 40))
    refine (SBig.out _).mono ?_
    rintro e wr ⟨r1, rfl, hr, hb⟩
    replace HB := Lib.hid (below_then HB.out hb)
    replace Ga := Lib.hid ((hb.block _ (lt_of_heap Ga.out)).trans Ga.out)
    replace Gw := Lib.hid ((hb.block _ (lt_of_heap Gw.out)).trans Gw.out)
    have R1 := Lib.hid hr
    have B1 := Lib.hid (Below.refl wr.heap.size wr)
    clear hr hb
    have cGa := cell_row Ga.out
    have cGw := cell_row Gw.out
    clear cGa cGw
    have HZ2 := Lib.hid (lt_of_heap Gw.out)
    have HZ3 := Lib.hid B1.out.size
    replace Ga := Lib.hid (keepAl (o' := .cells (wcells 0) 31) Ga.out)
    replace Gw := Lib.hid (keepAl (o' := .cells (wcells 0) 31) Gw.out)
    replace B1 := Lib.hid (below_al B1.out (.cells (wcells 0) 31))
    have Gp := Lib.hid (alloc_new (wr) (.cells (wcells 0) 31))
    replace HB := Lib.hid (below_al HB.out (.cells (wcells 0) 31))
    replace Ga := Lib.hid (keepAl (o' := .cells (wcells 0) 31) Ga.out)
    replace Gw := Lib.hid (keepAl (o' := .cells (wcells 0) 31) Gw.out)
    replace B1 := Lib.hid (below_al B1.out (.cells (wcells 0) 31))
    replace Gp := Lib.hid (keepAl (o' := .cells (wcells 0) 31) Gp.out)
    have Gm := Lib.hid (alloc_new' (w := (wr).alloc (.cells (wcells 0) 31)) (n := wr.heap.size + 1) (.cells (wcells 0) 31) (by simp))
    replace HB := Lib.hid (below_al HB.out (.cells (wcells 0) 31))
    go_upto_region 4 with fail
    obtain ⟨w34, hw⟩ : ∃ wx, wx = ((wr).alloc (.cells (wcells 0) 31)).alloc (.cells (wcells 0) 31) := ⟨_, rfl⟩
    rw [← hw] at Ga Gw B1 Gp Gm HB ⊢
    clear hw
    have cGa := cell_row Ga.out
    have cGw := cell_row Gw.out
    have cGp := cell_row Gp.out
    have cGm := cell_row Gm.out
    go_upto_region 7 with fail
    clear cGa cGw cGp cGm
    have cGa := cell_row Ga.out
    have cGw := cell_row Gw.out
    have cGp := cell_row Gp.out
    have cGm := cell_row Gm.out
    go_wp2_with fail
    refine (SPm.out _).mono ?_
    rintro e w35 ⟨rm, rfl, hr, hb⟩
    clear cGa cGw cGp cGm
    replace HB := Lib.hid (below_then HB.out hb)
    replace Ga := Lib.hid ((hb.block _ (lt_of_heap Ga.out)).trans Ga.out)
    replace Gw := Lib.hid ((hb.block _ (lt_of_heap Gw.out)).trans Gw.out)
    replace B1 := Lib.hid (below_then B1.out hb)
    replace Gp := Lib.hid ((hb.block _ (lt_of_heap Gp.out)).trans Gp.out)
    replace Gm := Lib.hid ((hb.block _ (lt_of_heap Gm.out)).trans Gm.out)
    have Rm := Lib.hid hr
    clear hr hb
    have cGa := cell_row Ga.out
    have cGw := cell_row Gw.out
    have cGp := cell_row Gp.out
    have cGm := cell_row Gm.out
    go_wp2_with fail
    refine (SOne.out _).mono ?_
    rintro e w36 ⟨ro, rfl, hr, hb⟩
    clear cGa cGw cGp cGm
    replace HB := Lib.hid (below_then HB.out hb)
    replace Ga := Lib.hid ((hb.block _ (lt_of_heap Ga.out)).trans Ga.out)
    replace Gw := Lib.hid ((hb.block _ (lt_of_heap Gw.out)).trans Gw.out)
    replace B1 := Lib.hid (below_then B1.out hb)
    replace Gp := Lib.hid ((hb.block _ (lt_of_heap Gp.out)).trans Gp.out)
    replace Gm := Lib.hid ((hb.block _ (lt_of_heap Gm.out)).trans Gm.out)
    replace Rm := Lib.hid (Rm.out.below hb)
    have Ro := Lib.hid hr
    clear hr hb
    have cGa := cell_row Ga.out
    have cGw := cell_row Gw.out
    have cGp := cell_row Gp.out
    have cGm := cell_row Gm.out
    go_wp2_with fail
    refine (SS1.out _ _ _ Rm.out Ro.out).mono ?_
    rintro e w37 ⟨rs, rfl, hr, hb⟩
    clear cGa cGw cGp cGm
    replace HB := Lib.hid (below_then HB.out hb)
    replace Ga := Lib.hid ((hb.block _ (lt_of_heap Ga.out)).trans Ga.out)
    replace Gw := Lib.hid ((hb.block _ (lt_of_heap Gw.out)).trans Gw.out)
    replace B1 := Lib.hid (below_then B1.out hb)
    replace Gp := Lib.hid ((hb.block _ (lt_of_heap Gp.out)).trans Gp.out)
    replace Gm := Lib.hid ((hb.block _ (lt_of_heap Gm.out)).trans Gm.out)
    replace Rm := Lib.hid (Rm.out.below hb)
    replace Ro := Lib.hid (Ro.out.below hb)
    have Rs := Lib.hid hr
    clear hr hb
    have cGa := cell_row Ga.out
    have cGw := cell_row Gw.out
    have cGp := cell_row Gp.out
    have cGm := cell_row Gm.out
    go_wp2_with fail
    refine (SWm.out _ _ Rs.out).mono ?_
    rintro e w38 ⟨rfl, hb⟩
    clear cGa cGw cGp cGm
    replace HB := Lib.hid (below_then HB.out hb)
    replace Ga := Lib.hid ((hb.block _ (lt_of_heap Ga.out)).trans Ga.out)
    replace Gw := Lib.hid ((hb.block _ (lt_of_heap Gw.out)).trans Gw.out)
    replace B1 := Lib.hid (below_then B1.out hb)
    replace Gp := Lib.hid ((hb.block _ (lt_of_heap Gp.out)).trans Gp.out)
    replace Gm := Lib.hid ((hb.block _ (lt_of_heap Gm.out)).trans Gm.out)
    replace Rs := Lib.hid (Rs.out.below hb)
    clear hb
    have stm := st_row (P := Try.prog) Gm.out rfl (MK)
    replace Ga := Lib.hid ((setRow_other (w38) (wr.heap.size + 1) _ (wcells (MK)) (by (have := HZ2.out; have := HZ3.out; omega))).trans Ga.out)
    replace Gw := Lib.hid ((setRow_other (w38) (wr.heap.size + 1) _ (wcells (MK)) (by (have := HZ2.out; have := HZ3.out; omega))).trans Gw.out)
    replace B1 := Lib.hid (below_setRow' B1.out (show _ ≤ wr.heap.size + 1 by (have := HZ2.out; have := HZ3.out; omega)) (wcells (MK)))
    replace Gp := Lib.hid ((setRow_other (w38) (wr.heap.size + 1) _ (wcells (MK)) (by (have := HZ2.out; have := HZ3.out; omega))).trans Gp.out)
    replace Gm := Lib.hid (setRow_heap (w38) (wr.heap.size + 1) _ (wcells (MK)) _ _ Gm.out)
    replace HB := Lib.hid (below_setRow' HB.out (show _ ≤ wr.heap.size + 1 by (have := HZ2.out; have := HZ3.out; omega)) (wcells (MK)))
    have cGa := cell_row Ga.out
    have cGw := cell_row Gw.out
    have cGp := cell_row Gp.out
    have cGm := cell_row Gm.out
    go_upto_region 8 with fail
    clear cGa cGw cGp cGm stm
    obtain ⟨w39, hw⟩ : ∃ wx, wx = (w38).setRow (wr.heap.size + 1) (wcells (MK)) := ⟨_, rfl⟩
    rw [← hw] at Ga Gw B1 Gp Gm HB ⊢
    clear hw
    have cGa := cell_row Ga.out
    have cGw := cell_row Gw.out
    have cGp := cell_row Gp.out
    have cGm := cell_row Gm.out
    go_wp2_with fail
    refine (SW.out _).mono ?_
    rintro e w40 ⟨rW, rfl, hr, hb⟩
    clear cGa cGw cGp cGm
    replace HB := Lib.hid (below_then HB.out hb)
    replace Ga := Lib.hid ((hb.block _ (lt_of_heap Ga.out)).trans Ga.out)
    replace Gw := Lib.hid ((hb.block _ (lt_of_heap Gw.out)).trans Gw.out)
    replace B1 := Lib.hid (below_then B1.out hb)
    replace Gp := Lib.hid ((hb.block _ (lt_of_heap Gp.out)).trans Gp.out)
    replace Gm := Lib.hid ((hb.block _ (lt_of_heap Gm.out)).trans Gm.out)
    have RW := Lib.hid hr
    clear hr hb
    have cGa := cell_row Ga.out
    have cGw := cell_row Gw.out
    have cGp := cell_row Gp.out
    have cGm := cell_row Gm.out
    go_wp2_with fail
    refine (SSub.out _ _ _ RW.out (R1.out.below B1.out)).mono ?_
    rintro e w41 ⟨rS, rfl, hr, hb⟩
    clear cGa cGw cGp cGm
    replace HB := Lib.hid (below_then HB.out hb)
    replace Ga := Lib.hid ((hb.block _ (lt_of_heap Ga.out)).trans Ga.out)
    replace Gw := Lib.hid ((hb.block _ (lt_of_heap Gw.out)).trans Gw.out)
    replace B1 := Lib.hid (below_then B1.out hb)
    replace Gp := Lib.hid ((hb.block _ (lt_of_heap Gp.out)).trans Gp.out)
    replace Gm := Lib.hid ((hb.block _ (lt_of_heap Gm.out)).trans Gm.out)
    replace RW := Lib.hid (RW.out.below hb)
    have RS := Lib.hid hr
    clear hr hb
    have cGa := cell_row Ga.out
    have cGw := cell_row Gw.out
    have cGp := cell_row Gp.out
    have cGm := cell_row Gm.out
    go_wp2_with fail
    refine (SWn.out _ _ RS.out).mono ?_
    rintro e w42 ⟨rfl, hb⟩
    clear cGa cGw cGp cGm
    replace HB := Lib.hid (below_then HB.out hb)
    replace Ga := Lib.hid ((hb.block _ (lt_of_heap Ga.out)).trans Ga.out)
    replace Gw := Lib.hid ((hb.block _ (lt_of_heap Gw.out)).trans Gw.out)
    replace B1 := Lib.hid (below_then B1.out hb)
    replace Gp := Lib.hid ((hb.block _ (lt_of_heap Gp.out)).trans Gp.out)
    replace Gm := Lib.hid ((hb.block _ (lt_of_heap Gm.out)).trans Gm.out)
    replace RS := Lib.hid (RS.out.below hb)
    clear hb
    replace Ga := Lib.hid (keepAl (o' := .cells (wcells NG) 31) Ga.out)
    replace Gw := Lib.hid (keepAl (o' := .cells (wcells NG) 31) Gw.out)
    replace B1 := Lib.hid (below_al B1.out (.cells (wcells NG) 31))
    replace Gp := Lib.hid (keepAl (o' := .cells (wcells NG) 31) Gp.out)
    replace Gm := Lib.hid (keepAl (o' := .cells (wcells NG) 31) Gm.out)
    have Gn := Lib.hid (alloc_new (w42) (.cells (wcells NG) 31))
    replace HB := Lib.hid (below_al HB.out (.cells (wcells NG) 31))
    have cGa := cell_row Ga.out
    have cGw := cell_row Gw.out
    have cGp := cell_row Gp.out
    have cGm := cell_row Gm.out
    have cGn := cell_row Gn.out
    go_upto_region 9 with fail
    clear cGa cGw cGp cGm cGn
    obtain ⟨w43, hw⟩ : ∃ wx, wx = (w42).alloc (.cells (wcells NG) 31) := ⟨_, rfl⟩
    rw [← hw] at Ga Gw B1 Gp Gm Gn HB ⊢
    clear hw
    have xGa := ext_row (B := w43.heap.size) Ga.out (lt_of_heap Ga.out)
    have xGw := ext_row (B := w43.heap.size) Gw.out (lt_of_heap Gw.out)
    have xGp := ext_row (B := w43.heap.size) Gp.out (lt_of_heap Gp.out)
    have xGm := ext_row (B := w43.heap.size) Gm.out (lt_of_heap Gm.out)
    have xGn := ext_row (B := w43.heap.size) Gn.out (lt_of_heap Gn.out)
    refine wp_region_ext w43.heap.size (by kernel_rfl) (by kernel_rfl) ?_
    repeat (go_big_quiet_step (first | (go_at_call 51; with_reducible exact Calls.quiet_ext (Nat.le_refl _) (SL.out _)) | (go_at_call 52; with_reducible exact Calls.quiet_ext (Nat.le_refl _) (SRL.out _ _ (ext_bigB R1.out B1.out _))) | (go_at_call 53; with_reducible exact Calls.quiet_ext (Nat.le_refl _) (SBt.out _)) | (go_at_call 54; with_reducible exact Calls.quiet_ext (Nat.le_refl _) (SM.out _)) | (go_at_call 55; with_reducible exact Calls.quiet_ext (Nat.le_refl _) (SRM.out _)) | (go_at_call 56; with_reducible exact Calls.quiet_ext (Nat.le_refl _) (SN.out _)) | (go_at_call 57; with_reducible exact Calls.quiet_ext (Nat.le_refl _) (SP.out _)) | (go_at_call 58; with_reducible exact Calls.quiet_ext (Nat.le_refl _) (SMk.out _)) | (go_at_call 59; with_reducible exact Calls.quiet_ext (Nat.le_refl _) (SLo.out _)) | (go_at_call 60; with_reducible exact Calls.quiet_ext (Nat.le_refl _) (SF.out _)) | (go_at_call 40; with_reducible exact Calls.quiet_ext (Nat.le_refl _) (SA.out _))))
    refine wpQuiet_nil ?_
    intro w44 hb
    clear xGa xGw xGp xGm xGn
    replace HB := Lib.hid (below_then HB.out hb)
    replace Ga := Lib.hid ((hb.block _ (lt_of_heap Ga.out)).trans Ga.out)
    replace Gw := Lib.hid ((hb.block _ (lt_of_heap Gw.out)).trans Gw.out)
    replace B1 := Lib.hid (below_then B1.out hb)
    replace Gp := Lib.hid ((hb.block _ (lt_of_heap Gp.out)).trans Gp.out)
    replace Gm := Lib.hid ((hb.block _ (lt_of_heap Gm.out)).trans Gm.out)
    replace Gn := Lib.hid ((hb.block _ (lt_of_heap Gn.out)).trans Gn.out)
    clear hb
    go_wp2
    go_ret
    exact ⟨rfl, HB.out⟩
end Go.Proofs.Ytbjofgoimkmbfaa
