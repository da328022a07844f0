/- THE WALK of the reference of srt: the digits of so many steps, and what is left behind them. -/
import Derived.Test.YtffengboblekpaaDoorK21
import Derived.Test.YtffengboblekpaaDoorSrtM
import Derived.Test.YtffengboblekpaaDoorInts
import Derived.Test.YtffengboblekpaaDoorK18
import Derived.Test.YtffengboblekpaaDoorK17
namespace Go.Proofs.YtffengboblekpaaDoor
open Go Go.RowKit

theorem ownsRow_base {w : World} {base base' : Nat} {e : TypeId} {size : Nat} {v : Value} {n : Nat} {xs : List Value} (h : w.ownsRow base e size v n xs) (hb : base' ≤ base) : w.ownsRow base' e size v n xs :=
  ⟨h.1, h.2.imp id fun ⟨g, cap, cur, h1, h2, h3⟩ => ⟨g, cap, cur, h1, Nat.le_trans hb h2, h3⟩⟩
/-- A list of the function's own, in a world. -/
def OwnJ (base : Nat) (zs : List Int) (w : World) (v : Value) : Prop := w.ownsRow base 3 1 v zs.length (zs.map fun z => .int .i64 z)
theorem OwnJ.older {base : Nat} {zs : List Int} {w w' : World} {v : Value} (h : OwnJ base zs w v) (hb : Below w.heap.size w w') : OwnJ base zs w' v :=
  ownsRow_but h (But.of_below (S := fun _ => False) hb) (fun _ _ hf => hf)
theorem IsSgn.grown {w w' : World} {v u : Value} {z : Int} {base m : Nat} {xs : List Value} (h : IsSgn w v z) (hu : w.ownsRow base 3 1 u m xs) (hg : w.grownBy w' u.ownBlock) : IsSgn w' v z := by
  obtain ⟨a, L, cap, e, hb⟩ := h
  exact ⟨a, L, cap, e, hb.grown hu hg⟩
theorem IsSgn.apart {w w' : World} {v : Value} {z : Int} {O : Nat} (h : IsSgn w v z) (hO : ∀ j z, w.cell? ⟨O, j, none⟩ ≠ some (.int .u32 z)) (hb : But (· = O) w w') : IsSgn w' v z := by
  obtain ⟨a, L, cap, e, h⟩ := h
  exact ⟨a, L, cap, e, h.apart hO hb⟩
theorem st_2 {P : Program} {w : World} {g : Nat} {t : TypeId} {x y : Value} (h : w.heap[g]? = some (.cells #[x, y] t (0, 0))) (a : Option Addr) (L cap : Nat) (b : Bool) :
    Sem.run P (storeCells ⟨g, 0, none⟩ [.slice a L cap, .bool b]) w = .ok () (w.setRow g #[.slice a L cap, .bool b]) := by
  have := run_storeCells_from (P := P) g t [.slice a L cap, .bool b] 0 #[x, y] w h (by simp) (by intro v hv; simp at hv; rcases hv with rfl | rfl <;> rfl)
  simpa using this
theorem res_tc {P : Program} {fn : Func} {p q : Tmp} {ty : TypeId} (h : fn.results = #[.tmp q, .cell p ty]) (tmps : Array Value) (w : World) (g : Nat) (t : TypeId) (cs : Array Value) (fr : Nat × Nat) (v : Value)
    (hp : tmps.getD p undef = .pointer (some ⟨g, 0, none⟩)) (hq : tmps.getD q undef = v) (hg : w.heap[g]? = some (.cells cs t fr)) (hA : Agg P ty cs.size) :
    (results fn tmps).run P w = .ok (.tuple #[v, .agg cs]) w := by
  have hp' : tmps[p]?.getD undef = .pointer (some ⟨g, 0, none⟩) := by simpa using hp
  have hq' : tmps[q]?.getD undef = v := by simpa using hq
  simp [results, h, hp', hq', asAddr, load_agg hA hg]
attribute [local go_sem ↓] Go.wp_at_zero Go.wp_at_succ
set_option maxRecDepth 100000 in
set_option maxHeartbeats 8000000 in
theorem run15_any (n d K : Nat) (hn : n < M) (hd : d < M) (hm : mayN n d = 0) (hK : K ≤ 65) (w : World) :
    Calls Tryd.prog 28 #[wv n, wv d, .int .i64 (K : Int)] w fun e w' => ∃ va vb, e = .returned (.tuple #[va, vb]) ∧ IsIntsN w' va (sDigs (n * P2 (128 - blen d)) (d * P2 (128 - blen d)) ((rowT (d * P2 (128 - blen d)) : Nat) : Int) K) ∧ IsSgn w' vb (sLeft (n * P2 (128 - blen d)) (d * P2 (128 - blen d)) ((rowT (d * P2 (128 - blen d)) : Nat) : Int) K) ∧ Below w.heap.size w w' := by
  obtain ⟨h1, h2, h3⟩ := may_ok hm
  obtain ⟨r1, r2, r3, _, _⟩ := shift_range hm
  have hl : blen d ≤ 120 := blen_le_of h2
  have SL := Lib.hid (fun v w' h => rlen_any v d w' (small_M hd) h)
  have SX := Lib.hid (fun v w' h => rshl_any v n (128 - blen d) w' (small_M hn) (by omega) h)
  have SY := Lib.hid (fun v w' h => rshl_any v d (128 - blen d) w' (small_M hd) (by omega) h)
  obtain ⟨hf, hrow⟩ := fit_of r1 r2
  have hDB : d * P2 (128 - blen d) < BIG := small_of r2 (by omega)
  have SR := Lib.hid (fun v w' h => rshr_any v (d * P2 (128 - blen d)) 124 w' hDB (by omega) h)
  rw [← hrow] at SR
  have hw0 : IntKind.i64.wrap (128 - ((blen d : Nat) : Int)) = ((128 - blen d : Nat) : Int) := by rw [IntWalk.i64_in _ (by omega)]; omega
  obtain ⟨D, hD⟩ : ∃ X, X = d * P2 (128 - blen d) := ⟨_, rfl⟩
  rw [← hD] at SY SR r1 r2 r3 hf hDB ⊢
  obtain ⟨N, hN⟩ : ∃ X, X = n * P2 (128 - blen d) := ⟨_, rfl⟩
  rw [← hN] at SX r3 ⊢
  obtain ⟨k, hke⟩ : ∃ X, X = 128 - blen d := ⟨_, rfl⟩
  rw [← hke] at SX SY hw0
  obtain ⟨l, hle⟩ : ∃ X, X = blen d := ⟨_, rfl⟩
  rw [← hle] at SL hw0
  obtain ⟨rn, hrn⟩ : ∃ X, X = rowT D := ⟨_, rfl⟩
  rw [← hrn] at SR hf ⊢
  obtain ⟨r, hr⟩ : ∃ X, X = ((rn : Nat) : Int) := ⟨_, rfl⟩
  have HRN := Lib.hid (show 0 < rn ∧ rn < P2 32 by rw [P2_32]; have := hf.lo; have := hf.hi; omega)
  have hrw : IntKind.i64.wrap ((rn : Nat) : Int) = ((rn : Nat) : Int) := IntWalk.i64_in _ (by have := hf.lo; have := hf.hi; omega)
  have HR := Lib.hid hr
  rw [← hr] at hf ⊢
  have HFIT := Lib.hid hf; have HD2 := Lib.hid r2; have HND := Lib.hid r3; have HK := Lib.hid hK; have HDB := Lib.hid hDB
  have HD0 := Lib.hid (show 0 < D by have := P2_pos 127; omega)
  have HMa := Lib.hid hn; have HMb := Lib.hid hd
  clear hn hd hm h1 h2 h3 r1 r2 r3 hl hf hrow hDB hD hN hke hle hrn hK hr
  go_enter Tryd.func28, Tryd.ntmps28
  have HB := Lib.hid (Below.refl w.heap.size w)
  have Ga := Lib.hid (alloc_new (w) (.cells (wcells n) 24))
  replace HB := Lib.hid (below_al HB.out (.cells (wcells n) 24))
  replace Ga := Lib.hid (keepAl (o' := .cells (wcells d) 24) Ga.out)
  have Gb := Lib.hid (alloc_new' (w := (w).alloc (.cells (wcells n) 24)) (n := w.heap.size + 1) (.cells (wcells d) 24) (by simp))
  replace HB := Lib.hid (below_al HB.out (.cells (wcells d) 24))
  replace Ga := Lib.hid (keepAl (o' := .cells #[.slice none 0 0, .bool false] 52) Ga.out)
  replace Gb := Lib.hid (keepAl (o' := .cells #[.slice none 0 0, .bool false] 52) Gb.out)
  have Gz := Lib.hid (alloc_new' (w := ((w).alloc (.cells (wcells n) 24)).alloc (.cells (wcells d) 24)) (n := w.heap.size + 1 + 1) (.cells #[.slice none 0 0, .bool false] 52) (by simp))
  replace HB := Lib.hid (below_al HB.out (.cells #[.slice none 0 0, .bool false] 52))
  go_upto_region 1 with fail
  obtain ⟨w0, hw⟩ : ∃ wx, wx = (((w).alloc (.cells (wcells n) 24)).alloc (.cells (wcells d) 24)).alloc (.cells #[.slice none 0 0, .bool false] 52) := ⟨_, rfl⟩
  rw [← hw] at Ga Gb Gz HB ⊢
  clear hw
  go_cut [8, 9] (fun s t wx => IsBig wx s n ∧ IsBig wx t d ∧ wx.heap[w.heap.size + 1 + 1]? = some (.cells #[.slice none 0 0, .bool false] 52 (0, 0)) ∧ Below w.heap.size w wx)
  case first =>
    have k0 := cell_row Ga.out
    have k1 := cell_row Gb.out
    have HB := Lib.hid HB.out.drew
    have HA0 := Lib.hid (show w0.drew.heap[w.heap.size]? = some (.cells (wcells n) 24 (0, 0)) from Ga.out)
    have HA1 := Lib.hid (show w0.drew.heap[w.heap.size + 1]? = some (.cells (wcells d) 24 (0, 0)) from Gb.out)
    have HA2 := Lib.hid (show w0.drew.heap[w.heap.size + 1 + 1]? = some (.cells #[.slice none 0 0, .bool false] 52 (0, 0)) from Gz.out)
    go_region_held3 (fun w' => (∀ j, w'.cell? ⟨w.heap.size, j, none⟩ = (wcells n)[j]?) ∧ (∀ j, w'.cell? ⟨w.heap.size + 1, j, none⟩ = (wcells d)[j]?))
      (first
        | go_keep
        | (go_split_ands
           refine ⟨keepRow hb ?_, keepRow hb ?_⟩ <;> assumption))
      ((go_at_call 10
        refine (big_any _ ?hM _).mono ?_
        case hM => first | exact HMa.out | exact HMb.out
        rintro e wA ⟨rA, rfl, hr, hb⟩
        have HB := Lib.hid (below_then HB.out hb)
        (try have RA := Lib.hid (RA.out.below hb))
        (try have RB := Lib.hid (RB.out.below hb))
        have HA0 := Lib.hid ((hb.block _ (lt_of_heap HA0.out)).trans HA0.out)
        have HA1 := Lib.hid ((hb.block _ (lt_of_heap HA1.out)).trans HA1.out)
        have HA2 := Lib.hid ((hb.block _ (lt_of_heap HA2.out)).trans HA2.out)
        first | have RA : Hid (IsBig wA rA n) := Lib.hid hr | have RB : Hid (IsBig wA rA d) := Lib.hid hr))
    all_goals (go_wp2; go_meet; exact ⟨RA.out, RB.out, HA2.out, HB.out⟩)
  case rest =>
    obtain ⟨hx, hy, hg1, hbw⟩ := hcut
    have RX := Lib.hid hx; have RY := Lib.hid hy; have HB := Lib.hid hbw; have Gz := Lib.hid hg1
    clear hx hy hbw hg1 Ga Gb HMa HMb
    have cGz := cell_row Gz.out
    go_wp2_with fail
    refine (SL.out _ _ RY.out).mono ?_
    rintro e w1 ⟨rfl, hb⟩
    clear cGz
    replace HB := Lib.hid (below_then HB.out hb)
    replace RX := Lib.hid (RX.out.below hb)
    replace RY := Lib.hid (RY.out.below hb)
    replace Gz := Lib.hid ((hb.block _ (lt_of_heap Gz.out)).trans Gz.out)
    clear hb
    have cGz := cell_row Gz.out
    go_wp2_with fail
    refine (SX.out _ _ RX.out).mono ?_
    rintro e w2 ⟨rx, rfl, hr, hb⟩
    clear cGz
    replace HB := Lib.hid (below_then HB.out hb)
    replace RX := Lib.hid (RX.out.below hb)
    replace RY := Lib.hid (RY.out.below hb)
    replace Gz := Lib.hid ((hb.block _ (lt_of_heap Gz.out)).trans Gz.out)
    have Rx := Lib.hid hr
    clear hr hb
    obtain ⟨xa, xL, xc, rfl⟩ := Rx.out.slice
    have KS : Hid (IsSgn (w2) (.agg #[.slice xa xL xc, .bool false]) (sLeft N D r 0)) := Lib.hid (isSgn_of Rx.out (show N = (N : Int).natAbs by omega) (by rw [decide_eq_false]; show ¬ (N : Int) < 0; omega))
    have HZ := Lib.hid (lt_of_heap Gz.out)
    replace RY := Lib.hid (RY.out.below (below_al (Below.refl (w2).heap.size (w2)) (.cells #[.slice xa xL xc, .bool false] 52)))
    replace Gz := Lib.hid (keepAl (o' := .cells #[.slice xa xL xc, .bool false] 52) Gz.out)
    replace KS := Lib.hid (KS.out.older (below_al (Below.refl (w2).heap.size (w2)) (.cells #[.slice xa xL xc, .bool false] 52)))
    have Gl := Lib.hid (alloc_new (w2) (.cells #[.slice xa xL xc, .bool false] 52))
    replace HB := Lib.hid (below_al HB.out (.cells #[.slice xa xL xc, .bool false] 52))
    have cGz := cell_row Gz.out
    have cGl := cell_row Gl.out
    go_wp2_with fail
    refine (SY.out _ _ RY.out).mono ?_
    rintro e w3 ⟨ry, rfl, hr, hb⟩
    clear cGz cGl
    replace HB := Lib.hid (below_then HB.out hb)
    replace RY := Lib.hid (RY.out.below hb)
    replace Gz := Lib.hid ((hb.block _ (lt_of_heap Gz.out)).trans Gz.out)
    replace KS := Lib.hid (KS.out.older hb)
    replace Gl := Lib.hid ((hb.block _ (lt_of_heap Gl.out)).trans Gl.out)
    have Ry := Lib.hid hr
    clear hr hb
    have cGz := cell_row Gz.out
    have cGl := cell_row Gl.out
    go_wp2_with fail
    refine (SR.out _ _ Ry.out).mono ?_
    rintro e w4 ⟨rq, rfl, hr, hb⟩
    clear cGz cGl
    replace HB := Lib.hid (below_then HB.out hb)
    replace Gz := Lib.hid ((hb.block _ (lt_of_heap Gz.out)).trans Gz.out)
    replace KS := Lib.hid (KS.out.older hb)
    replace Gl := Lib.hid ((hb.block _ (lt_of_heap Gl.out)).trans Gl.out)
    replace Ry := Lib.hid (Ry.out.below hb)
    have Rq := Lib.hid hr
    clear hr hb
    obtain ⟨qb, qo, qc, rfl, hl1, ch⟩ := Rq.out.lone HRN.out.1 HRN.out.2
    clear hl1
    obtain ⟨O, hO⟩ : ∃ O, O = w2.heap.size := ⟨_, rfl⟩
    have HO0 := Lib.hid (show w.heap.size + 1 + 1 < O by have := HZ.out; omega)
    rw [← hO] at Gl ⊢
    clear hO
    go_wp2
    clear ch Rq
    go_loopw [13, 14] (fun s13 s14 wr => ∃ i : Nat, s14 = .int .i64 (i : Int) ∧ i ≤ K ∧ Hid (OwnJ (O + 1) (sDigs N D r i) wr s13) ∧ Hid (IsBig wr ry D) ∧ Hid (∃ la lL lc F, wr.heap[O]? = some (.cells #[.slice la lL lc, .bool F] 52 (0, 0)) ∧ IsSgn wr (.agg #[.slice la lL lc, .bool F]) (sLeft N D r i)) ∧ Hid (wr.heap[w.heap.size + 1 + 1]? = some (.cells #[.slice none 0 0, .bool false] 52 (0, 0))) ∧ Hid (Below w.heap.size w wr)) (fun _ s14 _ => K - (intOf s14).toNat)
    case atStart => exact ⟨0, rfl, Nat.zero_le _, Lib.hid (World.ownsRow_nil _ _ _ _), Ry, Lib.hid ⟨_, _, _, _, Gl.out, KS.out⟩, Gz, HB⟩
    case round =>
      clear HB Gl Gz KS Ry SL SX SY SR HZ
      obtain ⟨i, rfl, hi, KO, RY, HL, Gz, HB⟩ := hrel
      obtain ⟨la, lL, lc, F, hgl, hks⟩ := HL.out
      have Gl := Lib.hid hgl
      have KS := Lib.hid hks
      clear HL hgl hks
      by_cases hlt : i < K
      · have hK := HK.out
        obtain ⟨y, hs⟩ := tstep_of HFIT.out HND.out HD2.out (i := i) (by omega)
        have y1 := hs.y1; have y2 := hs.y2
        have hsm := sLeft_small HFIT.out HND.out HD2.out i (by omega)
        have h800 : P2 260 < P2 800 := P2_lt (by omega)
        have hZa : (sLeft N D r i).natAbs < P2 800 := by omega
        have T4 := Lib.hid (fun w' => refBounds_any r w' HFIT.out.lo HFIT.out.hi)
        unfold bnd at T4
        have hyq : (sLeft N D r i).natAbs / P2 (124 + 2 * (64 - i)) ≤ 2147483647 := by
          have hP := P2_pos (124 + 2 * (64 - i))
          have h1 := hs.hy
          have h2 := Int.ediv_mul_le (sLeft N D r i) (show ((P2 (124 + 2 * (64 - i)) : Nat) : Int) ≠ 0 by omega)
          have h3 := Int.lt_ediv_add_one_mul_self (sLeft N D r i) (show (0 : Int) < ((P2 (124 + 2 * (64 - i)) : Nat) : Int) by omega)
          rw [h1] at h2 h3
          have h4 : (sLeft N D r i).natAbs ≤ 1001 * P2 (124 + 2 * (64 - i)) := by
            have g1 : -1001 * ((P2 (124 + 2 * (64 - i)) : Nat) : Int) ≤ y * ((P2 (124 + 2 * (64 - i)) : Nat) : Int) := Int.mul_le_mul_of_nonneg_right (by omega) (by omega)
            have g2 : (y + 1) * ((P2 (124 + 2 * (64 - i)) : Nat) : Int) ≤ 1001 * ((P2 (124 + 2 * (64 - i)) : Nat) : Int) := Int.mul_le_mul_of_nonneg_right (by omega) (by omega)
            omega
          exact Nat.le_trans (Nat.div_le_of_le_mul (by rw [Nat.mul_comm]; exact h4)) (by decide)
        have T5 : Hid (∀ (v : Value) (w' : World), IsSgn w' v (sLeft N D r i) → Calls Tryd.prog 59 #[v, .int .i64 (124 + 2 * (64 - (i : Int)))] w' fun e w'' => e = .returned (.int .i64 y) ∧ Below w'.heap.size w' w'') := Lib.hid fun v w' h => by
          have := down15_any v (sLeft N D r i) (124 + 2 * (64 - i)) w' hZa (by omega) hyq h
          rw [hs.hy, show ((124 + 2 * (64 - i) : Nat) : Int) = 124 + 2 * (64 - (i : Int)) by omega] at this
          exact this
        have ed : dgAt r y = sDig N D r i := by unfold sDig; rw [hs.hy]; rfl
        have T6 := Lib.hid (fun w' => refDigit_any (l3 (4 * (r + 1))) (l3 (r + 1)) (l3 (-2 * r)) (l3 (-5 * r)) y w')
        rw [show dg (l3 (4 * (r + 1))) (l3 (r + 1)) (l3 (-2 * r)) (l3 (-5 * r)) y = sDig N D r i from ed] at T6
        have hd := sDig_range N D r i
        obtain ⟨k, hk⟩ := Int.eq_ofNat_of_zero_le (show 0 ≤ max (sDig N D r i) (-sDig N D r i) by omega)
        have T7 := Lib.hid (fun w' => small_any k w' (by omega))
        have T8 : Hid (∀ (v : Value) (w' : World), IsBig w' v D → Calls Tryd.prog 14 #[v, .int .i64 (2 * (64 - (i : Int)))] w' (GivesBig (D * P2 (2 * (64 - i))) w')) := Lib.hid fun v w' h => by
          have := rshl_any v D (2 * (64 - i)) w' HDB.out (by omega) h
          rwa [show ((2 * (64 - i) : Nat) : Int) = 2 * (64 - (i : Int)) by omega] at this
        have hEl : D * P2 (2 * (64 - i)) < P2 260 := by
          have g1 := Nat.mul_lt_mul_of_pos_right HD2.out (P2_pos (2 * (64 - i)))
          rw [← P2_add] at g1
          exact Nat.lt_of_lt_of_le g1 (P2_le (by omega))
        have hE0 : 0 < D * P2 (2 * (64 - i)) := Nat.mul_pos HD0.out (P2_pos _)
        have T9 := Lib.hid (fun v v2 w' h h' => mul_any v v2 k (D * P2 (2 * (64 - i))) w' (small_of (show k < P2 64 by rw [P2_64]; omega) (by omega)) (small_of hEl (by omega)) h h')
        have hnx := sLeft_succ N D r i
        have h800b : P2 260 * 8 < P2 800 := by
          have := P2_add 260 3
          rw [P2_eq 3] at this
          have h2 : P2 (260 + 3) < P2 800 := P2_lt (by omega)
          omega
        have hkE : k * (D * P2 (2 * (64 - i))) < P2 800 := by
          have : k * (D * P2 (2 * (64 - i))) ≤ 2 * (D * P2 (2 * (64 - i))) := Nat.mul_le_mul_right _ (by omega)
          omega
        have hZ2 : (sDig N D r i * ((D * P2 (2 * (64 - i)) : Nat) : Int)).natAbs = k * (D * P2 (2 * (64 - i))) := by
          rw [Int.natAbs_mul, Int.natAbs_natCast]
          congr 1
          omega
        have hZs : decide (sDig N D r i < 0) = decide (sDig N D r i * ((D * P2 (2 * (64 - i)) : Nat) : Int) < 0) := by
          have hpos : (0 : Int) < ((D * P2 (2 * (64 - i)) : Nat) : Int) := by omega
          refine decide_eq_decide.2 ⟨fun h => Int.mul_neg_of_neg_of_pos h hpos, fun h => ?_⟩
          rcases Int.lt_or_le (sDig N D r i) 0 with h0 | h0
          · exact h0
          · exact absurd (Int.mul_nonneg h0 (Int.le_of_lt hpos)) (by omega)
        have T10 : Hid (∀ (v v2 : Value) (w' : World), IsSgn w' v (sLeft N D r i) → IsSgn w' v2 (sDig N D r i * ((D * P2 (2 * (64 - i)) : Nat) : Int)) → Calls Tryd.prog 60 #[v, v2] w' fun e w'' => ∃ r', e = .returned r' ∧ IsSgn w'' r' (sLeft N D r (i + 1)) ∧ Below w'.heap.size w' w'') := Lib.hid fun v v2 w' h h' => by
          rw [hnx]
          exact sub15_any v v2 _ _ w' hZa (by rw [hZ2]; exact hkE) h h'
        have HZ2 := Lib.hid hZ2; have HZs := Lib.hid hZs
        have HDS := Lib.hid (sDigs_succ N D r i)
        have HDL := Lib.hid (sDigs_len N D r i)
        have HLT := Lib.hid hlt; have HI65 := Lib.hid (show i < 65 by omega)
        have hw1 : IntKind.i64.wrap (64 - (i : Int)) = 64 - (i : Int) := IntWalk.i64_in _ (by omega)
        have hw2 : IntKind.i64.wrap (2 * (64 - (i : Int))) = 2 * (64 - (i : Int)) := IntWalk.i64_in _ (by omega)
        have hw3 : IntKind.i64.wrap (124 + 2 * (64 - (i : Int))) = 124 + 2 * (64 - (i : Int)) := IntWalk.i64_in _ (by omega)
        have hw5 : IntKind.i64.wrap (-sDig N D r i) = -sDig N D r i := IntWalk.i64_in _ (by omega)
        have hw6 : IntKind.u64.wrap (k : Int) = (k : Int) := by rw [u64wrap]; omega
        have hw7 : IntKind.i64.wrap ((i : Int) + 1) = ((i + 1 : Nat) : Int) := by rw [IntWalk.i64_in _ (by omega)]; omega
        obtain ⟨Z, hZe⟩ : ∃ x, x = sLeft N D r i := ⟨_, rfl⟩
        rw [← hZe] at KS T5 T10
        obtain ⟨Z2, hZ2e⟩ : ∃ x, x = sDig N D r i * ((D * P2 (2 * (64 - i)) : Nat) : Int) := ⟨_, rfl⟩
        rw [← hZ2e] at T10 HZ2 HZs
        obtain ⟨d, hde⟩ : ∃ d, d = sDig N D r i := ⟨_, rfl⟩
        rw [← hde] at T6 hk hw5 HDS HZs
        rw [HR.out] at T4 T6
        obtain ⟨E, hEe⟩ : ∃ x, x = D * P2 (2 * (64 - i)) := ⟨_, rfl⟩
        rw [← hEe] at T8 T9 HZ2
        obtain ⟨SO, hSO⟩ : ∃ x, x = k * E := ⟨_, rfl⟩
        rw [← hSO] at T9 HZ2
        have e0 : (0 : Int) ≤ (i : Int) := Int.natCast_nonneg _
        have e1 : (i : Int) < (K : Int) := by omega
        have e2 : (i : Int) ≤ 64 := by omega
        have HX := Lib.hid HO0.out
        clear hK hs y1 y2 hsm h800 hZa hyq ed hd hEl hE0 hnx h800b hkE hZ2 hZs hZe hZ2e hde hEe hSO hlt hi
        have cGl := cell_row Gl.out
        have cGz := cell_row Gz.out
        go_upto_region 11 with fail
        clear cGl cGz
        have KX : ∀ x : Ext (wr).heap.size (wr), IsSgn x.val (.agg #[.slice la lL lc, .bool F]) Z := fun x => KS.out.older x.property
        have xGl := ext_row (B := wr.heap.size) Gl.out (lt_of_heap Gl.out)
        have xGz := ext_row (B := wr.heap.size) Gz.out (lt_of_heap Gz.out)
        refine wp_region_ext wr.heap.size (by kernel_rfl) (by kernel_rfl) ?_
        repeat (go_big_quiet_step (first | (go_at_call 58; with_reducible exact Calls.quiet_ext (Nat.le_refl _) (T4.out _)) | (go_at_call 59; with_reducible exact Calls.quiet_ext (Nat.le_refl _) (T5.out _ _ (KX _))) | (go_at_call 57; with_reducible exact Calls.quiet_ext (Nat.le_refl _) (T6.out _))))
        refine wpQuiet_nil ?_
        intro w5 hb
        clear xGl xGz
        replace HB := Lib.hid (below_then HB.out hb)
        replace RY := Lib.hid (RY.out.below hb)
        replace KO := Lib.hid (KO.out.older hb)
        replace KS := Lib.hid (KS.out.older hb)
        replace Gl := Lib.hid ((hb.block _ (lt_of_heap Gl.out)).trans Gl.out)
        replace Gz := Lib.hid ((hb.block _ (lt_of_heap Gz.out)).trans Gz.out)
        clear hb
        have HO := Lib.hid (show World.ownsRow _ _ _ _ _ _ _ from KO.out)
        obtain ⟨w7, hw7⟩ : ∃ wx, wx = w5 := ⟨_, rfl⟩
        rw [← hw7] at HO HB RY KS Gl Gz ⊢
        clear hw7 KX KO
        go_wp2_with (at_builtin; obtain ⟨i0, hi, hz0, hz1, hz2⟩ := info_parts infoInt; refine wpList_append_own _ rfl _ _ 37 rfl (O + 1) 3 i0 (.int .i64 0) 1 8 Tryd.underlying37 hi hz0 hz1 hz2 rfl (by decide) _ _ _ rfl (HO.out.alloc _) ⟨w7.heap.size, 0, none⟩ 1 1 [.int .i64 d] rfl rfl ?c1 ?c2 ?c3 ?c4 ?c5 ?_)
        case c1 =>
          intro j u hj
          match j, hj with
          | 0, hj => simp at hj; subst hj; simp [Addr.add]
        case c2 => intro u hu; simp at hu; subst hu; rfl
        case c3 => have := HDL.out; have := HI65.out; unfold maxLen; omega
        case c4 => have := HDL.out; have := HI65.out; omega
        case c5 => have := lt_of_heap Gl.out; simp; omega
        intro v' w3 hown3 hgrow _
        have KO : Hid (OwnJ (O + 1) (sDigs N D r (i + 1)) w3 v') := Lib.hid (by
          unfold OwnJ
          rw [HDS.out, List.map_append, List.length_append]
          exact hown3)
        replace RY := Lib.hid ((RY.out.below (below_al (Below.refl _ _) _)).grown (HO.out.alloc _) hgrow)
        replace KS := Lib.hid ((KS.out.older (below_al (Below.refl _ _) _)).grown (HO.out.alloc _) hgrow)
        replace Gl := Lib.hid ((hgrow.block O (lt_of_heap (keepAl Gl.out)) (fun e => by have := (HO.out.lt O e.symm).1; omega)).trans (keepAl Gl.out))
        replace Gz := Lib.hid ((hgrow.block (w.heap.size + 1 + 1) (lt_of_heap (keepAl Gz.out)) (fun e => by have := (HO.out.lt _ e.symm).1; have := HX.out; omega)).trans (keepAl Gz.out))
        replace HB := Lib.hid (below_append (ownsRow_base HO.out (show w.heap.size ≤ O + 1 by have := HX.out; omega)) HB.out HB.out.size hgrow)
        clear hown3 hgrow HO
        have cGl := cell_row Gl.out
        have cGz := cell_row Gz.out
        go_wp2_with fail
        refine (T7.out _).mono ?_
        rintro e w6 ⟨ra, rfl, hr, hb⟩
        clear cGl cGz
        replace HB := Lib.hid (below_then HB.out hb)
        replace RY := Lib.hid (RY.out.below hb)
        replace KO := Lib.hid (KO.out.older hb)
        replace KS := Lib.hid (KS.out.older hb)
        replace Gl := Lib.hid ((hb.block _ (lt_of_heap Gl.out)).trans Gl.out)
        replace Gz := Lib.hid ((hb.block _ (lt_of_heap Gz.out)).trans Gz.out)
        have Ra := Lib.hid hr
        clear hr hb
        have cGl := cell_row Gl.out
        have cGz := cell_row Gz.out
        go_wp2_with fail
        refine (T8.out _ _ RY.out).mono ?_
        rintro e w7 ⟨rb, rfl, hr, hb⟩
        clear cGl cGz
        replace HB := Lib.hid (below_then HB.out hb)
        replace RY := Lib.hid (RY.out.below hb)
        replace KO := Lib.hid (KO.out.older hb)
        replace KS := Lib.hid (KS.out.older hb)
        replace Gl := Lib.hid ((hb.block _ (lt_of_heap Gl.out)).trans Gl.out)
        replace Gz := Lib.hid ((hb.block _ (lt_of_heap Gz.out)).trans Gz.out)
        replace Ra := Lib.hid (Ra.out.below hb)
        have Rb := Lib.hid hr
        clear hr hb
        have cGl := cell_row Gl.out
        have cGz := cell_row Gz.out
        go_wp2_with fail
        refine (T9.out _ _ _ Ra.out Rb.out).mono ?_
        rintro e w8 ⟨rc, rfl, hr, hb⟩
        clear cGl cGz
        replace HB := Lib.hid (below_then HB.out hb)
        replace RY := Lib.hid (RY.out.below hb)
        replace KO := Lib.hid (KO.out.older hb)
        replace KS := Lib.hid (KS.out.older hb)
        replace Gl := Lib.hid ((hb.block _ (lt_of_heap Gl.out)).trans Gl.out)
        replace Gz := Lib.hid ((hb.block _ (lt_of_heap Gz.out)).trans Gz.out)
        replace Ra := Lib.hid (Ra.out.below hb)
        replace Rb := Lib.hid (Rb.out.below hb)
        have Rc := Lib.hid hr
        clear hr hb
        obtain ⟨ca, cL, cc, rfl⟩ := Rc.out.slice
        obtain ⟨F2, hF2⟩ : ∃ F, F = decide (d < 0) := ⟨_, rfl⟩
        have KT : Hid (IsSgn (w8) (.agg #[.slice ca cL cc, .bool F2]) Z2) := Lib.hid (isSgn_of Rc.out HZ2.out.symm (by rw [hF2]; exact HZs.out))
        have hF3 := hF2.symm
        clear hF2
        replace RY := Lib.hid (RY.out.below (below_al (Below.refl (w8).heap.size (w8)) (.cells #[.slice ca cL cc, .bool F2] 52)))
        replace KO := Lib.hid (KO.out.older (below_al (Below.refl (w8).heap.size (w8)) (.cells #[.slice ca cL cc, .bool F2] 52)))
        replace KS := Lib.hid (KS.out.older (below_al (Below.refl (w8).heap.size (w8)) (.cells #[.slice ca cL cc, .bool F2] 52)))
        replace Gl := Lib.hid (keepAl (o' := .cells #[.slice ca cL cc, .bool F2] 52) Gl.out)
        replace Gz := Lib.hid (keepAl (o' := .cells #[.slice ca cL cc, .bool F2] 52) Gz.out)
        replace KT := Lib.hid (KT.out.older (below_al (Below.refl (w8).heap.size (w8)) (.cells #[.slice ca cL cc, .bool F2] 52)))
        have Gt := Lib.hid (alloc_new (w8) (.cells #[.slice ca cL cc, .bool F2] 52))
        replace HB := Lib.hid (below_al HB.out (.cells #[.slice ca cL cc, .bool F2] 52))
        have cGl := cell_row Gl.out
        have cGz := cell_row Gz.out
        have cGt := cell_row Gt.out
        go_wp2_with fail
        refine (T10.out _ _ _ KS.out KT.out).mono ?_
        rintro e w9 ⟨rq, rfl, hr, hb⟩
        clear cGl cGz cGt
        replace HB := Lib.hid (below_then HB.out hb)
        replace RY := Lib.hid (RY.out.below hb)
        replace KO := Lib.hid (KO.out.older hb)
        replace KS := Lib.hid (KS.out.older hb)
        replace Gl := Lib.hid ((hb.block _ (lt_of_heap Gl.out)).trans Gl.out)
        replace Gz := Lib.hid ((hb.block _ (lt_of_heap Gz.out)).trans Gz.out)
        replace KT := Lib.hid (KT.out.older hb)
        replace Gt := Lib.hid ((hb.block _ (lt_of_heap Gt.out)).trans Gt.out)
        have Kq := Lib.hid hr
        clear hr hb
        obtain ⟨qa, qL, qc2, rfl, hqb⟩ := Kq.out
        clear hqb hF3
        obtain ⟨F4, hF4⟩ : ∃ F, F = decide (sLeft N D r (i + 1) < 0) := ⟨_, rfl⟩
        rw [← hF4] at Kq ⊢
        clear hF4
        have c0 := cell_row Gl.out
        have f0 := free_row Gl.out
        obtain ⟨wn, hwn⟩ : ∃ wn, wn = ((w9).setCell ⟨O, 0, none⟩ (.slice qa qL qc2)).setCell ⟨O, 1, none⟩ (.bool F4) := ⟨_, rfl⟩
        have G1 : Hid (((w9).setCell ⟨O, 0, none⟩ (.slice qa qL qc2)).heap[O]? = some (.cells #[.slice qa qL qc2, .bool F] 52 (0, 0))) := Lib.hid (set_row Gl.out 0 _)
        have G2 : Hid (wn.heap[O]? = some (.cells #[.slice qa qL qc2, .bool F4] 52 (0, 0))) := Lib.hid (by rw [hwn]; exact set_row G1.out 1 _)
        have c1 := cell_row G1.out
        have f1 := free_row G1.out
        have nd := Lib.hid (noDigits2 Gl.out ⟨_, _, _, rfl⟩)
        have hbu : Hid (But (· = O) (w9) wn) := Lib.hid (by rw [hwn]; exact But.set (S := (· = O)) (But.set (S := (· = O)) (But.refl _ _) rfl 0 _) rfl 1 _)
        have RY2 := Lib.hid (RY.out.apart nd.out hbu.out)
        have KQ2 := Lib.hid (Kq.out.apart nd.out hbu.out)
        have KO2 : Hid (OwnJ (O + 1) (sDigs N D r (i + 1)) wn v') := Lib.hid (ownsRow_but (show World.ownsRow _ _ _ _ _ _ _ from KO.out) hbu.out (fun k hk => by omega))
        have Gz2 := Lib.hid (hbu.out.heap Gz.out (by have := HX.out; omega))
        have HB2 := Lib.hid (But.below HB.out hbu.out HB.out.size (fun j hj => by have := HX.out; omega))
        have HWN := Lib.hid hwn.symm
        clear hwn
        go_wp2
        rw [HWN.out]
        go_roundw
        case rel => exact ⟨i + 1, by first | rfl | go_num, HLT.out, KO2, RY2, Lib.hid ⟨_, _, _, _, G2.out, KQ2.out⟩, Gz2, HB2⟩
        case measure => have := HLT.out; simp [intOf]; omega
      · obtain rfl : i = K := by omega
        have HI := Lib.hid (ints_of_own (by rfl) KO.out)
        clear hlt hi
        go_upto_region 15 with fail
        have kGl := cell_row (w := wr.drew) Gl.out
        go_cut [6] (fun s6 wx => s6 = u13 ∧ wx.heap[w.heap.size + 1 + 1]? = some (.cells #[.slice la lL lc, .bool F] 52 (0, 0)) ∧ But (· = w.heap.size + 1 + 1) wr wx)
        case first =>
          have UL := Lib.hid (But.refl (· = w.heap.size + 1 + 1) wr).drew
          have AGz := Lib.hid (show wr.drew.heap[_]? = some _ from Gz.out)
          have c0 := cell_row AGz.out
          have f0 := free_row AGz.out
          have G1 : Hid ((wr.drew.setCell ⟨w.heap.size + 1 + 1, 0, none⟩ (.slice la lL lc)).heap[w.heap.size + 1 + 1]? = some (.cells #[.slice la lL lc, .bool false] 52 (0, 0))) := Lib.hid (set_row AGz.out 0 _)
          have c1 := cell_row G1.out
          have f1 := free_row G1.out
          have f2 := free_row Gz.out
          have G3 : Hid ((wr.setCell ⟨w.heap.size + 1 + 1, 0, none⟩ (.slice la lL lc)).heap[w.heap.size + 1 + 1]? = some (.cells #[.slice la lL lc, .bool false] 52 (0, 0))) := Lib.hid (set_row Gz.out 0 _)
          have c3 := cell_row G3.out
          have f3 := free_row G3.out
          have c4 := cell_row (w := (wr.setCell ⟨w.heap.size + 1 + 1, 0, none⟩ (.slice la lL lc)).drew) G3.out
          have f4 : ∀ j, (wr.drew.setCell ⟨w.heap.size + 1 + 1, 0, none⟩ (.slice la lL lc)).frozen? ⟨w.heap.size + 1 + 1, j, none⟩ = false := free_row G1.out
          go_region_with (skip)
          all_goals
            go_wp2
            go_meet
            exact ⟨rfl, set_row G1.out 1 _, But.set (S := (· = w.heap.size + 1 + 1)) (But.set (S := (· = w.heap.size + 1 + 1)) UL.out rfl 0 _) rfl 1 _⟩
        case rest =>
          obtain ⟨rfl, hg1, hbx⟩ := hcut
          have nd := Lib.hid (noDigits2 Gz.out ⟨_, _, _, rfl⟩)
          have KQ2 := Lib.hid (KS.out.apart nd.out hbx)
          have HX := HO0.out
          have HI2 := Lib.hid (ints_of_own (by rfl) (ownsRow_but (show World.ownsRow _ _ _ _ _ _ _ from KO.out) hbx (fun k hk => by omega)))
          have HB2 := Lib.hid (But.below HB.out hbx HB.out.size (fun j hj => by omega))
          go_wp2
          exact bodyPost_ret (v := .tuple #[_, .agg #[.slice la lL lc, .bool F]]) (res_tc Tryd.results28 _ _ _ _ _ _ _ rfl rfl hg1 aggSgn) rfl ⟨_, _, rfl, HI2.out, KQ2.out, HB2.out⟩
end Go.Proofs.YtffengboblekpaaDoor
