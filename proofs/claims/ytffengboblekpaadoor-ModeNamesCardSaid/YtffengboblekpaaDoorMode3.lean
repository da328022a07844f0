/- THE WALKS of package mode, going on: a number without its lowest digits. -/
import Derived.Test.YtffengboblekpaaDoorMode2
namespace Go.Proofs.YtffengboblekpaaDoor
open Go Go.RowKit

def hiN (a : Nat) (n : Int) : Nat := a / P2 (clamp7 n)
def upN (a : Nat) (n : Int) (more : Bool) (m : Int) (neg : Bool) : Bool := growsN m neg ((hiN a n).testBit 0) (restN a n more)
def cutV (a : Nat) (n : Int) (more : Bool) (m : Int) (neg : Bool) : Nat := if isMode m then (if upN a n more m neg then (hiN a n + 1) % M else hiN a n) else 0
def cutB (a : Nat) (n : Int) (more : Bool) (m : Int) : Bool := isMode m && (restN a n more != 0)
theorem hiN_eq {a : Nat} (ha : a < M) (n : Int) : a / P2 (clampN n) = hiN a n := by
  unfold hiN
  rcases (show n < 0 ∨ (0 ≤ n ∧ n ≤ 512) ∨ 512 < n by omega) with h | ⟨h, h'⟩ | h
  · rw [clampN_neg h, show clamp7 n = 0 by unfold clamp7; rw [if_pos h]]
  · have := clampN_mid h h'
    rw [show clamp7 n = clampN n by unfold clamp7; rw [if_neg (by omega), if_neg (by omega)]; omega]
  · have h3 : 512 ≤ clamp7 n := by unfold clamp7; rw [if_neg (by omega)]; split <;> omega
    rw [clampN_hi h, ← M_eq, Nat.div_eq_of_lt ha, Nat.div_eq_of_lt (Nat.lt_of_lt_of_le ha (by rw [M_eq]; exact P2_le h3))]
theorem hiN_lt {a : Nat} (ha : a < M) (n : Int) : hiN a n < M := Nat.lt_of_le_of_lt (Nat.div_le_self _ _) ha

attribute [local go_sem ↓] Go.wp_at_zero Go.wp_at_succ
set_option maxRecDepth 100000 in
set_option maxHeartbeats 4000000 in
theorem cut_w (a : Nat) (n : Int) (more : Bool) (m : Int) (neg : Bool) (w : World) (ha : a < M) (h1 : -9223372036854775808 ≤ n) (h2 : n ≤ 9223372036854775807) :
    Calls Tryd.prog 47 #[wv a, .int .i64 n, .bool more, .int .i64 m, .bool neg] w fun e w' => e = .returned (.tuple #[wv (cutV a n more m neg), .bool (cutB a n more m)]) ∧ Below w.heap.size w w' := by
  have SI := Lib.hid (fun w' => mode_is m w')
  by_cases hm : isMode m = true
  · have SR := Lib.hid (fun w' => rest_w a n more w' ha h1 h2)
    have SS := Lib.hid (fun w' => shr_any a ha n w' h1 h2)
    rw [hiN_eq ha] at SS
    have SB := Lib.hid (fun w' => bit_w (hiN a n) (hiN_lt ha n) 0 w' (by omega) (by omega))
    rw [show bitN (hiN a n) 0 = (hiN a n).testBit 0 from rfl] at SB
    have SG := Lib.hid (fun w' => grows_w m neg ((hiN a n).testBit 0) (restN a n more) w')
    rw [hm, Bool.true_and] at SG
    have SO : Hid (∀ (w' : World) (p : Nat), w'.heap[p]? = some (.cells #[.int .u64 1] 22 (0, 0)) → Calls Tryd.prog 67 #[.slice (some ⟨p, 0, none⟩) 1 1] w' fun e w'' => e = .returned (wv 1) ∧ Below w'.heap.size w' w'') := Lib.hid fun w' p h => of_one 1 (by omega) w' p h
    have SA := Lib.hid (fun w' => add_w (hiN a n) 1 (hiN_lt ha n) (by have := M_half; have := P2_pos 511; omega) w')
    have HV : Hid (cutV a n more m neg = if upN a n more m neg then (hiN a n + 1) % M else hiN a n) := Lib.hid (by unfold cutV; rw [if_pos hm])
    have HB2 : Hid (cutB a n more m = (restN a n more != 0)) := Lib.hid (by unfold cutB; rw [hm, Bool.true_and])
    rw [hm] at SI
    have HUP : Hid (growsN m neg ((hiN a n).testBit 0) (restN a n more) = upN a n more m neg) := Lib.hid rfl
    rw [HUP.out] at SG
    obtain ⟨R, hR⟩ : ∃ R, R = restN a n more := ⟨_, rfl⟩
    rw [← hR] at SR SG HB2
    obtain ⟨H, hH⟩ : ∃ H, H = hiN a n := ⟨_, rfl⟩
    rw [← hH] at SS SB SG SA HV
    obtain ⟨bt, hb⟩ : ∃ b, b = H.testBit 0 := ⟨_, rfl⟩
    rw [← hb] at SB SG
    obtain ⟨U, hU⟩ : ∃ U, U = upN a n more m neg := ⟨_, rfl⟩
    rw [← hU] at SG HV
    obtain ⟨f1, hf⟩ : ∃ b, b = decide (a % P2 (clampN n) ≠ 0) := ⟨_, rfl⟩
    rw [← hf] at SS
    obtain ⟨f2, hf2⟩ : ∃ b, b = decide (M ≤ H + 1) := ⟨_, rfl⟩
    rw [← hf2] at SA
    obtain ⟨H1, hH1⟩ : ∃ b, b = (H + 1) % M := ⟨_, rfl⟩
    rw [← hH1] at SA HV
    clear hR hH hb hU hf hf2 hH1 HUP ha hm
    cases U
    · rw [if_neg Bool.false_ne_true] at HV
      go_enter Tryd.func47, Tryd.ntmps47
      have HB := Lib.hid (Below.refl w.heap.size w)
      have Ga := Lib.hid (alloc_new (w) (.cells (wcells a) 24))
      replace HB := Lib.hid (below_al HB.out (.cells (wcells a) 24))
      replace Ga := Lib.hid (keepAl (o' := .cells (wcells 0) 24) Ga.out)
      have Gz := Lib.hid (alloc_new' (w := (w).alloc (.cells (wcells a) 24)) (n := w.heap.size + 1) (.cells (wcells 0) 24) (by simp))
      replace HB := Lib.hid (below_al HB.out (.cells (wcells 0) 24))
      have cGa := cell_row Ga.out
      have cGz := cell_row Gz.out
      go_wp2_with fail
      refine (SI.out _).mono ?_
      rintro e w1 ⟨rfl, hb⟩
      clear cGa cGz
      replace HB := Lib.hid (below_then HB.out hb)
      replace Ga := Lib.hid ((hb.block _ (lt_of_heap Ga.out)).trans Ga.out)
      replace Gz := Lib.hid ((hb.block _ (lt_of_heap Gz.out)).trans Gz.out)
      clear hb
      have cGa := cell_row Ga.out
      have cGz := cell_row Gz.out
      go_wp2_with fail
      refine (SR.out _).mono ?_
      rintro e w2 ⟨rfl, hb⟩
      clear cGa cGz
      replace HB := Lib.hid (below_then HB.out hb)
      replace Ga := Lib.hid ((hb.block _ (lt_of_heap Ga.out)).trans Ga.out)
      replace Gz := Lib.hid ((hb.block _ (lt_of_heap Gz.out)).trans Gz.out)
      clear hb
      have cGa := cell_row Ga.out
      have cGz := cell_row Gz.out
      go_wp2_with fail
      refine (SS.out _).mono ?_
      rintro e w3 ⟨rfl, hb⟩
      clear cGa cGz
      replace HB := Lib.hid (below_then HB.out hb)
      replace Ga := Lib.hid ((hb.block _ (lt_of_heap Ga.out)).trans Ga.out)
      replace Gz := Lib.hid ((hb.block _ (lt_of_heap Gz.out)).trans Gz.out)
      clear hb
      have HZ := Lib.hid (lt_of_heap Gz.out)
      replace Ga := Lib.hid (keepAl (o' := .cells (wcells H) 24) Ga.out)
      replace Gz := Lib.hid (keepAl (o' := .cells (wcells H) 24) Gz.out)
      have Go := Lib.hid (alloc_new (w3) (.cells (wcells H) 24))
      replace HB := Lib.hid (below_al HB.out (.cells (wcells H) 24))
      have cGa := cell_row Ga.out
      have cGz := cell_row Gz.out
      have cGo := cell_row Go.out
      go_wp2_with fail
      refine (SB.out _).mono ?_
      rintro e w4 ⟨rfl, hb⟩
      clear cGa cGz cGo
      replace HB := Lib.hid (below_then HB.out hb)
      replace Ga := Lib.hid ((hb.block _ (lt_of_heap Ga.out)).trans Ga.out)
      replace Gz := Lib.hid ((hb.block _ (lt_of_heap Gz.out)).trans Gz.out)
      replace Go := Lib.hid ((hb.block _ (lt_of_heap Go.out)).trans Go.out)
      clear hb
      have cGa := cell_row Ga.out
      have cGz := cell_row Gz.out
      have cGo := cell_row Go.out
      go_wp2_with fail
      refine (SG.out _).mono ?_
      rintro e w5 ⟨rfl, hb⟩
      clear cGa cGz cGo
      replace HB := Lib.hid (below_then HB.out hb)
      replace Ga := Lib.hid ((hb.block _ (lt_of_heap Ga.out)).trans Ga.out)
      replace Gz := Lib.hid ((hb.block _ (lt_of_heap Gz.out)).trans Gz.out)
      replace Go := Lib.hid ((hb.block _ (lt_of_heap Go.out)).trans Go.out)
      clear hb
      have cz := cell_row Go.out
      have stz := st_row (P := Tryd.prog) Gz.out rfl (H)
      replace Ga := Lib.hid ((setRow_other (w5) (w.heap.size + 1) _ (wcells (H)) (by (have := HZ.out; omega))).trans Ga.out)
      replace Go := Lib.hid ((setRow_other (w5) (w.heap.size + 1) _ (wcells (H)) (by (have := HZ.out; omega))).trans Go.out)
      replace Gz := Lib.hid (setRow_heap (w5) (w.heap.size + 1) _ (wcells (H)) _ _ Gz.out)
      replace HB := Lib.hid (below_setRow' HB.out (show _ ≤ w.heap.size + 1 by (have := HZ.out; omega)) (wcells (H)))
      have c1 := cell_row Gz.out
      go_wp2
      exact bodyPost_ret (v := .tuple #[wv H, .bool (R != 0)]) (by simp [results, Tryd.results47, go_sem, c1]) rfl ⟨by rw [HV.out, HB2.out], HB.out⟩
    · rw [if_pos rfl] at HV
      go_enter Tryd.func47, Tryd.ntmps47
      have HB := Lib.hid (Below.refl w.heap.size w)
      have Ga := Lib.hid (alloc_new (w) (.cells (wcells a) 24))
      replace HB := Lib.hid (below_al HB.out (.cells (wcells a) 24))
      replace Ga := Lib.hid (keepAl (o' := .cells (wcells 0) 24) Ga.out)
      have Gz := Lib.hid (alloc_new' (w := (w).alloc (.cells (wcells a) 24)) (n := w.heap.size + 1) (.cells (wcells 0) 24) (by simp))
      replace HB := Lib.hid (below_al HB.out (.cells (wcells 0) 24))
      have cGa := cell_row Ga.out
      have cGz := cell_row Gz.out
      go_wp2_with fail
      refine (SI.out _).mono ?_
      rintro e w6 ⟨rfl, hb⟩
      clear cGa cGz
      replace HB := Lib.hid (below_then HB.out hb)
      replace Ga := Lib.hid ((hb.block _ (lt_of_heap Ga.out)).trans Ga.out)
      replace Gz := Lib.hid ((hb.block _ (lt_of_heap Gz.out)).trans Gz.out)
      clear hb
      have cGa := cell_row Ga.out
      have cGz := cell_row Gz.out
      go_wp2_with fail
      refine (SR.out _).mono ?_
      rintro e w7 ⟨rfl, hb⟩
      clear cGa cGz
      replace HB := Lib.hid (below_then HB.out hb)
      replace Ga := Lib.hid ((hb.block _ (lt_of_heap Ga.out)).trans Ga.out)
      replace Gz := Lib.hid ((hb.block _ (lt_of_heap Gz.out)).trans Gz.out)
      clear hb
      have cGa := cell_row Ga.out
      have cGz := cell_row Gz.out
      go_wp2_with fail
      refine (SS.out _).mono ?_
      rintro e w8 ⟨rfl, hb⟩
      clear cGa cGz
      replace HB := Lib.hid (below_then HB.out hb)
      replace Ga := Lib.hid ((hb.block _ (lt_of_heap Ga.out)).trans Ga.out)
      replace Gz := Lib.hid ((hb.block _ (lt_of_heap Gz.out)).trans Gz.out)
      clear hb
      have HZ := Lib.hid (lt_of_heap Gz.out)
      replace Ga := Lib.hid (keepAl (o' := .cells (wcells H) 24) Ga.out)
      replace Gz := Lib.hid (keepAl (o' := .cells (wcells H) 24) Gz.out)
      have Go := Lib.hid (alloc_new (w8) (.cells (wcells H) 24))
      replace HB := Lib.hid (below_al HB.out (.cells (wcells H) 24))
      have cGa := cell_row Ga.out
      have cGz := cell_row Gz.out
      have cGo := cell_row Go.out
      go_wp2_with fail
      refine (SB.out _).mono ?_
      rintro e w9 ⟨rfl, hb⟩
      clear cGa cGz cGo
      replace HB := Lib.hid (below_then HB.out hb)
      replace Ga := Lib.hid ((hb.block _ (lt_of_heap Ga.out)).trans Ga.out)
      replace Gz := Lib.hid ((hb.block _ (lt_of_heap Gz.out)).trans Gz.out)
      replace Go := Lib.hid ((hb.block _ (lt_of_heap Go.out)).trans Go.out)
      clear hb
      have cGa := cell_row Ga.out
      have cGz := cell_row Gz.out
      have cGo := cell_row Go.out
      go_wp2_with fail
      refine (SG.out _).mono ?_
      rintro e w10 ⟨rfl, hb⟩
      clear cGa cGz cGo
      replace HB := Lib.hid (below_then HB.out hb)
      replace Ga := Lib.hid ((hb.block _ (lt_of_heap Ga.out)).trans Ga.out)
      replace Gz := Lib.hid ((hb.block _ (lt_of_heap Gz.out)).trans Gz.out)
      replace Go := Lib.hid ((hb.block _ (lt_of_heap Go.out)).trans Go.out)
      clear hb
      have HZ3 := Lib.hid (lt_of_heap Go.out)
      go_upto_region 6 with fail
      obtain ⟨wL, hw⟩ : ∃ wx, wx = w10 := ⟨_, rfl⟩
      rw [← hw] at Ga Gz Go HB ⊢
      clear hw
      go_cut [] (fun wx => wx.heap[w.heap.size + 1]? = some (.cells (wcells 0) 24 (0, 0)) ∧ wx.heap[w8.heap.size]? = some (.cells (wcells H1) 24 (0, 0)) ∧ Below w.heap.size w wx)
      case first =>
        have k0 : ∀ j, wL.drew.cell? ⟨w8.heap.size, j, none⟩ = (wcells H)[j]? := cell_row Go.out
        have k1 : ∀ j, (wL.alloc (.cells #[.int .u64 1] 22)).drew.cell? ⟨w8.heap.size, j, none⟩ = (wcells H)[j]? := keepRowAl (w := wL) k0
        have kn := Lib.hid (show (wL.alloc (.cells #[.int .u64 1] 22)).drew.heap[wL.heap.size]? = some (.cells #[.int .u64 1] 22 (0, 0)) from alloc_new wL _)
        have hz := HZ.out
        go_region_with
          (first
            | (go_at_call 67
               refine (SO.out _ _ kn.out).mono ?_
               rintro e wA ⟨rfl, hb⟩
               have HB1 := Lib.hid (below_then (below_al HB.out _).drew hb)
               have GZ1 := Lib.hid ((hb.block _ (lt_of_heap (keepAl (o' := .cells #[.int .u64 1] 22 (0, 0)) Gz.out))).trans (keepAl (o' := .cells #[.int .u64 1] 22 (0, 0)) Gz.out))
               have GO1 := Lib.hid ((hb.block _ (lt_of_heap (keepAl (o' := .cells #[.int .u64 1] 22 (0, 0)) Go.out))).trans (keepAl (o' := .cells #[.int .u64 1] 22 (0, 0)) Go.out))
               have cA := cell_row GO1.out
               clear hb)
            | (go_at_call 54
               refine (SA.out _).mono ?_
               rintro e wB ⟨rfl, hb⟩
               have HB2 := Lib.hid (below_then HB1.out hb)
               have GZ2 := Lib.hid ((hb.block _ (lt_of_heap GZ1.out)).trans GZ1.out)
               have GO2 := Lib.hid ((hb.block _ (lt_of_heap GO1.out)).trans GO1.out)
               have st := st_row (P := Tryd.prog) GO2.out rfl H1
               clear hb))
        all_goals
          go_wp2
          go_meet
          exact ⟨(setRow_other _ _ _ _ (by omega)).trans GZ2.out, setRow_heap _ _ _ _ _ _ GO2.out, below_setRow' HB2.out (by omega) _⟩
      case rest =>
        obtain ⟨hg1, hg2, hbw⟩ := hcut
        replace Gz := Lib.hid hg1; replace Go := Lib.hid hg2; replace HB := Lib.hid hbw
        clear hg1 hg2 hbw
        have cz := cell_row Go.out
        have stz := st_row (P := Tryd.prog) Gz.out rfl (H1)
        replace Go := Lib.hid ((setRow_other (wc) (w.heap.size + 1) _ (wcells (H1)) (by (have := HZ.out; omega))).trans Go.out)
        replace Gz := Lib.hid (setRow_heap (wc) (w.heap.size + 1) _ (wcells (H1)) _ _ Gz.out)
        replace HB := Lib.hid (below_setRow' HB.out (show _ ≤ w.heap.size + 1 by (have := HZ.out; omega)) (wcells (H1)))
        have c1 := cell_row Gz.out
        go_wp2
        exact bodyPost_ret (v := .tuple #[wv H1, .bool (R != 0)]) (by simp [results, Tryd.results47, go_sem, c1]) rfl ⟨by rw [HV.out, HB2.out], HB.out⟩
  · have hm' : isMode m = false := by simpa using hm
    have HV : Hid (cutV a n more m neg = 0) := Lib.hid (by unfold cutV; rw [hm']; rfl)
    have HB2 : Hid (cutB a n more m = false) := Lib.hid (by unfold cutB; rw [hm']; rfl)
    rw [hm'] at SI
    clear hm hm' ha
    go_enter Tryd.func47, Tryd.ntmps47
    have HB := Lib.hid (Below.refl w.heap.size w)
    have Ga := Lib.hid (alloc_new (w) (.cells (wcells a) 24))
    replace HB := Lib.hid (below_al HB.out (.cells (wcells a) 24))
    replace Ga := Lib.hid (keepAl (o' := .cells (wcells 0) 24) Ga.out)
    have Gz := Lib.hid (alloc_new' (w := (w).alloc (.cells (wcells a) 24)) (n := w.heap.size + 1) (.cells (wcells 0) 24) (by simp))
    replace HB := Lib.hid (below_al HB.out (.cells (wcells 0) 24))
    have cGa := cell_row Ga.out
    have cGz := cell_row Gz.out
    go_wp2_with fail
    refine (SI.out _).mono ?_
    rintro e w11 ⟨rfl, hb⟩
    clear cGa cGz
    replace HB := Lib.hid (below_then HB.out hb)
    replace Ga := Lib.hid ((hb.block _ (lt_of_heap Ga.out)).trans Ga.out)
    replace Gz := Lib.hid ((hb.block _ (lt_of_heap Gz.out)).trans Gz.out)
    clear hb
    have stz := st_row (P := Tryd.prog) Gz.out rfl (0)
    replace Ga := Lib.hid ((setRow_other (w11) (w.heap.size + 1) _ (wcells (0)) (by (omega))).trans Ga.out)
    replace Gz := Lib.hid (setRow_heap (w11) (w.heap.size + 1) _ (wcells (0)) _ _ Gz.out)
    replace HB := Lib.hid (below_setRow' HB.out (show _ ≤ w.heap.size + 1 by (omega)) (wcells (0)))
    have c1 := cell_row Gz.out
    go_wp2
    exact bodyPost_ret (v := .tuple #[wv 0, .bool false]) (by simp [results, Tryd.results47, go_sem, c1]) rfl ⟨by rw [HV.out, HB2.out], HB.out⟩
end Go.Proofs.YtffengboblekpaaDoor
