/- THE WALKS of package prod, the last: a power (of a small exponent). -/
import Derived.Test.YtenkaobgoknlhaaK13
import Derived.Test.YtenkaobgoknlhaaK6
namespace Go.Proofs.Ytenkaobgoknlhaa
open Go Go.RowKit

/-- A power, cut to 512 bits at each step; whether it never had to be cut. -/
def pwV (a : Nat) : Nat → Nat
  | 0 => 1
  | k + 1 => pwV a k * a % M
def pwF (a : Nat) : Nat → Bool
  | 0 => true
  | k + 1 => pwF a k && decide (pwV a k * a < M)
theorem one_ltM : 1 < M := by rw [M_eq, ← P2_0]; exact P2_lt (by omega)
theorem pwV_lt (a k : Nat) : pwV a k < M := by
  cases k with
  | zero => exact one_ltM
  | succ k => exact Nat.mod_lt _ M_pos

attribute [local go_sem ↓] Go.wp_at_zero Go.wp_at_succ
set_option maxRecDepth 100000 in
set_option maxHeartbeats 2000000 in
theorem ppower_any (a : Nat) (n : Int) (w : World) (ha : a < M) (_h1 : -9223372036854775808 ≤ n) (h2 : n ≤ 20) :
    Calls Try.prog 94 #[wv a, .int .i64 n] w fun e w' => e = .returned (.tuple #[wv (pwV a n.toNat), .bool (pwF a n.toNat)]) ∧ Below w.heap.size w w' := by
  obtain ⟨N, hN⟩ : ∃ N, N = n.toNat := ⟨_, rfl⟩
  rw [← hN]
  have hmin : min n 512 = n := by omega
  have hgt : ¬ (512 : Int) < n := by omega
  have HL : Hid (∀ k : Nat, (k : Int) < n ↔ k < N) := Lib.hid fun k => by omega
  have SO : Hid (∀ (w' : World) (p : Nat), w'.heap[p]? = some (.cells #[.int .u64 1] 24 (0, 0)) → Calls Try.prog 31 #[.slice (some ⟨p, 0, none⟩) 1 1] w' fun e w'' => e = .returned (wv 1) ∧ Below w'.heap.size w' w'') := Lib.hid fun w' p h => of_one 1 (by omega) w' p h
  have SC := Lib.hid (fun w' => cmp_w a 1 ha one_ltM w')
  have SM := Lib.hid (fun k w' => mul_w (pwV a k) a (pwV_lt a k) ha w')
  obtain ⟨TV, hTV⟩ : ∃ T, T = pwV a N := ⟨_, rfl⟩
  obtain ⟨TF, hTF⟩ : ∃ T, T = pwF a N := ⟨_, rfl⟩
  rw [← hTV, ← hTF]
  have HTV := Lib.hid hTV; have HTF := Lib.hid hTF
  clear ha h2 hN _h1 hTV hTF
  go_enter Try.func94, Try.ntmps94
  have HB := Lib.hid (Below.refl w.heap.size w)
  have Ga := Lib.hid (alloc_new (w) (.cells (wcells a) 26))
  replace HB := Lib.hid (below_al HB.out (.cells (wcells a) 26))
  replace Ga := Lib.hid (keepAl (o' := .cells (wcells 0) 26) Ga.out)
  have Gz := Lib.hid (alloc_new' (w := (w).alloc (.cells (wcells a) 26)) (n := w.heap.size + 1) (.cells (wcells 0) 26) (by simp))
  replace HB := Lib.hid (below_al HB.out (.cells (wcells 0) 26))
  replace Ga := Lib.hid (keepAl (o' := .cells #[.int .u64 1] 24) Ga.out)
  replace Gz := Lib.hid (keepAl (o' := .cells #[.int .u64 1] 24) Gz.out)
  have Ge := Lib.hid (alloc_new' (w := ((w).alloc (.cells (wcells a) 26)).alloc (.cells (wcells 0) 26)) (n := w.heap.size + 1 + 1) (.cells #[.int .u64 1] 24) (by simp))
  replace HB := Lib.hid (below_al HB.out (.cells #[.int .u64 1] 24))
  have cGa := cell_row Ga.out
  have cGz := cell_row Gz.out
  have cGe := cell_row Ge.out
  go_wp2_with fail
  refine (SO.out _ _ Ge.out).mono ?_
  rintro e w1 ⟨rfl, hb⟩
  clear cGa cGz cGe
  replace HB := Lib.hid (below_then HB.out hb)
  replace Ga := Lib.hid ((hb.block _ (lt_of_heap Ga.out)).trans Ga.out)
  replace Gz := Lib.hid ((hb.block _ (lt_of_heap Gz.out)).trans Gz.out)
  replace Ge := Lib.hid ((hb.block _ (lt_of_heap Ge.out)).trans Ge.out)
  clear hb
  have HO3 := Lib.hid (lt_of_heap Ge.out)
  replace Ga := Lib.hid (keepAl (o' := .cells (wcells 1) 26) Ga.out)
  replace Gz := Lib.hid (keepAl (o' := .cells (wcells 1) 26) Gz.out)
  replace Ge := Lib.hid (keepAl (o' := .cells (wcells 1) 26) Ge.out)
  have Go := Lib.hid (alloc_new (w1) (.cells (wcells 1) 26))
  replace HB := Lib.hid (below_al HB.out (.cells (wcells 1) 26))
  have cGa := cell_row Ga.out
  have cGz := cell_row Gz.out
  have cGe := cell_row Ge.out
  have cGo := cell_row Go.out
  go_upto_region 2 with fail
  clear cGa cGz cGe cGo
  obtain ⟨wL, hw⟩ : ∃ wx, wx = (w1).alloc (.cells (wcells 1) 26) := ⟨_, rfl⟩
  rw [← hw] at Ga Gz Ge Go HB ⊢
  clear hw
  go_cut [8] (fun s8 wx => (∃ b, s8 = .bool b) ∧ wx.heap[w.heap.size]? = some (.cells (wcells a) 26 (0, 0)) ∧ wx.heap[w.heap.size + 1]? = some (.cells (wcells 0) 26 (0, 0)) ∧ wx.heap[w1.heap.size]? = some (.cells (wcells 1) 26 (0, 0)) ∧ Below w.heap.size w wx)
  case first =>
    have k0 : ∀ j, wL.drew.cell? ⟨w.heap.size, j, none⟩ = (wcells a)[j]? := cell_row Ga.out
    have k1 : ∀ j, (wL.alloc (.cells #[.int .u64 1] 24)).drew.cell? ⟨w.heap.size, j, none⟩ = (wcells a)[j]? := keepRowAl (w := wL) k0
    have kn := Lib.hid (show (wL.alloc (.cells #[.int .u64 1] 24)).drew.heap[wL.heap.size]? = some (.cells #[.int .u64 1] 24 (0, 0)) from alloc_new wL _)
    go_region_with
      (first
        | (go_at_call 31
           refine (SO.out _ _ kn.out).mono ?_
           rintro e wA ⟨rfl, hb⟩
           have HB1 := Lib.hid (below_then (below_al HB.out _).drew hb)
           have GA1 := Lib.hid ((hb.block _ (lt_of_heap (keepAl (o' := .cells #[.int .u64 1] 24 (0, 0)) Ga.out))).trans (keepAl (o' := .cells #[.int .u64 1] 24 (0, 0)) Ga.out))
           have GZ1 := Lib.hid ((hb.block _ (lt_of_heap (keepAl (o' := .cells #[.int .u64 1] 24 (0, 0)) Gz.out))).trans (keepAl (o' := .cells #[.int .u64 1] 24 (0, 0)) Gz.out))
           have GO1 := Lib.hid ((hb.block _ (lt_of_heap (keepAl (o' := .cells #[.int .u64 1] 24 (0, 0)) Go.out))).trans (keepAl (o' := .cells #[.int .u64 1] 24 (0, 0)) Go.out))
           have cA := cell_row GA1.out
           clear hb)
        | (go_at_call 65
           refine (SC.out _).mono ?_
           rintro e wB ⟨rfl, hb⟩
           have HB2 := Lib.hid (below_then HB1.out hb)
           have GA2 := Lib.hid ((hb.block _ (lt_of_heap GA1.out)).trans GA1.out)
           have GZ2 := Lib.hid ((hb.block _ (lt_of_heap GZ1.out)).trans GZ1.out)
           have GO2 := Lib.hid ((hb.block _ (lt_of_heap GO1.out)).trans GO1.out)
           clear hb))
    all_goals
      go_wp2
      go_meet
      exact ⟨⟨_, rfl⟩, GA2.out, GZ2.out, GO2.out, HB2.out⟩
  case rest =>
    obtain ⟨⟨b, rfl⟩, hg1, hg2, hg3, hbw⟩ := hcut
    replace Ga := Lib.hid hg1; replace Gz := Lib.hid hg2; replace Go := Lib.hid hg3; replace HB := Lib.hid hbw
    clear hg1 hg2 hg3 hbw Ge SC SO
    go_wp2
    go_loopw [7, 27] (fun s7 s27 wr => ∃ k : Nat, s27 = .int .i64 k ∧ k ≤ N ∧ s7 = .bool (pwF a k) ∧ Hid (Below w.heap.size w wr) ∧ Hid (wr.heap[w.heap.size]? = some (.cells (wcells a) 26 (0, 0))) ∧ Hid (wr.heap[w.heap.size + 1]? = some (.cells (wcells 0) 26 (0, 0))) ∧ Hid (wr.heap[w1.heap.size]? = some (.cells (wcells (pwV a k)) 26 (0, 0)))) (fun _ s27 _ => N - (intOf s27).toNat)
    case atStart => exact ⟨0, rfl, Nat.zero_le _, rfl, HB, Ga, Gz, Go⟩
    case round =>
      clear HB Ga Gz Go
      obtain ⟨k, rfl, hk, rfl, HB, Ga, Gz, Go⟩ := hrel
      by_cases hlt : k < N
      · have e1 : (k : Int) < n := (HL.out k).2 hlt
        have S := Lib.hid (fun w' => SM.out k w')
        have HZ := Lib.hid (lt_of_heap Go.out)
        have HV := Lib.hid (show pwV a (k + 1) = pwV a k * a % M from rfl)
        have HF := Lib.hid (show pwF a (k + 1) = (pwF a k && decide (pwV a k * a < M)) from rfl)
        rw [← HV.out] at S
        obtain ⟨V, hV⟩ : ∃ V, V = pwV a k := ⟨_, rfl⟩
        obtain ⟨V2, hV2⟩ : ∃ V, V = pwV a (k + 1) := ⟨_, rfl⟩
        obtain ⟨f, hf⟩ : ∃ f, f = decide (pwV a k * a < M) := ⟨_, rfl⟩
        rw [← hf, ← hV, ← hV2] at S
        rw [← hV] at Go
        rw [← hf] at HF
        have HV2 := Lib.hid hV2; have HLT := Lib.hid hlt
        obtain ⟨F, hF⟩ : ∃ F, F = pwF a k := ⟨_, rfl⟩
        rw [← hF] at HF ⊢
        clear hV hV2 hf hF hk hlt HV
        have cGa := cell_row Ga.out
        have cGz := cell_row Gz.out
        have cGo := cell_row Go.out
        go_wp2_with fail
        refine (S.out _).mono ?_
        rintro e w2 ⟨rfl, hb⟩
        clear cGa cGz cGo
        replace HB := Lib.hid (below_then HB.out hb)
        replace Ga := Lib.hid ((hb.block _ (lt_of_heap Ga.out)).trans Ga.out)
        replace Gz := Lib.hid ((hb.block _ (lt_of_heap Gz.out)).trans Gz.out)
        replace Go := Lib.hid ((hb.block _ (lt_of_heap Go.out)).trans Go.out)
        clear hb
        have HZ := Lib.hid (lt_of_heap Go.out)
        replace Ga := Lib.hid (keepAl (o' := .cells (wcells V2) 26) Ga.out)
        replace Gz := Lib.hid (keepAl (o' := .cells (wcells V2) 26) Gz.out)
        replace Go := Lib.hid (keepAl (o' := .cells (wcells V2) 26) Go.out)
        have Gp := Lib.hid (alloc_new (w2) (.cells (wcells V2) 26))
        replace HB := Lib.hid (below_al HB.out (.cells (wcells V2) 26))
        have sto := st_row (P := Try.prog) Go.out rfl (V2)
        replace Ga := Lib.hid ((setRow_other ((w2).alloc (.cells (wcells V2) 26)) (w1.heap.size) _ (wcells (V2)) (by (have := HZ.out; have := HO3.out; omega))).trans Ga.out)
        replace Gz := Lib.hid ((setRow_other ((w2).alloc (.cells (wcells V2) 26)) (w1.heap.size) _ (wcells (V2)) (by (have := HZ.out; have := HO3.out; omega))).trans Gz.out)
        replace Gp := Lib.hid ((setRow_other ((w2).alloc (.cells (wcells V2) 26)) (w1.heap.size) _ (wcells (V2)) (by (have := HZ.out; have := HO3.out; omega))).trans Gp.out)
        replace Go := Lib.hid (setRow_heap ((w2).alloc (.cells (wcells V2) 26)) (w1.heap.size) _ (wcells (V2)) _ _ Go.out)
        replace HB := Lib.hid (below_setRow' HB.out (show _ ≤ w1.heap.size by (have := HZ.out; have := HO3.out; omega)) (wcells (V2)))
        cases F
        all_goals
          go_wp2
          go_roundw
          case rel => exact ⟨k + 1, by go_num, HLT.out, by rw [HF.out]; rfl, HB, Ga, Gz, by rw [← HV2.out]; exact Go⟩
          case measure => have := HLT.out; simp [intOf]; omega
      · obtain rfl : k = N := by omega
        have e1 : ¬ (k : Int) < n := fun h => hlt ((HL.out k).1 h)
        have HZ := Lib.hid (lt_of_heap Gz.out)
        rw [← HTV.out] at Go
        rw [← HTF.out]
        clear hk hlt
        have co := cell_row Go.out
        have stz := st_row (P := Try.prog) Gz.out rfl (TV)
        replace Ga := Lib.hid ((setRow_other (wr) (w.heap.size + 1) _ (wcells (TV)) (by (have := HO3.out; have := HZ.out; omega))).trans Ga.out)
        replace Go := Lib.hid ((setRow_other (wr) (w.heap.size + 1) _ (wcells (TV)) (by (have := HO3.out; have := HZ.out; omega))).trans Go.out)
        replace Gz := Lib.hid (setRow_heap (wr) (w.heap.size + 1) _ (wcells (TV)) _ _ Gz.out)
        replace HB := Lib.hid (below_setRow' HB.out (show _ ≤ w.heap.size + 1 by (have := HO3.out; have := HZ.out; omega)) (wcells (TV)))
        have cz := cell_row Gz.out
        go_wp2
        exact bodyPost_ret (v := .tuple #[wv TV, .bool TF]) (by simp [results, Try.results94, go_sem, cz]) rfl ⟨rfl, HB.out⟩
end Go.Proofs.Ytenkaobgoknlhaa
