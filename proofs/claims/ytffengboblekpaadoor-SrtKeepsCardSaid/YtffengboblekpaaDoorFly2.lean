/- THE WALKS of package fly, going on: the number of a list of digits. -/
import Derived.Test.YtffengboblekpaaDoorFlyb
import Derived.Test.YtffengboblekpaaDoorInts
import Derived.WalkMore
namespace Go.Proofs.YtffengboblekpaaDoor
open Go Go.RowKit

attribute [local go_sem ↓] Go.wp_at_zero Go.wp_at_succ
theorem isBad_any (d : Int) (w : World) : Calls Tryd.prog 69 #[.int .i64 d] w fun e w' => e = .returned (.bool (!isDig d)) ∧ w' = w := by
  have S1 := Lib.hid (fun w' => isF_any d w')
  obtain ⟨b, hb⟩ : ∃ b, b = isDig d := ⟨_, rfl⟩
  rw [← hb] at S1 ⊢
  clear hb
  go_enter Tryd.func69, Tryd.ntmps69
  go_wp2_with fail
  refine (S1.out _).mono ?_
  rintro e w1 ⟨rfl, rfl⟩
  go_wp2
  go_ret
  exact ⟨rfl, rfl⟩
theorem enters_bad : Enters Tryd.prog 69 := fun args w => by simp [go_sem]

set_option maxRecDepth 100000 in
set_option maxHeartbeats 1000000 in
theorem indexF_any (v : Value) (zs : List Int) (K : Nat) (w : World) (hl : zs.length ≤ 1000000) (hK : K ≤ zs.length) (hg : ∀ j d, j < K → zs[j]? = some d → isDig d = true) (hb : ∀ d, zs[K]? = some d → isDig d = false) (hv : IsIntsN w v zs) :
    Calls Tryd.prog 92 #[v, .func (.func 69) #[] #[]] w fun e w' => e = .returned (.int .i64 (if K < zs.length then (K : Int) else -1)) ∧ Below w.heap.size w w' := by
  have hcall := enters_bad
  unfold Enters at hcall
  obtain ⟨a, cap, rfl, hcap, hcells⟩ := hv
  obtain ⟨n, hn⟩ : ∃ n, n = zs.length := ⟨_, rfl⟩
  rw [← hn] at hl hcap hcells hK ⊢
  have hl' : (n : Int) ≤ 1000000 := by omega
  have HC := Lib.hid hcells; have HN := Lib.hid hn; have HG := Lib.hid hg; have HBD := Lib.hid hb; have HL := Lib.hid hl; have HK := Lib.hid hK
  obtain ⟨R, hR⟩ : ∃ R : Int, R = if K < n then (K : Int) else -1 := ⟨_, rfl⟩
  rw [← hR]
  have HR := Lib.hid hR
  clear hcells hn hg hb hl hK hR
  go_enter Tryd.func92, Tryd.ntmps92
  have HB := Lib.hid (Below.refl w.heap.size w)
  go_wp2
  go_loopw [5, 8] (fun _ s8 wr => ∃ k : Nat, s8 = .int .i64 k ∧ Hid (k ≤ K) ∧ Hid (Below w.heap.size w wr)) (fun _ s8 _ => n - (intOf s8).toNat)
  case atStart => exact ⟨0, rfl, Lib.hid (Nat.zero_le _), HB⟩
  case round =>
    clear HB
    obtain ⟨k, rfl, HKK, HB⟩ := hrel
    by_cases hlt : k < n
    · have e1 : (k : Int) < (n : Int) := by omega
      have e0 : (0 : Int) ≤ (k : Int) := Int.natCast_nonneg _
      obtain ⟨z, hz⟩ : ∃ z, zs[k]? = some z := ⟨zs[k]'(by have := HN.out; omega), List.getElem?_eq_getElem _⟩
      obtain ⟨b, o, rfl, hbl, hcell⟩ := HC.out (by omega)
      have c0 : wr.cell? ⟨b, o + k, none⟩ = some (.int .i64 z) := (HB.out.cell (p := ⟨b, o + k, none⟩) hbl).trans (hcell k z hz)
      have P1 := Lib.hid (fun w' => isBad_any z w')
      have HLT := Lib.hid hlt
      by_cases hkK : k < K
      · rw [HG.out k z hkK hz] at P1
        have HKK2 := Lib.hid hkK
        clear hcell hz hbl hlt hkK
        go_wp2_with fail
        refine (P1.out _).mono ?_
        rintro e w1 ⟨rfl, rfl⟩
        go_wp2
        go_roundw
        case rel => exact ⟨k + 1, by go_num, Lib.hid HKK2.out, HB⟩
        case measure => have := HLT.out; simp [intOf]; omega
      · obtain rfl : k = K := by have := HKK.out; omega
        rw [HBD.out z hz] at P1
        have HE : Hid (R = (k : Int)) := Lib.hid (by rw [HR.out, if_pos hlt])
        clear hcell hz hbl hlt hkK
        go_wp2_with fail
        refine (P1.out _).mono ?_
        rintro e w1 ⟨rfl, rfl⟩
        go_wp2
        go_ret
        exact ⟨ret_int HE.out.symm, HB.out⟩
    · have hkn : k = n := by have := HKK.out; have := HK.out; omega
      subst hkn
      have HKN : Hid (R = -1) := Lib.hid (by rw [HR.out, if_neg (by have := HKK.out; omega)])
      clear hlt
      go_wp2
      go_ret
      exact ⟨ret_int HKN.out.symm, HB.out⟩
theorem contains_yes (v : Value) (zs : List Int) (w : World) (hl : zs.length ≤ 1000000) (hz : ∀ d ∈ zs, isDig d = true) (hv : IsIntsN w v zs) :
    Calls Tryd.prog 68 #[v, .func (.func 69) #[] #[]] w fun e w' => e = .returned (.bool false) ∧ Below w.heap.size w w' := by
  have S1 := Lib.hid (indexF_any v zs zs.length w hl (Nat.le_refl _) (fun j d _ h => hz d (List.mem_of_getElem? h)) (fun d h => by rw [List.getElem?_eq_none (Nat.le_refl _)] at h; cases h) hv)
  rw [if_neg (Nat.lt_irrefl _)] at S1
  clear hz hv hl
  go_enter Tryd.func68, Tryd.ntmps68
  go_wp2_with fail
  refine S1.out.mono ?_
  rintro e w1 ⟨rfl, hb⟩
  have HB := Lib.hid hb
  clear hb
  go_wp2
  go_ret
  exact ⟨rfl, HB.out⟩
theorem first_bad : ∀ (zs : List Int), (∃ d ∈ zs, isDig d = false) → ∃ K, K < zs.length ∧ (∀ j d, j < K → zs[j]? = some d → isDig d = true) ∧ (∀ d, zs[K]? = some d → isDig d = false) := by
  intro zs
  induction zs with
  | nil => rintro ⟨d, hd, _⟩; cases hd
  | cons x xs ih =>
    rintro ⟨d, hd, hb⟩
    cases hx : isDig x with
    | false => exact ⟨0, by simp, fun j d hj => absurd hj (Nat.not_lt_zero _), fun d hd => by simp at hd; rw [← hd]; exact hx⟩
    | true =>
      obtain ⟨K, h1, h2, h3⟩ := ih ⟨d, by
        rcases List.mem_cons.1 hd with h | h
        · rw [h, hx] at hb; cases hb
        · exact h, hb⟩
      refine ⟨K + 1, by simp; exact h1, fun j d hj hd => ?_, fun d hd => h3 d (by simpa using hd)⟩
      rcases j with _ | j
      · simp at hd; rw [← hd]; exact hx
      · exact h2 j d (by omega) (by simpa using hd)
theorem contains_no (v : Value) (zs : List Int) (w : World) (hl : zs.length ≤ 1000000) (hz : ∃ d ∈ zs, isDig d = false) (hv : IsIntsN w v zs) :
    Calls Tryd.prog 68 #[v, .func (.func 69) #[] #[]] w fun e w' => e = .returned (.bool true) ∧ Below w.heap.size w w' := by
  obtain ⟨K, h1, h2, h3⟩ := first_bad zs hz
  have S1 := Lib.hid (indexF_any v zs K w hl (Nat.le_of_lt h1) h2 h3 hv)
  rw [if_pos h1] at S1
  have e0 : (0 : Int) ≤ (K : Int) := Int.natCast_nonneg _
  clear hz hv hl h1 h2 h3
  go_enter Tryd.func68, Tryd.ntmps68
  go_wp2_with fail
  refine S1.out.mono ?_
  rintro e w1 ⟨rfl, hb⟩
  have HB := Lib.hid hb
  clear hb
  go_wp2
  go_ret
  exact ⟨rfl, HB.out⟩

set_option maxRecDepth 100000 in
set_option maxHeartbeats 2000000 in
theorem convert_yes (v : Value) (zs : List Int) (w : World) (hl : zs.length ≤ 1000000) (hz : ∀ d ∈ zs, isDig d = true) (hv : IsIntsN w v zs) :
    Calls Tryd.prog 36 #[v] w fun e w' => e = .returned (.tuple #[wv (toW (digitsZ zs)), .bool true]) ∧ Below w.heap.size w w' := by
  have LV := Lib.hid hv
  have S2 := Lib.hid (fun w' h => contains_yes v zs w' hl hz h)
  obtain ⟨a, cap, rfl, hcap, hcells⟩ := hv
  obtain ⟨n, hn⟩ : ∃ n, n = zs.length := ⟨_, rfl⟩
  rw [← hn] at hl hcap hcells LV S2 ⊢
  have hl' : (n : Int) ≤ 1000000 := by omega
  have S1 := Lib.hid (fun w' => new_w 0 M_pos w')
  have E0 : Hid (toW (digitsZ (zs.take 0)) = 0) := Lib.hid (by rw [List.take_zero]; exact toW_nat M_pos)
  obtain ⟨L0, hL0⟩ : ∃ x, x = subN 0 1 := ⟨_, rfl⟩
  have E1 : Hid (toW (digitsZ (zs.take 0) - 1) = L0) := Lib.hid (by rw [List.take_zero, hL0, toW_sub 0 1 M_pos (lit_ltM _ (by decide))]; rfl)
  rw [← hL0] at S1
  clear hL0
  have HT : Hid (toW (digitsZ (zs.take n)) = toW (digitsZ zs)) := Lib.hid (by rw [hn, List.take_length])
  obtain ⟨T, hT⟩ : ∃ T, T = toW (digitsZ zs) := ⟨_, rfl⟩
  rw [← hT] at HT ⊢
  have HC := Lib.hid hcells; have HX := Lib.hid hz; have HN := Lib.hid hn
  clear hcells hz hn hl hT
  go_enter Tryd.func36, Tryd.ntmps36
  have HB := Lib.hid (Below.refl w.heap.size w)
  have Go := Lib.hid (alloc_new (w) (.cells (wcells 0) 24))
  replace HB := Lib.hid (below_al HB.out (.cells (wcells 0) 24))
  have cGo := cell_row Go.out
  go_wp2_with fail
  refine (S1.out _).mono ?_
  rintro e w1 ⟨rfl, hb⟩
  clear cGo
  replace HB := Lib.hid (below_then HB.out hb)
  replace Go := Lib.hid ((hb.block _ (lt_of_heap Go.out)).trans Go.out)
  clear hb
  have HZ0 := Lib.hid (lt_of_heap Go.out)
  replace Go := Lib.hid (keepAl (o' := .cells (fc 0 L0) 86) Go.out)
  have Gs := Lib.hid (alloc_new (w1) (.cells (fc 0 L0) 86))
  replace HB := Lib.hid (below_al HB.out (.cells (fc 0 L0) 86))
  have cGo := cell_row Go.out
  have cGs := cell_row Gs.out
  go_wp2_with fail
  clear cGo cGs
  refine (S2.out _ (LV.out.older HB.out)).mono ?_
  rintro e w5 ⟨rfl, hb⟩
  obtain ⟨p, hp⟩ : ∃ p, p = w1.heap.size := ⟨_, rfl⟩
  have HP : Hid (w.heap.size < p) := Lib.hid (by have := HZ0.out; omega)
  have Gs5 := Lib.hid ((hb.block _ (lt_of_heap Gs.out)).trans Gs.out)
  have Go5 := Lib.hid ((hb.block _ (lt_of_heap Go.out)).trans Go.out)
  replace HB := Lib.hid (below_then HB.out hb)
  rw [← hp] at Gs5 ⊢
  clear hp hb Gs Go HZ0 S1 S2
  go_wp2
  go_loopw [6, 14] (fun _ s14 wr => ∃ k : Nat, s14 = .int .i64 k ∧ k ≤ n ∧ Hid (Below w.heap.size w wr) ∧ Hid (wr.heap[w.heap.size]? = some (.cells (wcells 0) 24 (0, 0))) ∧ Hid (wr.heap[p]? = some (.cells (fc (toW (digitsZ (zs.take k))) (toW (digitsZ (zs.take k) - 1))) 86 (0, 0)))) (fun _ s14 _ => n - (intOf s14).toNat)
  case atStart => exact ⟨0, rfl, by omega, HB, Go5, by rw [E0.out, E1.out]; exact Gs5⟩
  case round =>
    clear HB Go5 Gs5
    obtain ⟨k, rfl, hk, HB, Go, Gs⟩ := hrel
    by_cases hlt : k < n
    · have e1 : (k : Int) < (n : Int) := by omega
      have e0 : (0 : Int) ≤ (k : Int) := Int.natCast_nonneg _
      obtain ⟨z, hz⟩ : ∃ z, zs[k]? = some z := ⟨zs[k]'(by have := HN.out; omega), List.getElem?_eq_getElem _⟩
      obtain ⟨b, o, rfl, hbl, hcell⟩ := HC.out (by omega)
      have c0 : wr.cell? ⟨b, o + k, none⟩ = some (.int .i64 z) := (HB.out.cell (p := ⟨b, o + k, none⟩) hbl).trans (hcell k z hz)
      have S3 := Lib.hid (fun w' => next_w (digitsZ (zs.take k)) z (HX.out z (List.mem_of_getElem? hz)) w')
      rw [← digitsZ_succ zs k z hz] at S3
      obtain ⟨Q, hQ⟩ : ∃ x, x = toW (digitsZ (zs.take k)) := ⟨_, rfl⟩
      obtain ⟨L, hL⟩ : ∃ x, x = toW (digitsZ (zs.take k) - 1) := ⟨_, rfl⟩
      rw [← hQ, ← hL] at S3 Gs
      obtain ⟨Q2, hQ2⟩ : ∃ x, x = toW (digitsZ (zs.take (k + 1))) := ⟨_, rfl⟩
      obtain ⟨L2, hL2⟩ : ∃ x, x = toW (digitsZ (zs.take (k + 1)) - 1) := ⟨_, rfl⟩
      rw [← hQ2, ← hL2] at S3
      have HQ2 := Lib.hid hQ2; have HL2 := Lib.hid hL2
      have HLT := Lib.hid hlt
      have hpp := HP.out
      clear hcell hz hbl hlt hk hQ hL hQ2 hL2
      have cGo := cell_row Go.out
      have cGs := cell_row Gs.out
      go_wp2_with fail
      refine (S3.out _).mono ?_
      rintro e w2 ⟨rfl, hb⟩
      clear cGo cGs
      replace HB := Lib.hid (below_then HB.out hb)
      replace Go := Lib.hid ((hb.block _ (lt_of_heap Go.out)).trans Go.out)
      replace Gs := Lib.hid ((hb.block _ (lt_of_heap Gs.out)).trans Gs.out)
      clear hb
      clear c0
      have sts := st_16 (P := Tryd.prog) Gs.out rfl (Q2) (L2)
      replace Go := Lib.hid ((setRow_other (w2) (p) _ (fc (Q2) (L2)) (by (omega))).trans Go.out)
      replace Gs := Lib.hid (setRow_heap (w2) (p) _ (fc (Q2) (L2)) _ _ Gs.out)
      replace HB := Lib.hid (below_setRow' HB.out (show _ ≤ p by (omega)) (fc (Q2) (L2)))
      go_wp2
      go_roundw
      case rel => exact ⟨k + 1, by go_num, HLT.out, HB, Go, by rw [← HQ2.out, ← HL2.out]; exact Gs⟩
      case measure => have := HLT.out; simp [intOf]; omega
    · obtain rfl : k = n := by omega
      rw [HT.out] at Gs
      have hpp := HP.out
      clear hk hlt
      have cs := cell_row Gs.out
      have sto := st_row (P := Tryd.prog) Go.out rfl (T)
      replace Gs := Lib.hid ((setRow_other (wr) (w.heap.size) _ (wcells (T)) (by (omega))).trans Gs.out)
      replace Go := Lib.hid (setRow_heap (wr) (w.heap.size) _ (wcells (T)) _ _ Go.out)
      replace HB := Lib.hid (below_setRow' HB.out (show _ ≤ w.heap.size by (omega)) (wcells (T)))
      go_wp2
      have co := cell_row Go.out
      exact bodyPost_ret (v := .tuple #[wv T, .bool true]) (by simp [results, Tryd.results36, go_sem, co]) rfl ⟨rfl, HB.out⟩

set_option maxRecDepth 100000 in
set_option maxHeartbeats 1000000 in
theorem convert_no (v : Value) (zs : List Int) (w : World) (hl : zs.length ≤ 1000000) (hz : ∃ d ∈ zs, isDig d = false) (hv : IsIntsN w v zs) :
    Calls Tryd.prog 36 #[v] w fun e w' => e = .returned (.tuple #[wv 0, .bool false]) ∧ Below w.heap.size w w' := by
  have LV := Lib.hid hv
  have S2 := Lib.hid (fun w' h => contains_no v zs w' hl hz h)
  have S1 := Lib.hid (fun w' => new_w 0 M_pos w')
  obtain ⟨N1, hN1⟩ : ∃ x, x = subN 0 1 := ⟨_, rfl⟩
  rw [← hN1] at S1
  clear hz hv hl hN1
  go_enter Tryd.func36, Tryd.ntmps36
  have HB := Lib.hid (Below.refl w.heap.size w)
  have Go := Lib.hid (alloc_new (w) (.cells (wcells 0) 24))
  replace HB := Lib.hid (below_al HB.out (.cells (wcells 0) 24))
  have cGo := cell_row Go.out
  go_wp2_with fail
  refine (S1.out _).mono ?_
  rintro e w3 ⟨rfl, hb⟩
  clear cGo
  replace HB := Lib.hid (below_then HB.out hb)
  replace Go := Lib.hid ((hb.block _ (lt_of_heap Go.out)).trans Go.out)
  clear hb
  have HZ0 := Lib.hid (lt_of_heap Go.out)
  replace Go := Lib.hid (keepAl (o' := .cells (fc 0 N1) 86) Go.out)
  have Gs := Lib.hid (alloc_new (w3) (.cells (fc 0 N1) 86))
  replace HB := Lib.hid (below_al HB.out (.cells (fc 0 N1) 86))
  have cGo := cell_row Go.out
  have cGs := cell_row Gs.out
  go_wp2_with fail
  refine (S2.out _ (LV.out.older HB.out)).mono ?_
  rintro e w4 ⟨rfl, hb⟩
  clear cGo cGs
  replace HB := Lib.hid (below_then HB.out hb)
  replace Go := Lib.hid ((hb.block _ (lt_of_heap Go.out)).trans Go.out)
  replace Gs := Lib.hid ((hb.block _ (lt_of_heap Gs.out)).trans Gs.out)
  clear hb
  have hz0 := HZ0.out
  have sto := st_row (P := Tryd.prog) Go.out rfl (0)
  replace Gs := Lib.hid ((setRow_other (w4) (w.heap.size) _ (wcells (0)) (by (omega))).trans Gs.out)
  replace Go := Lib.hid (setRow_heap (w4) (w.heap.size) _ (wcells (0)) _ _ Go.out)
  replace HB := Lib.hid (below_setRow' HB.out (show _ ≤ w.heap.size by (omega)) (wcells (0)))
  go_wp2
  have co := cell_row Go.out
  exact bodyPost_ret (v := .tuple #[wv 0, .bool false]) (by simp [results, Tryd.results36, go_sem, co]) rfl ⟨rfl, HB.out⟩
end Go.Proofs.YtffengboblekpaaDoor
