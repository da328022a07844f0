/- THE WALKS of the laws on fly: digits converted, turned, and one further. -/
import Derived.Test.YtkkjbkadaofjpaaFly3
namespace Go.Proofs.Ytkkjbkadaofjpaa
open Go Go.RowKit

attribute [local go_sem ↓] Go.wp_at_zero Go.wp_at_succ
set_option maxRecDepth 100000 in
set_option maxHeartbeats 1000000 in
theorem awake13_any (w : World) : Calls Try.prog 26 #[] w fun e w' => e = .returned (.bool true) ∧ Below w.heap.size w w' := by
  have R3 : Hid (∀ (g : Nat) (w' : World), w'.heap[g]? = some (.cells #[.int .i64 1, .int .i64 (-1), .int .i64 2] 3 (0, 0)) → IsIntsN w' (.slice (some ⟨g, 0, none⟩) 3 3) [1, -1, 2]) := Lib.hid fun g w' h => ints_row (zs := [1, -1, 2]) h (fun i z hi => by
    match i, hi with
    | 0, hi => simp at hi; subst hi; rfl
    | 1, hi => simp at hi; subst hi; rfl
    | 2, hi => simp at hi; subst hi; rfl)
  have S1 : Hid (∀ (g : Nat) (w' : World), w'.heap[g]? = some (.cells #[.int .i64 1, .int .i64 (-1), .int .i64 2] 3 (0, 0)) → Calls Try.prog 27 #[.slice (some ⟨g, 0, none⟩) 3 3] w' fun e w'' => e = .returned (.tuple #[wv 14, .bool true]) ∧ Below w'.heap.size w' w'') := Lib.hid fun g w' h => by
    have := convert_yes _ [1, -1, 2] w' (by decide) (by decide) (R3.out g w' h)
    rw [show digitsZ [1, -1, 2] = ((14 : Nat) : Int) from rfl, toW_nat (lit_ltM _ (by decide))] at this
    exact this
  have S2 := Lib.hid (fun w' => recode14_any w')
  have S3 := Lib.hid (fun v v2 w' h h' => same13_eq v v2 [1, -1, 2] w' (by decide) h h')
  have E14 : (#[.int .u64 14, .int .u64 0, .int .u64 0, .int .u64 0, .int .u64 0, .int .u64 0, .int .u64 0, .int .u64 0] : Array Value) = wcells 14 := lit_cells 14 (by decide)
  go_enter Try.func26, Try.ntmps26
  have HB := Lib.hid (Below.refl w.heap.size w)
  have Gl := Lib.hid (alloc_new (w) (.cells #[.int .i64 1, .int .i64 (-1), .int .i64 2] 3))
  replace HB := Lib.hid (below_al HB.out (.cells #[.int .i64 1, .int .i64 (-1), .int .i64 2] 3))
  have cGl := cell_row Gl.out
  go_wp2_with fail
  refine (S1.out _ _ Gl.out).mono ?_
  rintro e w1 ⟨rfl, hb⟩
  clear cGl
  replace HB := Lib.hid (below_then HB.out hb)
  replace Gl := Lib.hid ((hb.block _ (lt_of_heap Gl.out)).trans Gl.out)
  clear hb
  have Ga := Lib.hid (alloc_new (w1) (.cells (wcells 14) 31))
  replace HB := Lib.hid (below_al HB.out (.cells (wcells 14) 31))
  have cGa := cell_row Ga.out
  go_wp2_with fail
  clear cGa
  refine (S2.out _).mono ?_
  rintro e w5 ⟨v, rfl, hI, hb⟩
  have HI := Lib.hid hI
  replace HB := Lib.hid (below_then HB.out hb)
  replace Ga := Lib.hid ((hb.block _ (lt_of_heap Ga.out)).trans Ga.out)
  clear hI hb
  have c5 := cell_row Ga.out
  clear Ga
  have Gl := Lib.hid (alloc_new (w5) (.cells #[.int .i64 1, .int .i64 (-1), .int .i64 2] 3))
  replace HB := Lib.hid (below_al HB.out (.cells #[.int .i64 1, .int .i64 (-1), .int .i64 2] 3))
  replace HI := Lib.hid (HI.out.older (below_al (Below.refl w5.heap.size w5) (.cells #[.int .i64 1, .int .i64 (-1), .int .i64 2] 3)))
  have cGl := cell_row Gl.out
  go_wp2_with fail
  refine (S3.out _ _ _ HI.out (R3.out _ _ Gl.out)).mono ?_
  rintro e w2 ⟨rfl, hb⟩
  clear cGl
  replace HB := Lib.hid (below_then HB.out hb)
  replace Gl := Lib.hid ((hb.block _ (lt_of_heap Gl.out)).trans Gl.out)
  clear hb
  have cGl := cell_row Gl.out
  go_wp2
  go_ret
  exact ⟨rfl, HB.out⟩

set_option maxRecDepth 100000 in
set_option maxHeartbeats 4000000 in
theorem flyConverts_any (v : Value) (zs : List Int) (w : World) (hv : IsIntsN w v zs) (_hb : ∀ z ∈ zs, -9223372036854775808 ≤ z ∧ z ≤ 9223372036854775807) :
    Calls Try.prog 4 #[v] w fun e w' => e = .returned (.bool true) ∧ Below w.heap.size w w' := by
  clear _hb
  have SA := Lib.hid (fun w' => awake13_any w')
  have LV := Lib.hid hv
  by_cases hl : 400 < zs.length
  · obtain ⟨a, cap, rfl, _, _⟩ := hv
    have e1 : (400 : Int) < (zs.length : Int) := by omega
    obtain ⟨n, hn⟩ : ∃ n, n = zs.length := ⟨_, rfl⟩
    rw [← hn] at e1 ⊢
    clear LV hn hl
    go_enter Try.func4, Try.ntmps4
    have HB := Lib.hid (Below.refl w.heap.size w)
    go_wp2_with fail
    refine (SA.out _).mono ?_
    rintro e w3 ⟨rfl, hb⟩
    replace HB := Lib.hid (below_then HB.out hb)
    clear hb
    go_wp2
    go_ret
    exact ⟨rfl, HB.out⟩
  · have SI := Lib.hid (fun d w' => is13_any d w')
    by_cases hz : ∀ d ∈ zs, isDig d = true
    · have S1 := Lib.hid (fun w' h => convert_yes v zs w' (by omega) hz h)
      have S3 := Lib.hid (fun w' h => rsum13_any v zs w' (by omega) hz h)
      obtain ⟨p1, p2, p3⟩ := sums_spec zs hz zs.length (Nat.le_refl _)
      rw [List.take_length] at p1 p2 p3
      have hB0 : ∀ x, x < P2 (2 * zs.length) → x < BIG := fun x h => small_of h (by omega)
      have S4 := Lib.hid (fun va vb w' h h' => rwide13_any va vb (posS zs) (negS zs) w' (hB0 _ p1) (hB0 _ p2) h h')
      rw [← p3] at S4
      obtain ⟨T, hT⟩ : ∃ T, T = toW (digitsZ zs) := ⟨_, rfl⟩
      rw [← hT] at S1 S4
      obtain ⟨a, cap, rfl, hcap, hcells⟩ := hv
      obtain ⟨n, hn⟩ : ∃ n, n = zs.length := ⟨_, rfl⟩
      rw [← hn] at hl hcells LV S1 S3 ⊢
      have e400 : ¬ (400 : Int) < (n : Int) := by omega
      obtain ⟨X, hX⟩ : ∃ X, X = posS zs := ⟨_, rfl⟩
      obtain ⟨Y, hY⟩ : ∃ X, X = negS zs := ⟨_, rfl⟩
      rw [← hX, ← hY] at S3 S4
      have HC := Lib.hid hcells; have HX := Lib.hid hz; have HN := Lib.hid hn
      clear hcells hz hn hl hcap hT p1 p2 p3 hB0 hX hY
      go_enter Try.func4, Try.ntmps4
      have HB := Lib.hid (Below.refl w.heap.size w)
      go_wp2_with fail
      refine (S1.out _ (LV.out.older HB.out)).mono ?_
      rintro e w4 ⟨rfl, hb⟩
      replace HB := Lib.hid (below_then HB.out hb)
      clear hb
      have Ga := Lib.hid (alloc_new (w4) (.cells (wcells T) 31))
      replace HB := Lib.hid (below_al HB.out (.cells (wcells T) 31))
      go_wp2
      obtain ⟨p, hp⟩ : ∃ p, p = w4.heap.size := ⟨_, rfl⟩
      rw [← hp] at Ga ⊢
      clear hp
      go_loopw [5] (fun s5 wr => ∃ k : Nat, s5 = .int .i64 k ∧ k ≤ n ∧ Hid (Below w.heap.size w wr) ∧ Hid (wr.heap[p]? = some (.cells (wcells T) 31 (0, 0)))) (fun s5 _ => n - (intOf s5).toNat)
      case atStart => exact ⟨0, rfl, by omega, HB, Ga⟩
      case round =>
        clear HB Ga
        obtain ⟨k, rfl, hk, HB, Ga⟩ := hrel
        by_cases hlt : k < n
        · have e1 : (k : Int) < (n : Int) := by omega
          have e0 : (0 : Int) ≤ (k : Int) := Int.natCast_nonneg _
          obtain ⟨z, hz⟩ : ∃ z, zs[k]? = some z := ⟨zs[k]'(by have := HN.out; omega), List.getElem?_eq_getElem _⟩
          obtain ⟨b, o, rfl, hbl, hcell⟩ := HC.out (by omega)
          have c0 : wr.cell? ⟨b, o + k, none⟩ = some (.int .i64 z) := (HB.out.cell (p := ⟨b, o + k, none⟩) hbl).trans (hcell k z hz)
          have SZ := Lib.hid (SI.out z)
          rw [HX.out z (List.mem_of_getElem? hz)] at SZ
          have HLT := Lib.hid hlt
          clear hcell hz hbl hlt hk
          have cGa := cell_row Ga.out
          go_wp2_with fail
          refine (SZ.out _).mono ?_
          rintro e w5 ⟨rfl, hb⟩
          clear cGa
          replace HB := Lib.hid (below_then HB.out hb)
          replace Ga := Lib.hid ((hb.block _ (lt_of_heap Ga.out)).trans Ga.out)
          clear hb
          clear c0
          go_wp2
          go_roundw
          case rel => exact ⟨k + 1, by go_num, HLT.out, HB, Ga⟩
          case measure => have := HLT.out; simp [intOf]; omega
        · obtain rfl : k = n := by omega
          clear hk hlt
          go_wp2_with fail
          refine (S3.out _ (LV.out.older HB.out)).mono ?_
          rintro e w6 ⟨va, vb, rfl, h1, h2, hb⟩
          replace HB := Lib.hid (below_then HB.out hb)
          replace Ga := Lib.hid ((hb.block _ (lt_of_heap Ga.out)).trans Ga.out)
          have Ra := Lib.hid h1; have Rb := Lib.hid h2
          clear h1 h2 hb
          have B1 := Lib.hid (Below.refl w6.heap.size w6)
          go_upto_region 10 with fail
          have xGa := ext_row (B := w6.heap.size) Ga.out (lt_of_heap Ga.out)
          refine wp_region_ext w6.heap.size (by kernel_rfl) (by kernel_rfl) ?_
          repeat (go_big_quiet_step (first | (go_at_call 30; with_reducible exact Calls.quiet_ext (Nat.le_refl _) (S4.out _ _ _ (ext_bigB Ra.out B1.out _) (ext_bigB Rb.out B1.out _))) | (go_at_call 26; with_reducible exact Calls.quiet_ext (Nat.le_refl _) (SA.out _))))
          refine wpQuiet_nil ?_
          intro w6 hb
          clear xGa
          replace HB := Lib.hid (below_then HB.out hb)
          replace Ga := Lib.hid ((hb.block _ (lt_of_heap Ga.out)).trans Ga.out)
          clear hb
          go_wp2
          go_ret
          exact ⟨rfl, HB.out⟩
    · have hz' : ∃ d ∈ zs, isDig d = false := by
        refine Classical.byContradiction fun h => hz fun d hd => ?_
        cases hd' : isDig d with
        | true => rfl
        | false => exact absurd ⟨d, hd, hd'⟩ h
      have S1 := Lib.hid (fun w' h => convert_no v zs w' (by omega) hz' h)
      obtain ⟨K, k1, k2, k3⟩ := first_bad zs hz'
      obtain ⟨a, cap, rfl, hcap, hcells⟩ := hv
      obtain ⟨n, hn⟩ : ∃ n, n = zs.length := ⟨_, rfl⟩
      rw [← hn] at hl hcells LV S1 k1 ⊢
      have e400 : ¬ (400 : Int) < (n : Int) := by omega
      have HC := Lib.hid hcells; have HN := Lib.hid hn; have K1 := Lib.hid k1; have K2 := Lib.hid k2; have K3 := Lib.hid k3
      clear hcells hz hz' hn hl hcap k1 k2 k3
      go_enter Try.func4, Try.ntmps4
      have HB := Lib.hid (Below.refl w.heap.size w)
      go_wp2_with fail
      refine (S1.out _ (LV.out.older HB.out)).mono ?_
      rintro e w7 ⟨rfl, hb⟩
      replace HB := Lib.hid (below_then HB.out hb)
      clear hb
      have Ga := Lib.hid (alloc_new (w7) (.cells (wcells 0) 31))
      replace HB := Lib.hid (below_al HB.out (.cells (wcells 0) 31))
      go_wp2
      obtain ⟨p, hp⟩ : ∃ p, p = w7.heap.size := ⟨_, rfl⟩
      rw [← hp] at Ga ⊢
      clear hp
      go_loopw [5] (fun s5 wr => ∃ k : Nat, s5 = .int .i64 k ∧ Hid (k ≤ K) ∧ Hid (Below w.heap.size w wr) ∧ Hid (wr.heap[p]? = some (.cells (wcells 0) 31 (0, 0)))) (fun s5 _ => n - (intOf s5).toNat)
      case atStart => exact ⟨0, rfl, Lib.hid (Nat.zero_le _), HB, Ga⟩
      case round =>
        clear HB Ga
        obtain ⟨k, rfl, HKK, HB, Ga⟩ := hrel
        have hlt : k < n := by have := HKK.out; have := K1.out; omega
        have e1 : (k : Int) < (n : Int) := by omega
        have e0 : (0 : Int) ≤ (k : Int) := Int.natCast_nonneg _
        obtain ⟨z, hz⟩ : ∃ z, zs[k]? = some z := ⟨zs[k]'(by have := HN.out; omega), List.getElem?_eq_getElem _⟩
        obtain ⟨b, o, rfl, hbl, hcell⟩ := HC.out (by omega)
        have c0 : wr.cell? ⟨b, o + k, none⟩ = some (.int .i64 z) := (HB.out.cell (p := ⟨b, o + k, none⟩) hbl).trans (hcell k z hz)
        have SZ := Lib.hid (SI.out z)
        have HLT := Lib.hid hlt
        by_cases hkK : k < K
        · rw [K2.out k z hkK hz] at SZ
          have HK2 := Lib.hid hkK
          clear hcell hz hbl hlt hkK
          have cGa := cell_row Ga.out
          go_wp2_with fail
          refine (SZ.out _).mono ?_
          rintro e w8 ⟨rfl, hb⟩
          clear cGa
          replace HB := Lib.hid (below_then HB.out hb)
          replace Ga := Lib.hid ((hb.block _ (lt_of_heap Ga.out)).trans Ga.out)
          clear hb
          clear c0
          go_wp2
          go_roundw
          case rel => exact ⟨k + 1, by go_num, Lib.hid HK2.out, HB, Ga⟩
          case measure => have := HLT.out; simp [intOf]; omega
        · obtain rfl : k = K := by have := HKK.out; omega
          rw [K3.out z hz] at SZ
          clear hcell hz hbl hlt hkK
          have cGa := cell_row Ga.out
          go_wp2_with fail
          refine (SZ.out _).mono ?_
          rintro e w9 ⟨rfl, hb⟩
          clear cGa
          replace HB := Lib.hid (below_then HB.out hb)
          replace Ga := Lib.hid ((hb.block _ (lt_of_heap Ga.out)).trans Ga.out)
          clear hb
          clear c0
          have cGa := cell_row Ga.out
          go_wp2_with fail
          refine (SA.out _).mono ?_
          rintro e w10 ⟨rfl, hb⟩
          clear cGa
          replace HB := Lib.hid (below_then HB.out hb)
          replace Ga := Lib.hid ((hb.block _ (lt_of_heap Ga.out)).trans Ga.out)
          clear hb
          have cGa := cell_row Ga.out
          go_wp2
          go_ret
          exact ⟨rfl, HB.out⟩
end Go.Proofs.Ytkkjbkadaofjpaa
