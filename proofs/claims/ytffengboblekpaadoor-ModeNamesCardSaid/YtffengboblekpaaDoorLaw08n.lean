/- THE WALK of the law on the modes' names. -/
import Derived.Test.YtffengboblekpaaDoorNames
import Derived.Test.YtffengboblekpaaDoorMode4
namespace Go.Proofs.YtffengboblekpaaDoor
open Go Go.RowKit

theorem list_at {w : World} {L : Nat} {t : TypeId} (h : w.heap[L]? = some (.cells #[.string ⟨#[101, 118, 101, 110]⟩, .string ⟨#[97, 119, 97, 121]⟩, .string ⟨#[122, 101, 114, 111]⟩, .string ⟨#[117, 112]⟩, .string ⟨#[100, 111, 119, 110]⟩] t (0, 0))) {q : Nat} (hq : q < 5) : w.cell? ⟨L, q, none⟩ = some (.string (nameB (q + 1))) := by
  rw [cell_row h q]
  rcases (show q = 0 ∨ q = 1 ∨ q = 2 ∨ q = 3 ∨ q = 4 by omega) with rfl | rfl | rfl | rfl | rfl <;> rfl
theorem mir_at {w : World} {L : Nat} {t : TypeId} (h : w.heap[L]? = some (.cells #[.int .i64 1, .int .i64 2, .int .i64 3, .int .i64 5, .int .i64 4] t (0, 0))) {q : Nat} (hq : q < 5) : w.cell? ⟨L, q, none⟩ = some (.int .i64 (mirN ((q : Int) + 1))) := by
  rw [cell_row h q]
  rcases (show q = 0 ∨ q = 1 ∨ q = 2 ∨ q = 3 ∨ q = 4 by omega) with rfl | rfl | rfl | rfl | rfl <;> rfl
attribute [local go_sem ↓] Go.wp_at_zero Go.wp_at_succ
set_option maxRecDepth 100000 in
set_option maxHeartbeats 4000000 in
theorem modeNames_any (m : Int) (s : ByteArray) (w : World) (hm1 : -9223372036854775808 ≤ m) (hm2 : m ≤ 9223372036854775807) (_hs : s.size ≤ maxLen) (hL : NamesLaid w) :
    Calls Tryd.prog 4 #[.int .i64 m, .string s] w fun e w' => e = .returned (.bool true) ∧ Below w.heap.size w w' := by
  have S1 := Lib.hid (fun w' => rmode_is m w')
  have S2 := Lib.hid (fun w' => mode_is m w')
  have S3 := Lib.hid (fun w' h => byName_any s w' h)
  have S4 := Lib.hid (fun w' h => name_any m w' h)
  have S5 := Lib.hid (fun w' => mirror_any m w')
  have SA := Lib.hid (fun w' => awake08_any w')
  have KL := Lib.hid hL
  obtain ⟨F, hF⟩ : ∃ F, F = fnd s 5 := ⟨_, rfl⟩
  rw [← hF, show decide (0 < F) = decide ((0 : Int) < (F : Int)) from decide_eq_decide.2 (by omega)] at S3
  have HF := Lib.hid hF
  clear hF
  by_cases hm : isMode m = true
  · have hr : 1 ≤ m ∧ m ≤ 5 := of_decide_eq_true hm
    obtain ⟨q, hq⟩ := Int.eq_ofNat_of_zero_le (show 0 ≤ m - 1 by omega)
    have hmq : m = (q : Int) + 1 := by omega
    have hq5 : q < 5 := by omega
    have hw : IntKind.i64.wrap (m - 1) = (q : Int) := by rw [IntWalk.i64_in _ (by omega)]; omega
    have e : nameN m = nameB (q + 1) := by unfold nameN; rw [if_pos hm, hmq]; rfl
    rw [hm] at S1 S2
    rw [e] at S4
    have CL := Lib.hid (fun (w' : World) (L : Nat) (h : w'.heap[L]? = some (.cells #[.string ⟨#[101, 118, 101, 110]⟩, .string ⟨#[97, 119, 97, 121]⟩, .string ⟨#[122, 101, 114, 111]⟩, .string ⟨#[117, 112]⟩, .string ⟨#[100, 111, 119, 110]⟩] 9 (0, 0))) => list_at h hq5)
    have CM := Lib.hid (fun (w' : World) (L : Nat) (h : w'.heap[L]? = some (.cells #[.int .i64 1, .int .i64 2, .int .i64 3, .int .i64 5, .int .i64 4] 3 (0, 0))) => mir_at h hq5)
    rw [← hmq] at CM
    obtain ⟨NM, hNM⟩ : ∃ n, n = nameB (q + 1) := ⟨_, rfl⟩
    rw [← hNM] at S4 CL
    obtain ⟨MR, hMR⟩ : ∃ n, n = mirN m := ⟨_, rfl⟩
    rw [← hMR] at S5 CM
    have e0 : (0 : Int) ≤ (q : Int) := by omega
    have e1 : (q : Int) < 5 := by omega
    clear hm hr hq hmq hq5 e hNM hMR hL hm1 hm2
    go_enter Tryd.func4, Tryd.ntmps4
    have HB := Lib.hid (Below.refl w.heap.size w)
    replace KL := Lib.hid (KL.out.older (below_al (Below.refl (w).heap.size (w)) (.cells #[.string ⟨#[101, 118, 101, 110]⟩, .string ⟨#[97, 119, 97, 121]⟩, .string ⟨#[122, 101, 114, 111]⟩, .string ⟨#[117, 112]⟩, .string ⟨#[100, 111, 119, 110]⟩] 9)))
    have Gl := Lib.hid (alloc_new (w) (.cells #[.string ⟨#[101, 118, 101, 110]⟩, .string ⟨#[97, 119, 97, 121]⟩, .string ⟨#[122, 101, 114, 111]⟩, .string ⟨#[117, 112]⟩, .string ⟨#[100, 111, 119, 110]⟩] 9))
    replace HB := Lib.hid (below_al HB.out (.cells #[.string ⟨#[101, 118, 101, 110]⟩, .string ⟨#[97, 119, 97, 121]⟩, .string ⟨#[122, 101, 114, 111]⟩, .string ⟨#[117, 112]⟩, .string ⟨#[100, 111, 119, 110]⟩] 9))
    replace KL := Lib.hid (KL.out.older (below_al (Below.refl ((w).alloc (.cells #[.string ⟨#[101, 118, 101, 110]⟩, .string ⟨#[97, 119, 97, 121]⟩, .string ⟨#[122, 101, 114, 111]⟩, .string ⟨#[117, 112]⟩, .string ⟨#[100, 111, 119, 110]⟩] 9)).heap.size ((w).alloc (.cells #[.string ⟨#[101, 118, 101, 110]⟩, .string ⟨#[97, 119, 97, 121]⟩, .string ⟨#[122, 101, 114, 111]⟩, .string ⟨#[117, 112]⟩, .string ⟨#[100, 111, 119, 110]⟩] 9))) (.cells #[.int .i64 1, .int .i64 2, .int .i64 3, .int .i64 5, .int .i64 4] 3)))
    replace Gl := Lib.hid (keepAl (o' := .cells #[.int .i64 1, .int .i64 2, .int .i64 3, .int .i64 5, .int .i64 4] 3) Gl.out)
    have Gx := Lib.hid (alloc_new' (w := (w).alloc (.cells #[.string ⟨#[101, 118, 101, 110]⟩, .string ⟨#[97, 119, 97, 121]⟩, .string ⟨#[122, 101, 114, 111]⟩, .string ⟨#[117, 112]⟩, .string ⟨#[100, 111, 119, 110]⟩] 9)) (n := w.heap.size + 1) (.cells #[.int .i64 1, .int .i64 2, .int .i64 3, .int .i64 5, .int .i64 4] 3) (by simp))
    replace HB := Lib.hid (below_al HB.out (.cells #[.int .i64 1, .int .i64 2, .int .i64 3, .int .i64 5, .int .i64 4] 3))
    have cGl := cell_row Gl.out
    have cGx := cell_row Gx.out
    go_wp2_with fail
    refine (S1.out _).mono ?_
    rintro e w1 ⟨rfl, hb⟩
    clear cGl cGx
    replace HB := Lib.hid (below_then HB.out hb)
    replace KL := Lib.hid (KL.out.older hb)
    replace Gl := Lib.hid ((hb.block _ (lt_of_heap Gl.out)).trans Gl.out)
    replace Gx := Lib.hid ((hb.block _ (lt_of_heap Gx.out)).trans Gx.out)
    clear hb
    have cGl := cell_row Gl.out
    have cGx := cell_row Gx.out
    go_upto_region 5 with fail
    clear cGl cGx
    obtain ⟨wc0, hw⟩ : ∃ wx, wx = w1 := ⟨_, rfl⟩
    rw [← hw] at KL Gl Gx HB ⊢
    clear hw
    have c1 := CL.out (wc0.drew) _ Gl.out
    have c2 := CM.out (wc0.drew) _ Gx.out
    go_cut [7, 8] (fun s7 s8 wx => s7 = .string NM ∧ s8 = .int .i64 MR ∧ wx = wc0.drew)
    case first =>
      go_region_with (skip)
      all_goals
        go_wp2
        go_meet
        exact ⟨rfl, rfl, rfl⟩
    case rest =>
      obtain ⟨rfl, rfl, hwx⟩ := hcut
      replace HB := Lib.hid (show Below w.heap.size w wc from by rw [hwx]; exact HB.out.drew)
      replace Gl := Lib.hid (show wc.heap[_]? = some _ from by rw [hwx]; exact Gl.out)
      replace KL := Lib.hid (show NamesLaid wc from by rw [hwx]; exact KL.out)
      clear hwx c1 c2 Gx CL CM
      have cGl := cell_row Gl.out
      go_wp2_with fail
      refine (S3.out _ KL.out).mono ?_
      rintro e w2 ⟨rfl, hb⟩
      clear cGl
      replace HB := Lib.hid (below_then HB.out hb)
      replace Gl := Lib.hid ((hb.block _ (lt_of_heap Gl.out)).trans Gl.out)
      replace KL := Lib.hid (KL.out.older hb)
      clear hb
      go_wp2
      obtain ⟨wb, hwb⟩ : ∃ wx, wx = w2 := ⟨_, rfl⟩
      go_loopw [11, 12] (fun s11 s12 wr => ∃ i : Nat, s12 = .int .i64 (i : Int) ∧ s11 = .int .i64 (fnd s i : Nat) ∧ i ≤ 5 ∧ wr = w2) (fun _ s12 _ => 5 - (intOf s12).toNat)
      case atStart => exact ⟨0, rfl, rfl, by omega, rfl⟩
      case round =>
        obtain ⟨i, rfl, rfl, hi, rfl⟩ := hrel
        by_cases hlt : i < 5
        · have c0 := list_at Gl.out hlt
          have e0 : (0 : Int) ≤ (i : Int) := by omega
          have e1 : (i : Int) < 5 := by omega
          have hfi := fnd_le s i
          have HFS : Hid (fnd s (i + 1) = if nameB (i + 1) = s then i + 1 else fnd s i) := Lib.hid rfl
          have HLT := Lib.hid hlt
          obtain ⟨fi, hfe⟩ : ∃ f, f = fnd s i := ⟨_, rfl⟩
          rw [← hfe] at HFS hfi ⊢
          obtain ⟨nb, hnb⟩ : ∃ n, n = nameB (i + 1) := ⟨_, rfl⟩
          rw [← hnb] at HFS c0
          clear hfe hnb hlt hi
          by_cases hs : nb = s
          · have HN : Hid (fnd s (i + 1) = i + 1) := Lib.hid (by rw [HFS.out, if_pos hs])
            subst hs
            clear HFS hfi
            go_wp2
            go_roundw
            case rel => exact ⟨i + 1, by go_num, by rw [HN.out]; go_num, HLT.out, by first | trivial | rfl⟩
            case measure => have := HLT.out; simp [intOf]; omega
          · have HN : Hid (fnd s (i + 1) = fi) := Lib.hid (by rw [HFS.out, if_neg hs])
            have hb := str_ne hs
            clear HFS hfi hs
            go_wp2
            go_roundw
            case rel => exact ⟨i + 1, by go_num, by rw [HN.out], HLT.out, by first | trivial | rfl⟩
            case measure => have := HLT.out; simp [intOf]; omega
        · obtain rfl : i = 5 := by omega
          rw [← HF.out]
          clear hlt hi
          have cGl := cell_row Gl.out
          go_wp2_with fail
          refine (S2.out _).mono ?_
          rintro e w3 ⟨rfl, hb⟩
          clear cGl
          replace HB := Lib.hid (below_then HB.out hb)
          replace Gl := Lib.hid ((hb.block _ (lt_of_heap Gl.out)).trans Gl.out)
          replace KL := Lib.hid (KL.out.older hb)
          clear hb
          have cGl := cell_row Gl.out
          go_wp2_with fail
          refine (S1.out _).mono ?_
          rintro e w4 ⟨rfl, hb⟩
          clear cGl
          replace HB := Lib.hid (below_then HB.out hb)
          replace Gl := Lib.hid ((hb.block _ (lt_of_heap Gl.out)).trans Gl.out)
          replace KL := Lib.hid (KL.out.older hb)
          clear hb
          have cGl := cell_row Gl.out
          go_wp2_with fail
          refine (S4.out _ KL.out).mono ?_
          rintro e w5 ⟨rfl, hb⟩
          clear cGl
          replace HB := Lib.hid (below_then HB.out hb)
          replace Gl := Lib.hid ((hb.block _ (lt_of_heap Gl.out)).trans Gl.out)
          replace KL := Lib.hid (KL.out.older hb)
          clear hb
          have cGl := cell_row Gl.out
          go_wp2_with fail
          refine (S5.out _).mono ?_
          rintro e w6 ⟨rfl, hb⟩
          clear cGl
          replace HB := Lib.hid (below_then HB.out hb)
          replace Gl := Lib.hid ((hb.block _ (lt_of_heap Gl.out)).trans Gl.out)
          replace KL := Lib.hid (KL.out.older hb)
          clear hb
          have cGl := cell_row Gl.out
          go_wp2_with fail
          refine (SA.out _).mono ?_
          rintro e w7 ⟨rfl, hb⟩
          clear cGl
          replace HB := Lib.hid (below_then HB.out hb)
          replace Gl := Lib.hid ((hb.block _ (lt_of_heap Gl.out)).trans Gl.out)
          replace KL := Lib.hid (KL.out.older hb)
          clear hb
          have cGl := cell_row Gl.out
          go_wp2
          go_ret
          exact ⟨rfl, HB.out⟩
  · have hf : isMode m = false := by simpa using hm
    have e : nameN m = ⟨#[]⟩ := by unfold nameN; rw [if_neg hm]; rfl
    have e2 : mirN m = 0 := by unfold mirN; rw [if_neg hm]
    rw [hf] at S1 S2
    rw [e] at S4
    rw [e2] at S5
    clear hm hf e e2 hL hm1 hm2
    go_enter Tryd.func4, Tryd.ntmps4
    have HB := Lib.hid (Below.refl w.heap.size w)
    replace KL := Lib.hid (KL.out.older (below_al (Below.refl (w).heap.size (w)) (.cells #[.string ⟨#[101, 118, 101, 110]⟩, .string ⟨#[97, 119, 97, 121]⟩, .string ⟨#[122, 101, 114, 111]⟩, .string ⟨#[117, 112]⟩, .string ⟨#[100, 111, 119, 110]⟩] 9)))
    have Gl := Lib.hid (alloc_new (w) (.cells #[.string ⟨#[101, 118, 101, 110]⟩, .string ⟨#[97, 119, 97, 121]⟩, .string ⟨#[122, 101, 114, 111]⟩, .string ⟨#[117, 112]⟩, .string ⟨#[100, 111, 119, 110]⟩] 9))
    replace HB := Lib.hid (below_al HB.out (.cells #[.string ⟨#[101, 118, 101, 110]⟩, .string ⟨#[97, 119, 97, 121]⟩, .string ⟨#[122, 101, 114, 111]⟩, .string ⟨#[117, 112]⟩, .string ⟨#[100, 111, 119, 110]⟩] 9))
    replace KL := Lib.hid (KL.out.older (below_al (Below.refl ((w).alloc (.cells #[.string ⟨#[101, 118, 101, 110]⟩, .string ⟨#[97, 119, 97, 121]⟩, .string ⟨#[122, 101, 114, 111]⟩, .string ⟨#[117, 112]⟩, .string ⟨#[100, 111, 119, 110]⟩] 9)).heap.size ((w).alloc (.cells #[.string ⟨#[101, 118, 101, 110]⟩, .string ⟨#[97, 119, 97, 121]⟩, .string ⟨#[122, 101, 114, 111]⟩, .string ⟨#[117, 112]⟩, .string ⟨#[100, 111, 119, 110]⟩] 9))) (.cells #[.int .i64 1, .int .i64 2, .int .i64 3, .int .i64 5, .int .i64 4] 3)))
    replace Gl := Lib.hid (keepAl (o' := .cells #[.int .i64 1, .int .i64 2, .int .i64 3, .int .i64 5, .int .i64 4] 3) Gl.out)
    have Gx := Lib.hid (alloc_new' (w := (w).alloc (.cells #[.string ⟨#[101, 118, 101, 110]⟩, .string ⟨#[97, 119, 97, 121]⟩, .string ⟨#[122, 101, 114, 111]⟩, .string ⟨#[117, 112]⟩, .string ⟨#[100, 111, 119, 110]⟩] 9)) (n := w.heap.size + 1) (.cells #[.int .i64 1, .int .i64 2, .int .i64 3, .int .i64 5, .int .i64 4] 3) (by simp))
    replace HB := Lib.hid (below_al HB.out (.cells #[.int .i64 1, .int .i64 2, .int .i64 3, .int .i64 5, .int .i64 4] 3))
    have cGl := cell_row Gl.out
    have cGx := cell_row Gx.out
    go_wp2_with fail
    refine (S1.out _).mono ?_
    rintro e w8 ⟨rfl, hb⟩
    clear cGl cGx
    replace HB := Lib.hid (below_then HB.out hb)
    replace KL := Lib.hid (KL.out.older hb)
    replace Gl := Lib.hid ((hb.block _ (lt_of_heap Gl.out)).trans Gl.out)
    replace Gx := Lib.hid ((hb.block _ (lt_of_heap Gx.out)).trans Gx.out)
    clear hb
    have cGl := cell_row Gl.out
    have cGx := cell_row Gx.out
    go_wp2_with fail
    refine (S3.out _ KL.out).mono ?_
    rintro e w9 ⟨rfl, hb⟩
    clear cGl cGx
    replace HB := Lib.hid (below_then HB.out hb)
    replace KL := Lib.hid (KL.out.older hb)
    replace Gl := Lib.hid ((hb.block _ (lt_of_heap Gl.out)).trans Gl.out)
    replace Gx := Lib.hid ((hb.block _ (lt_of_heap Gx.out)).trans Gx.out)
    clear hb
    go_wp2
    obtain ⟨wb, hwb⟩ : ∃ wx, wx = w9 := ⟨_, rfl⟩
    go_loopw [11, 12] (fun s11 s12 wr => ∃ i : Nat, s12 = .int .i64 (i : Int) ∧ s11 = .int .i64 (fnd s i : Nat) ∧ i ≤ 5 ∧ wr = w9) (fun _ s12 _ => 5 - (intOf s12).toNat)
    case atStart => exact ⟨0, rfl, rfl, by omega, rfl⟩
    case round =>
      obtain ⟨i, rfl, rfl, hi, rfl⟩ := hrel
      by_cases hlt : i < 5
      · have c0 := list_at Gl.out hlt
        have e0 : (0 : Int) ≤ (i : Int) := by omega
        have e1 : (i : Int) < 5 := by omega
        have hfi := fnd_le s i
        have HFS : Hid (fnd s (i + 1) = if nameB (i + 1) = s then i + 1 else fnd s i) := Lib.hid rfl
        have HLT := Lib.hid hlt
        obtain ⟨fi, hfe⟩ : ∃ f, f = fnd s i := ⟨_, rfl⟩
        rw [← hfe] at HFS hfi ⊢
        obtain ⟨nb, hnb⟩ : ∃ n, n = nameB (i + 1) := ⟨_, rfl⟩
        rw [← hnb] at HFS c0
        clear hfe hnb hlt hi
        by_cases hs : nb = s
        · have HN : Hid (fnd s (i + 1) = i + 1) := Lib.hid (by rw [HFS.out, if_pos hs])
          subst hs
          clear HFS hfi
          go_wp2
          go_roundw
          case rel => exact ⟨i + 1, by go_num, by rw [HN.out]; go_num, HLT.out, by first | trivial | rfl⟩
          case measure => have := HLT.out; simp [intOf]; omega
        · have HN : Hid (fnd s (i + 1) = fi) := Lib.hid (by rw [HFS.out, if_neg hs])
          have hb := str_ne hs
          clear HFS hfi hs
          go_wp2
          go_roundw
          case rel => exact ⟨i + 1, by go_num, by rw [HN.out], HLT.out, by first | trivial | rfl⟩
          case measure => have := HLT.out; simp [intOf]; omega
      · obtain rfl : i = 5 := by omega
        rw [← HF.out]
        clear hlt hi
        have cGl := cell_row Gl.out
        have cGx := cell_row Gx.out
        go_wp2_with fail
        refine (S2.out _).mono ?_
        rintro e w10 ⟨rfl, hb⟩
        clear cGl cGx
        replace HB := Lib.hid (below_then HB.out hb)
        replace KL := Lib.hid (KL.out.older hb)
        replace Gl := Lib.hid ((hb.block _ (lt_of_heap Gl.out)).trans Gl.out)
        replace Gx := Lib.hid ((hb.block _ (lt_of_heap Gx.out)).trans Gx.out)
        clear hb
        have cGl := cell_row Gl.out
        have cGx := cell_row Gx.out
        go_wp2_with fail
        refine (S1.out _).mono ?_
        rintro e w11 ⟨rfl, hb⟩
        clear cGl cGx
        replace HB := Lib.hid (below_then HB.out hb)
        replace KL := Lib.hid (KL.out.older hb)
        replace Gl := Lib.hid ((hb.block _ (lt_of_heap Gl.out)).trans Gl.out)
        replace Gx := Lib.hid ((hb.block _ (lt_of_heap Gx.out)).trans Gx.out)
        clear hb
        have cGl := cell_row Gl.out
        have cGx := cell_row Gx.out
        go_wp2_with fail
        refine (S4.out _ KL.out).mono ?_
        rintro e w12 ⟨rfl, hb⟩
        clear cGl cGx
        replace HB := Lib.hid (below_then HB.out hb)
        replace KL := Lib.hid (KL.out.older hb)
        replace Gl := Lib.hid ((hb.block _ (lt_of_heap Gl.out)).trans Gl.out)
        replace Gx := Lib.hid ((hb.block _ (lt_of_heap Gx.out)).trans Gx.out)
        clear hb
        have cGl := cell_row Gl.out
        have cGx := cell_row Gx.out
        go_wp2_with fail
        refine (S5.out _).mono ?_
        rintro e w13 ⟨rfl, hb⟩
        clear cGl cGx
        replace HB := Lib.hid (below_then HB.out hb)
        replace KL := Lib.hid (KL.out.older hb)
        replace Gl := Lib.hid ((hb.block _ (lt_of_heap Gl.out)).trans Gl.out)
        replace Gx := Lib.hid ((hb.block _ (lt_of_heap Gx.out)).trans Gx.out)
        clear hb
        have cGl := cell_row Gl.out
        have cGx := cell_row Gx.out
        go_wp2_with fail
        refine (SA.out _).mono ?_
        rintro e w14 ⟨rfl, hb⟩
        clear cGl cGx
        replace HB := Lib.hid (below_then HB.out hb)
        replace KL := Lib.hid (KL.out.older hb)
        replace Gl := Lib.hid ((hb.block _ (lt_of_heap Gl.out)).trans Gl.out)
        replace Gx := Lib.hid ((hb.block _ (lt_of_heap Gx.out)).trans Gx.out)
        clear hb
        have cGl := cell_row Gl.out
        have cGx := cell_row Gx.out
        go_wp2
        go_ret
        exact ⟨rfl, HB.out⟩
end Go.Proofs.YtffengboblekpaaDoor
