/- SEVERAL TEXTS of the seat, one behind the other: each says at its head what it proves. -/
import Derived.Test.YtffengboblekpaaDoorR2c
import Derived.Test.YtffengboblekpaaDoorRefW4
import Derived.Test.YtffengboblekpaaDoorK17
import Derived.Test.YtffengboblekpaaDoorK16
import Derived.WalkMore
import Derived.Deep.RegionHeld3
/- THE WALKS of the reference of srt: numbers with a sign. -/
namespace Go.Proofs.YtffengboblekpaaDoor
open Go Go.RowKit

/-- A number with a sign, as the reference has it. -/
def IsSgn (w : World) (v : Value) (z : Int) : Prop := ∃ a L cap, v = .agg #[.slice a L cap, .bool (decide (z < 0))] ∧ IsBig w (.slice a L cap) z.natAbs
theorem IsBig.slice {w : World} {v : Value} {n : Nat} (h : IsBig w v n) : ∃ a L cap, v = .slice a L cap := by
  obtain ⟨L, h, _⟩ := h
  obtain ⟨a, cap, h, _⟩ := h.1
  exact ⟨a, L, cap, h⟩
theorem IsSgn.older {w w' : World} {v : Value} {z : Int} (h : IsSgn w v z) (hb : Below w.heap.size w w') : IsSgn w' v z := by
  obtain ⟨a, L, cap, rfl, h⟩ := h
  exact ⟨a, L, cap, rfl, h.below hb⟩
theorem isSgn_of {w : World} {v : Value} {n : Nat} {z : Int} {s : Bool} (h : IsBig w v n) (hn : n = z.natAbs) (hs : s = decide (z < 0)) : IsSgn w (.agg #[v, .bool s]) z := by
  obtain ⟨a, L, cap, rfl⟩ := h.slice
  subst hn hs
  exact ⟨a, L, cap, rfl, h⟩
theorem keepSet {w : World} {O X i : Nat} {v : Value} {C : Nat → Option Value} (h : X ≠ O) (hc : ∀ j, w.cell? ⟨X, j, none⟩ = C j) : ∀ j, (w.setCell ⟨O, i, none⟩ v).cell? ⟨X, j, none⟩ = C j := by
  intro j
  rw [← hc j]
  unfold World.cell?
  rw [set_other ⟨O, i, none⟩ X v h]
theorem keepC {w w' : World} {b : Nat} {cs : Array Value} (hb : Below w.heap.size w w') (h0 : (cs[0]?).isSome = true) (h : ∀ j, w.cell? ⟨b, j, none⟩ = cs[j]?) : ∀ j, w'.cell? ⟨b, j, none⟩ = cs[j]? := by
  obtain ⟨v, hv⟩ := Option.isSome_iff_exists.1 h0
  have hl : b < w.heap.size := block_lt_of_cell (a := ⟨b, 0, none⟩) ((h 0).trans hv)
  intro j
  rw [← h j]
  unfold World.cell?
  rw [hb.block b hl]
/-- A number's row is no block that holds no digits. -/
theorem IsBig.apart {w w' : World} {v : Value} {n O : Nat} (h : IsBig w v n) (hO : ∀ j z, w.cell? ⟨O, j, none⟩ ≠ some (.int .u32 z)) (hb : But (· = O) w w') : IsBig w' v n := by
  obtain ⟨L, ⟨⟨a, cap, rfl, hc, hx⟩, hl⟩, h2⟩ := h
  refine ⟨L, ⟨⟨a, cap, rfl, hc, fun h0 => ?_⟩, hl⟩, h2⟩
  obtain ⟨b, o, rfl, ⟨cur, fr, ht⟩, hcell⟩ := hx h0
  have hbl := lt_of_heap ht
  have hne : ¬ b = O := fun e => hO (o + 0) _ (by rw [← e]; exact hcell 0 h0)
  refine ⟨b, o, rfl, ⟨cur, fr, (hb.block b hbl hne).trans ht⟩, fun i hi => ?_⟩
  rw [← hcell i hi]
  unfold World.cell?
  rw [hb.block b hbl hne]
theorem noDigits2 {w : World} {O : Nat} {v : Value} {s : Bool} {t : TypeId} {fr : Nat × Nat} (h : w.heap[O]? = some (.cells #[v, .bool s] t fr)) (hv : ∃ a L cap, v = .slice a L cap) : ∀ j z, w.cell? ⟨O, j, none⟩ ≠ some (.int .u32 z) := by
  obtain ⟨a, L, cap, rfl⟩ := hv
  intro j z e
  rw [cell_row h] at e
  match j, e with
  | 0, e => simp at e
  | 1, e => simp at e
  | j + 2, e => simp at e
theorem aggSgn : Agg Tryd.prog 52 2 := ⟨_, Tryd.underlying52, rfl, by kernel_rfl⟩
attribute [local go_sem ↓] Go.wp_at_zero Go.wp_at_succ
set_option maxRecDepth 100000 in
set_option maxHeartbeats 2000000 in
theorem sub15_mix (a : Option Addr) (L cap : Nat) (b : Option Addr) (K cap2 : Nat) (x y : Nat) (na : Bool) (w : World) (hx : x < BIG) (hy : y < BIG)
    (h1 : IsBig w (.slice a L cap) x) (h2 : IsBig w (.slice b K cap2) y) :
    Calls Tryd.prog 60 #[.agg #[.slice a L cap, .bool na], .agg #[.slice b K cap2, .bool (!na)]] w fun e w' => ∃ r, e = .returned (.agg #[r, .bool na]) ∧ IsBig w' r (x + y) ∧ Below w.heap.size w w' := by
  have S1 := Lib.hid (fun v v2 w' h h' => add_any v v2 x y w' hx hy h h')
  obtain ⟨T, hT⟩ : ∃ T, T = x + y := ⟨_, rfl⟩
  rw [← hT] at S1 ⊢
  have Ra := Lib.hid h1; have Rb := Lib.hid h2
  clear hx hy h1 h2 hT
  cases na
  · skip
    go_enter Tryd.func60, Tryd.ntmps60
    have HB := Lib.hid (Below.refl w.heap.size w)
    replace Ra := Lib.hid (Ra.out.below (below_al (Below.refl (w).heap.size (w)) (.cells #[.slice a L cap, .bool false] 52)))
    replace Rb := Lib.hid (Rb.out.below (below_al (Below.refl (w).heap.size (w)) (.cells #[.slice a L cap, .bool false] 52)))
    have Gx := Lib.hid (alloc_new (w) (.cells #[.slice a L cap, .bool false] 52))
    replace HB := Lib.hid (below_al HB.out (.cells #[.slice a L cap, .bool false] 52))
    replace Ra := Lib.hid (Ra.out.below (below_al (Below.refl ((w).alloc (.cells #[.slice a L cap, .bool false] 52)).heap.size ((w).alloc (.cells #[.slice a L cap, .bool false] 52))) (.cells #[.slice b K cap2, .bool true] 52)))
    replace Rb := Lib.hid (Rb.out.below (below_al (Below.refl ((w).alloc (.cells #[.slice a L cap, .bool false] 52)).heap.size ((w).alloc (.cells #[.slice a L cap, .bool false] 52))) (.cells #[.slice b K cap2, .bool true] 52)))
    replace Gx := Lib.hid (keepAl (o' := .cells #[.slice b K cap2, .bool true] 52) Gx.out)
    have Gy := Lib.hid (alloc_new' (w := (w).alloc (.cells #[.slice a L cap, .bool false] 52)) (n := w.heap.size + 1) (.cells #[.slice b K cap2, .bool true] 52) (by simp))
    replace HB := Lib.hid (below_al HB.out (.cells #[.slice b K cap2, .bool true] 52))
    replace Ra := Lib.hid (Ra.out.below (below_al (Below.refl (((w).alloc (.cells #[.slice a L cap, .bool false] 52)).alloc (.cells #[.slice b K cap2, .bool true] 52)).heap.size (((w).alloc (.cells #[.slice a L cap, .bool false] 52)).alloc (.cells #[.slice b K cap2, .bool true] 52))) (.cells #[.slice none 0 0, .bool false] 52)))
    replace Rb := Lib.hid (Rb.out.below (below_al (Below.refl (((w).alloc (.cells #[.slice a L cap, .bool false] 52)).alloc (.cells #[.slice b K cap2, .bool true] 52)).heap.size (((w).alloc (.cells #[.slice a L cap, .bool false] 52)).alloc (.cells #[.slice b K cap2, .bool true] 52))) (.cells #[.slice none 0 0, .bool false] 52)))
    replace Gx := Lib.hid (keepAl (o' := .cells #[.slice none 0 0, .bool false] 52) Gx.out)
    replace Gy := Lib.hid (keepAl (o' := .cells #[.slice none 0 0, .bool false] 52) Gy.out)
    have Go := Lib.hid (alloc_new' (w := ((w).alloc (.cells #[.slice a L cap, .bool false] 52)).alloc (.cells #[.slice b K cap2, .bool true] 52)) (n := w.heap.size + 1 + 1) (.cells #[.slice none 0 0, .bool false] 52) (by simp))
    replace HB := Lib.hid (below_al HB.out (.cells #[.slice none 0 0, .bool false] 52))
    have cGx := cell_row Gx.out
    have cGy := cell_row Gy.out
    have cGo := cell_row Go.out
    go_upto_region 2 with fail
    clear cGx cGy cGo
    obtain ⟨wL, hw⟩ : ∃ wx, wx = (((w).alloc (.cells #[.slice a L cap, .bool false] 52)).alloc (.cells #[.slice b K cap2, .bool true] 52)).alloc (.cells #[.slice none 0 0, .bool false] 52) := ⟨_, rfl⟩
    rw [← hw] at Ra Rb Gx Gy Go HB ⊢
    clear hw
    have kx := cell_row (w := wL.drew) Gx.out
    have ky := cell_row (w := wL.drew) Gy.out
    have ko := cell_row (w := wL.drew) Go.out
    go_cut [] (fun wx => ∃ r, wx.heap[w.heap.size + 1 + 1]? = some (.cells #[r, .bool false] 52 (0, 0)) ∧ IsBig wx r T ∧ Below w.heap.size w wx)
    case first =>
      have RaL := Lib.hid (Ra.out.below (Below.refl _ wL).drew)
      have RbL := Lib.hid (Rb.out.below (Below.refl _ wL).drew)
      have HL := Lib.hid HB.out.drew
      have AO := Lib.hid (show wL.drew.heap[_]? = some _ from Go.out)
      go_region_held3 (fun w' => (∀ j, w'.cell? ⟨w.heap.size, j, none⟩ = (#[.slice a L cap, .bool false] : Array Value)[j]?) ∧ (∀ j, w'.cell? ⟨w.heap.size + 1, j, none⟩ = (#[.slice b K cap2, .bool true] : Array Value)[j]?))
        (first
          | (go_keep; done)
          | (go_split_ands; refine ⟨keepC hb (by rfl) ?_, keepC hb (by rfl) ?_⟩ <;> assumption)
          | (go_split_ands; refine ⟨keepSet (show w.heap.size ≠ w.heap.size + 1 + 1 by omega) (keepSet (show w.heap.size ≠ w.heap.size + 1 + 1 by omega) ?_), keepSet (show w.heap.size + 1 ≠ w.heap.size + 1 + 1 by omega) (keepSet (show w.heap.size + 1 ≠ w.heap.size + 1 + 1 by omega) ?_)⟩ <;> assumption))
        ((first
          | (go_at_call 41
             refine (S1.out _ _ _ RaL.out RbL.out).mono ?_
             rintro e wA ⟨r, rfl, hr, hb⟩
             have HL := Lib.hid (below_then HL.out hb)
             have AO := Lib.hid ((hb.block _ (lt_of_heap AO.out)).trans AO.out)
             have RaL := Lib.hid (RaL.out.below hb)
             have RbL := Lib.hid (RbL.out.below hb)
             have ko := cell_row AO.out
             have f0 := free_row AO.out
             obtain ⟨ra, rL, rc, rfl⟩ := hr.slice
             have RR := Lib.hid hr
             clear hr)
          
        ))
      all_goals
        go_wp2
        go_meet
        have hs := HL.out.size
        have hz := lt_of_heap AO.out
        exact ⟨_, set_row (set_row AO.out 0 _) 1 _, (RR.out.apart (noDigits2 AO.out ⟨_, _, _, rfl⟩) (But.set (S := (· = w.heap.size + 1 + 1)) (But.set (S := (· = w.heap.size + 1 + 1)) (But.refl _ _) rfl 0 _) rfl 1 _)), (HL.out.setCell (show _ ≤ w.heap.size + 1 + 1 by omega) _).setCell (show _ ≤ w.heap.size + 1 + 1 by omega) _⟩
    case rest =>
    obtain ⟨r, hg, hr, hb⟩ := hcut
    replace Go := Lib.hid hg
    have HR := Lib.hid hr
    replace HB := Lib.hid hb
    clear hg hr hb kx ky ko
    go_wp2
    exact bodyPost_ret (v := .agg #[r, .bool false]) (res_c Tryd.results60 _ _ _ _ _ _ rfl Go.out aggSgn) rfl ⟨_, rfl, HR.out, HB.out⟩
  · skip
    go_enter Tryd.func60, Tryd.ntmps60
    have HB := Lib.hid (Below.refl w.heap.size w)
    replace Ra := Lib.hid (Ra.out.below (below_al (Below.refl (w).heap.size (w)) (.cells #[.slice a L cap, .bool true] 52)))
    replace Rb := Lib.hid (Rb.out.below (below_al (Below.refl (w).heap.size (w)) (.cells #[.slice a L cap, .bool true] 52)))
    have Gx := Lib.hid (alloc_new (w) (.cells #[.slice a L cap, .bool true] 52))
    replace HB := Lib.hid (below_al HB.out (.cells #[.slice a L cap, .bool true] 52))
    replace Ra := Lib.hid (Ra.out.below (below_al (Below.refl ((w).alloc (.cells #[.slice a L cap, .bool true] 52)).heap.size ((w).alloc (.cells #[.slice a L cap, .bool true] 52))) (.cells #[.slice b K cap2, .bool false] 52)))
    replace Rb := Lib.hid (Rb.out.below (below_al (Below.refl ((w).alloc (.cells #[.slice a L cap, .bool true] 52)).heap.size ((w).alloc (.cells #[.slice a L cap, .bool true] 52))) (.cells #[.slice b K cap2, .bool false] 52)))
    replace Gx := Lib.hid (keepAl (o' := .cells #[.slice b K cap2, .bool false] 52) Gx.out)
    have Gy := Lib.hid (alloc_new' (w := (w).alloc (.cells #[.slice a L cap, .bool true] 52)) (n := w.heap.size + 1) (.cells #[.slice b K cap2, .bool false] 52) (by simp))
    replace HB := Lib.hid (below_al HB.out (.cells #[.slice b K cap2, .bool false] 52))
    replace Ra := Lib.hid (Ra.out.below (below_al (Below.refl (((w).alloc (.cells #[.slice a L cap, .bool true] 52)).alloc (.cells #[.slice b K cap2, .bool false] 52)).heap.size (((w).alloc (.cells #[.slice a L cap, .bool true] 52)).alloc (.cells #[.slice b K cap2, .bool false] 52))) (.cells #[.slice none 0 0, .bool false] 52)))
    replace Rb := Lib.hid (Rb.out.below (below_al (Below.refl (((w).alloc (.cells #[.slice a L cap, .bool true] 52)).alloc (.cells #[.slice b K cap2, .bool false] 52)).heap.size (((w).alloc (.cells #[.slice a L cap, .bool true] 52)).alloc (.cells #[.slice b K cap2, .bool false] 52))) (.cells #[.slice none 0 0, .bool false] 52)))
    replace Gx := Lib.hid (keepAl (o' := .cells #[.slice none 0 0, .bool false] 52) Gx.out)
    replace Gy := Lib.hid (keepAl (o' := .cells #[.slice none 0 0, .bool false] 52) Gy.out)
    have Go := Lib.hid (alloc_new' (w := ((w).alloc (.cells #[.slice a L cap, .bool true] 52)).alloc (.cells #[.slice b K cap2, .bool false] 52)) (n := w.heap.size + 1 + 1) (.cells #[.slice none 0 0, .bool false] 52) (by simp))
    replace HB := Lib.hid (below_al HB.out (.cells #[.slice none 0 0, .bool false] 52))
    have cGx := cell_row Gx.out
    have cGy := cell_row Gy.out
    have cGo := cell_row Go.out
    go_upto_region 2 with fail
    clear cGx cGy cGo
    obtain ⟨wL, hw⟩ : ∃ wx, wx = (((w).alloc (.cells #[.slice a L cap, .bool true] 52)).alloc (.cells #[.slice b K cap2, .bool false] 52)).alloc (.cells #[.slice none 0 0, .bool false] 52) := ⟨_, rfl⟩
    rw [← hw] at Ra Rb Gx Gy Go HB ⊢
    clear hw
    have kx := cell_row (w := wL.drew) Gx.out
    have ky := cell_row (w := wL.drew) Gy.out
    have ko := cell_row (w := wL.drew) Go.out
    go_cut [] (fun wx => ∃ r, wx.heap[w.heap.size + 1 + 1]? = some (.cells #[r, .bool true] 52 (0, 0)) ∧ IsBig wx r T ∧ Below w.heap.size w wx)
    case first =>
      have RaL := Lib.hid (Ra.out.below (Below.refl _ wL).drew)
      have RbL := Lib.hid (Rb.out.below (Below.refl _ wL).drew)
      have HL := Lib.hid HB.out.drew
      have AO := Lib.hid (show wL.drew.heap[_]? = some _ from Go.out)
      go_region_held3 (fun w' => (∀ j, w'.cell? ⟨w.heap.size, j, none⟩ = (#[.slice a L cap, .bool true] : Array Value)[j]?) ∧ (∀ j, w'.cell? ⟨w.heap.size + 1, j, none⟩ = (#[.slice b K cap2, .bool false] : Array Value)[j]?))
        (first
          | (go_keep; done)
          | (go_split_ands; refine ⟨keepC hb (by rfl) ?_, keepC hb (by rfl) ?_⟩ <;> assumption)
          | (go_split_ands; refine ⟨keepSet (show w.heap.size ≠ w.heap.size + 1 + 1 by omega) (keepSet (show w.heap.size ≠ w.heap.size + 1 + 1 by omega) ?_), keepSet (show w.heap.size + 1 ≠ w.heap.size + 1 + 1 by omega) (keepSet (show w.heap.size + 1 ≠ w.heap.size + 1 + 1 by omega) ?_)⟩ <;> assumption))
        ((first
          | (go_at_call 41
             refine (S1.out _ _ _ RaL.out RbL.out).mono ?_
             rintro e wA ⟨r, rfl, hr, hb⟩
             have HL := Lib.hid (below_then HL.out hb)
             have AO := Lib.hid ((hb.block _ (lt_of_heap AO.out)).trans AO.out)
             have RaL := Lib.hid (RaL.out.below hb)
             have RbL := Lib.hid (RbL.out.below hb)
             have ko := cell_row AO.out
             have f0 := free_row AO.out
             obtain ⟨ra, rL, rc, rfl⟩ := hr.slice
             have RR := Lib.hid hr
             clear hr)
          
        ))
      all_goals
        go_wp2
        go_meet
        have hs := HL.out.size
        have hz := lt_of_heap AO.out
        exact ⟨_, set_row (set_row AO.out 0 _) 1 _, (RR.out.apart (noDigits2 AO.out ⟨_, _, _, rfl⟩) (But.set (S := (· = w.heap.size + 1 + 1)) (But.set (S := (· = w.heap.size + 1 + 1)) (But.refl _ _) rfl 0 _) rfl 1 _)), (HL.out.setCell (show _ ≤ w.heap.size + 1 + 1 by omega) _).setCell (show _ ≤ w.heap.size + 1 + 1 by omega) _⟩
    case rest =>
    obtain ⟨r, hg, hr, hb⟩ := hcut
    replace Go := Lib.hid hg
    have HR := Lib.hid hr
    replace HB := Lib.hid hb
    clear hg hr hb kx ky ko
    go_wp2
    exact bodyPost_ret (v := .agg #[r, .bool true]) (res_c Tryd.results60 _ _ _ _ _ _ rfl Go.out aggSgn) rfl ⟨_, rfl, HR.out, HB.out⟩
set_option linter.unusedSimpArgs false in
set_option maxRecDepth 100000 in
set_option maxHeartbeats 2000000 in
theorem sub15_ge (a : Option Addr) (L cap : Nat) (b : Option Addr) (K cap2 : Nat) (y T : Nat) (na : Bool) (w : World) (hx : y + T < BIG)
    (h1 : IsBig w (.slice a L cap) (y + T)) (h2 : IsBig w (.slice b K cap2) y) :
    Calls Tryd.prog 60 #[.agg #[.slice a L cap, .bool na], .agg #[.slice b K cap2, .bool na]] w fun e w' => ∃ r, e = .returned (.agg #[r, .bool (na && decide (T ≠ 0))]) ∧ IsBig w' r T ∧ Below w.heap.size w w' := by
  have S1 := Lib.hid (fun v v2 w' h h' => sub_any v v2 y T w' hx h h')
  have S2 := Lib.hid (fun v v2 w' h h' => cmp_any v v2 (y + T) y w' hx (by omega) h h')
  have hc0 : 0 ≤ cmpN (y + T) y := by unfold cmpN; split <;> (try split) <;> omega
  have hcT : (cmpN (y + T) y = 0) ↔ T = 0 := by unfold cmpN; split <;> (try split) <;> omega
  obtain ⟨C, hC⟩ : ∃ C, C = cmpN (y + T) y := ⟨_, rfl⟩
  obtain ⟨x, hxe⟩ : ∃ x, x = y + T := ⟨_, rfl⟩
  rw [← hxe] at S1 S2 h1
  rw [← hxe] at hC
  rw [← hxe, ← hC] at hc0 hcT
  rw [← hC] at S2
  have Ra := Lib.hid h1; have Rb := Lib.hid h2
  clear hx h1 h2 hxe hC
  cases na
  · have e : (false && decide (T ≠ 0)) = false := rfl
    rw [e]
    clear e hcT
    go_enter Tryd.func60, Tryd.ntmps60
    have HB := Lib.hid (Below.refl w.heap.size w)
    replace Ra := Lib.hid (Ra.out.below (below_al (Below.refl (w).heap.size (w)) (.cells #[.slice a L cap, .bool false] 52)))
    replace Rb := Lib.hid (Rb.out.below (below_al (Below.refl (w).heap.size (w)) (.cells #[.slice a L cap, .bool false] 52)))
    have Gx := Lib.hid (alloc_new (w) (.cells #[.slice a L cap, .bool false] 52))
    replace HB := Lib.hid (below_al HB.out (.cells #[.slice a L cap, .bool false] 52))
    replace Ra := Lib.hid (Ra.out.below (below_al (Below.refl ((w).alloc (.cells #[.slice a L cap, .bool false] 52)).heap.size ((w).alloc (.cells #[.slice a L cap, .bool false] 52))) (.cells #[.slice b K cap2, .bool false] 52)))
    replace Rb := Lib.hid (Rb.out.below (below_al (Below.refl ((w).alloc (.cells #[.slice a L cap, .bool false] 52)).heap.size ((w).alloc (.cells #[.slice a L cap, .bool false] 52))) (.cells #[.slice b K cap2, .bool false] 52)))
    replace Gx := Lib.hid (keepAl (o' := .cells #[.slice b K cap2, .bool false] 52) Gx.out)
    have Gy := Lib.hid (alloc_new' (w := (w).alloc (.cells #[.slice a L cap, .bool false] 52)) (n := w.heap.size + 1) (.cells #[.slice b K cap2, .bool false] 52) (by simp))
    replace HB := Lib.hid (below_al HB.out (.cells #[.slice b K cap2, .bool false] 52))
    replace Ra := Lib.hid (Ra.out.below (below_al (Below.refl (((w).alloc (.cells #[.slice a L cap, .bool false] 52)).alloc (.cells #[.slice b K cap2, .bool false] 52)).heap.size (((w).alloc (.cells #[.slice a L cap, .bool false] 52)).alloc (.cells #[.slice b K cap2, .bool false] 52))) (.cells #[.slice none 0 0, .bool false] 52)))
    replace Rb := Lib.hid (Rb.out.below (below_al (Below.refl (((w).alloc (.cells #[.slice a L cap, .bool false] 52)).alloc (.cells #[.slice b K cap2, .bool false] 52)).heap.size (((w).alloc (.cells #[.slice a L cap, .bool false] 52)).alloc (.cells #[.slice b K cap2, .bool false] 52))) (.cells #[.slice none 0 0, .bool false] 52)))
    replace Gx := Lib.hid (keepAl (o' := .cells #[.slice none 0 0, .bool false] 52) Gx.out)
    replace Gy := Lib.hid (keepAl (o' := .cells #[.slice none 0 0, .bool false] 52) Gy.out)
    have Go := Lib.hid (alloc_new' (w := ((w).alloc (.cells #[.slice a L cap, .bool false] 52)).alloc (.cells #[.slice b K cap2, .bool false] 52)) (n := w.heap.size + 1 + 1) (.cells #[.slice none 0 0, .bool false] 52) (by simp))
    replace HB := Lib.hid (below_al HB.out (.cells #[.slice none 0 0, .bool false] 52))
    have cGx := cell_row Gx.out
    have cGy := cell_row Gy.out
    have cGo := cell_row Go.out
    go_wp2_with fail
    refine (S2.out _ _ _ Ra.out Rb.out).mono ?_
    rintro e w1 ⟨rfl, hb⟩
    clear cGx cGy cGo
    replace HB := Lib.hid (below_then HB.out hb)
    replace Ra := Lib.hid (Ra.out.below hb)
    replace Rb := Lib.hid (Rb.out.below hb)
    replace Gx := Lib.hid ((hb.block _ (lt_of_heap Gx.out)).trans Gx.out)
    replace Gy := Lib.hid ((hb.block _ (lt_of_heap Gy.out)).trans Gy.out)
    replace Go := Lib.hid ((hb.block _ (lt_of_heap Go.out)).trans Go.out)
    clear hb
    have cGx := cell_row Gx.out
    have cGy := cell_row Gy.out
    have cGo := cell_row Go.out
    go_upto_region 4 with fail
    clear cGx cGy cGo
    obtain ⟨wL, hw⟩ : ∃ wx, wx = w1 := ⟨_, rfl⟩
    rw [← hw] at Ra Rb Gx Gy Go HB ⊢
    clear hw
    have kx := cell_row (w := wL.drew) Gx.out
    have ky := cell_row (w := wL.drew) Gy.out
    go_cut [] (fun wx => ∃ r, wx.heap[w.heap.size + 1 + 1]? = some (.cells #[r, .bool false] 52 (0, 0)) ∧ IsBig wx r T ∧ Below w.heap.size w wx)
    case first =>
      have RaL := Lib.hid (Ra.out.below (Below.refl _ wL).drew)
      have RbL := Lib.hid (Rb.out.below (Below.refl _ wL).drew)
      have HL := Lib.hid HB.out.drew
      have AO := Lib.hid (show wL.drew.heap[_]? = some _ from Go.out)
      refine wp_region_held_drew (S := fun w' => (∀ j, w'.cell? ⟨w.heap.size, j, none⟩ = (#[.slice a L cap, .bool false] : Array Value)[j]?) ∧ (∀ j, w'.cell? ⟨w.heap.size + 1, j, none⟩ = (#[.slice b K cap2, .bool false] : Array Value)[j]?)) (by kernel_rfl) ⟨kx, ky⟩ (fun hHeld => ?_)
      refine wpAnyH_take (i := 0) (v := .pointer (some ⟨w.heap.size, 0, none⟩)) rfl (by kernel_rfl) (by kernel_rfl) (by kernel_rfl) (fun _ _ _ h => h) (Or.inl ⟨by rfl, ?_⟩) (by assumption) ?_
      · intro w' hSw
        (try dsimp only at hSw)
        obtain ⟨h1, h2⟩ := hSw
        go_simp
        (try with_reducible rfl)
      (try simp only [Act.put, List.setIfInBounds_toArray, List.set_cons_zero, List.set_cons_succ])
      refine wpAnyH_take (i := 1) (v := .slice a L cap) rfl (by kernel_rfl) (by kernel_rfl) (by kernel_rfl) (fun _ _ _ h => h) (Or.inl ⟨by rfl, ?_⟩) (by assumption) ?_
      · intro w' hSw
        (try dsimp only at hSw)
        obtain ⟨h1, h2⟩ := hSw
        go_simp
        (try with_reducible rfl)
      (try simp only [Act.put, List.setIfInBounds_toArray, List.set_cons_zero, List.set_cons_succ])
      refine wpAnyH_take (i := 2) (v := .pointer (some ⟨w.heap.size + 1, 0, none⟩)) rfl (by kernel_rfl) (by kernel_rfl) (by kernel_rfl) (fun _ _ _ h => h) (Or.inl ⟨by rfl, ?_⟩) (by assumption) ?_
      · intro w' hSw
        (try dsimp only at hSw)
        obtain ⟨h1, h2⟩ := hSw
        go_simp
        (try with_reducible rfl)
      (try simp only [Act.put, List.setIfInBounds_toArray, List.set_cons_zero, List.set_cons_succ])
      refine wpAnyH_take (i := 3) (v := .slice b K cap2) rfl (by kernel_rfl) (by kernel_rfl) (by kernel_rfl) (fun _ _ _ h => h) (Or.inl ⟨by rfl, ?_⟩) (by assumption) ?_
      · intro w' hSw
        (try dsimp only at hSw)
        obtain ⟨h1, h2⟩ := hSw
        go_simp
        (try with_reducible rfl)
      (try simp only [Act.put, List.setIfInBounds_toArray, List.set_cons_zero, List.set_cons_succ])
      refine wpAnyH_take (i := 5) (v := .pointer (some ⟨w.heap.size, 1, none⟩)) rfl (by kernel_rfl) (by kernel_rfl) (by kernel_rfl) (fun _ _ _ h => h) (Or.inl ⟨by rfl, ?_⟩) (by assumption) ?_
      · intro w' hSw
        (try dsimp only at hSw)
        obtain ⟨h1, h2⟩ := hSw
        go_simp
        (try with_reducible rfl)
      (try simp only [Act.put, List.setIfInBounds_toArray, List.set_cons_zero, List.set_cons_succ])
      refine wpAnyH_take (i := 6) (v := .bool false) rfl (by kernel_rfl) (by kernel_rfl) (by kernel_rfl) (fun _ _ _ h => h) (Or.inl ⟨by rfl, ?_⟩) (by assumption) ?_
      · intro w' hSw
        (try dsimp only at hSw)
        obtain ⟨h1, h2⟩ := hSw
        go_simp
        (try with_reducible rfl)
      (try simp only [Act.put, List.setIfInBounds_toArray, List.set_cons_zero, List.set_cons_succ])
      refine wpAnyH_ready (rs := [4]) (by kernel_rfl) (by simp) ?_
      refine AllReadyH.cons rfl (fun K0 hK => ?_) AllReadyH.nil
      go_simp
      go_at_call 89
      refine (S1.out _ _ _ RaL.out RbL.out).mono ?_
      rintro e wA ⟨r, rfl, hr, hb⟩
      have HL := Lib.hid (below_then HL.out hb)
      have AO := Lib.hid ((hb.block _ (lt_of_heap AO.out)).trans AO.out)
      have ko := cell_row AO.out
      have f0 := free_row AO.out
      obtain ⟨ra, rL, rc, rfl⟩ := hr.slice
      have RR := Lib.hid hr
      obtain ⟨q1, q2⟩ := hHeld
      have q3 := keepC hb (by rfl) q1
      have q4 := keepC hb (by rfl) q2
      clear hr kx ky q1 q2 hb
      go_wp2_with fail
      refine hK.out _ _ ⟨q3, q4⟩ (fun hHeld => ?_)
      clear hK K0
      (try simp only [Act.put, List.setIfInBounds_toArray, List.set_cons_zero, List.set_cons_succ])
      refine wpAnyH_take (i := 7) (v := .bool false) rfl (by kernel_rfl) (by kernel_rfl) (by kernel_rfl) (fun _ _ _ h => h) (Or.inl ⟨by rfl, ?_⟩) (by assumption) ?_
      · intro w' hSw
        (try dsimp only at hSw)
        obtain ⟨h1, h2⟩ := hSw
        go_simp
        (try with_reducible rfl)
      (try simp only [Act.put, List.setIfInBounds_toArray, List.set_cons_zero, List.set_cons_succ])
      refine wpAnyH_take (i := 8) (v := undef) rfl (by kernel_rfl) (by kernel_rfl) (by kernel_rfl) (fun _ _ _ h => h) (Or.inr ⟨by rfl, rfl⟩) (by assumption) ?_
      (try simp only [Act.put, List.setIfInBounds_toArray, List.set_cons_zero, List.set_cons_succ])
      refine wpAnyH_take (i := 9) (v := undef) rfl (by kernel_rfl) (by kernel_rfl) (by kernel_rfl) (fun _ _ _ h => h) (Or.inr ⟨by rfl, rfl⟩) (by assumption) ?_
      (try simp only [Act.put, List.setIfInBounds_toArray, List.set_cons_zero, List.set_cons_succ])
      refine wpAnyH_take (i := 10) (v := undef) rfl (by kernel_rfl) (by kernel_rfl) (by kernel_rfl) (fun _ _ _ h => h) (Or.inr ⟨by rfl, rfl⟩) (by assumption) ?_
      (try simp only [Act.put, List.setIfInBounds_toArray, List.set_cons_zero, List.set_cons_succ])
      refine wpAnyH_take (i := 11) (v := undef) rfl (by kernel_rfl) (by kernel_rfl) (by kernel_rfl) (fun _ _ _ h => h) (Or.inr ⟨by rfl, rfl⟩) (by assumption) ?_
      (try simp only [Act.put, List.setIfInBounds_toArray, List.set_cons_zero, List.set_cons_succ])
      refine wpAnyH_take (i := 12) (v := undef) rfl (by kernel_rfl) (by kernel_rfl) (by kernel_rfl) (fun _ _ _ h => h) (Or.inr ⟨by rfl, rfl⟩) (by assumption) ?_
      (try simp only [Act.put, List.setIfInBounds_toArray, List.set_cons_zero, List.set_cons_succ])
      refine wpAnyH_take (i := 13) (v := undef) rfl (by kernel_rfl) (by kernel_rfl) (by kernel_rfl) (fun _ _ _ h => h) (Or.inr ⟨by rfl, rfl⟩) (by assumption) ?_
      (try simp only [Act.put, List.setIfInBounds_toArray, List.set_cons_zero, List.set_cons_succ])
      refine wpAnyH_take (i := 14) (v := .bool false) rfl (by kernel_rfl) (by kernel_rfl) (by kernel_rfl) (fun _ _ _ h => h) (Or.inl ⟨by rfl, ?_⟩) (by assumption) ?_
      · intro w' hSw
        (try dsimp only at hSw)
        obtain ⟨h1, h2⟩ := hSw
        go_simp
        (try with_reducible rfl)
      (try simp only [Act.put, List.setIfInBounds_toArray, List.set_cons_zero, List.set_cons_succ])
      refine wpAnyH_take (i := 15) (v := .agg #[.slice ra rL rc, .bool false]) rfl (by kernel_rfl) (by kernel_rfl) (by kernel_rfl) (fun _ _ _ h => h) (Or.inl ⟨by rfl, ?_⟩) (by assumption) ?_
      · intro w' hSw
        (try dsimp only at hSw)
        obtain ⟨h1, h2⟩ := hSw
        go_simp
        (try with_reducible rfl)
      (try simp only [Act.put, List.setIfInBounds_toArray, List.set_cons_zero, List.set_cons_succ])
      refine wpAnyH_ready (rs := [16]) (by kernel_rfl) (by simp) ?_
      refine AllReadyH.cons rfl (fun K0 hK => ?_) AllReadyH.nil
      go_simp
      refine hK.out _ _ ⟨keepSet (show w.heap.size ≠ w.heap.size + 1 + 1 by omega) (keepSet (show w.heap.size ≠ w.heap.size + 1 + 1 by omega) q3), keepSet (show w.heap.size + 1 ≠ w.heap.size + 1 + 1 by omega) (keepSet (show w.heap.size + 1 ≠ w.heap.size + 1 + 1 by omega) q4)⟩ (fun hHeld => ?_)
      clear hK K0 q3 q4
      refine wpAnyH_done (by kernel_rfl) ?_ _
      go_wp2
      go_meet
      have hs := HL.out.size
      have hz := lt_of_heap AO.out
      exact ⟨_, set_row (set_row AO.out 0 _) 1 _, (RR.out.apart (noDigits2 AO.out ⟨_, _, _, rfl⟩) (But.set (S := (· = w.heap.size + 1 + 1)) (But.set (S := (· = w.heap.size + 1 + 1)) (But.refl _ _) rfl 0 _) rfl 1 _)), (HL.out.setCell (show _ ≤ w.heap.size + 1 + 1 by omega) _).setCell (show _ ≤ w.heap.size + 1 + 1 by omega) _⟩
    case rest =>
    obtain ⟨r, hg, hr, hb⟩ := hcut
    replace Go := Lib.hid hg
    have HR := Lib.hid hr
    replace HB := Lib.hid hb
    clear hg hr hb kx ky
    go_wp2
    exact bodyPost_ret (v := .agg #[r, .bool false]) (res_c Tryd.results60 _ _ _ _ _ _ rfl Go.out aggSgn) rfl ⟨_, rfl, HR.out, HB.out⟩
  · rcases (show (C != 0) = true ∧ (true && decide (T ≠ 0)) = true ∨ (C != 0) = false ∧ (true && decide (T ≠ 0)) = false by
      by_cases h : T = 0
      · right; rw [hcT.2 h, h]; exact ⟨rfl, rfl⟩
      · left; exact ⟨by simp; exact fun hh => h (hcT.1 hh), by simp [h]⟩) with ⟨hb1, hb2⟩ | ⟨hb1, hb2⟩
    · rw [hb2]
      clear hb2 hcT
      go_enter Tryd.func60, Tryd.ntmps60
      have HB := Lib.hid (Below.refl w.heap.size w)
      replace Ra := Lib.hid (Ra.out.below (below_al (Below.refl (w).heap.size (w)) (.cells #[.slice a L cap, .bool true] 52)))
      replace Rb := Lib.hid (Rb.out.below (below_al (Below.refl (w).heap.size (w)) (.cells #[.slice a L cap, .bool true] 52)))
      have Gx := Lib.hid (alloc_new (w) (.cells #[.slice a L cap, .bool true] 52))
      replace HB := Lib.hid (below_al HB.out (.cells #[.slice a L cap, .bool true] 52))
      replace Ra := Lib.hid (Ra.out.below (below_al (Below.refl ((w).alloc (.cells #[.slice a L cap, .bool true] 52)).heap.size ((w).alloc (.cells #[.slice a L cap, .bool true] 52))) (.cells #[.slice b K cap2, .bool true] 52)))
      replace Rb := Lib.hid (Rb.out.below (below_al (Below.refl ((w).alloc (.cells #[.slice a L cap, .bool true] 52)).heap.size ((w).alloc (.cells #[.slice a L cap, .bool true] 52))) (.cells #[.slice b K cap2, .bool true] 52)))
      replace Gx := Lib.hid (keepAl (o' := .cells #[.slice b K cap2, .bool true] 52) Gx.out)
      have Gy := Lib.hid (alloc_new' (w := (w).alloc (.cells #[.slice a L cap, .bool true] 52)) (n := w.heap.size + 1) (.cells #[.slice b K cap2, .bool true] 52) (by simp))
      replace HB := Lib.hid (below_al HB.out (.cells #[.slice b K cap2, .bool true] 52))
      replace Ra := Lib.hid (Ra.out.below (below_al (Below.refl (((w).alloc (.cells #[.slice a L cap, .bool true] 52)).alloc (.cells #[.slice b K cap2, .bool true] 52)).heap.size (((w).alloc (.cells #[.slice a L cap, .bool true] 52)).alloc (.cells #[.slice b K cap2, .bool true] 52))) (.cells #[.slice none 0 0, .bool false] 52)))
      replace Rb := Lib.hid (Rb.out.below (below_al (Below.refl (((w).alloc (.cells #[.slice a L cap, .bool true] 52)).alloc (.cells #[.slice b K cap2, .bool true] 52)).heap.size (((w).alloc (.cells #[.slice a L cap, .bool true] 52)).alloc (.cells #[.slice b K cap2, .bool true] 52))) (.cells #[.slice none 0 0, .bool false] 52)))
      replace Gx := Lib.hid (keepAl (o' := .cells #[.slice none 0 0, .bool false] 52) Gx.out)
      replace Gy := Lib.hid (keepAl (o' := .cells #[.slice none 0 0, .bool false] 52) Gy.out)
      have Go := Lib.hid (alloc_new' (w := ((w).alloc (.cells #[.slice a L cap, .bool true] 52)).alloc (.cells #[.slice b K cap2, .bool true] 52)) (n := w.heap.size + 1 + 1) (.cells #[.slice none 0 0, .bool false] 52) (by simp))
      replace HB := Lib.hid (below_al HB.out (.cells #[.slice none 0 0, .bool false] 52))
      have cGx := cell_row Gx.out
      have cGy := cell_row Gy.out
      have cGo := cell_row Go.out
      go_wp2_with fail
      refine (S2.out _ _ _ Ra.out Rb.out).mono ?_
      rintro e w2 ⟨rfl, hb⟩
      clear cGx cGy cGo
      replace HB := Lib.hid (below_then HB.out hb)
      replace Ra := Lib.hid (Ra.out.below hb)
      replace Rb := Lib.hid (Rb.out.below hb)
      replace Gx := Lib.hid ((hb.block _ (lt_of_heap Gx.out)).trans Gx.out)
      replace Gy := Lib.hid ((hb.block _ (lt_of_heap Gy.out)).trans Gy.out)
      replace Go := Lib.hid ((hb.block _ (lt_of_heap Go.out)).trans Go.out)
      clear hb
      have cGx := cell_row Gx.out
      have cGy := cell_row Gy.out
      have cGo := cell_row Go.out
      go_upto_region 4 with fail
      clear cGx cGy cGo
      obtain ⟨wL, hw⟩ : ∃ wx, wx = w2 := ⟨_, rfl⟩
      rw [← hw] at Ra Rb Gx Gy Go HB ⊢
      clear hw
      have kx := cell_row (w := wL.drew) Gx.out
      have ky := cell_row (w := wL.drew) Gy.out
      have ko := cell_row (w := wL.drew) Go.out
      go_cut [] (fun wx => ∃ r, wx.heap[w.heap.size + 1 + 1]? = some (.cells #[r, .bool true] 52 (0, 0)) ∧ IsBig wx r T ∧ Below w.heap.size w wx)
      case first =>
        have RaL := Lib.hid (Ra.out.below (Below.refl _ wL).drew)
        have RbL := Lib.hid (Rb.out.below (Below.refl _ wL).drew)
        have HL := Lib.hid HB.out.drew
        have AO := Lib.hid (show wL.drew.heap[_]? = some _ from Go.out)
        go_region_held3 (fun w' => (∀ j, w'.cell? ⟨w.heap.size, j, none⟩ = (#[.slice a L cap, .bool true] : Array Value)[j]?) ∧ (∀ j, w'.cell? ⟨w.heap.size + 1, j, none⟩ = (#[.slice b K cap2, .bool true] : Array Value)[j]?))
          (first
            | (go_keep; done)
            | (go_split_ands; refine ⟨keepC hb (by rfl) ?_, keepC hb (by rfl) ?_⟩ <;> assumption)
            | (go_split_ands; refine ⟨keepSet (show w.heap.size ≠ w.heap.size + 1 + 1 by omega) (keepSet (show w.heap.size ≠ w.heap.size + 1 + 1 by omega) ?_), keepSet (show w.heap.size + 1 ≠ w.heap.size + 1 + 1 by omega) (keepSet (show w.heap.size + 1 ≠ w.heap.size + 1 + 1 by omega) ?_)⟩ <;> assumption))
          ((first
            | (go_at_call 89
               refine (S1.out _ _ _ RaL.out RbL.out).mono ?_
               rintro e wA ⟨r, rfl, hr, hb⟩
               have HL := Lib.hid (below_then HL.out hb)
               have AO := Lib.hid ((hb.block _ (lt_of_heap AO.out)).trans AO.out)
               have RaL := Lib.hid (RaL.out.below hb)
               have RbL := Lib.hid (RbL.out.below hb)
               have ko := cell_row AO.out
               have f0 := free_row AO.out
               obtain ⟨ra, rL, rc, rfl⟩ := hr.slice
               have RR := Lib.hid hr
               clear hr)
            | (go_at_call 15
               refine (S2.out _ _ _ RaL.out RbL.out).mono ?_
               rintro e wA ⟨rfl, hb⟩
               have HL := Lib.hid (below_then HL.out hb)
               have AO := Lib.hid ((hb.block _ (lt_of_heap AO.out)).trans AO.out)
               have RaL := Lib.hid (RaL.out.below hb)
               have RbL := Lib.hid (RbL.out.below hb)
               have ko := cell_row AO.out
               have f0 := free_row AO.out
               (try (have RR := Lib.hid (RR.out.below hb))))
          ))
        all_goals
          go_wp2
          go_meet
          have hs := HL.out.size
          have hz := lt_of_heap AO.out
          exact ⟨_, set_row (set_row AO.out 0 _) 1 _, (RR.out.apart (noDigits2 AO.out ⟨_, _, _, rfl⟩) (But.set (S := (· = w.heap.size + 1 + 1)) (But.set (S := (· = w.heap.size + 1 + 1)) (But.refl _ _) rfl 0 _) rfl 1 _)), (HL.out.setCell (show _ ≤ w.heap.size + 1 + 1 by omega) _).setCell (show _ ≤ w.heap.size + 1 + 1 by omega) _⟩
      case rest =>
      obtain ⟨r, hg, hr, hb⟩ := hcut
      replace Go := Lib.hid hg
      have HR := Lib.hid hr
      replace HB := Lib.hid hb
      clear hg hr hb kx ky ko
      go_wp2
      exact bodyPost_ret (v := .agg #[r, .bool true]) (res_c Tryd.results60 _ _ _ _ _ _ rfl Go.out aggSgn) rfl ⟨_, rfl, HR.out, HB.out⟩
    · rw [hb2]
      clear hb2 hcT
      go_enter Tryd.func60, Tryd.ntmps60
      have HB := Lib.hid (Below.refl w.heap.size w)
      replace Ra := Lib.hid (Ra.out.below (below_al (Below.refl (w).heap.size (w)) (.cells #[.slice a L cap, .bool true] 52)))
      replace Rb := Lib.hid (Rb.out.below (below_al (Below.refl (w).heap.size (w)) (.cells #[.slice a L cap, .bool true] 52)))
      have Gx := Lib.hid (alloc_new (w) (.cells #[.slice a L cap, .bool true] 52))
      replace HB := Lib.hid (below_al HB.out (.cells #[.slice a L cap, .bool true] 52))
      replace Ra := Lib.hid (Ra.out.below (below_al (Below.refl ((w).alloc (.cells #[.slice a L cap, .bool true] 52)).heap.size ((w).alloc (.cells #[.slice a L cap, .bool true] 52))) (.cells #[.slice b K cap2, .bool true] 52)))
      replace Rb := Lib.hid (Rb.out.below (below_al (Below.refl ((w).alloc (.cells #[.slice a L cap, .bool true] 52)).heap.size ((w).alloc (.cells #[.slice a L cap, .bool true] 52))) (.cells #[.slice b K cap2, .bool true] 52)))
      replace Gx := Lib.hid (keepAl (o' := .cells #[.slice b K cap2, .bool true] 52) Gx.out)
      have Gy := Lib.hid (alloc_new' (w := (w).alloc (.cells #[.slice a L cap, .bool true] 52)) (n := w.heap.size + 1) (.cells #[.slice b K cap2, .bool true] 52) (by simp))
      replace HB := Lib.hid (below_al HB.out (.cells #[.slice b K cap2, .bool true] 52))
      replace Ra := Lib.hid (Ra.out.below (below_al (Below.refl (((w).alloc (.cells #[.slice a L cap, .bool true] 52)).alloc (.cells #[.slice b K cap2, .bool true] 52)).heap.size (((w).alloc (.cells #[.slice a L cap, .bool true] 52)).alloc (.cells #[.slice b K cap2, .bool true] 52))) (.cells #[.slice none 0 0, .bool false] 52)))
      replace Rb := Lib.hid (Rb.out.below (below_al (Below.refl (((w).alloc (.cells #[.slice a L cap, .bool true] 52)).alloc (.cells #[.slice b K cap2, .bool true] 52)).heap.size (((w).alloc (.cells #[.slice a L cap, .bool true] 52)).alloc (.cells #[.slice b K cap2, .bool true] 52))) (.cells #[.slice none 0 0, .bool false] 52)))
      replace Gx := Lib.hid (keepAl (o' := .cells #[.slice none 0 0, .bool false] 52) Gx.out)
      replace Gy := Lib.hid (keepAl (o' := .cells #[.slice none 0 0, .bool false] 52) Gy.out)
      have Go := Lib.hid (alloc_new' (w := ((w).alloc (.cells #[.slice a L cap, .bool true] 52)).alloc (.cells #[.slice b K cap2, .bool true] 52)) (n := w.heap.size + 1 + 1) (.cells #[.slice none 0 0, .bool false] 52) (by simp))
      replace HB := Lib.hid (below_al HB.out (.cells #[.slice none 0 0, .bool false] 52))
      have cGx := cell_row Gx.out
      have cGy := cell_row Gy.out
      have cGo := cell_row Go.out
      go_wp2_with fail
      refine (S2.out _ _ _ Ra.out Rb.out).mono ?_
      rintro e w3 ⟨rfl, hb⟩
      clear cGx cGy cGo
      replace HB := Lib.hid (below_then HB.out hb)
      replace Ra := Lib.hid (Ra.out.below hb)
      replace Rb := Lib.hid (Rb.out.below hb)
      replace Gx := Lib.hid ((hb.block _ (lt_of_heap Gx.out)).trans Gx.out)
      replace Gy := Lib.hid ((hb.block _ (lt_of_heap Gy.out)).trans Gy.out)
      replace Go := Lib.hid ((hb.block _ (lt_of_heap Go.out)).trans Go.out)
      clear hb
      have cGx := cell_row Gx.out
      have cGy := cell_row Gy.out
      have cGo := cell_row Go.out
      go_upto_region 4 with fail
      clear cGx cGy cGo
      obtain ⟨wL, hw⟩ : ∃ wx, wx = w3 := ⟨_, rfl⟩
      rw [← hw] at Ra Rb Gx Gy Go HB ⊢
      clear hw
      have kx := cell_row (w := wL.drew) Gx.out
      have ky := cell_row (w := wL.drew) Gy.out
      have ko := cell_row (w := wL.drew) Go.out
      go_cut [] (fun wx => ∃ r, wx.heap[w.heap.size + 1 + 1]? = some (.cells #[r, .bool false] 52 (0, 0)) ∧ IsBig wx r T ∧ Below w.heap.size w wx)
      case first =>
        have RaL := Lib.hid (Ra.out.below (Below.refl _ wL).drew)
        have RbL := Lib.hid (Rb.out.below (Below.refl _ wL).drew)
        have HL := Lib.hid HB.out.drew
        have AO := Lib.hid (show wL.drew.heap[_]? = some _ from Go.out)
        go_region_held3 (fun w' => (∀ j, w'.cell? ⟨w.heap.size, j, none⟩ = (#[.slice a L cap, .bool true] : Array Value)[j]?) ∧ (∀ j, w'.cell? ⟨w.heap.size + 1, j, none⟩ = (#[.slice b K cap2, .bool true] : Array Value)[j]?))
          (first
            | (go_keep; done)
            | (go_split_ands; refine ⟨keepC hb (by rfl) ?_, keepC hb (by rfl) ?_⟩ <;> assumption)
            | (go_split_ands; refine ⟨keepSet (show w.heap.size ≠ w.heap.size + 1 + 1 by omega) (keepSet (show w.heap.size ≠ w.heap.size + 1 + 1 by omega) ?_), keepSet (show w.heap.size + 1 ≠ w.heap.size + 1 + 1 by omega) (keepSet (show w.heap.size + 1 ≠ w.heap.size + 1 + 1 by omega) ?_)⟩ <;> assumption))
          ((first
            | (go_at_call 89
               refine (S1.out _ _ _ RaL.out RbL.out).mono ?_
               rintro e wA ⟨r, rfl, hr, hb⟩
               have HL := Lib.hid (below_then HL.out hb)
               have AO := Lib.hid ((hb.block _ (lt_of_heap AO.out)).trans AO.out)
               have RaL := Lib.hid (RaL.out.below hb)
               have RbL := Lib.hid (RbL.out.below hb)
               have ko := cell_row AO.out
               have f0 := free_row AO.out
               obtain ⟨ra, rL, rc, rfl⟩ := hr.slice
               have RR := Lib.hid hr
               clear hr)
            | (go_at_call 15
               refine (S2.out _ _ _ RaL.out RbL.out).mono ?_
               rintro e wA ⟨rfl, hb⟩
               have HL := Lib.hid (below_then HL.out hb)
               have AO := Lib.hid ((hb.block _ (lt_of_heap AO.out)).trans AO.out)
               have RaL := Lib.hid (RaL.out.below hb)
               have RbL := Lib.hid (RbL.out.below hb)
               have ko := cell_row AO.out
               have f0 := free_row AO.out
               (try (have RR := Lib.hid (RR.out.below hb))))
          ))
        all_goals
          go_wp2
          go_meet
          have hs := HL.out.size
          have hz := lt_of_heap AO.out
          exact ⟨_, set_row (set_row AO.out 0 _) 1 _, (RR.out.apart (noDigits2 AO.out ⟨_, _, _, rfl⟩) (But.set (S := (· = w.heap.size + 1 + 1)) (But.set (S := (· = w.heap.size + 1 + 1)) (But.refl _ _) rfl 0 _) rfl 1 _)), (HL.out.setCell (show _ ≤ w.heap.size + 1 + 1 by omega) _).setCell (show _ ≤ w.heap.size + 1 + 1 by omega) _⟩
      case rest =>
      obtain ⟨r, hg, hr, hb⟩ := hcut
      replace Go := Lib.hid hg
      have HR := Lib.hid hr
      replace HB := Lib.hid hb
      clear hg hr hb kx ky ko
      go_wp2
      exact bodyPost_ret (v := .agg #[r, .bool false]) (res_c Tryd.results60 _ _ _ _ _ _ rfl Go.out aggSgn) rfl ⟨_, rfl, HR.out, HB.out⟩
set_option maxRecDepth 100000 in
set_option maxHeartbeats 2000000 in
theorem sub15_lt (a : Option Addr) (L cap : Nat) (b : Option Addr) (K cap2 : Nat) (x T : Nat) (na : Bool) (w : World) (hx : x + T < BIG) (hT0 : 0 < T)
    (h1 : IsBig w (.slice a L cap) x) (h2 : IsBig w (.slice b K cap2) (x + T)) :
    Calls Tryd.prog 60 #[.agg #[.slice a L cap, .bool na], .agg #[.slice b K cap2, .bool na]] w fun e w' => ∃ r, e = .returned (.agg #[r, .bool (!na)]) ∧ IsBig w' r T ∧ Below w.heap.size w w' := by
  have S1 := Lib.hid (fun v v2 w' h h' => sub_any v v2 x T w' hx h h')
  have S2 := Lib.hid (fun v v2 w' h h' => cmp_any v v2 x (x + T) w' (by omega) hx h h')
  have hc0 : ¬ 0 ≤ cmpN x (x + T) := by unfold cmpN; rw [if_pos (by omega)]; omega
  obtain ⟨C, hC⟩ : ∃ C, C = cmpN x (x + T) := ⟨_, rfl⟩
  rw [← hC] at S2 hc0
  obtain ⟨y, hy⟩ : ∃ y, y = x + T := ⟨_, rfl⟩
  rw [← hy] at S1 S2 h2
  have Ra := Lib.hid h1; have Rb := Lib.hid h2
  clear hx h1 h2 hy hC hT0
  cases na
  · skip
    go_enter Tryd.func60, Tryd.ntmps60
    have HB := Lib.hid (Below.refl w.heap.size w)
    replace Ra := Lib.hid (Ra.out.below (below_al (Below.refl (w).heap.size (w)) (.cells #[.slice a L cap, .bool false] 52)))
    replace Rb := Lib.hid (Rb.out.below (below_al (Below.refl (w).heap.size (w)) (.cells #[.slice a L cap, .bool false] 52)))
    have Gx := Lib.hid (alloc_new (w) (.cells #[.slice a L cap, .bool false] 52))
    replace HB := Lib.hid (below_al HB.out (.cells #[.slice a L cap, .bool false] 52))
    replace Ra := Lib.hid (Ra.out.below (below_al (Below.refl ((w).alloc (.cells #[.slice a L cap, .bool false] 52)).heap.size ((w).alloc (.cells #[.slice a L cap, .bool false] 52))) (.cells #[.slice b K cap2, .bool false] 52)))
    replace Rb := Lib.hid (Rb.out.below (below_al (Below.refl ((w).alloc (.cells #[.slice a L cap, .bool false] 52)).heap.size ((w).alloc (.cells #[.slice a L cap, .bool false] 52))) (.cells #[.slice b K cap2, .bool false] 52)))
    replace Gx := Lib.hid (keepAl (o' := .cells #[.slice b K cap2, .bool false] 52) Gx.out)
    have Gy := Lib.hid (alloc_new' (w := (w).alloc (.cells #[.slice a L cap, .bool false] 52)) (n := w.heap.size + 1) (.cells #[.slice b K cap2, .bool false] 52) (by simp))
    replace HB := Lib.hid (below_al HB.out (.cells #[.slice b K cap2, .bool false] 52))
    replace Ra := Lib.hid (Ra.out.below (below_al (Below.refl (((w).alloc (.cells #[.slice a L cap, .bool false] 52)).alloc (.cells #[.slice b K cap2, .bool false] 52)).heap.size (((w).alloc (.cells #[.slice a L cap, .bool false] 52)).alloc (.cells #[.slice b K cap2, .bool false] 52))) (.cells #[.slice none 0 0, .bool false] 52)))
    replace Rb := Lib.hid (Rb.out.below (below_al (Below.refl (((w).alloc (.cells #[.slice a L cap, .bool false] 52)).alloc (.cells #[.slice b K cap2, .bool false] 52)).heap.size (((w).alloc (.cells #[.slice a L cap, .bool false] 52)).alloc (.cells #[.slice b K cap2, .bool false] 52))) (.cells #[.slice none 0 0, .bool false] 52)))
    replace Gx := Lib.hid (keepAl (o' := .cells #[.slice none 0 0, .bool false] 52) Gx.out)
    replace Gy := Lib.hid (keepAl (o' := .cells #[.slice none 0 0, .bool false] 52) Gy.out)
    have Go := Lib.hid (alloc_new' (w := ((w).alloc (.cells #[.slice a L cap, .bool false] 52)).alloc (.cells #[.slice b K cap2, .bool false] 52)) (n := w.heap.size + 1 + 1) (.cells #[.slice none 0 0, .bool false] 52) (by simp))
    replace HB := Lib.hid (below_al HB.out (.cells #[.slice none 0 0, .bool false] 52))
    have cGx := cell_row Gx.out
    have cGy := cell_row Gy.out
    have cGo := cell_row Go.out
    go_wp2_with fail
    refine (S2.out _ _ _ Ra.out Rb.out).mono ?_
    rintro e w4 ⟨rfl, hb⟩
    clear cGx cGy cGo
    replace HB := Lib.hid (below_then HB.out hb)
    replace Ra := Lib.hid (Ra.out.below hb)
    replace Rb := Lib.hid (Rb.out.below hb)
    replace Gx := Lib.hid ((hb.block _ (lt_of_heap Gx.out)).trans Gx.out)
    replace Gy := Lib.hid ((hb.block _ (lt_of_heap Gy.out)).trans Gy.out)
    replace Go := Lib.hid ((hb.block _ (lt_of_heap Go.out)).trans Go.out)
    clear hb
    have cGx := cell_row Gx.out
    have cGy := cell_row Gy.out
    have cGo := cell_row Go.out
    go_upto_region 5 with fail
    clear cGx cGy cGo
    obtain ⟨wL, hw⟩ : ∃ wx, wx = w4 := ⟨_, rfl⟩
    rw [← hw] at Ra Rb Gx Gy Go HB ⊢
    clear hw
    have kx := cell_row (w := wL.drew) Gx.out
    have ky := cell_row (w := wL.drew) Gy.out
    have ko := cell_row (w := wL.drew) Go.out
    go_cut [] (fun wx => ∃ r, wx.heap[w.heap.size + 1 + 1]? = some (.cells #[r, .bool true] 52 (0, 0)) ∧ IsBig wx r T ∧ Below w.heap.size w wx)
    case first =>
      have RaL := Lib.hid (Ra.out.below (Below.refl _ wL).drew)
      have RbL := Lib.hid (Rb.out.below (Below.refl _ wL).drew)
      have HL := Lib.hid HB.out.drew
      have AO := Lib.hid (show wL.drew.heap[_]? = some _ from Go.out)
      go_region_held3 (fun w' => (∀ j, w'.cell? ⟨w.heap.size, j, none⟩ = (#[.slice a L cap, .bool false] : Array Value)[j]?) ∧ (∀ j, w'.cell? ⟨w.heap.size + 1, j, none⟩ = (#[.slice b K cap2, .bool false] : Array Value)[j]?))
        (first
          | (go_keep; done)
          | (go_split_ands; refine ⟨keepC hb (by rfl) ?_, keepC hb (by rfl) ?_⟩ <;> assumption)
          | (go_split_ands; refine ⟨keepSet (show w.heap.size ≠ w.heap.size + 1 + 1 by omega) (keepSet (show w.heap.size ≠ w.heap.size + 1 + 1 by omega) ?_), keepSet (show w.heap.size + 1 ≠ w.heap.size + 1 + 1 by omega) (keepSet (show w.heap.size + 1 ≠ w.heap.size + 1 + 1 by omega) ?_)⟩ <;> assumption))
        ((first
          | (go_at_call 89
             refine (S1.out _ _ _ RbL.out RaL.out).mono ?_
             rintro e wA ⟨r, rfl, hr, hb⟩
             have HL := Lib.hid (below_then HL.out hb)
             have AO := Lib.hid ((hb.block _ (lt_of_heap AO.out)).trans AO.out)
             have RaL := Lib.hid (RaL.out.below hb)
             have RbL := Lib.hid (RbL.out.below hb)
             have ko := cell_row AO.out
             have f0 := free_row AO.out
             obtain ⟨ra, rL, rc, rfl⟩ := hr.slice
             have RR := Lib.hid hr
             clear hr)
          
        ))
      all_goals
        go_wp2
        go_meet
        have hs := HL.out.size
        have hz := lt_of_heap AO.out
        exact ⟨_, set_row (set_row AO.out 0 _) 1 _, (RR.out.apart (noDigits2 AO.out ⟨_, _, _, rfl⟩) (But.set (S := (· = w.heap.size + 1 + 1)) (But.set (S := (· = w.heap.size + 1 + 1)) (But.refl _ _) rfl 0 _) rfl 1 _)), (HL.out.setCell (show _ ≤ w.heap.size + 1 + 1 by omega) _).setCell (show _ ≤ w.heap.size + 1 + 1 by omega) _⟩
    case rest =>
    obtain ⟨r, hg, hr, hb⟩ := hcut
    replace Go := Lib.hid hg
    have HR := Lib.hid hr
    replace HB := Lib.hid hb
    clear hg hr hb kx ky ko
    go_wp2
    exact bodyPost_ret (v := .agg #[r, .bool true]) (res_c Tryd.results60 _ _ _ _ _ _ rfl Go.out aggSgn) rfl ⟨_, rfl, HR.out, HB.out⟩
  · skip
    go_enter Tryd.func60, Tryd.ntmps60
    have HB := Lib.hid (Below.refl w.heap.size w)
    replace Ra := Lib.hid (Ra.out.below (below_al (Below.refl (w).heap.size (w)) (.cells #[.slice a L cap, .bool true] 52)))
    replace Rb := Lib.hid (Rb.out.below (below_al (Below.refl (w).heap.size (w)) (.cells #[.slice a L cap, .bool true] 52)))
    have Gx := Lib.hid (alloc_new (w) (.cells #[.slice a L cap, .bool true] 52))
    replace HB := Lib.hid (below_al HB.out (.cells #[.slice a L cap, .bool true] 52))
    replace Ra := Lib.hid (Ra.out.below (below_al (Below.refl ((w).alloc (.cells #[.slice a L cap, .bool true] 52)).heap.size ((w).alloc (.cells #[.slice a L cap, .bool true] 52))) (.cells #[.slice b K cap2, .bool true] 52)))
    replace Rb := Lib.hid (Rb.out.below (below_al (Below.refl ((w).alloc (.cells #[.slice a L cap, .bool true] 52)).heap.size ((w).alloc (.cells #[.slice a L cap, .bool true] 52))) (.cells #[.slice b K cap2, .bool true] 52)))
    replace Gx := Lib.hid (keepAl (o' := .cells #[.slice b K cap2, .bool true] 52) Gx.out)
    have Gy := Lib.hid (alloc_new' (w := (w).alloc (.cells #[.slice a L cap, .bool true] 52)) (n := w.heap.size + 1) (.cells #[.slice b K cap2, .bool true] 52) (by simp))
    replace HB := Lib.hid (below_al HB.out (.cells #[.slice b K cap2, .bool true] 52))
    replace Ra := Lib.hid (Ra.out.below (below_al (Below.refl (((w).alloc (.cells #[.slice a L cap, .bool true] 52)).alloc (.cells #[.slice b K cap2, .bool true] 52)).heap.size (((w).alloc (.cells #[.slice a L cap, .bool true] 52)).alloc (.cells #[.slice b K cap2, .bool true] 52))) (.cells #[.slice none 0 0, .bool false] 52)))
    replace Rb := Lib.hid (Rb.out.below (below_al (Below.refl (((w).alloc (.cells #[.slice a L cap, .bool true] 52)).alloc (.cells #[.slice b K cap2, .bool true] 52)).heap.size (((w).alloc (.cells #[.slice a L cap, .bool true] 52)).alloc (.cells #[.slice b K cap2, .bool true] 52))) (.cells #[.slice none 0 0, .bool false] 52)))
    replace Gx := Lib.hid (keepAl (o' := .cells #[.slice none 0 0, .bool false] 52) Gx.out)
    replace Gy := Lib.hid (keepAl (o' := .cells #[.slice none 0 0, .bool false] 52) Gy.out)
    have Go := Lib.hid (alloc_new' (w := ((w).alloc (.cells #[.slice a L cap, .bool true] 52)).alloc (.cells #[.slice b K cap2, .bool true] 52)) (n := w.heap.size + 1 + 1) (.cells #[.slice none 0 0, .bool false] 52) (by simp))
    replace HB := Lib.hid (below_al HB.out (.cells #[.slice none 0 0, .bool false] 52))
    have cGx := cell_row Gx.out
    have cGy := cell_row Gy.out
    have cGo := cell_row Go.out
    go_wp2_with fail
    refine (S2.out _ _ _ Ra.out Rb.out).mono ?_
    rintro e w5 ⟨rfl, hb⟩
    clear cGx cGy cGo
    replace HB := Lib.hid (below_then HB.out hb)
    replace Ra := Lib.hid (Ra.out.below hb)
    replace Rb := Lib.hid (Rb.out.below hb)
    replace Gx := Lib.hid ((hb.block _ (lt_of_heap Gx.out)).trans Gx.out)
    replace Gy := Lib.hid ((hb.block _ (lt_of_heap Gy.out)).trans Gy.out)
    replace Go := Lib.hid ((hb.block _ (lt_of_heap Go.out)).trans Go.out)
    clear hb
    have cGx := cell_row Gx.out
    have cGy := cell_row Gy.out
    have cGo := cell_row Go.out
    go_upto_region 5 with fail
    clear cGx cGy cGo
    obtain ⟨wL, hw⟩ : ∃ wx, wx = w5 := ⟨_, rfl⟩
    rw [← hw] at Ra Rb Gx Gy Go HB ⊢
    clear hw
    have kx := cell_row (w := wL.drew) Gx.out
    have ky := cell_row (w := wL.drew) Gy.out
    have ko := cell_row (w := wL.drew) Go.out
    go_cut [] (fun wx => ∃ r, wx.heap[w.heap.size + 1 + 1]? = some (.cells #[r, .bool false] 52 (0, 0)) ∧ IsBig wx r T ∧ Below w.heap.size w wx)
    case first =>
      have RaL := Lib.hid (Ra.out.below (Below.refl _ wL).drew)
      have RbL := Lib.hid (Rb.out.below (Below.refl _ wL).drew)
      have HL := Lib.hid HB.out.drew
      have AO := Lib.hid (show wL.drew.heap[_]? = some _ from Go.out)
      go_region_held3 (fun w' => (∀ j, w'.cell? ⟨w.heap.size, j, none⟩ = (#[.slice a L cap, .bool true] : Array Value)[j]?) ∧ (∀ j, w'.cell? ⟨w.heap.size + 1, j, none⟩ = (#[.slice b K cap2, .bool true] : Array Value)[j]?))
        (first
          | (go_keep; done)
          | (go_split_ands; refine ⟨keepC hb (by rfl) ?_, keepC hb (by rfl) ?_⟩ <;> assumption)
          | (go_split_ands; refine ⟨keepSet (show w.heap.size ≠ w.heap.size + 1 + 1 by omega) (keepSet (show w.heap.size ≠ w.heap.size + 1 + 1 by omega) ?_), keepSet (show w.heap.size + 1 ≠ w.heap.size + 1 + 1 by omega) (keepSet (show w.heap.size + 1 ≠ w.heap.size + 1 + 1 by omega) ?_)⟩ <;> assumption))
        ((first
          | (go_at_call 89
             refine (S1.out _ _ _ RbL.out RaL.out).mono ?_
             rintro e wA ⟨r, rfl, hr, hb⟩
             have HL := Lib.hid (below_then HL.out hb)
             have AO := Lib.hid ((hb.block _ (lt_of_heap AO.out)).trans AO.out)
             have RaL := Lib.hid (RaL.out.below hb)
             have RbL := Lib.hid (RbL.out.below hb)
             have ko := cell_row AO.out
             have f0 := free_row AO.out
             obtain ⟨ra, rL, rc, rfl⟩ := hr.slice
             have RR := Lib.hid hr
             clear hr)
          
        ))
      all_goals
        go_wp2
        go_meet
        have hs := HL.out.size
        have hz := lt_of_heap AO.out
        exact ⟨_, set_row (set_row AO.out 0 _) 1 _, (RR.out.apart (noDigits2 AO.out ⟨_, _, _, rfl⟩) (But.set (S := (· = w.heap.size + 1 + 1)) (But.set (S := (· = w.heap.size + 1 + 1)) (But.refl _ _) rfl 0 _) rfl 1 _)), (HL.out.setCell (show _ ≤ w.heap.size + 1 + 1 by omega) _).setCell (show _ ≤ w.heap.size + 1 + 1 by omega) _⟩
    case rest =>
    obtain ⟨r, hg, hr, hb⟩ := hcut
    replace Go := Lib.hid hg
    have HR := Lib.hid hr
    replace HB := Lib.hid hb
    clear hg hr hb kx ky ko
    go_wp2
    exact bodyPost_ret (v := .agg #[r, .bool false]) (res_c Tryd.results60 _ _ _ _ _ _ rfl Go.out aggSgn) rfl ⟨_, rfl, HR.out, HB.out⟩
/-- The difference of two numbers with a sign. -/
theorem sub15_any (va vb : Value) (x y : Int) (w : World) (hx : x.natAbs < P2 800) (hy : y.natAbs < P2 800) (h1 : IsSgn w va x) (h2 : IsSgn w vb y) :
    Calls Tryd.prog 60 #[va, vb] w fun e w' => ∃ r, e = .returned r ∧ IsSgn w' r (x - y) ∧ Below w.heap.size w w' := by
  obtain ⟨a, L, cap, rfl, k1⟩ := h1
  obtain ⟨b, K, cap2, rfl, k2⟩ := h2
  have hxB : x.natAbs < BIG := small_of hx (by omega)
  have hyB : y.natAbs < BIG := small_of hy (by omega)
  by_cases hs : decide (x < 0) = decide (y < 0)
  · rw [← hs]
    by_cases hge : y.natAbs ≤ x.natAbs
    · have hsum : y.natAbs + (x.natAbs - y.natAbs) = x.natAbs := by omega
      refine (sub15_ge a L cap b K cap2 y.natAbs (x.natAbs - y.natAbs) (decide (x < 0)) w (by omega) (by rw [hsum]; exact k1) k2).mono ?_
      rintro e w' ⟨r, rfl, hr, hb⟩
      refine ⟨_, rfl, isSgn_of hr ?_ ?_, hb⟩
      · by_cases h0 : x < 0
        · have : y < 0 := of_decide_eq_true (hs.symm.trans (decide_eq_true h0))
          omega
        · have : ¬ y < 0 := of_decide_eq_false (hs.symm.trans (decide_eq_false h0))
          omega
      · by_cases h0 : x < 0
        · have h3 : y < 0 := of_decide_eq_true (hs.symm.trans (decide_eq_true h0))
          rw [decide_eq_true h0, Bool.true_and]
          exact decide_eq_decide.2 (by omega)
        · have h3 : ¬ y < 0 := of_decide_eq_false (hs.symm.trans (decide_eq_false h0))
          rw [decide_eq_false h0, Bool.false_and]
          exact (decide_eq_false (by omega)).symm
    · have hsum : x.natAbs + (y.natAbs - x.natAbs) = y.natAbs := by omega
      refine (sub15_lt a L cap b K cap2 x.natAbs (y.natAbs - x.natAbs) (decide (x < 0)) w (by omega) (by omega) k1 (by rw [hsum]; exact k2)).mono ?_
      rintro e w' ⟨r, rfl, hr, hb⟩
      refine ⟨_, rfl, isSgn_of hr ?_ ?_, hb⟩
      · by_cases h0 : x < 0
        · have : y < 0 := of_decide_eq_true (hs.symm.trans (decide_eq_true h0))
          omega
        · have : ¬ y < 0 := of_decide_eq_false (hs.symm.trans (decide_eq_false h0))
          omega
      · by_cases h0 : x < 0
        · have h3 : y < 0 := of_decide_eq_true (hs.symm.trans (decide_eq_true h0))
          rw [decide_eq_true h0, decide_eq_false (show ¬ x - y < 0 by omega)]
          rfl
        · have h3 : ¬ y < 0 := of_decide_eq_false (hs.symm.trans (decide_eq_false h0))
          rw [decide_eq_false h0, decide_eq_true (show x - y < 0 by omega)]
          rfl
  · have hs2 : decide (y < 0) = !decide (x < 0) := by
      cases h : decide (x < 0) <;> cases h' : decide (y < 0) <;> simp_all
    rw [hs2]
    refine (sub15_mix a L cap b K cap2 x.natAbs y.natAbs (decide (x < 0)) w hxB hyB k1 k2).mono ?_
    rintro e w' ⟨r, rfl, hr, hb⟩
    refine ⟨_, rfl, isSgn_of hr ?_ ?_, hb⟩
    · by_cases h0 : x < 0
      · have : ¬ y < 0 := of_decide_eq_false (hs2.trans (by rw [decide_eq_true h0]; rfl))
        omega
      · have : y < 0 := of_decide_eq_true (hs2.trans (by rw [decide_eq_false h0]; rfl))
        omega
    · by_cases h0 : x < 0
      · have h3 : ¬ y < 0 := of_decide_eq_false (hs2.trans (by rw [decide_eq_true h0]; rfl))
        exact decide_eq_decide.2 (by omega)
      · have h3 : y < 0 := of_decide_eq_true (hs2.trans (by rw [decide_eq_false h0]; rfl))
        exact decide_eq_decide.2 (by omega)
end Go.Proofs.YtffengboblekpaaDoor

/- THE WALKS of the reference of srt, going on: divided by a power of 2, rounded down. -/
namespace Go.Proofs.YtffengboblekpaaDoor
open Go Go.RowKit

theorem IsBig.nought {w : World} {v : Value} (h : IsBig w v 0) : ∃ a cap, v = .slice a 0 cap := by
  obtain ⟨L, ⟨⟨a, cap, rfl, _, _⟩, _⟩, h2⟩ := h
  rcases Nat.eq_zero_or_pos L with h0 | h0
  · subst h0; exact ⟨a, cap, rfl⟩
  · have := h2 (by omega)
    have := P2_pos (32 * (L - 1))
    omega
theorem IsBig.lone {w : World} {v : Value} {q : Nat} (h : IsBig w v q) (h0 : 0 < q) (h1 : q < P2 32) : ∃ b o cap, v = .slice (some ⟨b, o, none⟩) 1 cap ∧ b < w.heap.size ∧ w.cell? ⟨b, o, none⟩ = some (.int .u32 (q : Int)) := by
  obtain ⟨L, ⟨⟨a, cap, rfl, _, hx⟩, hl⟩, h2⟩ := h
  have hL : L = 1 := by
    rcases (show L = 0 ∨ L = 1 ∨ 2 ≤ L by omega) with h | h | h
    · subst h; rw [Nat.mul_zero, P2_0] at hl; omega
    · exact h
    · have := h2 (by omega)
      have : P2 32 ≤ P2 (32 * (L - 1)) := P2_le (by omega)
      omega
  subst hL
  obtain ⟨b, o, rfl, ⟨cur, fr, ht⟩, hc⟩ := hx (by decide)
  have hb := lt_of_heap ht
  refine ⟨b, o, cap, rfl, hb, ?_⟩
  have := hc 0 (by decide)
  rw [Nat.add_zero] at this
  rw [this]
  unfold dig
  rw [Nat.mul_zero, P2_0, Nat.div_one, Nat.mod_eq_of_lt h1]
/-- A number's row is no list of ints. -/
theorem IsBig.grown {w w' : World} {v u : Value} {n base m : Nat} {xs : List Value} (h : IsBig w v n) (hu : w.ownsRow base 3 1 u m xs) (hg : w.grownBy w' u.ownBlock) : IsBig w' v n := by
  obtain ⟨L, ⟨⟨a, cap, rfl, hc, hx⟩, hl⟩, h2⟩ := h
  refine ⟨L, ⟨⟨a, cap, rfl, hc, fun h0 => ?_⟩, hl⟩, h2⟩
  obtain ⟨b, o, rfl, ⟨cur, fr, ht⟩, hcell⟩ := hx h0
  have hbl := lt_of_heap ht
  have hne : some b ≠ u.ownBlock := fun e => by
    rcases hu.2 with ⟨rfl, _⟩ | ⟨g, cap', cur', rfl, _, hg', _⟩
    · cases e
    · obtain rfl : b = g := Option.some.inj e
      rw [ht] at hg'
      have := congrArg (fun o => match o with | some (Obj.cells _ t _) => t | _ => 0) hg'
      revert this
      show 72 = 3 → False
      decide
  have hbk := hg.block b hbl hne
  refine ⟨b, o, rfl, ⟨cur, fr, hbk.trans ht⟩, fun i hi => ?_⟩
  rw [← hcell i hi]
  unfold World.cell?
  rw [hbk]
/-- Rounding down below 0 is rounding up above it. -/
theorem down_neg {x P q : Nat} (hP : 0 < P) (hq : q = x / P) : (-(x : Int)) / (P : Int) = if q * P = x then -(q : Int) else -((q : Int) + 1) := by
  have h1 := Nat.div_mul_le_self x P
  have h2 := Nat.lt_div_mul_add hP (a := x)
  rw [← hq] at h1 h2
  have c1 : ((q * P : Nat) : Int) = (q : Int) * (P : Int) := Int.natCast_mul _ _
  split
  · rename_i h
    rw [← h, c1, ← Int.neg_mul]
    exact Int.mul_ediv_cancel _ (by omega)
  · rename_i h
    have e : -((q : Int) + 1) ≤ -(x : Int) / (P : Int) := by
      rw [Int.le_ediv_iff_mul_le (by omega), Int.neg_mul, Int.add_mul, Int.one_mul]
      omega
    have e2 : -(x : Int) / (P : Int) < -(q : Int) := by
      apply Int.ediv_lt_of_lt_mul (by omega)
      rw [Int.neg_mul]
      omega
    omega
attribute [local go_sem ↓] Go.wp_at_zero Go.wp_at_succ
set_option maxRecDepth 100000 in
set_option maxHeartbeats 2000000 in
theorem down15_any (v : Value) (z : Int) (n : Nat) (w : World) (hz : z.natAbs < P2 800) (hn : n ≤ 1000) (hq : z.natAbs / P2 n ≤ 2147483647) (h : IsSgn w v z) :
    Calls Tryd.prog 59 #[v, .int .i64 (n : Int)] w fun e w' => e = .returned (.int .i64 (z / ((P2 n : Nat) : Int))) ∧ Below w.heap.size w w' := by
  obtain ⟨a, L, cap, rfl, hb⟩ := h
  obtain ⟨x, hx⟩ : ∃ x, x = z.natAbs := ⟨_, rfl⟩
  rw [← hx] at hz hq hb
  have hP := P2_pos n
  have hxB : x < BIG := small_of hz (by omega)
  have S1 := Lib.hid (fun v w' h => rshr_any v x n w' hxB (by omega) h)
  have hqx : x / P2 n * P2 n ≤ x := Nat.div_mul_le_self _ _
  have S3 := Lib.hid (fun v w' h => rshl_any v (x / P2 n) n w' (by have := Nat.div_le_self x (P2 n); omega) (by omega) h)
  have S4 := Lib.hid (fun v v2 w' h h' => cmp_any v v2 (x / P2 n * P2 n) x w' (by omega) hxB h h')
  have hdn := down_neg (x := x) (P := P2 n) hP rfl
  have hc : (cmpN (x / P2 n * P2 n) x = 0) ↔ x / P2 n * P2 n = x := by unfold cmpN; split <;> (try split) <;> omega
  obtain ⟨Y, hY⟩ : ∃ Y, Y = z / ((P2 n : Nat) : Int) := ⟨_, rfl⟩
  have hYp : ¬ z < 0 → Y = ((x / P2 n : Nat) : Int) := fun h => by rw [hY, show z = (x : Int) by omega, Int.natCast_ediv]
  have hYn : z < 0 → Y = if x / P2 n * P2 n = x then -((x / P2 n : Nat) : Int) else -(((x / P2 n : Nat) : Int) + 1) := fun h => by rw [hY, show z = -(x : Int) by omega, hdn]
  rw [← hY]
  obtain ⟨q, hqe⟩ : ∃ q, q = x / P2 n := ⟨_, rfl⟩
  rw [← hqe] at hq hqx S1 S3 S4 hc hYp hYn
  obtain ⟨T, hT⟩ : ∃ T, T = q * P2 n := ⟨_, rfl⟩
  rw [← hT] at S3 S4 hc hYn
  obtain ⟨C, hC⟩ : ∃ C, C = cmpN T x := ⟨_, rfl⟩
  rw [← hC] at S4 hc
  have hq32 : q < P2 32 := by rw [P2_32]; omega
  have HQ32 := Lib.hid hq32
  have Ra := Lib.hid hb
  have hw1 : IntKind.i64.wrap (q : Int) = (q : Int) := IntWalk.i64_in _ (by omega)
  have hw2 : IntKind.i64.wrap ((q : Int) + 1) = (q : Int) + 1 := IntWalk.i64_in _ (by omega)
  have hw3 : IntKind.i64.wrap (-(q : Int)) = -(q : Int) := IntWalk.i64_in _ (by omega)
  have hw4 : IntKind.i64.wrap (-((q : Int) + 1)) = -((q : Int) + 1) := IntWalk.i64_in _ (by omega)
  obtain ⟨F, hF⟩ : ∃ F, F = decide (z < 0) := ⟨_, rfl⟩
  rw [← hF]
  have HYC : Hid ((F = false → Y = (q : Int)) ∧ (F = true → C = 0 → Y = -(q : Int)) ∧ (F = true → C ≠ 0 → Y = -((q : Int) + 1))) := Lib.hid (by
    refine ⟨fun h => hYp (of_decide_eq_false (hF.symm.trans h)), fun h hc0 => ?_, fun h hc0 => ?_⟩
    · rw [hYn (of_decide_eq_true (hF.symm.trans h)), if_pos (hc.1 hc0)]
    · rw [hYn (of_decide_eq_true (hF.symm.trans h)), if_neg (fun hh => hc0 (hc.2 hh))])
  clear hz hn hq hb hx hP hxB hqx hdn hc hY hYp hYn hqe hT hC hq32 hF
  rcases Nat.eq_zero_or_pos q with h0 | h0
  · subst h0
    cases F
    · have HY := Lib.hid (HYC.out.1 rfl)
      go_enter Tryd.func59, Tryd.ntmps59
      have HB := Lib.hid (Below.refl w.heap.size w)
      replace Ra := Lib.hid (Ra.out.below (below_al (Below.refl (w).heap.size (w)) (.cells #[.slice a L cap, .bool false] 52)))
      have Gx := Lib.hid (alloc_new (w) (.cells #[.slice a L cap, .bool false] 52))
      replace HB := Lib.hid (below_al HB.out (.cells #[.slice a L cap, .bool false] 52))
      have cGx := cell_row Gx.out
      go_wp2_with fail
      refine (S1.out _ _ Ra.out).mono ?_
      rintro e w1 ⟨rq, rfl, hr, hb⟩
      clear cGx
      replace HB := Lib.hid (below_then HB.out hb)
      replace Ra := Lib.hid (Ra.out.below hb)
      replace Gx := Lib.hid ((hb.block _ (lt_of_heap Gx.out)).trans Gx.out)
      have Rq := Lib.hid hr
      clear hr hb
      obtain ⟨qa, qc, rfl⟩ := Rq.out.nought
      have cGx := cell_row Gx.out
      go_wp2
      go_ret
      exact ⟨ret_int (by have := HY.out; omega), HB.out⟩
    · by_cases hC : C = 0
      · have HY := Lib.hid (HYC.out.2.1 rfl hC)
        have hb0 : (C != 0) = false := by simp; exact hC
        clear hC
        go_enter Tryd.func59, Tryd.ntmps59
        have HB := Lib.hid (Below.refl w.heap.size w)
        replace Ra := Lib.hid (Ra.out.below (below_al (Below.refl (w).heap.size (w)) (.cells #[.slice a L cap, .bool true] 52)))
        have Gx := Lib.hid (alloc_new (w) (.cells #[.slice a L cap, .bool true] 52))
        replace HB := Lib.hid (below_al HB.out (.cells #[.slice a L cap, .bool true] 52))
        have cGx := cell_row Gx.out
        go_wp2_with fail
        refine (S1.out _ _ Ra.out).mono ?_
        rintro e w2 ⟨rq, rfl, hr, hb⟩
        clear cGx
        replace HB := Lib.hid (below_then HB.out hb)
        replace Ra := Lib.hid (Ra.out.below hb)
        replace Gx := Lib.hid ((hb.block _ (lt_of_heap Gx.out)).trans Gx.out)
        have Rq := Lib.hid hr
        clear hr hb
        obtain ⟨qa, qc, rfl⟩ := Rq.out.nought
        have cGx := cell_row Gx.out
        go_upto_region 7 with fail
        clear cGx
        have xGx := ext_row (B := w2.heap.size) Gx.out (lt_of_heap Gx.out)
        apply wp_region_loose (looseR [_, _, _, _, _, _, _]) (pureL [])
        · kernel_rfl
        · kernel_rfl
        · kernel_rfl
        · exact allocs_ok [] rfl (by intro T hT; cases hT)
        · exact looseR_st _
        · change wpL _ _ _ _ _ _ _ 7 0 _ _
          refine wpL_calm w2 rfl rfl rfl rfl (fun K hK K0 hK0 => ?_)
          go_simp
          first | refine hK _ _ rfl rfl ?_ | refine hK0 _ rfl ?_
          clear hK hK0 K K0
          refine wpL_calm w2 rfl rfl rfl rfl (fun K hK K0 hK0 => ?_)
          go_simp
          first | refine hK _ _ rfl rfl ?_ | refine hK0 _ rfl ?_
          clear hK hK0 K K0
          refine wpL_call (Lft.big T) (big_some w _) rfl rfl rfl rfl (by first | rfl | go_simp) rfl (fun w' hC hF => ?_) (fun v2 hv2 => ?_)
          · obtain ⟨x, rfl⟩ := hC
            go_simp
            go_at_call 14
            exact gives_loose (S3.out _ _ (ext_bigB Rq.out (Below.refl _ _) x))
          refine wpL_calm w2 rfl rfl rfl rfl (fun K hK K0 hK0 => ?_)
          go_simp
          first | refine hK _ _ rfl rfl ?_ | refine hK0 _ rfl ?_
          clear hK hK0 K K0
          refine wpL_calm w2 rfl rfl rfl rfl (fun K hK K0 hK0 => ?_)
          go_simp
          first | refine hK _ _ rfl rfl ?_ | refine hK0 _ rfl ?_
          clear hK hK0 K K0
          refine wpL_call (Lft.val (.int .i64 C)) (val_some w2 _) rfl rfl rfl rfl (by first | rfl | go_simp) rfl (fun w' hC hF => ?_) (fun v5 hv5 => ?_)
          · obtain ⟨x, rfl⟩ := hC
            go_simp
            go_at_call 15
            exact val_loose (S4.out _ _ _ (hF 2 _ 24 rfl rfl rfl rfl (by decide)) (ext_bigB Ra.out (Below.refl _ _) x))
          obtain ⟨_, rfl⟩ := hv5
          refine wpL_calm w2 rfl rfl rfl rfl (fun K hK K0 hK0 => ?_)
          go_simp
          first | refine hK _ _ rfl rfl ?_ | refine hK0 _ rfl ?_
          clear hK hK0 K K0
          refine wpL_nil (endL [] rfl (by intro q hq; cases hq) (fun w3 hb hst hap hfin => ?_))
          replace HB := Lib.hid (below_then HB.out hb)
          replace Ra := Lib.hid (Ra.out.below hb)
          replace Gx := Lib.hid ((hb.block _ (lt_of_heap Gx.out)).trans Gx.out)
          replace Rq := Lib.hid (Rq.out.below hb)
          clear hb hst hap hfin xGx
          go_wp2
          go_ret
          exact ⟨ret_int (by have := HY.out; omega), HB.out⟩
      · have HY := Lib.hid (HYC.out.2.2 rfl hC)
        have hb0 : (C != 0) = true := by simp; exact hC
        clear hC
        go_enter Tryd.func59, Tryd.ntmps59
        have HB := Lib.hid (Below.refl w.heap.size w)
        replace Ra := Lib.hid (Ra.out.below (below_al (Below.refl (w).heap.size (w)) (.cells #[.slice a L cap, .bool true] 52)))
        have Gx := Lib.hid (alloc_new (w) (.cells #[.slice a L cap, .bool true] 52))
        replace HB := Lib.hid (below_al HB.out (.cells #[.slice a L cap, .bool true] 52))
        have cGx := cell_row Gx.out
        go_wp2_with fail
        refine (S1.out _ _ Ra.out).mono ?_
        rintro e w4 ⟨rq, rfl, hr, hb⟩
        clear cGx
        replace HB := Lib.hid (below_then HB.out hb)
        replace Ra := Lib.hid (Ra.out.below hb)
        replace Gx := Lib.hid ((hb.block _ (lt_of_heap Gx.out)).trans Gx.out)
        have Rq := Lib.hid hr
        clear hr hb
        obtain ⟨qa, qc, rfl⟩ := Rq.out.nought
        have cGx := cell_row Gx.out
        go_upto_region 7 with fail
        clear cGx
        have xGx := ext_row (B := w4.heap.size) Gx.out (lt_of_heap Gx.out)
        apply wp_region_loose (looseR [_, _, _, _, _, _, _]) (pureL [])
        · kernel_rfl
        · kernel_rfl
        · kernel_rfl
        · exact allocs_ok [] rfl (by intro T hT; cases hT)
        · exact looseR_st _
        · change wpL _ _ _ _ _ _ _ 7 0 _ _
          refine wpL_calm w4 rfl rfl rfl rfl (fun K hK K0 hK0 => ?_)
          go_simp
          first | refine hK _ _ rfl rfl ?_ | refine hK0 _ rfl ?_
          clear hK hK0 K K0
          refine wpL_calm w4 rfl rfl rfl rfl (fun K hK K0 hK0 => ?_)
          go_simp
          first | refine hK _ _ rfl rfl ?_ | refine hK0 _ rfl ?_
          clear hK hK0 K K0
          refine wpL_call (Lft.big T) (big_some w _) rfl rfl rfl rfl (by first | rfl | go_simp) rfl (fun w' hC hF => ?_) (fun v2 hv2 => ?_)
          · obtain ⟨x, rfl⟩ := hC
            go_simp
            go_at_call 14
            exact gives_loose (S3.out _ _ (ext_bigB Rq.out (Below.refl _ _) x))
          refine wpL_calm w4 rfl rfl rfl rfl (fun K hK K0 hK0 => ?_)
          go_simp
          first | refine hK _ _ rfl rfl ?_ | refine hK0 _ rfl ?_
          clear hK hK0 K K0
          refine wpL_calm w4 rfl rfl rfl rfl (fun K hK K0 hK0 => ?_)
          go_simp
          first | refine hK _ _ rfl rfl ?_ | refine hK0 _ rfl ?_
          clear hK hK0 K K0
          refine wpL_call (Lft.val (.int .i64 C)) (val_some w4 _) rfl rfl rfl rfl (by first | rfl | go_simp) rfl (fun w' hC hF => ?_) (fun v5 hv5 => ?_)
          · obtain ⟨x, rfl⟩ := hC
            go_simp
            go_at_call 15
            exact val_loose (S4.out _ _ _ (hF 2 _ 24 rfl rfl rfl rfl (by decide)) (ext_bigB Ra.out (Below.refl _ _) x))
          obtain ⟨_, rfl⟩ := hv5
          refine wpL_calm w4 rfl rfl rfl rfl (fun K hK K0 hK0 => ?_)
          go_simp
          first | refine hK _ _ rfl rfl ?_ | refine hK0 _ rfl ?_
          clear hK hK0 K K0
          refine wpL_nil (endL [] rfl (by intro q hq; cases hq) (fun w5 hb hst hap hfin => ?_))
          replace HB := Lib.hid (below_then HB.out hb)
          replace Ra := Lib.hid (Ra.out.below hb)
          replace Gx := Lib.hid ((hb.block _ (lt_of_heap Gx.out)).trans Gx.out)
          replace Rq := Lib.hid (Rq.out.below hb)
          clear hb hst hap hfin xGx
          go_wp2
          go_ret
          exact ⟨ret_int (by have := HY.out; omega), HB.out⟩
  · have H0 := Lib.hid h0
    clear h0
    cases F
    · have HY := Lib.hid (HYC.out.1 rfl)
      go_enter Tryd.func59, Tryd.ntmps59
      have HB := Lib.hid (Below.refl w.heap.size w)
      replace Ra := Lib.hid (Ra.out.below (below_al (Below.refl (w).heap.size (w)) (.cells #[.slice a L cap, .bool false] 52)))
      have Gx := Lib.hid (alloc_new (w) (.cells #[.slice a L cap, .bool false] 52))
      replace HB := Lib.hid (below_al HB.out (.cells #[.slice a L cap, .bool false] 52))
      have cGx := cell_row Gx.out
      go_wp2_with fail
      refine (S1.out _ _ Ra.out).mono ?_
      rintro e w6 ⟨rq, rfl, hr, hb⟩
      clear cGx
      replace HB := Lib.hid (below_then HB.out hb)
      replace Ra := Lib.hid (Ra.out.below hb)
      replace Gx := Lib.hid ((hb.block _ (lt_of_heap Gx.out)).trans Gx.out)
      have Rq := Lib.hid hr
      clear hr hb
      obtain ⟨qb, qo, qc, rfl, qlt, qcell⟩ := Rq.out.lone H0.out HQ32.out
      have cGx := cell_row Gx.out
      go_wp2
      go_ret
      exact ⟨ret_int HY.out.symm, HB.out⟩
    · by_cases hC : C = 0
      · have HY := Lib.hid (HYC.out.2.1 rfl hC)
        have hb0 : (C != 0) = false := by simp; exact hC
        clear hC
        go_enter Tryd.func59, Tryd.ntmps59
        have HB := Lib.hid (Below.refl w.heap.size w)
        replace Ra := Lib.hid (Ra.out.below (below_al (Below.refl (w).heap.size (w)) (.cells #[.slice a L cap, .bool true] 52)))
        have Gx := Lib.hid (alloc_new (w) (.cells #[.slice a L cap, .bool true] 52))
        replace HB := Lib.hid (below_al HB.out (.cells #[.slice a L cap, .bool true] 52))
        have cGx := cell_row Gx.out
        go_wp2_with fail
        refine (S1.out _ _ Ra.out).mono ?_
        rintro e w7 ⟨rq, rfl, hr, hb⟩
        clear cGx
        replace HB := Lib.hid (below_then HB.out hb)
        replace Ra := Lib.hid (Ra.out.below hb)
        replace Gx := Lib.hid ((hb.block _ (lt_of_heap Gx.out)).trans Gx.out)
        have Rq := Lib.hid hr
        clear hr hb
        obtain ⟨qb, qo, qc, rfl, qlt, qcell⟩ := Rq.out.lone H0.out HQ32.out
        have cGx := cell_row Gx.out
        go_upto_region 7 with fail
        clear cGx
        have xGx := ext_row (B := w7.heap.size) Gx.out (lt_of_heap Gx.out)
        apply wp_region_loose (looseR [_, _, _, _, _, _, _]) (pureL [])
        · kernel_rfl
        · kernel_rfl
        · kernel_rfl
        · exact allocs_ok [] rfl (by intro T hT; cases hT)
        · exact looseR_st _
        · change wpL _ _ _ _ _ _ _ 7 0 _ _
          refine wpL_calm w7 rfl rfl rfl rfl (fun K hK K0 hK0 => ?_)
          go_simp
          first | refine hK _ _ rfl rfl ?_ | refine hK0 _ rfl ?_
          clear hK hK0 K K0
          refine wpL_calm w7 rfl rfl rfl rfl (fun K hK K0 hK0 => ?_)
          go_simp
          first | refine hK _ _ rfl rfl ?_ | refine hK0 _ rfl ?_
          clear hK hK0 K K0
          refine wpL_call (Lft.big T) (big_some w _) rfl rfl rfl rfl (by first | rfl | go_simp) rfl (fun w' hC hF => ?_) (fun v2 hv2 => ?_)
          · obtain ⟨x, rfl⟩ := hC
            go_simp
            go_at_call 14
            exact gives_loose (S3.out _ _ (ext_bigB Rq.out (Below.refl _ _) x))
          refine wpL_calm w7 rfl rfl rfl rfl (fun K hK K0 hK0 => ?_)
          go_simp
          first | refine hK _ _ rfl rfl ?_ | refine hK0 _ rfl ?_
          clear hK hK0 K K0
          refine wpL_calm w7 rfl rfl rfl rfl (fun K hK K0 hK0 => ?_)
          go_simp
          first | refine hK _ _ rfl rfl ?_ | refine hK0 _ rfl ?_
          clear hK hK0 K K0
          refine wpL_call (Lft.val (.int .i64 C)) (val_some w7 _) rfl rfl rfl rfl (by first | rfl | go_simp) rfl (fun w' hC hF => ?_) (fun v5 hv5 => ?_)
          · obtain ⟨x, rfl⟩ := hC
            go_simp
            go_at_call 15
            exact val_loose (S4.out _ _ _ (hF 2 _ 24 rfl rfl rfl rfl (by decide)) (ext_bigB Ra.out (Below.refl _ _) x))
          obtain ⟨_, rfl⟩ := hv5
          refine wpL_calm w7 rfl rfl rfl rfl (fun K hK K0 hK0 => ?_)
          go_simp
          first | refine hK _ _ rfl rfl ?_ | refine hK0 _ rfl ?_
          clear hK hK0 K K0
          refine wpL_nil (endL [] rfl (by intro q hq; cases hq) (fun w8 hb hst hap hfin => ?_))
          replace HB := Lib.hid (below_then HB.out hb)
          replace Ra := Lib.hid (Ra.out.below hb)
          replace Gx := Lib.hid ((hb.block _ (lt_of_heap Gx.out)).trans Gx.out)
          replace Rq := Lib.hid (Rq.out.below hb)
          clear hb hst hap hfin xGx
          go_wp2
          go_ret
          exact ⟨ret_int HY.out.symm, HB.out⟩
      · have HY := Lib.hid (HYC.out.2.2 rfl hC)
        have hb0 : (C != 0) = true := by simp; exact hC
        clear hC
        go_enter Tryd.func59, Tryd.ntmps59
        have HB := Lib.hid (Below.refl w.heap.size w)
        replace Ra := Lib.hid (Ra.out.below (below_al (Below.refl (w).heap.size (w)) (.cells #[.slice a L cap, .bool true] 52)))
        have Gx := Lib.hid (alloc_new (w) (.cells #[.slice a L cap, .bool true] 52))
        replace HB := Lib.hid (below_al HB.out (.cells #[.slice a L cap, .bool true] 52))
        have cGx := cell_row Gx.out
        go_wp2_with fail
        refine (S1.out _ _ Ra.out).mono ?_
        rintro e w9 ⟨rq, rfl, hr, hb⟩
        clear cGx
        replace HB := Lib.hid (below_then HB.out hb)
        replace Ra := Lib.hid (Ra.out.below hb)
        replace Gx := Lib.hid ((hb.block _ (lt_of_heap Gx.out)).trans Gx.out)
        have Rq := Lib.hid hr
        clear hr hb
        obtain ⟨qb, qo, qc, rfl, qlt, qcell⟩ := Rq.out.lone H0.out HQ32.out
        have cGx := cell_row Gx.out
        go_upto_region 7 with fail
        clear cGx
        have xGx := ext_row (B := w9.heap.size) Gx.out (lt_of_heap Gx.out)
        apply wp_region_loose (looseR [_, _, _, _, _, _, _]) (pureL [])
        · kernel_rfl
        · kernel_rfl
        · kernel_rfl
        · exact allocs_ok [] rfl (by intro T hT; cases hT)
        · exact looseR_st _
        · change wpL _ _ _ _ _ _ _ 7 0 _ _
          refine wpL_calm w9 rfl rfl rfl rfl (fun K hK K0 hK0 => ?_)
          go_simp
          first | refine hK _ _ rfl rfl ?_ | refine hK0 _ rfl ?_
          clear hK hK0 K K0
          refine wpL_calm w9 rfl rfl rfl rfl (fun K hK K0 hK0 => ?_)
          go_simp
          first | refine hK _ _ rfl rfl ?_ | refine hK0 _ rfl ?_
          clear hK hK0 K K0
          refine wpL_call (Lft.big T) (big_some w _) rfl rfl rfl rfl (by first | rfl | go_simp) rfl (fun w' hC hF => ?_) (fun v2 hv2 => ?_)
          · obtain ⟨x, rfl⟩ := hC
            go_simp
            go_at_call 14
            exact gives_loose (S3.out _ _ (ext_bigB Rq.out (Below.refl _ _) x))
          refine wpL_calm w9 rfl rfl rfl rfl (fun K hK K0 hK0 => ?_)
          go_simp
          first | refine hK _ _ rfl rfl ?_ | refine hK0 _ rfl ?_
          clear hK hK0 K K0
          refine wpL_calm w9 rfl rfl rfl rfl (fun K hK K0 hK0 => ?_)
          go_simp
          first | refine hK _ _ rfl rfl ?_ | refine hK0 _ rfl ?_
          clear hK hK0 K K0
          refine wpL_call (Lft.val (.int .i64 C)) (val_some w9 _) rfl rfl rfl rfl (by first | rfl | go_simp) rfl (fun w' hC hF => ?_) (fun v5 hv5 => ?_)
          · obtain ⟨x, rfl⟩ := hC
            go_simp
            go_at_call 15
            exact val_loose (S4.out _ _ _ (hF 2 _ 24 rfl rfl rfl rfl (by decide)) (ext_bigB Ra.out (Below.refl _ _) x))
          obtain ⟨_, rfl⟩ := hv5
          refine wpL_calm w9 rfl rfl rfl rfl (fun K hK K0 hK0 => ?_)
          go_simp
          first | refine hK _ _ rfl rfl ?_ | refine hK0 _ rfl ?_
          clear hK hK0 K K0
          refine wpL_nil (endL [] rfl (by intro q hq; cases hq) (fun w10 hb hst hap hfin => ?_))
          replace HB := Lib.hid (below_then HB.out hb)
          replace Ra := Lib.hid (Ra.out.below hb)
          replace Gx := Lib.hid ((hb.block _ (lt_of_heap Gx.out)).trans Gx.out)
          replace Rq := Lib.hid (Rq.out.below hb)
          clear hb hst hap hfin xGx
          go_wp2
          go_ret
          exact ⟨ret_int HY.out.symm, HB.out⟩
end Go.Proofs.YtffengboblekpaaDoor
