/- sync.Once in one goroutine, with any function: the two calls that doSlow defers, the lock, doSlow, Do; an atomic number. -/
import Derived.Test.YtegmmaaapdgocaaGreatRows
import Derived.Test.YtegmmaaapdgocaaGreatK1
import Derived.Tactics
import Derived.Tactics2
import Derived.Defers
import Derived.Laws.Pointers
import Derived.Laws.LoneSync
import Derived.RegionTactic
import Derived.RegionCalls
import Derived.ChangeAlike
namespace Go.Proofs.YtegmmaaapdgocaaGreat
open Go Go.RowKit

theorem raceOff (w : World) : (callFunc 169 #[]).run Tryz.prog w = .ok (.value (.tuple #[])) w := run_call_mark0 Tryz.func169 (by kernel_rfl) (by kernel_rfl) (by kernel_rfl) .disable (by kernel_rfl) w
theorem raceOn (w : World) : (callFunc 171 #[]).run Tryz.prog w = .ok (.value (.tuple #[])) w := run_call_mark0 Tryz.func171 (by kernel_rfl) (by kernel_rfl) (by kernel_rfl) .enable (by kernel_rfl) w
theorem raceAcq (a : Addr) (w : World) : (callFunc 172 #[.pointer (some a)]).run Tryz.prog w = .ok (.value (.tuple #[])) w := run_call_marked Tryz.func172 (by kernel_rfl) (by kernel_rfl) (by kernel_rfl) .acquire (by kernel_rfl) a w
theorem raceRel (a : Addr) (w : World) : (callFunc 174 #[.pointer (some a)]).run Tryz.prog w = .ok (.value (.tuple #[])) w := run_call_marked Tryz.func174 (by kernel_rfl) (by kernel_rfl) (by kernel_rfl) .releaseMerge (by kernel_rfl) a w

theorem onceStore_deferred (a : Addr) (x : Value) (u : FrameMode) (w : World) (hc : w.cell? a = some x) (hz : w.frozen? a = false) :
    CallsD Tryz.prog 164 #[.pointer (some a), .bool true] u w fun e u' w' => u' = u ∧ (e = .returned (.tuple #[]) ∧ w' = w.drew.setCell a (.int .u32 1)) := by
  have hc' : w.drew.cell? a = some x := by go_simp
  have hz' : w.drew.frozen? a = false := by go_simp
  have hst := run_call_store (P := Tryz.prog) Tryz.func167 (by kernel_rfl) (by kernel_rfl) (by kernel_rfl) (by kernel_rfl) (k := .u32) (y := 1) hc' hz'
  go_enter_d Tryz.func164, Tryz.ntmps164
  go_wp2
  go_region_calls
  all_goals (go_end0; exact ⟨rfl, rfl⟩)
set_option maxRecDepth 100000 in
theorem onceUnlock_deferred (a : Addr) (u : FrameMode) (w : World) (hc : w.cell? a = some (.int .i32 1)) (hz : w.frozen? a = false) :
    CallsD Tryz.prog 163 #[.pointer (some a)] u w fun e u' w' => u' = u ∧ (e = .returned (.tuple #[]) ∧ w' = w.setCell a (.int .i32 0)) := by
  have hd := raceOff
  have he := raceOn
  have hr := raceRel
  have hadd := run_call_add (P := Tryz.prog) Tryz.func175 (by kernel_rfl) (by kernel_rfl) (by kernel_rfl) .i32 (by kernel_rfl) (y := -1) (s := 0) hc hz (by simp [go_sem]; rfl)
  have hcv := run_convert_to_unsafe (P := Tryz.prog) (src := 189) (dst := 193) Tryz.underlying189 Tryz.underlying193 (by kernel_rfl) hc
  go_enter_d Tryz.func163, Tryz.ntmps163
  go_wp2
  go_end0
  go_wp2
  go_end0
  exact ⟨rfl, rfl⟩
set_option maxRecDepth 100000 in
theorem onceLock_free (a : Addr) (w : World) (hc : w.cell? a = some (.int .i32 0)) (hz : w.frozen? a = false) :
    Calls Tryz.prog 162 #[.pointer (some a)] w fun e w' => e = .returned (.tuple #[]) ∧ w' = w.setCell a (.int .i32 1) := by
  have hd := raceOff
  have he := raceOn
  have ha := raceAcq
  have hcas := run_call_cas_hit (P := Tryz.prog) Tryz.func170 (by kernel_rfl) (by kernel_rfl) (by kernel_rfl) .i32 (by kernel_rfl) (y := 1) hc hz
  have hc' : (w.setCell a (.int .i32 1)).cell? a = some (.int .i32 1) := World.cell?_setCell_same w a _ hc
  have hcv := run_convert_to_unsafe (P := Tryz.prog) (src := 189) (dst := 193) Tryz.underlying189 Tryz.underlying193 (by kernel_rfl) hc'
  go_enter Tryz.func162, Tryz.ntmps162
  go_wp2
  first | go_end0 | (simp only [Exit.inBlock, Exit.then]; refine bodyPost_ret (results_none rfl _ _ _) rfl ?_) | refine bodyPost_ret (results_none rfl _ _ _) rfl ?_
  go_wp2
  go_end0
  exact ⟨rfl, rfl⟩

theorem boolLoad_any (a : Addr) (d : Int) (w : World) (h : w.cell? a = some (.int .u32 d)) :
    Calls Tryz.prog 158 #[.pointer (some a)] w fun e w' => e = .returned (.bool (d != 0)) ∧ w' = w := by
  have hl := run_call_load (P := Tryz.prog) Tryz.func161 (by kernel_rfl) (by kernel_rfl) (by kernel_rfl) .u32 (by kernel_rfl) h
  go_enter Tryz.func158, Tryz.ntmps158
  go_wp2
  go_ret
  exact ⟨rfl, rfl⟩
set_option maxRecDepth 100000 in
set_option maxHeartbeats 1600000 in
/-- doSlow, not yet done and the lock free. -/
theorem onceSlow_any (b : Nat) (f : FuncId) (caps : Array Value) (w : World) (R : World → Prop) (hcall : Enters Tryz.prog f) (h0 : w.cell? ⟨b, 0, none⟩ = some (.int .u32 0)) (h1 : w.cell? ⟨b, 1, none⟩ = some (.int .i32 0)) (f1 : w.frozen? ⟨b, 1, none⟩ = false)
    (hf : Calls Tryz.prog f caps (w.setCell ⟨b, 1, none⟩ (.int .i32 1)) fun e w' => e = .returned (.tuple #[]) ∧ R w')
    (hR : ∀ w', R w' → w'.cell? ⟨b, 0, none⟩ = some (.int .u32 0) ∧ w'.frozen? ⟨b, 0, none⟩ = false ∧ w'.cell? ⟨b, 1, none⟩ = some (.int .i32 1) ∧ w'.frozen? ⟨b, 1, none⟩ = false) :
    Calls Tryz.prog 159 #[.pointer (some ⟨b, 0, none⟩), .func (.func f) #[] caps] w fun e w' => e = .returned (.tuple #[]) ∧ ∃ W2, R W2 ∧ w' = (W2.drew.setCell ⟨b, 0, none⟩ (.int .u32 1)).setCell ⟨b, 1, none⟩ (.int .i32 0) := by
  unfold Enters at hcall
  have hl0 : (w.setCell ⟨b, 1, none⟩ (.int .i32 1)).cell? ⟨b, 0, none⟩ = some (.int .u32 0) := (World.cell?_setCell_other _ ⟨b, 1, none⟩ ⟨b, 0, none⟩ _ (by simp)).trans h0
  have HL0 := Lib.hid hl0
  have hnot : ∀ (x : Bool) (w : World), (Op.unary .not (.bool x)).run Tryz.prog w = .ok (.bool (!x)) w := fun _ _ => rfl
  have HF := Lib.hid hf; have HR := Lib.hid hR
  clear hf hR hl0
  go_enter_defers Tryz.func159, Tryz.ntmps159
  go_wp2_with (go_at_call 162; refine (onceLock_free ⟨b, 1, none⟩ _ (by go_simp) (by go_simp)).mono ?_; rintro e w' ⟨rfl, rfl⟩)
  refine (boolLoad_any ⟨b, 0, none⟩ 0 _ HL0.out).mono ?_
  rintro e w' ⟨rfl, rfl⟩
  go_wp2_with fail
  refine HF.out.mono ?_
  rintro e W2 ⟨rfl, hr⟩
  obtain ⟨r0, r1, r2, r3⟩ := HR.out W2 hr
  have HRR := Lib.hid hr
  clear hr
  go_wp2
  refine leaves_cons (f := 164) (args := #[.pointer (some ⟨b, 0, none⟩), .bool true]) (by simp) (by simp [go_sem]) ?_
  refine (onceStore_deferred ⟨b, 0, none⟩ (.int .u32 0) .returning _ r0 r1).mono ?_
  rintro e u' w'' ⟨rfl, rfl, rfl⟩
  refine leaves_cons (f := 163) (args := #[.pointer (some ⟨b, 1, none⟩)]) (by simp [settle]) (by simp [go_sem]) ?_
  refine (onceUnlock_deferred ⟨b, 1, none⟩ _ _ ?_ (by simp [r3])).mono ?_
  · refine (World.cell?_setCell_other _ ⟨b, 0, none⟩ ⟨b, 1, none⟩ _ (by simp)).trans ?_
    rw [World.cell?_drew]
    exact r2
  rintro e u' w'' ⟨rfl, rfl, rfl⟩
  simp only [Leaves, settle]
  exact ⟨.tuple #[], by simp [results, Tryz.results159], rfl, W2, HRR.out, rfl⟩

set_option maxRecDepth 100000 in
/-- Once.Do, not yet done. -/
theorem onceDo_first (b : Nat) (f : FuncId) (caps : Array Value) (w : World) (R : World → Prop) (hcall : Enters Tryz.prog f) (h0 : w.cell? ⟨b, 0, none⟩ = some (.int .u32 0)) (h1 : w.cell? ⟨b, 1, none⟩ = some (.int .i32 0)) (f1 : w.frozen? ⟨b, 1, none⟩ = false)
    (hf : Calls Tryz.prog f caps (w.setCell ⟨b, 1, none⟩ (.int .i32 1)) fun e w' => e = .returned (.tuple #[]) ∧ R w')
    (hR : ∀ w', R w' → w'.cell? ⟨b, 0, none⟩ = some (.int .u32 0) ∧ w'.frozen? ⟨b, 0, none⟩ = false ∧ w'.cell? ⟨b, 1, none⟩ = some (.int .i32 1) ∧ w'.frozen? ⟨b, 1, none⟩ = false) :
    Calls Tryz.prog 151 #[.pointer (some ⟨b, 0, none⟩), .func (.func f) #[] caps] w fun e w' => e = .returned (.tuple #[]) ∧ ∃ W2, R W2 ∧ w' = (W2.drew.setCell ⟨b, 0, none⟩ (.int .u32 1)).setCell ⟨b, 1, none⟩ (.int .i32 0) := by
  have S1 := Lib.hid (boolLoad_any ⟨b, 0, none⟩ 0 w h0)
  have S2 := Lib.hid (onceSlow_any b f caps w R hcall h0 h1 f1 hf hR)
  have hnot : ∀ (x : Bool) (w : World), (Op.unary .not (.bool x)).run Tryz.prog w = .ok (.bool (!x)) w := fun _ _ => rfl
  clear h0 h1 f1 hf hR hcall
  go_enter Tryz.func151, Tryz.ntmps151
  go_wp2_with fail
  refine S1.out.mono ?_
  rintro e w1 ⟨rfl, rfl⟩
  go_wp2_with fail
  refine S2.out.mono ?_
  rintro e w2 ⟨rfl, h⟩
  have H := Lib.hid h
  clear h
  go_wp2
  go_end0
  exact ⟨rfl, H.out⟩
theorem onceDo_done (b : Nat) (d : Int) (fv : Value) (w : World) (hd : (d != 0) = true) (h0 : w.cell? ⟨b, 0, none⟩ = some (.int .u32 d)) :
    Calls Tryz.prog 151 #[.pointer (some ⟨b, 0, none⟩), fv] w fun e w' => e = .returned (.tuple #[]) ∧ w' = w := by
  have S1 := Lib.hid (boolLoad_any ⟨b, 0, none⟩ d w h0)
  rw [hd] at S1
  have hnot : ∀ (x : Bool) (w : World), (Op.unary .not (.bool x)).run Tryz.prog w = .ok (.bool (!x)) w := fun _ _ => rfl
  clear h0 hd
  go_enter Tryz.func151, Tryz.ntmps151
  go_wp2_with fail
  refine S1.out.mono ?_
  rintro e w1 ⟨rfl, rfl⟩
  go_wp2
  go_end0
  exact ⟨rfl, rfl⟩
theorem int64Add_any (a : Addr) (y : Int) (s : Int) (x : Int) (w : World) (hc : w.cell? a = some (.int .i64 y)) (hz : w.frozen? a = false) (hs : IntKind.i64.wrap (y + x) = s) :
    Calls Tryz.prog 157 #[.pointer (some a), .int .i64 x] w fun e w' => e = .returned (.int .i64 s) ∧ w' = w.setCell a (.int .i64 s) := by
  have hadd := run_call_add (P := Tryz.prog) Tryz.func160 (by kernel_rfl) (by kernel_rfl) (by kernel_rfl) .i64 (by kernel_rfl) (y := x) (s := s) hc hz (by simp [go_sem, hs])
  clear hs
  go_enter Tryz.func157, Tryz.ntmps157
  go_wp2
  go_ret
  exact ⟨rfl, rfl⟩
end Go.Proofs.YtegmmaaapdgocaaGreat
