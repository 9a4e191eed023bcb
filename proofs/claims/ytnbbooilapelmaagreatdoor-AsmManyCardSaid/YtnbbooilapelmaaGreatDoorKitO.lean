/-
  sync.Once, one goroutine: 'Do' of one that is not done and whose lock is free, for a function whose contract is handed in. (After the kit's worked example of sync.Once; the numbers are this seat's.)
-/
import Derived.Test.YtnbbooilapelmaaGreatDoorRows
import Derived.Tactics
import Derived.Tactics2
import Derived.Defers
import Derived.Laws.Pointers
import Derived.Laws.LoneSync
import Derived.RegionTactic
import Derived.RegionCalls
import Derived.ChangeAlike
import Derived.Test.YtnbbooilapelmaaGreatDoorKitC
namespace Go.Proofs.YtnbbooilapelmaaGreatDoor
open Go.RowKit

theorem disable (w : World) : (callFunc 110 #[]).run Tryz.prog w = .ok (.value (.tuple #[])) w := run_call_mark0 Tryz.func110 (by kernel_rfl) (by kernel_rfl) (by kernel_rfl) .disable (by kernel_rfl) w
theorem enable (w : World) : (callFunc 112 #[]).run Tryz.prog w = .ok (.value (.tuple #[])) w := run_call_mark0 Tryz.func112 (by kernel_rfl) (by kernel_rfl) (by kernel_rfl) .enable (by kernel_rfl) w
theorem acquire (a : Addr) (w : World) : (callFunc 113 #[.pointer (some a)]).run Tryz.prog w = .ok (.value (.tuple #[])) w := run_call_marked Tryz.func113 (by kernel_rfl) (by kernel_rfl) (by kernel_rfl) .acquire (by kernel_rfl) a w
theorem releaseMerge (a : Addr) (w : World) : (callFunc 115 #[.pointer (some a)]).run Tryz.prog w = .ok (.value (.tuple #[])) w := run_call_marked Tryz.func115 (by kernel_rfl) (by kernel_rfl) (by kernel_rfl) .releaseMerge (by kernel_rfl) a w

theorem store_deferred (a : Addr) (x : Value) (u : FrameMode) (w : World) (hc : w.cell? a = some x) (hz : w.frozen? a = false) :
    CallsD Tryz.prog 79 #[.pointer (some a), .bool true] u w fun e u' w' => u' = u ∧ (e = .returned (.tuple #[]) ∧ w' = w.drew.setCell a (.int .u32 1)) := by
  have hc' : w.drew.cell? a = some x := by go_simp
  have hz' : w.drew.frozen? a = false := by go_simp
  have hst := run_call_store (P := Tryz.prog) Tryz.func98 (by kernel_rfl) (by kernel_rfl) (by kernel_rfl) (by kernel_rfl) (k := .u32) (y := 1) hc' hz'
  go_enter_d Tryz.func79, Tryz.ntmps79
  go_wp2
  go_region_calls
  all_goals (go_end0; exact ⟨rfl, rfl⟩)
set_option maxRecDepth 20000 in
theorem unlock_deferred (a : Addr) (u : FrameMode) (w : World) (hc : w.cell? a = some (.int .i32 1)) (hz : w.frozen? a = false) :
    CallsD Tryz.prog 78 #[.pointer (some a)] u w fun e u' w' => u' = u ∧ (e = .returned (.tuple #[]) ∧ w' = w.setCell a (.int .i32 0)) := by
  have hd := disable
  have he := enable
  have hr := releaseMerge
  have hadd := run_call_add (P := Tryz.prog) Tryz.func116 (by kernel_rfl) (by kernel_rfl) (by kernel_rfl) .i32 (by kernel_rfl) (y := -1) (s := 0) hc hz (by simp [go_sem]; rfl)
  have hcv := run_convert_to_unsafe (P := Tryz.prog) (src := 161) (dst := 141) Tryz.underlying161 Tryz.underlying141 (by kernel_rfl) hc
  go_enter_d Tryz.func78, Tryz.ntmps78
  go_wp2
  go_end0
  go_wp2
  go_end0
  exact ⟨rfl, rfl⟩
set_option maxRecDepth 20000 in
theorem lock_free (a : Addr) (w : World) (hc : w.cell? a = some (.int .i32 0)) (hz : w.frozen? a = false) :
    Calls Tryz.prog 77 #[.pointer (some a)] w fun e w' => e = .returned (.tuple #[]) ∧ w' = w.setCell a (.int .i32 1) := by
  have hd := disable
  have he := enable
  have ha := acquire
  have hcas := run_call_cas_hit (P := Tryz.prog) Tryz.func111 (by kernel_rfl) (by kernel_rfl) (by kernel_rfl) .i32 (by kernel_rfl) (y := 1) hc hz
  have hc' : (w.setCell a (.int .i32 1)).cell? a = some (.int .i32 1) := World.cell?_setCell_same w a _ hc
  have hcv := run_convert_to_unsafe (P := Tryz.prog) (src := 161) (dst := 141) Tryz.underlying161 Tryz.underlying141 (by kernel_rfl) hc'
  go_enter Tryz.func77, Tryz.ntmps77
  go_wp2
  first | go_end0 | (simp only [Exit.inBlock, Exit.then]; refine bodyPost_ret (results_none rfl _ _ _) rfl ?_) | refine bodyPost_ret (results_none rfl _ _ _) rfl ?_
  go_wp2
  go_end0
  exact ⟨rfl, rfl⟩
/-- The block of a Once that was not done: what stands in it behind 'Do'. -/
def OnceDone (b : Nat) (w w' : World) : Prop := w' = ((w.drew.setCell ⟨b, 0, none⟩ (.int .u32 1)).setCell ⟨b, 1, none⟩ (.int .i32 0))
set_option maxRecDepth 100000 in
set_option maxHeartbeats 1600000 in
theorem slow_any (b : Nat) (first cap : Array Value) (R : World → World → Prop) (w : World)
    (h0 : w.cell? ⟨b, 0, none⟩ = some (.int .u32 0)) (h1 : w.cell? ⟨b, 1, none⟩ = some (.int .i32 0)) (f : ∀ o, w.frozen? ⟨b, o, none⟩ = false)
    (hf : ∀ w1, w1 = w.setCell ⟨b, 1, none⟩ (.int .i32 1) → Calls Tryz.prog 48 (first ++ cap) w1 fun e w2 => e = .returned (.tuple #[]) ∧ R w1 w2 ∧ w2.cell? ⟨b, 0, none⟩ = some (.int .u32 0) ∧ w2.cell? ⟨b, 1, none⟩ = some (.int .i32 1) ∧ ∀ o, w2.frozen? ⟨b, o, none⟩ = false) :
    Calls Tryz.prog 64 #[.pointer (some ⟨b, 0, none⟩), .func (.func 48) first cap] w fun e w' => e = .returned (.tuple #[]) ∧ ∃ w2, R (w.setCell ⟨b, 1, none⟩ (.int .i32 1)) w2 ∧ OnceDone b w2 w' := by
  have f0 := f 0
  have f1 := f 1
  have hl := run_call_load (P := Tryz.prog) Tryz.func76 (by kernel_rfl) (by kernel_rfl) (by kernel_rfl) .u32 (by kernel_rfl) (w := w.setCell ⟨b, 1, none⟩ (.int .i32 1)) (a := ⟨b, 0, none⟩) (x := 0) ((World.cell?_setCell_other _ ⟨b, 1, none⟩ ⟨b, 0, none⟩ _ (by simp)).trans h0)
  have hnot : ∀ (x : Bool) (w : World), (Op.unary .not (.bool x)).run Tryz.prog w = .ok (.bool (!x)) w := fun _ _ => rfl
  have HF := Lib.hid (hf _ rfl)
  clear hf f
  go_enter_defers Tryz.func64, Tryz.ntmps64
  go_wp2_with (go_at_call 77; refine (lock_free ⟨b, 1, none⟩ _ (by go_simp) (by go_simp)).mono ?_; rintro e w' ⟨rfl, rfl⟩)
  go_wp2_with (first | (go_at_call 48; refine HF.out.mono ?_; rintro e w2 ⟨rfl, hR, g0, g1, g2⟩) | (go_at_call 63; go_in))
  refine leaves_cons (f := 79) (args := #[.pointer (some ⟨b, 0, none⟩), .bool true]) (by simp) (by simp [go_sem]) ?_
  refine (store_deferred ⟨b, 0, none⟩ (.int .u32 0) .returning _ g0 (g2 0)).mono ?_
  rintro e u' w'' ⟨rfl, rfl, rfl⟩
  refine leaves_cons (f := 78) (args := #[.pointer (some ⟨b, 1, none⟩)]) (by simp [settle]) (by simp [go_sem]) ?_
  refine (unlock_deferred ⟨b, 1, none⟩ _ _ ?_ (by have := g2 1; simp [this])).mono ?_
  · refine (World.cell?_setCell_other _ ⟨b, 0, none⟩ ⟨b, 1, none⟩ _ (by simp)).trans ?_
    rw [World.cell?_drew]
    exact g1
  rintro e u' w'' ⟨rfl, rfl, rfl⟩
  simp [Leaves, settle, results, Tryz.results64]
  exact ⟨w2, hR, rfl⟩
set_option maxRecDepth 100000 in
set_option maxHeartbeats 1600000 in
theorem do_first (b : Nat) (first cap : Array Value) (R : World → World → Prop) (w : World)
    (h0 : w.cell? ⟨b, 0, none⟩ = some (.int .u32 0)) (h1 : w.cell? ⟨b, 1, none⟩ = some (.int .i32 0)) (f : ∀ o, w.frozen? ⟨b, o, none⟩ = false)
    (hf : ∀ w1, w1 = w.setCell ⟨b, 1, none⟩ (.int .i32 1) → Calls Tryz.prog 48 (first ++ cap) w1 fun e w2 => e = .returned (.tuple #[]) ∧ R w1 w2 ∧ w2.cell? ⟨b, 0, none⟩ = some (.int .u32 0) ∧ w2.cell? ⟨b, 1, none⟩ = some (.int .i32 1) ∧ ∀ o, w2.frozen? ⟨b, o, none⟩ = false) :
    Calls Tryz.prog 47 #[.pointer (some ⟨b, 0, none⟩), .func (.func 48) first cap] w fun e w' => e = .returned (.tuple #[]) ∧ ∃ w2, R (w.setCell ⟨b, 1, none⟩ (.int .i32 1)) w2 ∧ OnceDone b w2 w' := by
  have hl := run_call_load (P := Tryz.prog) Tryz.func76 (by kernel_rfl) (by kernel_rfl) (by kernel_rfl) .u32 (by kernel_rfl) h0
  have hnot : ∀ (x : Bool) (w : World), (Op.unary .not (.bool x)).run Tryz.prog w = .ok (.bool (!x)) w := fun _ _ => rfl
  have HS := Lib.hid (slow_any b first cap R w h0 h1 f hf)
  clear hf f h1
  go_enter Tryz.func47, Tryz.ntmps47
  go_wp2_with (first | (go_at_call 64; refine HS.out.mono ?_; rintro e w' ⟨rfl, hw'⟩) | (go_at_call 63; go_in))
  go_end0
  exact ⟨rfl, hw'⟩
end Go.Proofs.YtnbbooilapelmaaGreatDoor
