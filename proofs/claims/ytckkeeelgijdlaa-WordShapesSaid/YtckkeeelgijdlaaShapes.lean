/-
  WordShapes, walked.
-/
import Derived.Test.YtckkeeelgijdlaaWakes
import Derived.Test.YtckkeeelgijdlaaGoodr
import Derived.Test.YtckkeeelgijdlaaLow
import Derived.Test.YtckkeeelgijdlaaKitB
namespace Go.Proofs.Ytckkeeelgijdlaa
open Go.RowKit
attribute [local go_sem ↓] Go.wp_at_zero Go.wp_at_succ

set_option maxHeartbeats 4000000 in
theorem shapes_law (a b c d e f g : Int) (w : World) :
    Calls Try.prog 4 #[.agg #[.int .i64 a, .int .i64 b, .int .i64 c, .int .i64 d, .int .i64 e, .int .i64 f, .int .i64 g]] w fun E w' => E = .returned (.bool true) ∧ Below w.heap.size w w' := by
  go_enter Try.func4, Try.ntmps4
  go_wp2_with fail
  go_region_held3 (fun w' => Below (w.heap.size + 1) (w.alloc (.cells #[.int .i64 a, .int .i64 b, .int .i64 c, .int .i64 d, .int .i64 e, .int .i64 f, .int .i64 g] 30)) w' ∧ (∀ b' o, b' < w.heap.size + 1 → w'.cell? ⟨b', o, none⟩ = (w.alloc (.cells #[.int .i64 a, .int .i64 b, .int .i64 c, .int .i64 d, .int .i64 e, .int .i64 f, .int .i64 g] 30)).cell? ⟨b', o, none⟩)) (first | exact stay_drew | exact stay_step (by simp) (by assumption) (by assumption))
   (first | (go_at_call 12; refine (good_all a b c d e f g _).mono ?_; rintro e w' ⟨rfl, hb⟩) | (go_at_call 13; refine (goodr_any a b c d e f g _).mono ?_; rintro e w' ⟨rfl, hb⟩) | (go_at_call 11; refine (wakes_any _).mono ?_; rintro e w' ⟨rfl, hb⟩))
  go_wp2
  go_ret
  refine ⟨rfl, stay_end (B := w.heap.size + 1) (W0 := w.alloc (.cells #[.int .i64 a, .int .i64 b, .int .i64 c, .int .i64 d, .int .i64 e, .int .i64 f, .int .i64 g] 30)) ((Below.refl _ _).alloc (Nat.le_refl _) _) (by omega) (by assumption)⟩


section
variable {H : Type} {enc : TypeId × Value → H}
theorem shapes_walk {base : Nat} (W : World) (v0 : Value) (a0 : Arg enc Try.prog W base 30 v0) :
    Calls Try.prog 4 #[v0] W fun e w' => e = .returned (.bool true) ∧ Below W.heap.size W w' := by
  obtain ⟨cs, rfl, h'⟩ := Arg.agg Try.underlying30 rfl (by kernel_rfl : flat Try.prog 10 30 = some [3, 3, 3, 3, 3, 3, 3]) a0
  obtain ⟨c0, _, rfl, r0, h'⟩ := h'.cons
  obtain ⟨c1, _, rfl, r1, h'⟩ := h'.cons
  obtain ⟨c2, _, rfl, r2, h'⟩ := h'.cons
  obtain ⟨c3, _, rfl, r3, h'⟩ := h'.cons
  obtain ⟨c4, _, rfl, r4, h'⟩ := h'.cons
  obtain ⟨c5, _, rfl, r5, h'⟩ := h'.cons
  obtain ⟨c6, _, rfl, r6, h'⟩ := h'.cons
  obtain rfl := h'.nil
  obtain ⟨x0, rfl, _⟩ := r0.int Try.underlying3
  obtain ⟨x1, rfl, _⟩ := r1.int Try.underlying3
  obtain ⟨x2, rfl, _⟩ := r2.int Try.underlying3
  obtain ⟨x3, rfl, _⟩ := r3.int Try.underlying3
  obtain ⟨x4, rfl, _⟩ := r4.int Try.underlying3
  obtain ⟨x5, rfl, _⟩ := r5.int Try.underlying3
  obtain ⟨x6, rfl, _⟩ := r6.int Try.underlying3
  exact shapes_law x0 x1 x2 x3 x4 x5 x6 W
end
end Go.Proofs.Ytckkeeelgijdlaa
