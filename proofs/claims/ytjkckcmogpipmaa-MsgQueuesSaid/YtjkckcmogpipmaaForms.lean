/-
  MsgForms, walked.
-/
import Derived.Test.YtjkckcmogpipmaaKinds
import Derived.Test.YtjkckcmogpipmaaGoodC
import Derived.Test.YtjkckcmogpipmaaWakes
import Derived.Test.YtjkckcmogpipmaaKitB
namespace Go.Proofs.Ytjkckcmogpipmaa
open Go.RowKit
attribute [local go_sem ↓] Go.wp_at_zero Go.wp_at_succ

set_option maxHeartbeats 4000000 in
theorem forms_law (k l : Int) (a b : Bool) (d0 d1 d2 d3 d4 d5 d6 d7 : Int) (w : World) :
    Calls Try.prog 3 #[.agg #[.int .i64 k, .int .i64 l, .bool a, .bool b, .int .u64 d0, .int .u64 d1, .int .u64 d2, .int .u64 d3, .int .u64 d4, .int .u64 d5, .int .u64 d6, .int .u64 d7]] w fun e w' => e = .returned (.bool true) ∧ Below w.heap.size w w' := by
  go_enter Try.func3, Try.ntmps3
  go_wp2_with fail
  go_region_held3 (fun w' => Below (w.heap.size + 1) (w.alloc (.cells #[.int .i64 k, .int .i64 l, .bool a, .bool b, .int .u64 d0, .int .u64 d1, .int .u64 d2, .int .u64 d3, .int .u64 d4, .int .u64 d5, .int .u64 d6, .int .u64 d7] 26)) w' ∧ (∀ b' o, b' < w.heap.size + 1 → w'.cell? ⟨b', o, none⟩ = (w.alloc (.cells #[.int .i64 k, .int .i64 l, .bool a, .bool b, .int .u64 d0, .int .u64 d1, .int .u64 d2, .int .u64 d3, .int .u64 d4, .int .u64 d5, .int .u64 d6, .int .u64 d7] 26)).cell? ⟨b', o, none⟩)) (first | exact stay_drew | assumption | exact stay_step (by simp) (by assumption) (by assumption))
    ((first | (go_at_call 8; refine (good_any _ _ _ _ _ _ _ _ _ _ _ _ _).mono ?_; rintro e w' ⟨rfl, hb⟩) | (go_at_call 9; refine (goodr_any _ _ _ _ _ _ _ _ _ _ _ _ _).mono ?_; rintro e w' ⟨rfl, hb⟩) | (go_at_call 10; refine (asks_any _ _).mono ?_; rintro e w' ⟨rfl, rfl⟩) | (go_at_call 11; refine (asksr_any _ _).mono ?_; rintro e w' ⟨rfl, rfl⟩) | (go_at_call 12; refine (answers_any _ _).mono ?_; rintro e w' ⟨rfl, rfl⟩) | (go_at_call 13; refine (answersr_any _ _).mono ?_; rintro e w' ⟨rfl, rfl⟩) | (go_at_call 14; refine (tells_any _ _).mono ?_; rintro e w' ⟨rfl, rfl⟩) | (go_at_call 15; refine (tellsr_any _ _).mono ?_; rintro e w' ⟨rfl, rfl⟩) | (go_at_call 16; refine (wakes_any _).mono ?_; rintro e w' ⟨rfl, hb⟩)))
  go_wp2
  go_ret
  refine ⟨rfl, stay_end (B := w.heap.size + 1) (W0 := w.alloc (.cells #[.int .i64 k, .int .i64 l, .bool a, .bool b, .int .u64 d0, .int .u64 d1, .int .u64 d2, .int .u64 d3, .int .u64 d4, .int .u64 d5, .int .u64 d6, .int .u64 d7] 26)) (Below.al (Below.refl _ _) _) (by omega) (by assumption)⟩

section
variable {H : Type} {enc : TypeId × Value → H}
theorem open_msg {W : World} {base : Nat} {v : Value} (h : Arg enc Try.prog W base 26 v) : ∃ (k l : Int) (a b : Bool) (d0 d1 d2 d3 d4 d5 d6 d7 : Int), v = .agg #[.int .i64 k, .int .i64 l, .bool a, .bool b, .int .u64 d0, .int .u64 d1, .int .u64 d2, .int .u64 d3, .int .u64 d4, .int .u64 d5, .int .u64 d6, .int .u64 d7] := by
  obtain ⟨cs, rfl, h'⟩ := Arg.agg Try.underlying26 rfl (by kernel_rfl : flat Try.prog 10 26 = some [3, 3, 4, 4, 22, 22, 22, 22, 22, 22, 22, 22]) h
  obtain ⟨x0, _, rfl, r0, h'⟩ := h'.cons
  obtain ⟨x1, _, rfl, r1, h'⟩ := h'.cons
  obtain ⟨x2, _, rfl, r2, h'⟩ := h'.cons
  obtain ⟨x3, _, rfl, r3, h'⟩ := h'.cons
  obtain ⟨x4, _, rfl, r4, h'⟩ := h'.cons
  obtain ⟨x5, _, rfl, r5, h'⟩ := h'.cons
  obtain ⟨x6, _, rfl, r6, h'⟩ := h'.cons
  obtain ⟨x7, _, rfl, r7, h'⟩ := h'.cons
  obtain ⟨x8, _, rfl, r8, h'⟩ := h'.cons
  obtain ⟨x9, _, rfl, r9, h'⟩ := h'.cons
  obtain ⟨x10, _, rfl, r10, h'⟩ := h'.cons
  obtain ⟨x11, _, rfl, r11, h'⟩ := h'.cons
  obtain rfl := h'.nil
  obtain ⟨k, rfl, _⟩ := r0.int Try.underlying3
  obtain ⟨l, rfl, _⟩ := r1.int Try.underlying3
  obtain ⟨a, rfl⟩ := r2.bool Try.underlying4
  obtain ⟨b, rfl⟩ := r3.bool Try.underlying4
  obtain ⟨d0, rfl, _⟩ := r4.int Try.underlying22
  obtain ⟨d1, rfl, _⟩ := r5.int Try.underlying22
  obtain ⟨d2, rfl, _⟩ := r6.int Try.underlying22
  obtain ⟨d3, rfl, _⟩ := r7.int Try.underlying22
  obtain ⟨d4, rfl, _⟩ := r8.int Try.underlying22
  obtain ⟨d5, rfl, _⟩ := r9.int Try.underlying22
  obtain ⟨d6, rfl, _⟩ := r10.int Try.underlying22
  obtain ⟨d7, rfl, _⟩ := r11.int Try.underlying22
  exact ⟨k, l, a, b, d0, d1, d2, d3, d4, d5, d6, d7, rfl⟩
theorem forms_walk {base : Nat} (W : World) (v0 : Value) (a0 : Arg enc Try.prog W base 26 v0) :
    Calls Try.prog 3 #[v0] W fun e w' => e = .returned (.bool true) ∧ Below W.heap.size W w' := by
  obtain ⟨k, l, a, b, d0, d1, d2, d3, d4, d5, d6, d7, rfl⟩ := open_msg a0
  exact forms_law k l a b d0 d1 d2 d3 d4 d5 d6 d7 W
end
end Go.Proofs.Ytjkckcmogpipmaa
