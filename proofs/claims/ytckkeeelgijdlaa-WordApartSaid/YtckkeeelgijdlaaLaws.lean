/-
  The statements of layer 1, walked.
-/
import Derived.Test.YtckkeeelgijdlaaWakes
import Derived.Test.YtckkeeelgijdlaaKitB
import Derived.Test.YtckkeeelgijdlaaBack
import Derived.Test.YtckkeeelgijdlaaApart
namespace Go.Proofs.Ytckkeeelgijdlaa
open Go.RowKit
attribute [local go_sem ↓] Go.wp_at_zero Go.wp_at_succ

theorem info22 : (Try.prog.info? 22).map (·.size) = some 1 := by kernel_rfl
set_option maxHeartbeats 4000000 in
theorem lines_law (f : Nat → Int) (n v : Int) (w : World) :
    Calls Try.prog 3 #[.agg (lnV f), .int .i64 n, .int .u64 v] w fun e w' => e = .returned (.bool true) ∧ Below w.heap.size w w' := by
  have hi := info22
  go_enter Try.func3, Try.ntmps3
  go_wp2_with fail
  go_region_held3 (fun w' => Below (w.heap.size + 1) (w.alloc (.cells (lnV f) 24)) w' ∧ (∀ b o, b < w.heap.size + 1 → w'.cell? ⟨b, o, none⟩ = (w.alloc (.cells (lnV f) 24)).cell? ⟨b, o, none⟩)) (first | exact stay_drew | exact stay_step (by simp) (by assumption) (by assumption))
   (first | (go_at_call 7; refine (get_any f n _).mono ?_; rintro e w' ⟨rfl, hb⟩) | (go_at_call 8; refine (getr_any f n _).mono ?_; rintro e w' ⟨rfl, hb⟩) | (go_at_call 9; refine (put_any f n v _).mono ?_; rintro e w' ⟨rfl, hb⟩) | (go_at_call 10; refine (putr_any f n v _).mono ?_; rintro e w' ⟨rfl, hb⟩) | (go_at_call 11; refine (wakes_any _).mono ?_; rintro e w' ⟨rfl, hb⟩))
  go_wp2
  go_ret
  refine ⟨rfl, stay_end (B := w.heap.size + 1) (W0 := w.alloc (.cells (lnV f) 24)) ((Below.refl _ _).alloc (Nat.le_refl _) _) (by omega) (by assumption)⟩

section
variable {H : Type} {enc : TypeId × Value → H}
theorem open_line {W : World} {base : Nat} {v : Value} (h : Arg enc Try.prog W base 24 v) : ∃ f, v = .agg (lnV f) := by
  obtain ⟨cs, rfl, h'⟩ := Arg.agg Try.underlying24 rfl (by kernel_rfl : flat Try.prog 10 24 = some [22, 22, 22, 22, 22, 22, 22, 22]) h
  obtain ⟨c0, _, rfl, r0, h'⟩ := h'.cons
  obtain ⟨c1, _, rfl, r1, h'⟩ := h'.cons
  obtain ⟨c2, _, rfl, r2, h'⟩ := h'.cons
  obtain ⟨c3, _, rfl, r3, h'⟩ := h'.cons
  obtain ⟨c4, _, rfl, r4, h'⟩ := h'.cons
  obtain ⟨c5, _, rfl, r5, h'⟩ := h'.cons
  obtain ⟨c6, _, rfl, r6, h'⟩ := h'.cons
  obtain ⟨c7, _, rfl, r7, h'⟩ := h'.cons
  obtain rfl := h'.nil
  obtain ⟨a0, rfl, _⟩ := r0.int Try.underlying22
  obtain ⟨a1, rfl, _⟩ := r1.int Try.underlying22
  obtain ⟨a2, rfl, _⟩ := r2.int Try.underlying22
  obtain ⟨a3, rfl, _⟩ := r3.int Try.underlying22
  obtain ⟨a4, rfl, _⟩ := r4.int Try.underlying22
  obtain ⟨a5, rfl, _⟩ := r5.int Try.underlying22
  obtain ⟨a6, rfl, _⟩ := r6.int Try.underlying22
  obtain ⟨a7, rfl, _⟩ := r7.int Try.underlying22
  exact ⟨fun i => match i with | 0 => a0 | 1 => a1 | 2 => a2 | 3 => a3 | 4 => a4 | 5 => a5 | 6 => a6 | _ => a7, rfl⟩
theorem lines_walk {base : Nat} (W : World) (v0 v1 v2 : Value) (a0 : Arg enc Try.prog W base 24 v0) (a1 : Arg enc Try.prog W base 3 v1) (a2 : Arg enc Try.prog W base 22 v2) :
    Calls Try.prog 3 #[v0, v1, v2] W fun e w' => e = .returned (.bool true) ∧ Below W.heap.size W w' := by
  obtain ⟨f, rfl⟩ := open_line a0
  obtain ⟨n, rfl, _⟩ := a1.int Try.underlying3
  obtain ⟨v, rfl, _⟩ := a2.int Try.underlying22
  exact lines_law f n v W
theorem back_walk {base : Nat} (W : World) (v0 v1 v2 : Value) (a0 : Arg enc Try.prog W base 3 v0) (a1 : Arg enc Try.prog W base 3 v1) (a2 : Arg enc Try.prog W base 24 v2) :
    Calls Try.prog 5 #[v0, v1, v2] W fun e w' => e = .returned (.bool true) ∧ Below W.heap.size W w' := by
  obtain ⟨n, rfl, _⟩ := a0.int Try.underlying3
  obtain ⟨v, rfl, _⟩ := a1.int Try.underlying3
  obtain ⟨f, rfl⟩ := open_line a2
  exact back_law n v f W
theorem apart_walk {base : Nat} (W : World) (v0 : Value) (a0 : Arg enc Try.prog W base 38 v0) :
    Calls Try.prog 6 #[v0] W fun e w' => e = .returned (.bool true) ∧ Below W.heap.size W w' := by
  obtain ⟨cs, rfl, h'⟩ := Arg.agg Try.underlying38 rfl (by kernel_rfl : flat Try.prog 10 38 = some [3, 3, 3, 3]) a0
  obtain ⟨c0, _, rfl, r0, h'⟩ := h'.cons
  obtain ⟨c1, _, rfl, r1, h'⟩ := h'.cons
  obtain ⟨c2, _, rfl, r2, h'⟩ := h'.cons
  obtain ⟨c3, _, rfl, r3, h'⟩ := h'.cons
  obtain rfl := h'.nil
  obtain ⟨x0, rfl, _⟩ := r0.int Try.underlying3
  obtain ⟨x1, rfl, _⟩ := r1.int Try.underlying3
  obtain ⟨x2, rfl, _⟩ := r2.int Try.underlying3
  obtain ⟨x3, rfl, _⟩ := r3.int Try.underlying3
  exact apart_law x0 x1 x2 x3 W
end
end Go.Proofs.Ytckkeeelgijdlaa
