/-
  MsgNone, MsgFull, walked.
-/
import Derived.Test.YtjkckcmogpipmaaForms
namespace Go.Proofs.Ytjkckcmogpipmaa
open Go.RowKit
attribute [local go_sem ↓] Go.wp_at_zero Go.wp_at_succ

set_option maxRecDepth 100000 in
set_option maxHeartbeats 8000000 in
theorem none_law (k l : Int) (a b : Bool) (d0 d1 d2 d3 d4 d5 d6 d7 : Int) (w : World) :
    Calls Try.prog 7 #[.agg #[.int .i64 k, .int .i64 l, .bool a, .bool b, .int .u64 d0, .int .u64 d1, .int .u64 d2, .int .u64 d3, .int .u64 d4, .int .u64 d5, .int .u64 d6, .int .u64 d7]] w fun e w' => e = .returned (.bool true) ∧ Below w.heap.size w w' := by
  have hi := info22
  go_enter Try.func7, Try.ntmps7
  go_wp2_with fail
  refine (clear_nil _).mono ?_
  rintro e w0 ⟨rfl, rfl⟩
  go_wp2_with fail
  refine (head_nil _).mono ?_
  rintro e w1 ⟨rfl, hb1⟩
  unfold noM
  have hc1 := fun o => hb1.cell (p := ⟨w.heap.size, o, none⟩) (by simp)
  have hz1 : w.heap.size < w1.heap.size := by have := hb1.size; simp at this; omega
  have HB1 := Lib.hid hb1
  clear hb1
  go_wp2_with fail
  refine (pop_no none _ (head_nil _)).mono ?_
  rintro e w2 ⟨rfl, hb2⟩
  unfold noM
  have hc2 := fun o => hb2.cell (p := ⟨w.heap.size, o, none⟩) (by simp; omega)
  have hc2' := fun o => hb2.cell (p := ⟨w1.heap.size, o, none⟩) (by simp)
  have hz2 : w1.heap.size < w2.heap.size := by have := hb2.size; simp at this; omega
  have hz3 : w.heap.size < w2.heap.size := by omega
  have HB2 := Lib.hid hb2
  clear hb2
  go_wp2_with fail
  refine (push_nil _ _ _ _ _ _ _ _ _ _ _ _  _).mono ?_
  rintro e w3 ⟨rfl, hb3⟩
  have HB3 := Lib.hid hb3
  clear hb3
  go_wp2_with (first | (go_at_call 18; refine (len_nil _).mono ?_; rintro e w' ⟨rfl, rfl⟩) | (go_at_call 23; refine (all_nil _).mono ?_; rintro e w' ⟨rfl, rfl⟩) | (go_at_call 16; refine (wakes_any _).mono ?_; rintro e w4 ⟨rfl, hb4⟩))
  go_ret
  exact ⟨rfl, Below.then (Below.then (Below.al (Below.then (Below.al (Below.then (Below.al (Below.refl _ _) _) HB1.out) _) HB2.out) _) HB3.out) hb4⟩

section
variable {H : Type} {enc : TypeId × Value → H}
theorem none_walk {base : Nat} (W : World) (v0 : Value) (a0 : Arg enc Try.prog W base 26 v0) :
    Calls Try.prog 7 #[v0] W fun e w' => e = .returned (.bool true) ∧ Below W.heap.size W w' := by
  obtain ⟨k, l, a, b, d0, d1, d2, d3, d4, d5, d6, d7, rfl⟩ := open_msg a0
  exact none_law k l a b d0 d1 d2 d3 d4 d5 d6 d7 W
end
end Go.Proofs.Ytjkckcmogpipmaa
