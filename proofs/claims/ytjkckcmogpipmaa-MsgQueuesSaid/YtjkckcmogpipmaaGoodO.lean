/-
  Both, of what is no kind or no line.
-/
import Derived.Test.YtjkckcmogpipmaaGood0
namespace Go.Proofs.Ytjkckcmogpipmaa
open Go.RowKit
attribute [local go_sem ↓] Go.wp_at_zero Go.wp_at_succ

set_option maxHeartbeats 4000000 in
theorem good_out (k l : Int) (a b : Bool) (d0 d1 d2 d3 d4 d5 d6 d7 : Int) (w : World) (h : ¬ (1 ≤ k ∧ k ≤ 14 ∧ 0 ≤ l ∧ l < 64)) :
    Calls Try.prog 8 #[.agg #[.int .i64 k, .int .i64 l, .bool a, .bool b, .int .u64 d0, .int .u64 d1, .int .u64 d2, .int .u64 d3, .int .u64 d4, .int .u64 d5, .int .u64 d6, .int .u64 d7]] w fun e w' => e = .returned (.bool (goodM k l a b (zM d0 d1 d2 d3 d4 d5 d6 d7))) ∧ Below w.heap.size w w' := by
  by_cases c1 : k < 1
  · clear h
    go_enter Try.func8, Try.ntmps8
    go_wp2
    all_goals (go_ret; exact ⟨ret_bool (by rw [goodM, decide_eq_false (by omega), Bool.false_and]), Below.al (Below.refl _ _) _⟩)
  · by_cases c2 : 14 < k
    · clear h
      go_enter Try.func8, Try.ntmps8
      go_wp2
      all_goals (go_ret; exact ⟨ret_bool (by rw [goodM, decide_eq_false (by omega), Bool.false_and]), Below.al (Below.refl _ _) _⟩)
    · by_cases c3 : l < 0
      · clear h
        go_enter Try.func8, Try.ntmps8
        go_wp2
        all_goals (go_ret; exact ⟨ret_bool (by rw [goodM, decide_eq_false (by omega), Bool.false_and]), Below.al (Below.refl _ _) _⟩)
      · have c4 : ¬ l < 64 := by omega
        clear h
        go_enter Try.func8, Try.ntmps8
        go_wp2
        all_goals (go_ret; exact ⟨ret_bool (by rw [goodM, decide_eq_false (by omega), Bool.false_and]), Below.al (Below.refl _ _) _⟩)
set_option maxHeartbeats 4000000 in
theorem goodr_out (k l : Int) (a b : Bool) (d0 d1 d2 d3 d4 d5 d6 d7 : Int) (w : World) (h : ¬ (1 ≤ k ∧ k ≤ 14 ∧ 0 ≤ l ∧ l < 64)) :
    Calls Try.prog 9 #[.agg #[.int .i64 k, .int .i64 l, .bool a, .bool b, .int .u64 d0, .int .u64 d1, .int .u64 d2, .int .u64 d3, .int .u64 d4, .int .u64 d5, .int .u64 d6, .int .u64 d7]] w fun e w' => e = .returned (.bool (goodM k l a b (zM d0 d1 d2 d3 d4 d5 d6 d7))) ∧ Below w.heap.size w w' := by
  by_cases c1 : k < 1
  · clear h
    go_enter Try.func9, Try.ntmps9
    go_wp2
    all_goals (go_ret; exact ⟨ret_bool (by rw [goodM, decide_eq_false (by omega), Bool.false_and]), Below.al (Below.refl _ _) _⟩)
  · by_cases c2 : 14 < k
    · clear h
      go_enter Try.func9, Try.ntmps9
      go_wp2
      all_goals (go_ret; exact ⟨ret_bool (by rw [goodM, decide_eq_false (by omega), Bool.false_and]), Below.al (Below.refl _ _) _⟩)
    · by_cases c3 : l < 0
      · clear h
        go_enter Try.func9, Try.ntmps9
        go_wp2
        all_goals (go_ret; exact ⟨ret_bool (by rw [goodM, decide_eq_false (by omega), Bool.false_and]), Below.al (Below.refl _ _) _⟩)
      · have c4 : ¬ l < 64 := by omega
        clear h
        go_enter Try.func9, Try.ntmps9
        go_wp2
        all_goals (go_ret; exact ⟨ret_bool (by rw [goodM, decide_eq_false (by omega), Bool.false_and]), Below.al (Below.refl _ _) _⟩)
end Go.Proofs.Ytjkckcmogpipmaa

