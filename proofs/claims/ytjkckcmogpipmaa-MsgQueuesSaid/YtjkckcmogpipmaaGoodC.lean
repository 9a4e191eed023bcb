/-
  Both, of whatever message.
-/
import Derived.Test.YtjkckcmogpipmaaGoodA
import Derived.Test.YtjkckcmogpipmaaGoodB
import Derived.Test.YtjkckcmogpipmaaGoodR
import Derived.Test.YtjkckcmogpipmaaGoodS
import Derived.Test.YtjkckcmogpipmaaGoodO
namespace Go.Proofs.Ytjkckcmogpipmaa
open Go.RowKit
attribute [local go_sem ↓] Go.wp_at_zero Go.wp_at_succ

theorem good_any (k l : Int) (a b : Bool) (d0 d1 d2 d3 d4 d5 d6 d7 : Int) (w : World) :
    Calls Try.prog 8 #[.agg #[.int .i64 k, .int .i64 l, .bool a, .bool b, .int .u64 d0, .int .u64 d1, .int .u64 d2, .int .u64 d3, .int .u64 d4, .int .u64 d5, .int .u64 d6, .int .u64 d7]] w fun e w' => e = .returned (.bool (goodM k l a b (zM d0 d1 d2 d3 d4 d5 d6 d7))) ∧ Below w.heap.size w w' := by
  by_cases h : 1 ≤ k ∧ k ≤ 14 ∧ 0 ≤ l ∧ l < 64
  · obtain ⟨k0, k1, h0, h1⟩ := h
    have : k = 1 ∨ k = 2 ∨ k = 3 ∨ k = 4 ∨ k = 5 ∨ k = 6 ∨ k = 7 ∨ k = 8 ∨ k = 9 ∨ k = 10 ∨ k = 11 ∨ k = 12 ∨ k = 13 ∨ k = 14 := by omega
    rcases this with rfl | rfl | rfl | rfl | rfl | rfl | rfl | rfl | rfl | rfl | rfl | rfl | rfl | rfl
    · exact good_1 l a b d0 d1 d2 d3 d4 d5 d6 d7 w h0 h1
    · exact good_2 l a b d0 d1 d2 d3 d4 d5 d6 d7 w h0 h1
    · exact good_3 l a b d0 d1 d2 d3 d4 d5 d6 d7 w h0 h1
    · exact good_4 l a b d0 d1 d2 d3 d4 d5 d6 d7 w h0 h1
    · exact good_5 l a b d0 d1 d2 d3 d4 d5 d6 d7 w h0 h1
    · exact good_6 l a b d0 d1 d2 d3 d4 d5 d6 d7 w h0 h1
    · exact good_7 l a b d0 d1 d2 d3 d4 d5 d6 d7 w h0 h1
    · exact good_8 l a b d0 d1 d2 d3 d4 d5 d6 d7 w h0 h1
    · exact good_9 l a b d0 d1 d2 d3 d4 d5 d6 d7 w h0 h1
    · exact good_10 l a b d0 d1 d2 d3 d4 d5 d6 d7 w h0 h1
    · exact good_11 l a b d0 d1 d2 d3 d4 d5 d6 d7 w h0 h1
    · exact good_12 l a b d0 d1 d2 d3 d4 d5 d6 d7 w h0 h1
    · exact good_13 l a b d0 d1 d2 d3 d4 d5 d6 d7 w h0 h1
    · exact good_14 l a b d0 d1 d2 d3 d4 d5 d6 d7 w h0 h1
  · exact good_out k l a b d0 d1 d2 d3 d4 d5 d6 d7 w h
theorem goodr_any (k l : Int) (a b : Bool) (d0 d1 d2 d3 d4 d5 d6 d7 : Int) (w : World) :
    Calls Try.prog 9 #[.agg #[.int .i64 k, .int .i64 l, .bool a, .bool b, .int .u64 d0, .int .u64 d1, .int .u64 d2, .int .u64 d3, .int .u64 d4, .int .u64 d5, .int .u64 d6, .int .u64 d7]] w fun e w' => e = .returned (.bool (goodM k l a b (zM d0 d1 d2 d3 d4 d5 d6 d7))) ∧ Below w.heap.size w w' := by
  by_cases h : 1 ≤ k ∧ k ≤ 14 ∧ 0 ≤ l ∧ l < 64
  · obtain ⟨k0, k1, h0, h1⟩ := h
    have : k = 1 ∨ k = 2 ∨ k = 3 ∨ k = 4 ∨ k = 5 ∨ k = 6 ∨ k = 7 ∨ k = 8 ∨ k = 9 ∨ k = 10 ∨ k = 11 ∨ k = 12 ∨ k = 13 ∨ k = 14 := by omega
    rcases this with rfl | rfl | rfl | rfl | rfl | rfl | rfl | rfl | rfl | rfl | rfl | rfl | rfl | rfl
    · exact goodr_1 l a b d0 d1 d2 d3 d4 d5 d6 d7 w h0 h1
    · exact goodr_2 l a b d0 d1 d2 d3 d4 d5 d6 d7 w h0 h1
    · exact goodr_3 l a b d0 d1 d2 d3 d4 d5 d6 d7 w h0 h1
    · exact goodr_4 l a b d0 d1 d2 d3 d4 d5 d6 d7 w h0 h1
    · exact goodr_5 l a b d0 d1 d2 d3 d4 d5 d6 d7 w h0 h1
    · exact goodr_6 l a b d0 d1 d2 d3 d4 d5 d6 d7 w h0 h1
    · exact goodr_7 l a b d0 d1 d2 d3 d4 d5 d6 d7 w h0 h1
    · exact goodr_8 l a b d0 d1 d2 d3 d4 d5 d6 d7 w h0 h1
    · exact goodr_9 l a b d0 d1 d2 d3 d4 d5 d6 d7 w h0 h1
    · exact goodr_10 l a b d0 d1 d2 d3 d4 d5 d6 d7 w h0 h1
    · exact goodr_11 l a b d0 d1 d2 d3 d4 d5 d6 d7 w h0 h1
    · exact goodr_12 l a b d0 d1 d2 d3 d4 d5 d6 d7 w h0 h1
    · exact goodr_13 l a b d0 d1 d2 d3 d4 d5 d6 d7 w h0 h1
    · exact goodr_14 l a b d0 d1 d2 d3 d4 d5 d6 d7 w h0 h1
  · exact goodr_out k l a b d0 d1 d2 d3 d4 d5 d6 d7 w h
end Go.Proofs.Ytjkckcmogpipmaa

