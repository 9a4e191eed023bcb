/-
  The reference's Good, kinds 8 to 14.
-/
import Derived.Test.YtjkckcmogpipmaaGood0
namespace Go.Proofs.Ytjkckcmogpipmaa
open Go.RowKit
attribute [local go_sem ↓] Go.wp_at_zero Go.wp_at_succ

set_option maxHeartbeats 4000000 in
theorem goodr_8 (l : Int) (a b : Bool) (d0 d1 d2 d3 d4 d5 d6 d7 : Int) (w : World) (h0 : 0 ≤ l) (h1 : l < 64) :
    Calls Try.prog 9 #[.agg #[.int .i64 8, .int .i64 l, .bool a, .bool b, .int .u64 d0, .int .u64 d1, .int .u64 d2, .int .u64 d3, .int .u64 d4, .int .u64 d5, .int .u64 d6, .int .u64 d7]] w fun e w' => e = .returned (.bool (goodM 8 l a b (zM d0 d1 d2 d3 d4 d5 d6 d7))) ∧ Below w.heap.size w w' := by
  have hi := info22
  have h1' : ¬ 63 < l := by omega
  cases a <;> cases b
  · go_enter Try.func9, Try.ntmps9
    go_wp2
    go_ret
    exact ⟨ret_bool (by simp [goodM, zM, h0, h1]), Below.al (Below.refl _ _) _⟩
  · go_enter Try.func9, Try.ntmps9
    go_wp2
    go_ret
    exact ⟨ret_bool (by simp [goodM, zM, h0, h1]), Below.al (Below.refl _ _) _⟩
  · go_enter Try.func9, Try.ntmps9
    go_wp2
    go_ret
    exact ⟨ret_bool (by simp [goodM, zM, h0, h1]), Below.al (Below.refl _ _) _⟩
  · go_enter Try.func9, Try.ntmps9
    go_wp2
    go_ret
    exact ⟨ret_bool (by simp [goodM, zM, h0, h1]), Below.al (Below.refl _ _) _⟩

set_option maxHeartbeats 4000000 in
theorem goodr_9 (l : Int) (a b : Bool) (d0 d1 d2 d3 d4 d5 d6 d7 : Int) (w : World) (h0 : 0 ≤ l) (h1 : l < 64) :
    Calls Try.prog 9 #[.agg #[.int .i64 9, .int .i64 l, .bool a, .bool b, .int .u64 d0, .int .u64 d1, .int .u64 d2, .int .u64 d3, .int .u64 d4, .int .u64 d5, .int .u64 d6, .int .u64 d7]] w fun e w' => e = .returned (.bool (goodM 9 l a b (zM d0 d1 d2 d3 d4 d5 d6 d7))) ∧ Below w.heap.size w w' := by
  have hi := info22
  have h1' : ¬ 63 < l := by omega
  cases a <;> cases b
  · go_enter Try.func9, Try.ntmps9
    go_wp2
    go_ret
    exact ⟨ret_bool (by simp [goodM, zM, h0, h1]), Below.al (Below.refl _ _) _⟩
  · go_enter Try.func9, Try.ntmps9
    go_wp2
    go_ret
    exact ⟨ret_bool (by simp [goodM, zM, h0, h1]), Below.al (Below.refl _ _) _⟩
  · go_enter Try.func9, Try.ntmps9
    go_wp2
    go_ret
    exact ⟨ret_bool (by simp [goodM, zM, h0, h1]), Below.al (Below.refl _ _) _⟩
  · go_enter Try.func9, Try.ntmps9
    go_wp2
    go_ret
    exact ⟨ret_bool (by simp [goodM, zM, h0, h1]), Below.al (Below.refl _ _) _⟩

set_option maxHeartbeats 4000000 in
theorem goodr_10 (l : Int) (a b : Bool) (d0 d1 d2 d3 d4 d5 d6 d7 : Int) (w : World) (h0 : 0 ≤ l) (h1 : l < 64) :
    Calls Try.prog 9 #[.agg #[.int .i64 10, .int .i64 l, .bool a, .bool b, .int .u64 d0, .int .u64 d1, .int .u64 d2, .int .u64 d3, .int .u64 d4, .int .u64 d5, .int .u64 d6, .int .u64 d7]] w fun e w' => e = .returned (.bool (goodM 10 l a b (zM d0 d1 d2 d3 d4 d5 d6 d7))) ∧ Below w.heap.size w w' := by
  have hi := info22
  have h1' : ¬ 63 < l := by omega
  cases a <;> cases b
  · go_enter Try.func9, Try.ntmps9
    go_wp2
    go_ret
    exact ⟨ret_bool (by simp [goodM, zM, h0, h1]), Below.al (Below.refl _ _) _⟩
  · go_enter Try.func9, Try.ntmps9
    go_wp2
    go_ret
    exact ⟨ret_bool (by simp [goodM, zM, h0, h1]), Below.al (Below.refl _ _) _⟩
  · go_enter Try.func9, Try.ntmps9
    go_wp2
    go_ret
    exact ⟨ret_bool (by simp [goodM, zM, h0, h1]), Below.al (Below.refl _ _) _⟩
  · go_enter Try.func9, Try.ntmps9
    go_wp2
    go_ret
    exact ⟨ret_bool (by simp [goodM, zM, h0, h1]), Below.al (Below.refl _ _) _⟩

set_option maxHeartbeats 4000000 in
theorem goodr_11 (l : Int) (a b : Bool) (d0 d1 d2 d3 d4 d5 d6 d7 : Int) (w : World) (h0 : 0 ≤ l) (h1 : l < 64) :
    Calls Try.prog 9 #[.agg #[.int .i64 11, .int .i64 l, .bool a, .bool b, .int .u64 d0, .int .u64 d1, .int .u64 d2, .int .u64 d3, .int .u64 d4, .int .u64 d5, .int .u64 d6, .int .u64 d7]] w fun e w' => e = .returned (.bool (goodM 11 l a b (zM d0 d1 d2 d3 d4 d5 d6 d7))) ∧ Below w.heap.size w w' := by
  have hi := info22
  have h1' : ¬ 63 < l := by omega
  cases a <;> cases b
  · go_enter Try.func9, Try.ntmps9
    go_wp2
    go_ret
    exact ⟨ret_bool (by simp [goodM, zM, h0, h1]), Below.al (Below.refl _ _) _⟩
  · go_enter Try.func9, Try.ntmps9
    go_wp2
    go_ret
    exact ⟨ret_bool (by simp [goodM, zM, h0, h1]), Below.al (Below.refl _ _) _⟩
  · go_enter Try.func9, Try.ntmps9
    go_wp2
    go_ret
    exact ⟨ret_bool (by simp [goodM, zM, h0, h1]), Below.al (Below.refl _ _) _⟩
  · go_enter Try.func9, Try.ntmps9
    go_wp2
    go_ret
    exact ⟨ret_bool (by simp [goodM, zM, h0, h1]), Below.al (Below.refl _ _) _⟩

set_option maxHeartbeats 4000000 in
theorem goodr_12 (l : Int) (a b : Bool) (d0 d1 d2 d3 d4 d5 d6 d7 : Int) (w : World) (h0 : 0 ≤ l) (h1 : l < 64) :
    Calls Try.prog 9 #[.agg #[.int .i64 12, .int .i64 l, .bool a, .bool b, .int .u64 d0, .int .u64 d1, .int .u64 d2, .int .u64 d3, .int .u64 d4, .int .u64 d5, .int .u64 d6, .int .u64 d7]] w fun e w' => e = .returned (.bool (goodM 12 l a b (zM d0 d1 d2 d3 d4 d5 d6 d7))) ∧ Below w.heap.size w w' := by
  have hi := info22
  have h1' : ¬ 63 < l := by omega
  cases a <;> cases b
  · go_enter Try.func9, Try.ntmps9
    go_wp2
    go_ret
    exact ⟨ret_bool (by simp [goodM, zM, h0, h1]), Below.al (Below.refl _ _) _⟩
  · go_enter Try.func9, Try.ntmps9
    go_wp2
    go_ret
    exact ⟨ret_bool (by simp [goodM, zM, h0, h1]), Below.al (Below.refl _ _) _⟩
  · go_enter Try.func9, Try.ntmps9
    go_wp2
    go_ret
    exact ⟨ret_bool (by simp [goodM, zM, h0, h1]), Below.al (Below.refl _ _) _⟩
  · go_enter Try.func9, Try.ntmps9
    go_wp2
    go_ret
    exact ⟨ret_bool (by simp [goodM, zM, h0, h1]), Below.al (Below.refl _ _) _⟩

set_option maxHeartbeats 4000000 in
theorem goodr_13 (l : Int) (a b : Bool) (d0 d1 d2 d3 d4 d5 d6 d7 : Int) (w : World) (h0 : 0 ≤ l) (h1 : l < 64) :
    Calls Try.prog 9 #[.agg #[.int .i64 13, .int .i64 l, .bool a, .bool b, .int .u64 d0, .int .u64 d1, .int .u64 d2, .int .u64 d3, .int .u64 d4, .int .u64 d5, .int .u64 d6, .int .u64 d7]] w fun e w' => e = .returned (.bool (goodM 13 l a b (zM d0 d1 d2 d3 d4 d5 d6 d7))) ∧ Below w.heap.size w w' := by
  have hi := info22
  have h1' : ¬ 63 < l := by omega
  cases a <;> cases b
  · go_enter Try.func9, Try.ntmps9
    go_wp2
    go_ret
    exact ⟨ret_bool (by simp [goodM, zM, h0, h1]), Below.al (Below.refl _ _) _⟩
  · go_enter Try.func9, Try.ntmps9
    go_wp2
    go_ret
    exact ⟨ret_bool (by simp [goodM, zM, h0, h1]), Below.al (Below.refl _ _) _⟩
  · go_enter Try.func9, Try.ntmps9
    go_wp2
    go_ret
    exact ⟨ret_bool (by simp [goodM, zM, h0, h1]), Below.al (Below.refl _ _) _⟩
  · go_enter Try.func9, Try.ntmps9
    go_wp2
    go_ret
    exact ⟨ret_bool (by simp [goodM, zM, h0, h1]), Below.al (Below.refl _ _) _⟩

set_option maxHeartbeats 4000000 in
theorem goodr_14 (l : Int) (a b : Bool) (d0 d1 d2 d3 d4 d5 d6 d7 : Int) (w : World) (h0 : 0 ≤ l) (h1 : l < 64) :
    Calls Try.prog 9 #[.agg #[.int .i64 14, .int .i64 l, .bool a, .bool b, .int .u64 d0, .int .u64 d1, .int .u64 d2, .int .u64 d3, .int .u64 d4, .int .u64 d5, .int .u64 d6, .int .u64 d7]] w fun e w' => e = .returned (.bool (goodM 14 l a b (zM d0 d1 d2 d3 d4 d5 d6 d7))) ∧ Below w.heap.size w w' := by
  have hi := info22
  have h1' : ¬ 63 < l := by omega
  cases a <;> cases b
  · go_enter Try.func9, Try.ntmps9
    go_wp2
    go_ret
    exact ⟨ret_bool (by simp [goodM, zM, h0, h1]), Below.al (Below.refl _ _) _⟩
  · go_enter Try.func9, Try.ntmps9
    go_wp2
    go_ret
    exact ⟨ret_bool (by simp [goodM, zM, h0, h1]), Below.al (Below.refl _ _) _⟩
  · go_enter Try.func9, Try.ntmps9
    go_wp2
    go_ret
    exact ⟨ret_bool (by simp [goodM, zM, h0, h1]), Below.al (Below.refl _ _) _⟩
  · go_enter Try.func9, Try.ntmps9
    go_wp2
    go_ret
    exact ⟨ret_bool (by simp [goodM, zM, h0, h1]), Below.al (Below.refl _ _) _⟩
end Go.Proofs.Ytjkckcmogpipmaa

