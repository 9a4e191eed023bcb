/-
  The reference's Good, kinds 1 to 7.
-/
import Derived.Test.YtjkckcmogpipmaaGood0
namespace Go.Proofs.Ytjkckcmogpipmaa
open Go.RowKit
attribute [local go_sem ↓] Go.wp_at_zero Go.wp_at_succ

set_option maxHeartbeats 4000000 in
theorem goodr_1 (l : Int) (a b : Bool) (d0 d1 d2 d3 d4 d5 d6 d7 : Int) (w : World) (h0 : 0 ≤ l) (h1 : l < 64) :
    Calls Try.prog 9 #[.agg #[.int .i64 1, .int .i64 l, .bool a, .bool b, .int .u64 d0, .int .u64 d1, .int .u64 d2, .int .u64 d3, .int .u64 d4, .int .u64 d5, .int .u64 d6, .int .u64 d7]] w fun e w' => e = .returned (.bool (goodM 1 l a b (zM d0 d1 d2 d3 d4 d5 d6 d7))) ∧ Below w.heap.size w w' := by
  have hi := info22
  have h1' : ¬ 63 < l := by omega
  cases a <;> cases b
  · go_enter Try.func9, Try.ntmps9
    go_wp2
    go_ret
    exact ⟨ret_bool (by simp [goodM, zM, h0, h1]), Below.al (Below.refl _ _) _⟩
  · go_enter Try.func9, Try.ntmps9
    go_wp2
    go_ret
    exact ⟨ret_bool (by simp [goodM, zM, h0, h1]), Below.al (Below.refl _ _) _⟩
  · go_enter Try.func9, Try.ntmps9
    go_wp2
    go_ret
    exact ⟨ret_bool (by simp [goodM, zM, h0, h1]), Below.al (Below.refl _ _) _⟩
  · go_enter Try.func9, Try.ntmps9
    go_wp2
    go_ret
    exact ⟨ret_bool (by simp [goodM, zM, h0, h1]), Below.al (Below.refl _ _) _⟩

set_option maxHeartbeats 4000000 in
theorem goodr_2 (l : Int) (a b : Bool) (d0 d1 d2 d3 d4 d5 d6 d7 : Int) (w : World) (h0 : 0 ≤ l) (h1 : l < 64) :
    Calls Try.prog 9 #[.agg #[.int .i64 2, .int .i64 l, .bool a, .bool b, .int .u64 d0, .int .u64 d1, .int .u64 d2, .int .u64 d3, .int .u64 d4, .int .u64 d5, .int .u64 d6, .int .u64 d7]] w fun e w' => e = .returned (.bool (goodM 2 l a b (zM d0 d1 d2 d3 d4 d5 d6 d7))) ∧ Below w.heap.size w w' := by
  have hi := info22
  have h1' : ¬ 63 < l := by omega
  cases a <;> cases b
  · go_enter Try.func9, Try.ntmps9
    go_wp2
    go_ret
    exact ⟨ret_bool (by simp [goodM, zM, h0, h1]), Below.al (Below.refl _ _) _⟩
  · go_enter Try.func9, Try.ntmps9
    go_wp2
    go_ret
    exact ⟨ret_bool (by simp [goodM, zM, h0, h1]), Below.al (Below.refl _ _) _⟩
  · go_enter Try.func9, Try.ntmps9
    go_wp2
    go_ret
    exact ⟨ret_bool (by simp [goodM, zM, h0, h1]), Below.al (Below.refl _ _) _⟩
  · go_enter Try.func9, Try.ntmps9
    go_wp2
    go_ret
    exact ⟨ret_bool (by simp [goodM, zM, h0, h1]), Below.al (Below.refl _ _) _⟩

set_option maxHeartbeats 4000000 in
theorem goodr_3 (l : Int) (a b : Bool) (d0 d1 d2 d3 d4 d5 d6 d7 : Int) (w : World) (h0 : 0 ≤ l) (h1 : l < 64) :
    Calls Try.prog 9 #[.agg #[.int .i64 3, .int .i64 l, .bool a, .bool b, .int .u64 d0, .int .u64 d1, .int .u64 d2, .int .u64 d3, .int .u64 d4, .int .u64 d5, .int .u64 d6, .int .u64 d7]] w fun e w' => e = .returned (.bool (goodM 3 l a b (zM d0 d1 d2 d3 d4 d5 d6 d7))) ∧ Below w.heap.size w w' := by
  have hi := info22
  have h1' : ¬ 63 < l := by omega
  cases a <;> cases b
  · go_enter Try.func9, Try.ntmps9
    go_wp2
    go_ret
    exact ⟨ret_bool (by simp [goodM, zM, h0, h1]), Below.al (Below.refl _ _) _⟩
  · go_enter Try.func9, Try.ntmps9
    go_wp2
    go_ret
    exact ⟨ret_bool (by simp [goodM, zM, h0, h1]), Below.al (Below.refl _ _) _⟩
  · go_enter Try.func9, Try.ntmps9
    go_wp2
    go_ret
    exact ⟨ret_bool (by simp [goodM, zM, h0, h1]), Below.al (Below.refl _ _) _⟩
  · go_enter Try.func9, Try.ntmps9
    go_wp2
    go_ret
    exact ⟨ret_bool (by simp [goodM, zM, h0, h1]), Below.al (Below.refl _ _) _⟩

set_option maxHeartbeats 4000000 in
theorem goodr_4 (l : Int) (a b : Bool) (d0 d1 d2 d3 d4 d5 d6 d7 : Int) (w : World) (h0 : 0 ≤ l) (h1 : l < 64) :
    Calls Try.prog 9 #[.agg #[.int .i64 4, .int .i64 l, .bool a, .bool b, .int .u64 d0, .int .u64 d1, .int .u64 d2, .int .u64 d3, .int .u64 d4, .int .u64 d5, .int .u64 d6, .int .u64 d7]] w fun e w' => e = .returned (.bool (goodM 4 l a b (zM d0 d1 d2 d3 d4 d5 d6 d7))) ∧ Below w.heap.size w w' := by
  have hi := info22
  have h1' : ¬ 63 < l := by omega
  cases a <;> cases b
  · go_enter Try.func9, Try.ntmps9
    go_wp2
    go_ret
    exact ⟨ret_bool (by simp [goodM, zM, h0, h1]), Below.al (Below.refl _ _) _⟩
  · go_enter Try.func9, Try.ntmps9
    go_wp2
    go_ret
    exact ⟨ret_bool (by simp [goodM, zM, h0, h1]), Below.al (Below.refl _ _) _⟩
  · go_enter Try.func9, Try.ntmps9
    go_wp2
    go_ret
    exact ⟨ret_bool (by simp [goodM, zM, h0, h1]), Below.al (Below.refl _ _) _⟩
  · go_enter Try.func9, Try.ntmps9
    go_wp2
    go_ret
    exact ⟨ret_bool (by simp [goodM, zM, h0, h1]), Below.al (Below.refl _ _) _⟩

set_option maxHeartbeats 4000000 in
theorem goodr_5 (l : Int) (a b : Bool) (d0 d1 d2 d3 d4 d5 d6 d7 : Int) (w : World) (h0 : 0 ≤ l) (h1 : l < 64) :
    Calls Try.prog 9 #[.agg #[.int .i64 5, .int .i64 l, .bool a, .bool b, .int .u64 d0, .int .u64 d1, .int .u64 d2, .int .u64 d3, .int .u64 d4, .int .u64 d5, .int .u64 d6, .int .u64 d7]] w fun e w' => e = .returned (.bool (goodM 5 l a b (zM d0 d1 d2 d3 d4 d5 d6 d7))) ∧ Below w.heap.size w w' := by
  have hi := info22
  have h1' : ¬ 63 < l := by omega
  cases a <;> cases b
  · go_enter Try.func9, Try.ntmps9
    go_wp2
    go_ret
    exact ⟨ret_bool (by simp [goodM, zM, h0, h1]), Below.al (Below.refl _ _) _⟩
  · go_enter Try.func9, Try.ntmps9
    go_wp2
    go_ret
    exact ⟨ret_bool (by simp [goodM, zM, h0, h1]), Below.al (Below.refl _ _) _⟩
  · go_enter Try.func9, Try.ntmps9
    go_wp2
    go_ret
    exact ⟨ret_bool (by simp [goodM, zM, h0, h1]), Below.al (Below.refl _ _) _⟩
  · go_enter Try.func9, Try.ntmps9
    go_wp2
    go_ret
    exact ⟨ret_bool (by simp [goodM, zM, h0, h1]), Below.al (Below.refl _ _) _⟩

set_option maxHeartbeats 4000000 in
theorem goodr_6 (l : Int) (a b : Bool) (d0 d1 d2 d3 d4 d5 d6 d7 : Int) (w : World) (h0 : 0 ≤ l) (h1 : l < 64) :
    Calls Try.prog 9 #[.agg #[.int .i64 6, .int .i64 l, .bool a, .bool b, .int .u64 d0, .int .u64 d1, .int .u64 d2, .int .u64 d3, .int .u64 d4, .int .u64 d5, .int .u64 d6, .int .u64 d7]] w fun e w' => e = .returned (.bool (goodM 6 l a b (zM d0 d1 d2 d3 d4 d5 d6 d7))) ∧ Below w.heap.size w w' := by
  have hi := info22
  have h1' : ¬ 63 < l := by omega
  cases a <;> cases b
  · go_enter Try.func9, Try.ntmps9
    go_wp2
    go_ret
    exact ⟨ret_bool (by simp [goodM, zM, h0, h1]), Below.al (Below.refl _ _) _⟩
  · go_enter Try.func9, Try.ntmps9
    go_wp2
    go_ret
    exact ⟨ret_bool (by simp [goodM, zM, h0, h1]), Below.al (Below.refl _ _) _⟩
  · go_enter Try.func9, Try.ntmps9
    go_wp2
    go_ret
    exact ⟨ret_bool (by simp [goodM, zM, h0, h1]), Below.al (Below.refl _ _) _⟩
  · go_enter Try.func9, Try.ntmps9
    go_wp2
    go_ret
    exact ⟨ret_bool (by simp [goodM, zM, h0, h1]), Below.al (Below.refl _ _) _⟩

set_option maxHeartbeats 4000000 in
theorem goodr_7 (l : Int) (a b : Bool) (d0 d1 d2 d3 d4 d5 d6 d7 : Int) (w : World) (h0 : 0 ≤ l) (h1 : l < 64) :
    Calls Try.prog 9 #[.agg #[.int .i64 7, .int .i64 l, .bool a, .bool b, .int .u64 d0, .int .u64 d1, .int .u64 d2, .int .u64 d3, .int .u64 d4, .int .u64 d5, .int .u64 d6, .int .u64 d7]] w fun e w' => e = .returned (.bool (goodM 7 l a b (zM d0 d1 d2 d3 d4 d5 d6 d7))) ∧ Below w.heap.size w w' := by
  have hi := info22
  have h1' : ¬ 63 < l := by omega
  cases a <;> cases b
  · go_enter Try.func9, Try.ntmps9
    go_wp2
    go_ret
    exact ⟨ret_bool (by simp [goodM, zM, h0, h1]), Below.al (Below.refl _ _) _⟩
  · go_enter Try.func9, Try.ntmps9
    go_wp2
    go_ret
    exact ⟨ret_bool (by simp [goodM, zM, h0, h1]), Below.al (Below.refl _ _) _⟩
  · go_enter Try.func9, Try.ntmps9
    go_wp2
    go_ret
    exact ⟨ret_bool (by simp [goodM, zM, h0, h1]), Below.al (Below.refl _ _) _⟩
  · go_enter Try.func9, Try.ntmps9
    go_wp2
    go_ret
    exact ⟨ret_bool (by simp [goodM, zM, h0, h1]), Below.al (Below.refl _ _) _⟩
end Go.Proofs.Ytjkckcmogpipmaa

