/-
  msg.Good, kinds 8 to 14.
-/
import Derived.Test.YtjkckcmogpipmaaGood0
namespace Go.Proofs.Ytjkckcmogpipmaa
open Go.RowKit
attribute [local go_sem ↓] Go.wp_at_zero Go.wp_at_succ

set_option maxHeartbeats 4000000 in
theorem good_8 (l : Int) (a b : Bool) (d0 d1 d2 d3 d4 d5 d6 d7 : Int) (w : World) (h0 : 0 ≤ l) (h1 : l < 64) :
    Calls Try.prog 8 #[.agg #[.int .i64 8, .int .i64 l, .bool a, .bool b, .int .u64 d0, .int .u64 d1, .int .u64 d2, .int .u64 d3, .int .u64 d4, .int .u64 d5, .int .u64 d6, .int .u64 d7]] w fun e w' => e = .returned (.bool (goodM 8 l a b (zM d0 d1 d2 d3 d4 d5 d6 d7))) ∧ Below w.heap.size w w' := by
  have i0 : ∀ w, (Instr.index 47 (.agg #[.int .i64 0, .int .i64 0, .int .i64 0, .int .i64 1, .int .i64 0, .int .i64 0, .int .i64 1, .int .i64 3, .int .i64 4, .int .i64 4, .int .i64 4, .int .i64 0, .int .i64 0, .int .i64 0, .int .i64 0]) (.int .i64 8)).run Try.prog w = .ok (.int .i64 4) w := fun _ => by kernel_rfl
  have hi := info22
  cases a <;> cases b
  · go_enter Try.func8, Try.ntmps8
    go_wp2_with fail
    go_region_held3 (fun w' => Below (w.heap.size + 1) (w.alloc (.cells #[.int .i64 8, .int .i64 l, .bool false, .bool false, .int .u64 d0, .int .u64 d1, .int .u64 d2, .int .u64 d3, .int .u64 d4, .int .u64 d5, .int .u64 d6, .int .u64 d7] 26)) w' ∧ (∀ b' o, b' < w.heap.size + 1 → w'.cell? ⟨b', o, none⟩ = (w.alloc (.cells #[.int .i64 8, .int .i64 l, .bool false, .bool false, .int .u64 d0, .int .u64 d1, .int .u64 d2, .int .u64 d3, .int .u64 d4, .int .u64 d5, .int .u64 d6, .int .u64 d7] 26)).cell? ⟨b', o, none⟩)) (first | exact stay_drew | assumption | exact stay_step (by simp) (by assumption) (by assumption)) ((go_at_call 24; refine (may_any _).mono ?_; rintro e w1 ⟨rfl, hb⟩))
    go_wp2
    go_ret
    exact ⟨ret_bool (by simp [goodM, zM, h0, h1]), Below.then (Below.drew (Below.al (Below.refl _ _) _)) hb⟩
  · go_enter Try.func8, Try.ntmps8
    go_wp2_with fail
    go_region_held3 (fun w' => Below (w.heap.size + 1) (w.alloc (.cells #[.int .i64 8, .int .i64 l, .bool false, .bool true, .int .u64 d0, .int .u64 d1, .int .u64 d2, .int .u64 d3, .int .u64 d4, .int .u64 d5, .int .u64 d6, .int .u64 d7] 26)) w' ∧ (∀ b' o, b' < w.heap.size + 1 → w'.cell? ⟨b', o, none⟩ = (w.alloc (.cells #[.int .i64 8, .int .i64 l, .bool false, .bool true, .int .u64 d0, .int .u64 d1, .int .u64 d2, .int .u64 d3, .int .u64 d4, .int .u64 d5, .int .u64 d6, .int .u64 d7] 26)).cell? ⟨b', o, none⟩)) (first | exact stay_drew | assumption | exact stay_step (by simp) (by assumption) (by assumption)) ((go_at_call 24; refine (may_any _).mono ?_; rintro e w1 ⟨rfl, hb⟩))
    go_wp2
    go_ret
    exact ⟨ret_bool (by simp [goodM, zM, h0, h1]), Below.then (Below.drew (Below.al (Below.refl _ _) _)) hb⟩
  · go_enter Try.func8, Try.ntmps8
    go_wp2_with fail
    go_region_held3 (fun w' => Below (w.heap.size + 1) (w.alloc (.cells #[.int .i64 8, .int .i64 l, .bool true, .bool false, .int .u64 d0, .int .u64 d1, .int .u64 d2, .int .u64 d3, .int .u64 d4, .int .u64 d5, .int .u64 d6, .int .u64 d7] 26)) w' ∧ (∀ b' o, b' < w.heap.size + 1 → w'.cell? ⟨b', o, none⟩ = (w.alloc (.cells #[.int .i64 8, .int .i64 l, .bool true, .bool false, .int .u64 d0, .int .u64 d1, .int .u64 d2, .int .u64 d3, .int .u64 d4, .int .u64 d5, .int .u64 d6, .int .u64 d7] 26)).cell? ⟨b', o, none⟩)) (first | exact stay_drew | assumption | exact stay_step (by simp) (by assumption) (by assumption)) ((go_at_call 24; refine (may_any _).mono ?_; rintro e w1 ⟨rfl, hb⟩))
    go_wp2
    go_ret
    exact ⟨ret_bool (by simp [goodM, zM, h0, h1]), Below.then (Below.drew (Below.al (Below.refl _ _) _)) hb⟩
  · go_enter Try.func8, Try.ntmps8
    go_wp2_with fail
    go_region_held3 (fun w' => Below (w.heap.size + 1) (w.alloc (.cells #[.int .i64 8, .int .i64 l, .bool true, .bool true, .int .u64 d0, .int .u64 d1, .int .u64 d2, .int .u64 d3, .int .u64 d4, .int .u64 d5, .int .u64 d6, .int .u64 d7] 26)) w' ∧ (∀ b' o, b' < w.heap.size + 1 → w'.cell? ⟨b', o, none⟩ = (w.alloc (.cells #[.int .i64 8, .int .i64 l, .bool true, .bool true, .int .u64 d0, .int .u64 d1, .int .u64 d2, .int .u64 d3, .int .u64 d4, .int .u64 d5, .int .u64 d6, .int .u64 d7] 26)).cell? ⟨b', o, none⟩)) (first | exact stay_drew | assumption | exact stay_step (by simp) (by assumption) (by assumption)) ((go_at_call 24; refine (may_any _).mono ?_; rintro e w1 ⟨rfl, hb⟩))
    go_wp2
    go_ret
    exact ⟨ret_bool (by simp [goodM, zM, h0, h1]), Below.then (Below.drew (Below.al (Below.refl _ _) _)) hb⟩

set_option maxHeartbeats 4000000 in
theorem good_9 (l : Int) (a b : Bool) (d0 d1 d2 d3 d4 d5 d6 d7 : Int) (w : World) (h0 : 0 ≤ l) (h1 : l < 64) :
    Calls Try.prog 8 #[.agg #[.int .i64 9, .int .i64 l, .bool a, .bool b, .int .u64 d0, .int .u64 d1, .int .u64 d2, .int .u64 d3, .int .u64 d4, .int .u64 d5, .int .u64 d6, .int .u64 d7]] w fun e w' => e = .returned (.bool (goodM 9 l a b (zM d0 d1 d2 d3 d4 d5 d6 d7))) ∧ Below w.heap.size w w' := by
  have i0 : ∀ w, (Instr.index 47 (.agg #[.int .i64 0, .int .i64 0, .int .i64 0, .int .i64 1, .int .i64 0, .int .i64 0, .int .i64 1, .int .i64 3, .int .i64 4, .int .i64 4, .int .i64 4, .int .i64 0, .int .i64 0, .int .i64 0, .int .i64 0]) (.int .i64 9)).run Try.prog w = .ok (.int .i64 4) w := fun _ => by kernel_rfl
  have hi := info22
  cases a <;> cases b
  · go_enter Try.func8, Try.ntmps8
    go_wp2_with fail
    go_region_held3 (fun w' => Below (w.heap.size + 1) (w.alloc (.cells #[.int .i64 9, .int .i64 l, .bool false, .bool false, .int .u64 d0, .int .u64 d1, .int .u64 d2, .int .u64 d3, .int .u64 d4, .int .u64 d5, .int .u64 d6, .int .u64 d7] 26)) w' ∧ (∀ b' o, b' < w.heap.size + 1 → w'.cell? ⟨b', o, none⟩ = (w.alloc (.cells #[.int .i64 9, .int .i64 l, .bool false, .bool false, .int .u64 d0, .int .u64 d1, .int .u64 d2, .int .u64 d3, .int .u64 d4, .int .u64 d5, .int .u64 d6, .int .u64 d7] 26)).cell? ⟨b', o, none⟩)) (first | exact stay_drew | assumption | exact stay_step (by simp) (by assumption) (by assumption)) ((go_at_call 24; refine (may_any _).mono ?_; rintro e w1 ⟨rfl, hb⟩))
    go_wp2
    go_ret
    exact ⟨ret_bool (by simp [goodM, zM, h0, h1]), Below.then (Below.drew (Below.al (Below.refl _ _) _)) hb⟩
  · go_enter Try.func8, Try.ntmps8
    go_wp2_with fail
    go_region_held3 (fun w' => Below (w.heap.size + 1) (w.alloc (.cells #[.int .i64 9, .int .i64 l, .bool false, .bool true, .int .u64 d0, .int .u64 d1, .int .u64 d2, .int .u64 d3, .int .u64 d4, .int .u64 d5, .int .u64 d6, .int .u64 d7] 26)) w' ∧ (∀ b' o, b' < w.heap.size + 1 → w'.cell? ⟨b', o, none⟩ = (w.alloc (.cells #[.int .i64 9, .int .i64 l, .bool false, .bool true, .int .u64 d0, .int .u64 d1, .int .u64 d2, .int .u64 d3, .int .u64 d4, .int .u64 d5, .int .u64 d6, .int .u64 d7] 26)).cell? ⟨b', o, none⟩)) (first | exact stay_drew | assumption | exact stay_step (by simp) (by assumption) (by assumption)) ((go_at_call 24; refine (may_any _).mono ?_; rintro e w1 ⟨rfl, hb⟩))
    go_wp2
    go_ret
    exact ⟨ret_bool (by simp [goodM, zM, h0, h1]), Below.then (Below.drew (Below.al (Below.refl _ _) _)) hb⟩
  · go_enter Try.func8, Try.ntmps8
    go_wp2_with fail
    go_region_held3 (fun w' => Below (w.heap.size + 1) (w.alloc (.cells #[.int .i64 9, .int .i64 l, .bool true, .bool false, .int .u64 d0, .int .u64 d1, .int .u64 d2, .int .u64 d3, .int .u64 d4, .int .u64 d5, .int .u64 d6, .int .u64 d7] 26)) w' ∧ (∀ b' o, b' < w.heap.size + 1 → w'.cell? ⟨b', o, none⟩ = (w.alloc (.cells #[.int .i64 9, .int .i64 l, .bool true, .bool false, .int .u64 d0, .int .u64 d1, .int .u64 d2, .int .u64 d3, .int .u64 d4, .int .u64 d5, .int .u64 d6, .int .u64 d7] 26)).cell? ⟨b', o, none⟩)) (first | exact stay_drew | assumption | exact stay_step (by simp) (by assumption) (by assumption)) ((go_at_call 24; refine (may_any _).mono ?_; rintro e w1 ⟨rfl, hb⟩))
    go_wp2
    go_ret
    exact ⟨ret_bool (by simp [goodM, zM, h0, h1]), Below.then (Below.drew (Below.al (Below.refl _ _) _)) hb⟩
  · go_enter Try.func8, Try.ntmps8
    go_wp2_with fail
    go_region_held3 (fun w' => Below (w.heap.size + 1) (w.alloc (.cells #[.int .i64 9, .int .i64 l, .bool true, .bool true, .int .u64 d0, .int .u64 d1, .int .u64 d2, .int .u64 d3, .int .u64 d4, .int .u64 d5, .int .u64 d6, .int .u64 d7] 26)) w' ∧ (∀ b' o, b' < w.heap.size + 1 → w'.cell? ⟨b', o, none⟩ = (w.alloc (.cells #[.int .i64 9, .int .i64 l, .bool true, .bool true, .int .u64 d0, .int .u64 d1, .int .u64 d2, .int .u64 d3, .int .u64 d4, .int .u64 d5, .int .u64 d6, .int .u64 d7] 26)).cell? ⟨b', o, none⟩)) (first | exact stay_drew | assumption | exact stay_step (by simp) (by assumption) (by assumption)) ((go_at_call 24; refine (may_any _).mono ?_; rintro e w1 ⟨rfl, hb⟩))
    go_wp2
    go_ret
    exact ⟨ret_bool (by simp [goodM, zM, h0, h1]), Below.then (Below.drew (Below.al (Below.refl _ _) _)) hb⟩

set_option maxHeartbeats 4000000 in
theorem good_10 (l : Int) (a b : Bool) (d0 d1 d2 d3 d4 d5 d6 d7 : Int) (w : World) (h0 : 0 ≤ l) (h1 : l < 64) :
    Calls Try.prog 8 #[.agg #[.int .i64 10, .int .i64 l, .bool a, .bool b, .int .u64 d0, .int .u64 d1, .int .u64 d2, .int .u64 d3, .int .u64 d4, .int .u64 d5, .int .u64 d6, .int .u64 d7]] w fun e w' => e = .returned (.bool (goodM 10 l a b (zM d0 d1 d2 d3 d4 d5 d6 d7))) ∧ Below w.heap.size w w' := by
  have i0 : ∀ w, (Instr.index 47 (.agg #[.int .i64 0, .int .i64 0, .int .i64 0, .int .i64 1, .int .i64 0, .int .i64 0, .int .i64 1, .int .i64 3, .int .i64 4, .int .i64 4, .int .i64 4, .int .i64 0, .int .i64 0, .int .i64 0, .int .i64 0]) (.int .i64 10)).run Try.prog w = .ok (.int .i64 4) w := fun _ => by kernel_rfl
  have hi := info22
  cases a <;> cases b
  · go_enter Try.func8, Try.ntmps8
    go_wp2_with fail
    go_region_held3 (fun w' => Below (w.heap.size + 1) (w.alloc (.cells #[.int .i64 10, .int .i64 l, .bool false, .bool false, .int .u64 d0, .int .u64 d1, .int .u64 d2, .int .u64 d3, .int .u64 d4, .int .u64 d5, .int .u64 d6, .int .u64 d7] 26)) w' ∧ (∀ b' o, b' < w.heap.size + 1 → w'.cell? ⟨b', o, none⟩ = (w.alloc (.cells #[.int .i64 10, .int .i64 l, .bool false, .bool false, .int .u64 d0, .int .u64 d1, .int .u64 d2, .int .u64 d3, .int .u64 d4, .int .u64 d5, .int .u64 d6, .int .u64 d7] 26)).cell? ⟨b', o, none⟩)) (first | exact stay_drew | assumption | exact stay_step (by simp) (by assumption) (by assumption)) ((go_at_call 24; refine (may_any _).mono ?_; rintro e w1 ⟨rfl, hb⟩))
    go_wp2
    go_ret
    exact ⟨ret_bool (by simp [goodM, zM, h0, h1]), Below.then (Below.drew (Below.al (Below.refl _ _) _)) hb⟩
  · go_enter Try.func8, Try.ntmps8
    go_wp2_with fail
    go_region_held3 (fun w' => Below (w.heap.size + 1) (w.alloc (.cells #[.int .i64 10, .int .i64 l, .bool false, .bool true, .int .u64 d0, .int .u64 d1, .int .u64 d2, .int .u64 d3, .int .u64 d4, .int .u64 d5, .int .u64 d6, .int .u64 d7] 26)) w' ∧ (∀ b' o, b' < w.heap.size + 1 → w'.cell? ⟨b', o, none⟩ = (w.alloc (.cells #[.int .i64 10, .int .i64 l, .bool false, .bool true, .int .u64 d0, .int .u64 d1, .int .u64 d2, .int .u64 d3, .int .u64 d4, .int .u64 d5, .int .u64 d6, .int .u64 d7] 26)).cell? ⟨b', o, none⟩)) (first | exact stay_drew | assumption | exact stay_step (by simp) (by assumption) (by assumption)) ((go_at_call 24; refine (may_any _).mono ?_; rintro e w1 ⟨rfl, hb⟩))
    go_wp2
    go_ret
    exact ⟨ret_bool (by simp [goodM, zM, h0, h1]), Below.then (Below.drew (Below.al (Below.refl _ _) _)) hb⟩
  · go_enter Try.func8, Try.ntmps8
    go_wp2_with fail
    go_region_held3 (fun w' => Below (w.heap.size + 1) (w.alloc (.cells #[.int .i64 10, .int .i64 l, .bool true, .bool false, .int .u64 d0, .int .u64 d1, .int .u64 d2, .int .u64 d3, .int .u64 d4, .int .u64 d5, .int .u64 d6, .int .u64 d7] 26)) w' ∧ (∀ b' o, b' < w.heap.size + 1 → w'.cell? ⟨b', o, none⟩ = (w.alloc (.cells #[.int .i64 10, .int .i64 l, .bool true, .bool false, .int .u64 d0, .int .u64 d1, .int .u64 d2, .int .u64 d3, .int .u64 d4, .int .u64 d5, .int .u64 d6, .int .u64 d7] 26)).cell? ⟨b', o, none⟩)) (first | exact stay_drew | assumption | exact stay_step (by simp) (by assumption) (by assumption)) ((go_at_call 24; refine (may_any _).mono ?_; rintro e w1 ⟨rfl, hb⟩))
    go_wp2
    go_ret
    exact ⟨ret_bool (by simp [goodM, zM, h0, h1]), Below.then (Below.drew (Below.al (Below.refl _ _) _)) hb⟩
  · go_enter Try.func8, Try.ntmps8
    go_wp2_with fail
    go_region_held3 (fun w' => Below (w.heap.size + 1) (w.alloc (.cells #[.int .i64 10, .int .i64 l, .bool true, .bool true, .int .u64 d0, .int .u64 d1, .int .u64 d2, .int .u64 d3, .int .u64 d4, .int .u64 d5, .int .u64 d6, .int .u64 d7] 26)) w' ∧ (∀ b' o, b' < w.heap.size + 1 → w'.cell? ⟨b', o, none⟩ = (w.alloc (.cells #[.int .i64 10, .int .i64 l, .bool true, .bool true, .int .u64 d0, .int .u64 d1, .int .u64 d2, .int .u64 d3, .int .u64 d4, .int .u64 d5, .int .u64 d6, .int .u64 d7] 26)).cell? ⟨b', o, none⟩)) (first | exact stay_drew | assumption | exact stay_step (by simp) (by assumption) (by assumption)) ((go_at_call 24; refine (may_any _).mono ?_; rintro e w1 ⟨rfl, hb⟩))
    go_wp2
    go_ret
    exact ⟨ret_bool (by simp [goodM, zM, h0, h1]), Below.then (Below.drew (Below.al (Below.refl _ _) _)) hb⟩

set_option maxHeartbeats 4000000 in
theorem good_11 (l : Int) (a b : Bool) (d0 d1 d2 d3 d4 d5 d6 d7 : Int) (w : World) (h0 : 0 ≤ l) (h1 : l < 64) :
    Calls Try.prog 8 #[.agg #[.int .i64 11, .int .i64 l, .bool a, .bool b, .int .u64 d0, .int .u64 d1, .int .u64 d2, .int .u64 d3, .int .u64 d4, .int .u64 d5, .int .u64 d6, .int .u64 d7]] w fun e w' => e = .returned (.bool (goodM 11 l a b (zM d0 d1 d2 d3 d4 d5 d6 d7))) ∧ Below w.heap.size w w' := by
  have i0 : ∀ w, (Instr.index 47 (.agg #[.int .i64 0, .int .i64 0, .int .i64 0, .int .i64 1, .int .i64 0, .int .i64 0, .int .i64 1, .int .i64 3, .int .i64 4, .int .i64 4, .int .i64 4, .int .i64 0, .int .i64 0, .int .i64 0, .int .i64 0]) (.int .i64 11)).run Try.prog w = .ok (.int .i64 0) w := fun _ => by kernel_rfl
  have hi := info22
  cases a <;> cases b
  · go_enter Try.func8, Try.ntmps8
    go_wp2_with fail
    go_region_held3 (fun w' => Below (w.heap.size + 1) (w.alloc (.cells #[.int .i64 11, .int .i64 l, .bool false, .bool false, .int .u64 d0, .int .u64 d1, .int .u64 d2, .int .u64 d3, .int .u64 d4, .int .u64 d5, .int .u64 d6, .int .u64 d7] 26)) w' ∧ (∀ b' o, b' < w.heap.size + 1 → w'.cell? ⟨b', o, none⟩ = (w.alloc (.cells #[.int .i64 11, .int .i64 l, .bool false, .bool false, .int .u64 d0, .int .u64 d1, .int .u64 d2, .int .u64 d3, .int .u64 d4, .int .u64 d5, .int .u64 d6, .int .u64 d7] 26)).cell? ⟨b', o, none⟩)) (first | exact stay_drew | assumption | exact stay_step (by simp) (by assumption) (by assumption)) ((go_at_call 24; refine (may_any _).mono ?_; rintro e w1 ⟨rfl, hb⟩))
    go_wp2
    go_ret
    exact ⟨ret_bool (by simp [goodM, zM, h0, h1]), Below.then (Below.drew (Below.al (Below.refl _ _) _)) hb⟩
  · go_enter Try.func8, Try.ntmps8
    go_wp2_with fail
    go_region_held3 (fun w' => Below (w.heap.size + 1) (w.alloc (.cells #[.int .i64 11, .int .i64 l, .bool false, .bool true, .int .u64 d0, .int .u64 d1, .int .u64 d2, .int .u64 d3, .int .u64 d4, .int .u64 d5, .int .u64 d6, .int .u64 d7] 26)) w' ∧ (∀ b' o, b' < w.heap.size + 1 → w'.cell? ⟨b', o, none⟩ = (w.alloc (.cells #[.int .i64 11, .int .i64 l, .bool false, .bool true, .int .u64 d0, .int .u64 d1, .int .u64 d2, .int .u64 d3, .int .u64 d4, .int .u64 d5, .int .u64 d6, .int .u64 d7] 26)).cell? ⟨b', o, none⟩)) (first | exact stay_drew | assumption | exact stay_step (by simp) (by assumption) (by assumption)) ((go_at_call 24; refine (may_any _).mono ?_; rintro e w1 ⟨rfl, hb⟩))
    go_wp2
    go_ret
    exact ⟨ret_bool (by simp [goodM, zM, h0, h1]), Below.then (Below.drew (Below.al (Below.refl _ _) _)) hb⟩
  · go_enter Try.func8, Try.ntmps8
    go_wp2_with fail
    go_region_held3 (fun w' => Below (w.heap.size + 1) (w.alloc (.cells #[.int .i64 11, .int .i64 l, .bool true, .bool false, .int .u64 d0, .int .u64 d1, .int .u64 d2, .int .u64 d3, .int .u64 d4, .int .u64 d5, .int .u64 d6, .int .u64 d7] 26)) w' ∧ (∀ b' o, b' < w.heap.size + 1 → w'.cell? ⟨b', o, none⟩ = (w.alloc (.cells #[.int .i64 11, .int .i64 l, .bool true, .bool false, .int .u64 d0, .int .u64 d1, .int .u64 d2, .int .u64 d3, .int .u64 d4, .int .u64 d5, .int .u64 d6, .int .u64 d7] 26)).cell? ⟨b', o, none⟩)) (first | exact stay_drew | assumption | exact stay_step (by simp) (by assumption) (by assumption)) ((go_at_call 24; refine (may_any _).mono ?_; rintro e w1 ⟨rfl, hb⟩))
    go_wp2
    go_ret
    exact ⟨ret_bool (by simp [goodM, zM, h0, h1]), Below.then (Below.drew (Below.al (Below.refl _ _) _)) hb⟩
  · go_enter Try.func8, Try.ntmps8
    go_wp2_with fail
    go_region_held3 (fun w' => Below (w.heap.size + 1) (w.alloc (.cells #[.int .i64 11, .int .i64 l, .bool true, .bool true, .int .u64 d0, .int .u64 d1, .int .u64 d2, .int .u64 d3, .int .u64 d4, .int .u64 d5, .int .u64 d6, .int .u64 d7] 26)) w' ∧ (∀ b' o, b' < w.heap.size + 1 → w'.cell? ⟨b', o, none⟩ = (w.alloc (.cells #[.int .i64 11, .int .i64 l, .bool true, .bool true, .int .u64 d0, .int .u64 d1, .int .u64 d2, .int .u64 d3, .int .u64 d4, .int .u64 d5, .int .u64 d6, .int .u64 d7] 26)).cell? ⟨b', o, none⟩)) (first | exact stay_drew | assumption | exact stay_step (by simp) (by assumption) (by assumption)) ((go_at_call 24; refine (may_any _).mono ?_; rintro e w1 ⟨rfl, hb⟩))
    go_wp2
    go_ret
    exact ⟨ret_bool (by simp [goodM, zM, h0, h1]), Below.then (Below.drew (Below.al (Below.refl _ _) _)) hb⟩

set_option maxHeartbeats 4000000 in
theorem good_12 (l : Int) (a b : Bool) (d0 d1 d2 d3 d4 d5 d6 d7 : Int) (w : World) (h0 : 0 ≤ l) (h1 : l < 64) :
    Calls Try.prog 8 #[.agg #[.int .i64 12, .int .i64 l, .bool a, .bool b, .int .u64 d0, .int .u64 d1, .int .u64 d2, .int .u64 d3, .int .u64 d4, .int .u64 d5, .int .u64 d6, .int .u64 d7]] w fun e w' => e = .returned (.bool (goodM 12 l a b (zM d0 d1 d2 d3 d4 d5 d6 d7))) ∧ Below w.heap.size w w' := by
  have i0 : ∀ w, (Instr.index 47 (.agg #[.int .i64 0, .int .i64 0, .int .i64 0, .int .i64 1, .int .i64 0, .int .i64 0, .int .i64 1, .int .i64 3, .int .i64 4, .int .i64 4, .int .i64 4, .int .i64 0, .int .i64 0, .int .i64 0, .int .i64 0]) (.int .i64 12)).run Try.prog w = .ok (.int .i64 0) w := fun _ => by kernel_rfl
  have hi := info22
  cases a <;> cases b
  · go_enter Try.func8, Try.ntmps8
    go_wp2_with fail
    go_region_held3 (fun w' => Below (w.heap.size + 1) (w.alloc (.cells #[.int .i64 12, .int .i64 l, .bool false, .bool false, .int .u64 d0, .int .u64 d1, .int .u64 d2, .int .u64 d3, .int .u64 d4, .int .u64 d5, .int .u64 d6, .int .u64 d7] 26)) w' ∧ (∀ b' o, b' < w.heap.size + 1 → w'.cell? ⟨b', o, none⟩ = (w.alloc (.cells #[.int .i64 12, .int .i64 l, .bool false, .bool false, .int .u64 d0, .int .u64 d1, .int .u64 d2, .int .u64 d3, .int .u64 d4, .int .u64 d5, .int .u64 d6, .int .u64 d7] 26)).cell? ⟨b', o, none⟩)) (first | exact stay_drew | assumption | exact stay_step (by simp) (by assumption) (by assumption)) ((go_at_call 24; refine (may_any _).mono ?_; rintro e w1 ⟨rfl, hb⟩))
    go_wp2
    go_ret
    exact ⟨ret_bool (by simp [goodM, zM, h0, h1]), Below.then (Below.drew (Below.al (Below.refl _ _) _)) hb⟩
  · go_enter Try.func8, Try.ntmps8
    go_wp2_with fail
    go_region_held3 (fun w' => Below (w.heap.size + 1) (w.alloc (.cells #[.int .i64 12, .int .i64 l, .bool false, .bool true, .int .u64 d0, .int .u64 d1, .int .u64 d2, .int .u64 d3, .int .u64 d4, .int .u64 d5, .int .u64 d6, .int .u64 d7] 26)) w' ∧ (∀ b' o, b' < w.heap.size + 1 → w'.cell? ⟨b', o, none⟩ = (w.alloc (.cells #[.int .i64 12, .int .i64 l, .bool false, .bool true, .int .u64 d0, .int .u64 d1, .int .u64 d2, .int .u64 d3, .int .u64 d4, .int .u64 d5, .int .u64 d6, .int .u64 d7] 26)).cell? ⟨b', o, none⟩)) (first | exact stay_drew | assumption | exact stay_step (by simp) (by assumption) (by assumption)) ((go_at_call 24; refine (may_any _).mono ?_; rintro e w1 ⟨rfl, hb⟩))
    go_wp2
    go_ret
    exact ⟨ret_bool (by simp [goodM, zM, h0, h1]), Below.then (Below.drew (Below.al (Below.refl _ _) _)) hb⟩
  · go_enter Try.func8, Try.ntmps8
    go_wp2_with fail
    go_region_held3 (fun w' => Below (w.heap.size + 1) (w.alloc (.cells #[.int .i64 12, .int .i64 l, .bool true, .bool false, .int .u64 d0, .int .u64 d1, .int .u64 d2, .int .u64 d3, .int .u64 d4, .int .u64 d5, .int .u64 d6, .int .u64 d7] 26)) w' ∧ (∀ b' o, b' < w.heap.size + 1 → w'.cell? ⟨b', o, none⟩ = (w.alloc (.cells #[.int .i64 12, .int .i64 l, .bool true, .bool false, .int .u64 d0, .int .u64 d1, .int .u64 d2, .int .u64 d3, .int .u64 d4, .int .u64 d5, .int .u64 d6, .int .u64 d7] 26)).cell? ⟨b', o, none⟩)) (first | exact stay_drew | assumption | exact stay_step (by simp) (by assumption) (by assumption)) ((go_at_call 24; refine (may_any _).mono ?_; rintro e w1 ⟨rfl, hb⟩))
    go_wp2
    go_ret
    exact ⟨ret_bool (by simp [goodM, zM, h0, h1]), Below.then (Below.drew (Below.al (Below.refl _ _) _)) hb⟩
  · go_enter Try.func8, Try.ntmps8
    go_wp2_with fail
    go_region_held3 (fun w' => Below (w.heap.size + 1) (w.alloc (.cells #[.int .i64 12, .int .i64 l, .bool true, .bool true, .int .u64 d0, .int .u64 d1, .int .u64 d2, .int .u64 d3, .int .u64 d4, .int .u64 d5, .int .u64 d6, .int .u64 d7] 26)) w' ∧ (∀ b' o, b' < w.heap.size + 1 → w'.cell? ⟨b', o, none⟩ = (w.alloc (.cells #[.int .i64 12, .int .i64 l, .bool true, .bool true, .int .u64 d0, .int .u64 d1, .int .u64 d2, .int .u64 d3, .int .u64 d4, .int .u64 d5, .int .u64 d6, .int .u64 d7] 26)).cell? ⟨b', o, none⟩)) (first | exact stay_drew | assumption | exact stay_step (by simp) (by assumption) (by assumption)) ((go_at_call 24; refine (may_any _).mono ?_; rintro e w1 ⟨rfl, hb⟩))
    go_wp2
    go_ret
    exact ⟨ret_bool (by simp [goodM, zM, h0, h1]), Below.then (Below.drew (Below.al (Below.refl _ _) _)) hb⟩

set_option maxHeartbeats 4000000 in
theorem good_13 (l : Int) (a b : Bool) (d0 d1 d2 d3 d4 d5 d6 d7 : Int) (w : World) (h0 : 0 ≤ l) (h1 : l < 64) :
    Calls Try.prog 8 #[.agg #[.int .i64 13, .int .i64 l, .bool a, .bool b, .int .u64 d0, .int .u64 d1, .int .u64 d2, .int .u64 d3, .int .u64 d4, .int .u64 d5, .int .u64 d6, .int .u64 d7]] w fun e w' => e = .returned (.bool (goodM 13 l a b (zM d0 d1 d2 d3 d4 d5 d6 d7))) ∧ Below w.heap.size w w' := by
  have i0 : ∀ w, (Instr.index 47 (.agg #[.int .i64 0, .int .i64 0, .int .i64 0, .int .i64 1, .int .i64 0, .int .i64 0, .int .i64 1, .int .i64 3, .int .i64 4, .int .i64 4, .int .i64 4, .int .i64 0, .int .i64 0, .int .i64 0, .int .i64 0]) (.int .i64 13)).run Try.prog w = .ok (.int .i64 0) w := fun _ => by kernel_rfl
  have hi := info22
  cases a <;> cases b
  · go_enter Try.func8, Try.ntmps8
    go_wp2_with fail
    go_region_held3 (fun w' => Below (w.heap.size + 1) (w.alloc (.cells #[.int .i64 13, .int .i64 l, .bool false, .bool false, .int .u64 d0, .int .u64 d1, .int .u64 d2, .int .u64 d3, .int .u64 d4, .int .u64 d5, .int .u64 d6, .int .u64 d7] 26)) w' ∧ (∀ b' o, b' < w.heap.size + 1 → w'.cell? ⟨b', o, none⟩ = (w.alloc (.cells #[.int .i64 13, .int .i64 l, .bool false, .bool false, .int .u64 d0, .int .u64 d1, .int .u64 d2, .int .u64 d3, .int .u64 d4, .int .u64 d5, .int .u64 d6, .int .u64 d7] 26)).cell? ⟨b', o, none⟩)) (first | exact stay_drew | assumption | exact stay_step (by simp) (by assumption) (by assumption)) ((go_at_call 24; refine (may_any _).mono ?_; rintro e w1 ⟨rfl, hb⟩))
    go_wp2
    go_ret
    exact ⟨ret_bool (by simp [goodM, zM, h0, h1]), Below.then (Below.drew (Below.al (Below.refl _ _) _)) hb⟩
  · go_enter Try.func8, Try.ntmps8
    go_wp2_with fail
    go_region_held3 (fun w' => Below (w.heap.size + 1) (w.alloc (.cells #[.int .i64 13, .int .i64 l, .bool false, .bool true, .int .u64 d0, .int .u64 d1, .int .u64 d2, .int .u64 d3, .int .u64 d4, .int .u64 d5, .int .u64 d6, .int .u64 d7] 26)) w' ∧ (∀ b' o, b' < w.heap.size + 1 → w'.cell? ⟨b', o, none⟩ = (w.alloc (.cells #[.int .i64 13, .int .i64 l, .bool false, .bool true, .int .u64 d0, .int .u64 d1, .int .u64 d2, .int .u64 d3, .int .u64 d4, .int .u64 d5, .int .u64 d6, .int .u64 d7] 26)).cell? ⟨b', o, none⟩)) (first | exact stay_drew | assumption | exact stay_step (by simp) (by assumption) (by assumption)) ((go_at_call 24; refine (may_any _).mono ?_; rintro e w1 ⟨rfl, hb⟩))
    go_wp2
    go_ret
    exact ⟨ret_bool (by simp [goodM, zM, h0, h1]), Below.then (Below.drew (Below.al (Below.refl _ _) _)) hb⟩
  · go_enter Try.func8, Try.ntmps8
    go_wp2_with fail
    go_region_held3 (fun w' => Below (w.heap.size + 1) (w.alloc (.cells #[.int .i64 13, .int .i64 l, .bool true, .bool false, .int .u64 d0, .int .u64 d1, .int .u64 d2, .int .u64 d3, .int .u64 d4, .int .u64 d5, .int .u64 d6, .int .u64 d7] 26)) w' ∧ (∀ b' o, b' < w.heap.size + 1 → w'.cell? ⟨b', o, none⟩ = (w.alloc (.cells #[.int .i64 13, .int .i64 l, .bool true, .bool false, .int .u64 d0, .int .u64 d1, .int .u64 d2, .int .u64 d3, .int .u64 d4, .int .u64 d5, .int .u64 d6, .int .u64 d7] 26)).cell? ⟨b', o, none⟩)) (first | exact stay_drew | assumption | exact stay_step (by simp) (by assumption) (by assumption)) ((go_at_call 24; refine (may_any _).mono ?_; rintro e w1 ⟨rfl, hb⟩))
    go_wp2
    go_ret
    exact ⟨ret_bool (by simp [goodM, zM, h0, h1]), Below.then (Below.drew (Below.al (Below.refl _ _) _)) hb⟩
  · go_enter Try.func8, Try.ntmps8
    go_wp2_with fail
    go_region_held3 (fun w' => Below (w.heap.size + 1) (w.alloc (.cells #[.int .i64 13, .int .i64 l, .bool true, .bool true, .int .u64 d0, .int .u64 d1, .int .u64 d2, .int .u64 d3, .int .u64 d4, .int .u64 d5, .int .u64 d6, .int .u64 d7] 26)) w' ∧ (∀ b' o, b' < w.heap.size + 1 → w'.cell? ⟨b', o, none⟩ = (w.alloc (.cells #[.int .i64 13, .int .i64 l, .bool true, .bool true, .int .u64 d0, .int .u64 d1, .int .u64 d2, .int .u64 d3, .int .u64 d4, .int .u64 d5, .int .u64 d6, .int .u64 d7] 26)).cell? ⟨b', o, none⟩)) (first | exact stay_drew | assumption | exact stay_step (by simp) (by assumption) (by assumption)) ((go_at_call 24; refine (may_any _).mono ?_; rintro e w1 ⟨rfl, hb⟩))
    go_wp2
    go_ret
    exact ⟨ret_bool (by simp [goodM, zM, h0, h1]), Below.then (Below.drew (Below.al (Below.refl _ _) _)) hb⟩

set_option maxHeartbeats 4000000 in
theorem good_14 (l : Int) (a b : Bool) (d0 d1 d2 d3 d4 d5 d6 d7 : Int) (w : World) (h0 : 0 ≤ l) (h1 : l < 64) :
    Calls Try.prog 8 #[.agg #[.int .i64 14, .int .i64 l, .bool a, .bool b, .int .u64 d0, .int .u64 d1, .int .u64 d2, .int .u64 d3, .int .u64 d4, .int .u64 d5, .int .u64 d6, .int .u64 d7]] w fun e w' => e = .returned (.bool (goodM 14 l a b (zM d0 d1 d2 d3 d4 d5 d6 d7))) ∧ Below w.heap.size w w' := by
  have i0 : ∀ w, (Instr.index 47 (.agg #[.int .i64 0, .int .i64 0, .int .i64 0, .int .i64 1, .int .i64 0, .int .i64 0, .int .i64 1, .int .i64 3, .int .i64 4, .int .i64 4, .int .i64 4, .int .i64 0, .int .i64 0, .int .i64 0, .int .i64 0]) (.int .i64 14)).run Try.prog w = .ok (.int .i64 0) w := fun _ => by kernel_rfl
  have hi := info22
  cases a <;> cases b
  · go_enter Try.func8, Try.ntmps8
    go_wp2_with fail
    go_region_held3 (fun w' => Below (w.heap.size + 1) (w.alloc (.cells #[.int .i64 14, .int .i64 l, .bool false, .bool false, .int .u64 d0, .int .u64 d1, .int .u64 d2, .int .u64 d3, .int .u64 d4, .int .u64 d5, .int .u64 d6, .int .u64 d7] 26)) w' ∧ (∀ b' o, b' < w.heap.size + 1 → w'.cell? ⟨b', o, none⟩ = (w.alloc (.cells #[.int .i64 14, .int .i64 l, .bool false, .bool false, .int .u64 d0, .int .u64 d1, .int .u64 d2, .int .u64 d3, .int .u64 d4, .int .u64 d5, .int .u64 d6, .int .u64 d7] 26)).cell? ⟨b', o, none⟩)) (first | exact stay_drew | assumption | exact stay_step (by simp) (by assumption) (by assumption)) ((go_at_call 24; refine (may_any _).mono ?_; rintro e w1 ⟨rfl, hb⟩))
    go_wp2
    go_ret
    exact ⟨ret_bool (by simp [goodM, zM, h0, h1]), Below.then (Below.drew (Below.al (Below.refl _ _) _)) hb⟩
  · go_enter Try.func8, Try.ntmps8
    go_wp2_with fail
    go_region_held3 (fun w' => Below (w.heap.size + 1) (w.alloc (.cells #[.int .i64 14, .int .i64 l, .bool false, .bool true, .int .u64 d0, .int .u64 d1, .int .u64 d2, .int .u64 d3, .int .u64 d4, .int .u64 d5, .int .u64 d6, .int .u64 d7] 26)) w' ∧ (∀ b' o, b' < w.heap.size + 1 → w'.cell? ⟨b', o, none⟩ = (w.alloc (.cells #[.int .i64 14, .int .i64 l, .bool false, .bool true, .int .u64 d0, .int .u64 d1, .int .u64 d2, .int .u64 d3, .int .u64 d4, .int .u64 d5, .int .u64 d6, .int .u64 d7] 26)).cell? ⟨b', o, none⟩)) (first | exact stay_drew | assumption | exact stay_step (by simp) (by assumption) (by assumption)) ((go_at_call 24; refine (may_any _).mono ?_; rintro e w1 ⟨rfl, hb⟩))
    go_wp2
    go_ret
    exact ⟨ret_bool (by simp [goodM, zM, h0, h1]), Below.then (Below.drew (Below.al (Below.refl _ _) _)) hb⟩
  · go_enter Try.func8, Try.ntmps8
    go_wp2_with fail
    go_region_held3 (fun w' => Below (w.heap.size + 1) (w.alloc (.cells #[.int .i64 14, .int .i64 l, .bool true, .bool false, .int .u64 d0, .int .u64 d1, .int .u64 d2, .int .u64 d3, .int .u64 d4, .int .u64 d5, .int .u64 d6, .int .u64 d7] 26)) w' ∧ (∀ b' o, b' < w.heap.size + 1 → w'.cell? ⟨b', o, none⟩ = (w.alloc (.cells #[.int .i64 14, .int .i64 l, .bool true, .bool false, .int .u64 d0, .int .u64 d1, .int .u64 d2, .int .u64 d3, .int .u64 d4, .int .u64 d5, .int .u64 d6, .int .u64 d7] 26)).cell? ⟨b', o, none⟩)) (first | exact stay_drew | assumption | exact stay_step (by simp) (by assumption) (by assumption)) ((go_at_call 24; refine (may_any _).mono ?_; rintro e w1 ⟨rfl, hb⟩))
    go_wp2
    go_ret
    exact ⟨ret_bool (by simp [goodM, zM, h0, h1]), Below.then (Below.drew (Below.al (Below.refl _ _) _)) hb⟩
  · go_enter Try.func8, Try.ntmps8
    go_wp2_with fail
    go_region_held3 (fun w' => Below (w.heap.size + 1) (w.alloc (.cells #[.int .i64 14, .int .i64 l, .bool true, .bool true, .int .u64 d0, .int .u64 d1, .int .u64 d2, .int .u64 d3, .int .u64 d4, .int .u64 d5, .int .u64 d6, .int .u64 d7] 26)) w' ∧ (∀ b' o, b' < w.heap.size + 1 → w'.cell? ⟨b', o, none⟩ = (w.alloc (.cells #[.int .i64 14, .int .i64 l, .bool true, .bool true, .int .u64 d0, .int .u64 d1, .int .u64 d2, .int .u64 d3, .int .u64 d4, .int .u64 d5, .int .u64 d6, .int .u64 d7] 26)).cell? ⟨b', o, none⟩)) (first | exact stay_drew | assumption | exact stay_step (by simp) (by assumption) (by assumption)) ((go_at_call 24; refine (may_any _).mono ?_; rintro e w1 ⟨rfl, hb⟩))
    go_wp2
    go_ret
    exact ⟨ret_bool (by simp [goodM, zM, h0, h1]), Below.then (Below.drew (Below.al (Below.refl _ _) _)) hb⟩
end Go.Proofs.Ytjkckcmogpipmaa

