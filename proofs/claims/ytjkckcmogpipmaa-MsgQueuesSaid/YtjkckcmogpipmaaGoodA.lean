/-
  msg.Good, kinds 1 to 7.
-/
import Derived.Test.YtjkckcmogpipmaaGood0
namespace Go.Proofs.Ytjkckcmogpipmaa
open Go.RowKit
attribute [local go_sem ↓] Go.wp_at_zero Go.wp_at_succ

set_option maxHeartbeats 4000000 in
theorem good_1 (l : Int) (a b : Bool) (d0 d1 d2 d3 d4 d5 d6 d7 : Int) (w : World) (h0 : 0 ≤ l) (h1 : l < 64) :
    Calls Try.prog 8 #[.agg #[.int .i64 1, .int .i64 l, .bool a, .bool b, .int .u64 d0, .int .u64 d1, .int .u64 d2, .int .u64 d3, .int .u64 d4, .int .u64 d5, .int .u64 d6, .int .u64 d7]] w fun e w' => e = .returned (.bool (goodM 1 l a b (zM d0 d1 d2 d3 d4 d5 d6 d7))) ∧ Below w.heap.size w w' := by
  have i0 : ∀ w, (Instr.index 47 (.agg #[.int .i64 0, .int .i64 0, .int .i64 0, .int .i64 1, .int .i64 0, .int .i64 0, .int .i64 1, .int .i64 3, .int .i64 4, .int .i64 4, .int .i64 4, .int .i64 0, .int .i64 0, .int .i64 0, .int .i64 0]) (.int .i64 1)).run Try.prog w = .ok (.int .i64 0) w := fun _ => by kernel_rfl
  have hi := info22
  cases a <;> cases b
  · go_enter Try.func8, Try.ntmps8
    go_wp2_with fail
    go_region_held3 (fun w' => Below (w.heap.size + 1) (w.alloc (.cells #[.int .i64 1, .int .i64 l, .bool false, .bool false, .int .u64 d0, .int .u64 d1, .int .u64 d2, .int .u64 d3, .int .u64 d4, .int .u64 d5, .int .u64 d6, .int .u64 d7] 26)) w' ∧ (∀ b' o, b' < w.heap.size + 1 → w'.cell? ⟨b', o, none⟩ = (w.alloc (.cells #[.int .i64 1, .int .i64 l, .bool false, .bool false, .int .u64 d0, .int .u64 d1, .int .u64 d2, .int .u64 d3, .int .u64 d4, .int .u64 d5, .int .u64 d6, .int .u64 d7] 26)).cell? ⟨b', o, none⟩)) (first | exact stay_drew | assumption | exact stay_step (by simp) (by assumption) (by assumption)) ((go_at_call 24; refine (may_any _).mono ?_; rintro e w1 ⟨rfl, hb⟩))
    go_wp2
    go_ret
    exact ⟨ret_bool (by simp [goodM, zM, h0, h1]), Below.then (Below.drew (Below.al (Below.refl _ _) _)) hb⟩
  · go_enter Try.func8, Try.ntmps8
    go_wp2_with fail
    go_region_held3 (fun w' => Below (w.heap.size + 1) (w.alloc (.cells #[.int .i64 1, .int .i64 l, .bool false, .bool true, .int .u64 d0, .int .u64 d1, .int .u64 d2, .int .u64 d3, .int .u64 d4, .int .u64 d5, .int .u64 d6, .int .u64 d7] 26)) w' ∧ (∀ b' o, b' < w.heap.size + 1 → w'.cell? ⟨b', o, none⟩ = (w.alloc (.cells #[.int .i64 1, .int .i64 l, .bool false, .bool true, .int .u64 d0, .int .u64 d1, .int .u64 d2, .int .u64 d3, .int .u64 d4, .int .u64 d5, .int .u64 d6, .int .u64 d7] 26)).cell? ⟨b', o, none⟩)) (first | exact stay_drew | assumption | exact stay_step (by simp) (by assumption) (by assumption)) ((go_at_call 24; refine (may_any _).mono ?_; rintro e w1 ⟨rfl, hb⟩))
    go_wp2
    go_ret
    exact ⟨ret_bool (by simp [goodM, zM, h0, h1]), Below.then (Below.drew (Below.al (Below.refl _ _) _)) hb⟩
  · go_enter Try.func8, Try.ntmps8
    go_wp2_with fail
    go_region_held3 (fun w' => Below (w.heap.size + 1) (w.alloc (.cells #[.int .i64 1, .int .i64 l, .bool true, .bool false, .int .u64 d0, .int .u64 d1, .int .u64 d2, .int .u64 d3, .int .u64 d4, .int .u64 d5, .int .u64 d6, .int .u64 d7] 26)) w' ∧ (∀ b' o, b' < w.heap.size + 1 → w'.cell? ⟨b', o, none⟩ = (w.alloc (.cells #[.int .i64 1, .int .i64 l, .bool true, .bool false, .int .u64 d0, .int .u64 d1, .int .u64 d2, .int .u64 d3, .int .u64 d4, .int .u64 d5, .int .u64 d6, .int .u64 d7] 26)).cell? ⟨b', o, none⟩)) (first | exact stay_drew | assumption | exact stay_step (by simp) (by assumption) (by assumption)) ((go_at_call 24; refine (may_any _).mono ?_; rintro e w1 ⟨rfl, hb⟩))
    go_wp2
    go_ret
    exact ⟨ret_bool (by simp [goodM, zM, h0, h1]), Below.then (Below.drew (Below.al (Below.refl _ _) _)) hb⟩
  · go_enter Try.func8, Try.ntmps8
    go_wp2_with fail
    go_region_held3 (fun w' => Below (w.heap.size + 1) (w.alloc (.cells #[.int .i64 1, .int .i64 l, .bool true, .bool true, .int .u64 d0, .int .u64 d1, .int .u64 d2, .int .u64 d3, .int .u64 d4, .int .u64 d5, .int .u64 d6, .int .u64 d7] 26)) w' ∧ (∀ b' o, b' < w.heap.size + 1 → w'.cell? ⟨b', o, none⟩ = (w.alloc (.cells #[.int .i64 1, .int .i64 l, .bool true, .bool true, .int .u64 d0, .int .u64 d1, .int .u64 d2, .int .u64 d3, .int .u64 d4, .int .u64 d5, .int .u64 d6, .int .u64 d7] 26)).cell? ⟨b', o, none⟩)) (first | exact stay_drew | assumption | exact stay_step (by simp) (by assumption) (by assumption)) ((go_at_call 24; refine (may_any _).mono ?_; rintro e w1 ⟨rfl, hb⟩))
    go_wp2
    go_ret
    exact ⟨ret_bool (by simp [goodM, zM, h0, h1]), Below.then (Below.drew (Below.al (Below.refl _ _) _)) hb⟩

set_option maxHeartbeats 4000000 in
theorem good_2 (l : Int) (a b : Bool) (d0 d1 d2 d3 d4 d5 d6 d7 : Int) (w : World) (h0 : 0 ≤ l) (h1 : l < 64) :
    Calls Try.prog 8 #[.agg #[.int .i64 2, .int .i64 l, .bool a, .bool b, .int .u64 d0, .int .u64 d1, .int .u64 d2, .int .u64 d3, .int .u64 d4, .int .u64 d5, .int .u64 d6, .int .u64 d7]] w fun e w' => e = .returned (.bool (goodM 2 l a b (zM d0 d1 d2 d3 d4 d5 d6 d7))) ∧ Below w.heap.size w w' := by
  have i0 : ∀ w, (Instr.index 47 (.agg #[.int .i64 0, .int .i64 0, .int .i64 0, .int .i64 1, .int .i64 0, .int .i64 0, .int .i64 1, .int .i64 3, .int .i64 4, .int .i64 4, .int .i64 4, .int .i64 0, .int .i64 0, .int .i64 0, .int .i64 0]) (.int .i64 2)).run Try.prog w = .ok (.int .i64 0) w := fun _ => by kernel_rfl
  have hi := info22
  cases a <;> cases b
  · go_enter Try.func8, Try.ntmps8
    go_wp2_with fail
    go_region_held3 (fun w' => Below (w.heap.size + 1) (w.alloc (.cells #[.int .i64 2, .int .i64 l, .bool false, .bool false, .int .u64 d0, .int .u64 d1, .int .u64 d2, .int .u64 d3, .int .u64 d4, .int .u64 d5, .int .u64 d6, .int .u64 d7] 26)) w' ∧ (∀ b' o, b' < w.heap.size + 1 → w'.cell? ⟨b', o, none⟩ = (w.alloc (.cells #[.int .i64 2, .int .i64 l, .bool false, .bool false, .int .u64 d0, .int .u64 d1, .int .u64 d2, .int .u64 d3, .int .u64 d4, .int .u64 d5, .int .u64 d6, .int .u64 d7] 26)).cell? ⟨b', o, none⟩)) (first | exact stay_drew | assumption | exact stay_step (by simp) (by assumption) (by assumption)) ((go_at_call 24; refine (may_any _).mono ?_; rintro e w1 ⟨rfl, hb⟩))
    go_wp2
    go_ret
    exact ⟨ret_bool (by simp [goodM, zM, h0, h1]), Below.then (Below.drew (Below.al (Below.refl _ _) _)) hb⟩
  · go_enter Try.func8, Try.ntmps8
    go_wp2_with fail
    go_region_held3 (fun w' => Below (w.heap.size + 1) (w.alloc (.cells #[.int .i64 2, .int .i64 l, .bool false, .bool true, .int .u64 d0, .int .u64 d1, .int .u64 d2, .int .u64 d3, .int .u64 d4, .int .u64 d5, .int .u64 d6, .int .u64 d7] 26)) w' ∧ (∀ b' o, b' < w.heap.size + 1 → w'.cell? ⟨b', o, none⟩ = (w.alloc (.cells #[.int .i64 2, .int .i64 l, .bool false, .bool true, .int .u64 d0, .int .u64 d1, .int .u64 d2, .int .u64 d3, .int .u64 d4, .int .u64 d5, .int .u64 d6, .int .u64 d7] 26)).cell? ⟨b', o, none⟩)) (first | exact stay_drew | assumption | exact stay_step (by simp) (by assumption) (by assumption)) ((go_at_call 24; refine (may_any _).mono ?_; rintro e w1 ⟨rfl, hb⟩))
    go_wp2
    go_ret
    exact ⟨ret_bool (by simp [goodM, zM, h0, h1]), Below.then (Below.drew (Below.al (Below.refl _ _) _)) hb⟩
  · go_enter Try.func8, Try.ntmps8
    go_wp2_with fail
    go_region_held3 (fun w' => Below (w.heap.size + 1) (w.alloc (.cells #[.int .i64 2, .int .i64 l, .bool true, .bool false, .int .u64 d0, .int .u64 d1, .int .u64 d2, .int .u64 d3, .int .u64 d4, .int .u64 d5, .int .u64 d6, .int .u64 d7] 26)) w' ∧ (∀ b' o, b' < w.heap.size + 1 → w'.cell? ⟨b', o, none⟩ = (w.alloc (.cells #[.int .i64 2, .int .i64 l, .bool true, .bool false, .int .u64 d0, .int .u64 d1, .int .u64 d2, .int .u64 d3, .int .u64 d4, .int .u64 d5, .int .u64 d6, .int .u64 d7] 26)).cell? ⟨b', o, none⟩)) (first | exact stay_drew | assumption | exact stay_step (by simp) (by assumption) (by assumption)) ((go_at_call 24; refine (may_any _).mono ?_; rintro e w1 ⟨rfl, hb⟩))
    go_wp2
    go_ret
    exact ⟨ret_bool (by simp [goodM, zM, h0, h1]), Below.then (Below.drew (Below.al (Below.refl _ _) _)) hb⟩
  · go_enter Try.func8, Try.ntmps8
    go_wp2_with fail
    go_region_held3 (fun w' => Below (w.heap.size + 1) (w.alloc (.cells #[.int .i64 2, .int .i64 l, .bool true, .bool true, .int .u64 d0, .int .u64 d1, .int .u64 d2, .int .u64 d3, .int .u64 d4, .int .u64 d5, .int .u64 d6, .int .u64 d7] 26)) w' ∧ (∀ b' o, b' < w.heap.size + 1 → w'.cell? ⟨b', o, none⟩ = (w.alloc (.cells #[.int .i64 2, .int .i64 l, .bool true, .bool true, .int .u64 d0, .int .u64 d1, .int .u64 d2, .int .u64 d3, .int .u64 d4, .int .u64 d5, .int .u64 d6, .int .u64 d7] 26)).cell? ⟨b', o, none⟩)) (first | exact stay_drew | assumption | exact stay_step (by simp) (by assumption) (by assumption)) ((go_at_call 24; refine (may_any _).mono ?_; rintro e w1 ⟨rfl, hb⟩))
    go_wp2
    go_ret
    exact ⟨ret_bool (by simp [goodM, zM, h0, h1]), Below.then (Below.drew (Below.al (Below.refl _ _) _)) hb⟩

set_option maxHeartbeats 4000000 in
theorem good_3 (l : Int) (a b : Bool) (d0 d1 d2 d3 d4 d5 d6 d7 : Int) (w : World) (h0 : 0 ≤ l) (h1 : l < 64) :
    Calls Try.prog 8 #[.agg #[.int .i64 3, .int .i64 l, .bool a, .bool b, .int .u64 d0, .int .u64 d1, .int .u64 d2, .int .u64 d3, .int .u64 d4, .int .u64 d5, .int .u64 d6, .int .u64 d7]] w fun e w' => e = .returned (.bool (goodM 3 l a b (zM d0 d1 d2 d3 d4 d5 d6 d7))) ∧ Below w.heap.size w w' := by
  have i0 : ∀ w, (Instr.index 47 (.agg #[.int .i64 0, .int .i64 0, .int .i64 0, .int .i64 1, .int .i64 0, .int .i64 0, .int .i64 1, .int .i64 3, .int .i64 4, .int .i64 4, .int .i64 4, .int .i64 0, .int .i64 0, .int .i64 0, .int .i64 0]) (.int .i64 3)).run Try.prog w = .ok (.int .i64 1) w := fun _ => by kernel_rfl
  have hi := info22
  cases a <;> cases b
  · go_enter Try.func8, Try.ntmps8
    go_wp2_with fail
    go_region_held3 (fun w' => Below (w.heap.size + 1) (w.alloc (.cells #[.int .i64 3, .int .i64 l, .bool false, .bool false, .int .u64 d0, .int .u64 d1, .int .u64 d2, .int .u64 d3, .int .u64 d4, .int .u64 d5, .int .u64 d6, .int .u64 d7] 26)) w' ∧ (∀ b' o, b' < w.heap.size + 1 → w'.cell? ⟨b', o, none⟩ = (w.alloc (.cells #[.int .i64 3, .int .i64 l, .bool false, .bool false, .int .u64 d0, .int .u64 d1, .int .u64 d2, .int .u64 d3, .int .u64 d4, .int .u64 d5, .int .u64 d6, .int .u64 d7] 26)).cell? ⟨b', o, none⟩)) (first | exact stay_drew | assumption | exact stay_step (by simp) (by assumption) (by assumption)) ((go_at_call 24; refine (may_any _).mono ?_; rintro e w1 ⟨rfl, hb⟩))
    go_wp2
    go_ret
    exact ⟨ret_bool (by simp [goodM, zM, h0, h1]), Below.then (Below.drew (Below.al (Below.refl _ _) _)) hb⟩
  · go_enter Try.func8, Try.ntmps8
    go_wp2_with fail
    go_region_held3 (fun w' => Below (w.heap.size + 1) (w.alloc (.cells #[.int .i64 3, .int .i64 l, .bool false, .bool true, .int .u64 d0, .int .u64 d1, .int .u64 d2, .int .u64 d3, .int .u64 d4, .int .u64 d5, .int .u64 d6, .int .u64 d7] 26)) w' ∧ (∀ b' o, b' < w.heap.size + 1 → w'.cell? ⟨b', o, none⟩ = (w.alloc (.cells #[.int .i64 3, .int .i64 l, .bool false, .bool true, .int .u64 d0, .int .u64 d1, .int .u64 d2, .int .u64 d3, .int .u64 d4, .int .u64 d5, .int .u64 d6, .int .u64 d7] 26)).cell? ⟨b', o, none⟩)) (first | exact stay_drew | assumption | exact stay_step (by simp) (by assumption) (by assumption)) ((go_at_call 24; refine (may_any _).mono ?_; rintro e w1 ⟨rfl, hb⟩))
    go_wp2
    go_ret
    exact ⟨ret_bool (by simp [goodM, zM, h0, h1]), Below.then (Below.drew (Below.al (Below.refl _ _) _)) hb⟩
  · go_enter Try.func8, Try.ntmps8
    go_wp2_with fail
    go_region_held3 (fun w' => Below (w.heap.size + 1) (w.alloc (.cells #[.int .i64 3, .int .i64 l, .bool true, .bool false, .int .u64 d0, .int .u64 d1, .int .u64 d2, .int .u64 d3, .int .u64 d4, .int .u64 d5, .int .u64 d6, .int .u64 d7] 26)) w' ∧ (∀ b' o, b' < w.heap.size + 1 → w'.cell? ⟨b', o, none⟩ = (w.alloc (.cells #[.int .i64 3, .int .i64 l, .bool true, .bool false, .int .u64 d0, .int .u64 d1, .int .u64 d2, .int .u64 d3, .int .u64 d4, .int .u64 d5, .int .u64 d6, .int .u64 d7] 26)).cell? ⟨b', o, none⟩)) (first | exact stay_drew | assumption | exact stay_step (by simp) (by assumption) (by assumption)) ((go_at_call 24; refine (may_any _).mono ?_; rintro e w1 ⟨rfl, hb⟩))
    go_wp2
    go_ret
    exact ⟨ret_bool (by simp [goodM, zM, h0, h1]), Below.then (Below.drew (Below.al (Below.refl _ _) _)) hb⟩
  · go_enter Try.func8, Try.ntmps8
    go_wp2_with fail
    go_region_held3 (fun w' => Below (w.heap.size + 1) (w.alloc (.cells #[.int .i64 3, .int .i64 l, .bool true, .bool true, .int .u64 d0, .int .u64 d1, .int .u64 d2, .int .u64 d3, .int .u64 d4, .int .u64 d5, .int .u64 d6, .int .u64 d7] 26)) w' ∧ (∀ b' o, b' < w.heap.size + 1 → w'.cell? ⟨b', o, none⟩ = (w.alloc (.cells #[.int .i64 3, .int .i64 l, .bool true, .bool true, .int .u64 d0, .int .u64 d1, .int .u64 d2, .int .u64 d3, .int .u64 d4, .int .u64 d5, .int .u64 d6, .int .u64 d7] 26)).cell? ⟨b', o, none⟩)) (first | exact stay_drew | assumption | exact stay_step (by simp) (by assumption) (by assumption)) ((go_at_call 24; refine (may_any _).mono ?_; rintro e w1 ⟨rfl, hb⟩))
    go_wp2
    go_ret
    exact ⟨ret_bool (by simp [goodM, zM, h0, h1]), Below.then (Below.drew (Below.al (Below.refl _ _) _)) hb⟩

set_option maxHeartbeats 4000000 in
theorem good_4 (l : Int) (a b : Bool) (d0 d1 d2 d3 d4 d5 d6 d7 : Int) (w : World) (h0 : 0 ≤ l) (h1 : l < 64) :
    Calls Try.prog 8 #[.agg #[.int .i64 4, .int .i64 l, .bool a, .bool b, .int .u64 d0, .int .u64 d1, .int .u64 d2, .int .u64 d3, .int .u64 d4, .int .u64 d5, .int .u64 d6, .int .u64 d7]] w fun e w' => e = .returned (.bool (goodM 4 l a b (zM d0 d1 d2 d3 d4 d5 d6 d7))) ∧ Below w.heap.size w w' := by
  have i0 : ∀ w, (Instr.index 47 (.agg #[.int .i64 0, .int .i64 0, .int .i64 0, .int .i64 1, .int .i64 0, .int .i64 0, .int .i64 1, .int .i64 3, .int .i64 4, .int .i64 4, .int .i64 4, .int .i64 0, .int .i64 0, .int .i64 0, .int .i64 0]) (.int .i64 4)).run Try.prog w = .ok (.int .i64 0) w := fun _ => by kernel_rfl
  have hi := info22
  cases a <;> cases b
  · go_enter Try.func8, Try.ntmps8
    go_wp2_with fail
    go_region_held3 (fun w' => Below (w.heap.size + 1) (w.alloc (.cells #[.int .i64 4, .int .i64 l, .bool false, .bool false, .int .u64 d0, .int .u64 d1, .int .u64 d2, .int .u64 d3, .int .u64 d4, .int .u64 d5, .int .u64 d6, .int .u64 d7] 26)) w' ∧ (∀ b' o, b' < w.heap.size + 1 → w'.cell? ⟨b', o, none⟩ = (w.alloc (.cells #[.int .i64 4, .int .i64 l, .bool false, .bool false, .int .u64 d0, .int .u64 d1, .int .u64 d2, .int .u64 d3, .int .u64 d4, .int .u64 d5, .int .u64 d6, .int .u64 d7] 26)).cell? ⟨b', o, none⟩)) (first | exact stay_drew | assumption | exact stay_step (by simp) (by assumption) (by assumption)) ((go_at_call 24; refine (may_any _).mono ?_; rintro e w1 ⟨rfl, hb⟩))
    go_wp2
    go_ret
    exact ⟨ret_bool (by simp [goodM, zM, h0, h1]), Below.then (Below.drew (Below.al (Below.refl _ _) _)) hb⟩
  · go_enter Try.func8, Try.ntmps8
    go_wp2_with fail
    go_region_held3 (fun w' => Below (w.heap.size + 1) (w.alloc (.cells #[.int .i64 4, .int .i64 l, .bool false, .bool true, .int .u64 d0, .int .u64 d1, .int .u64 d2, .int .u64 d3, .int .u64 d4, .int .u64 d5, .int .u64 d6, .int .u64 d7] 26)) w' ∧ (∀ b' o, b' < w.heap.size + 1 → w'.cell? ⟨b', o, none⟩ = (w.alloc (.cells #[.int .i64 4, .int .i64 l, .bool false, .bool true, .int .u64 d0, .int .u64 d1, .int .u64 d2, .int .u64 d3, .int .u64 d4, .int .u64 d5, .int .u64 d6, .int .u64 d7] 26)).cell? ⟨b', o, none⟩)) (first | exact stay_drew | assumption | exact stay_step (by simp) (by assumption) (by assumption)) ((go_at_call 24; refine (may_any _).mono ?_; rintro e w1 ⟨rfl, hb⟩))
    go_wp2
    go_ret
    exact ⟨ret_bool (by simp [goodM, zM, h0, h1]), Below.then (Below.drew (Below.al (Below.refl _ _) _)) hb⟩
  · go_enter Try.func8, Try.ntmps8
    go_wp2_with fail
    go_region_held3 (fun w' => Below (w.heap.size + 1) (w.alloc (.cells #[.int .i64 4, .int .i64 l, .bool true, .bool false, .int .u64 d0, .int .u64 d1, .int .u64 d2, .int .u64 d3, .int .u64 d4, .int .u64 d5, .int .u64 d6, .int .u64 d7] 26)) w' ∧ (∀ b' o, b' < w.heap.size + 1 → w'.cell? ⟨b', o, none⟩ = (w.alloc (.cells #[.int .i64 4, .int .i64 l, .bool true, .bool false, .int .u64 d0, .int .u64 d1, .int .u64 d2, .int .u64 d3, .int .u64 d4, .int .u64 d5, .int .u64 d6, .int .u64 d7] 26)).cell? ⟨b', o, none⟩)) (first | exact stay_drew | assumption | exact stay_step (by simp) (by assumption) (by assumption)) ((go_at_call 24; refine (may_any _).mono ?_; rintro e w1 ⟨rfl, hb⟩))
    go_wp2
    go_ret
    exact ⟨ret_bool (by simp [goodM, zM, h0, h1]), Below.then (Below.drew (Below.al (Below.refl _ _) _)) hb⟩
  · go_enter Try.func8, Try.ntmps8
    go_wp2_with fail
    go_region_held3 (fun w' => Below (w.heap.size + 1) (w.alloc (.cells #[.int .i64 4, .int .i64 l, .bool true, .bool true, .int .u64 d0, .int .u64 d1, .int .u64 d2, .int .u64 d3, .int .u64 d4, .int .u64 d5, .int .u64 d6, .int .u64 d7] 26)) w' ∧ (∀ b' o, b' < w.heap.size + 1 → w'.cell? ⟨b', o, none⟩ = (w.alloc (.cells #[.int .i64 4, .int .i64 l, .bool true, .bool true, .int .u64 d0, .int .u64 d1, .int .u64 d2, .int .u64 d3, .int .u64 d4, .int .u64 d5, .int .u64 d6, .int .u64 d7] 26)).cell? ⟨b', o, none⟩)) (first | exact stay_drew | assumption | exact stay_step (by simp) (by assumption) (by assumption)) ((go_at_call 24; refine (may_any _).mono ?_; rintro e w1 ⟨rfl, hb⟩))
    go_wp2
    go_ret
    exact ⟨ret_bool (by simp [goodM, zM, h0, h1]), Below.then (Below.drew (Below.al (Below.refl _ _) _)) hb⟩

set_option maxHeartbeats 4000000 in
theorem good_5 (l : Int) (a b : Bool) (d0 d1 d2 d3 d4 d5 d6 d7 : Int) (w : World) (h0 : 0 ≤ l) (h1 : l < 64) :
    Calls Try.prog 8 #[.agg #[.int .i64 5, .int .i64 l, .bool a, .bool b, .int .u64 d0, .int .u64 d1, .int .u64 d2, .int .u64 d3, .int .u64 d4, .int .u64 d5, .int .u64 d6, .int .u64 d7]] w fun e w' => e = .returned (.bool (goodM 5 l a b (zM d0 d1 d2 d3 d4 d5 d6 d7))) ∧ Below w.heap.size w w' := by
  have i0 : ∀ w, (Instr.index 47 (.agg #[.int .i64 0, .int .i64 0, .int .i64 0, .int .i64 1, .int .i64 0, .int .i64 0, .int .i64 1, .int .i64 3, .int .i64 4, .int .i64 4, .int .i64 4, .int .i64 0, .int .i64 0, .int .i64 0, .int .i64 0]) (.int .i64 5)).run Try.prog w = .ok (.int .i64 0) w := fun _ => by kernel_rfl
  have hi := info22
  cases a <;> cases b
  · go_enter Try.func8, Try.ntmps8
    go_wp2_with fail
    go_region_held3 (fun w' => Below (w.heap.size + 1) (w.alloc (.cells #[.int .i64 5, .int .i64 l, .bool false, .bool false, .int .u64 d0, .int .u64 d1, .int .u64 d2, .int .u64 d3, .int .u64 d4, .int .u64 d5, .int .u64 d6, .int .u64 d7] 26)) w' ∧ (∀ b' o, b' < w.heap.size + 1 → w'.cell? ⟨b', o, none⟩ = (w.alloc (.cells #[.int .i64 5, .int .i64 l, .bool false, .bool false, .int .u64 d0, .int .u64 d1, .int .u64 d2, .int .u64 d3, .int .u64 d4, .int .u64 d5, .int .u64 d6, .int .u64 d7] 26)).cell? ⟨b', o, none⟩)) (first | exact stay_drew | assumption | exact stay_step (by simp) (by assumption) (by assumption)) ((go_at_call 24; refine (may_any _).mono ?_; rintro e w1 ⟨rfl, hb⟩))
    go_wp2
    go_ret
    exact ⟨ret_bool (by simp [goodM, zM, h0, h1]), Below.then (Below.drew (Below.al (Below.refl _ _) _)) hb⟩
  · go_enter Try.func8, Try.ntmps8
    go_wp2_with fail
    go_region_held3 (fun w' => Below (w.heap.size + 1) (w.alloc (.cells #[.int .i64 5, .int .i64 l, .bool false, .bool true, .int .u64 d0, .int .u64 d1, .int .u64 d2, .int .u64 d3, .int .u64 d4, .int .u64 d5, .int .u64 d6, .int .u64 d7] 26)) w' ∧ (∀ b' o, b' < w.heap.size + 1 → w'.cell? ⟨b', o, none⟩ = (w.alloc (.cells #[.int .i64 5, .int .i64 l, .bool false, .bool true, .int .u64 d0, .int .u64 d1, .int .u64 d2, .int .u64 d3, .int .u64 d4, .int .u64 d5, .int .u64 d6, .int .u64 d7] 26)).cell? ⟨b', o, none⟩)) (first | exact stay_drew | assumption | exact stay_step (by simp) (by assumption) (by assumption)) ((go_at_call 24; refine (may_any _).mono ?_; rintro e w1 ⟨rfl, hb⟩))
    go_wp2
    go_ret
    exact ⟨ret_bool (by simp [goodM, zM, h0, h1]), Below.then (Below.drew (Below.al (Below.refl _ _) _)) hb⟩
  · go_enter Try.func8, Try.ntmps8
    go_wp2_with fail
    go_region_held3 (fun w' => Below (w.heap.size + 1) (w.alloc (.cells #[.int .i64 5, .int .i64 l, .bool true, .bool false, .int .u64 d0, .int .u64 d1, .int .u64 d2, .int .u64 d3, .int .u64 d4, .int .u64 d5, .int .u64 d6, .int .u64 d7] 26)) w' ∧ (∀ b' o, b' < w.heap.size + 1 → w'.cell? ⟨b', o, none⟩ = (w.alloc (.cells #[.int .i64 5, .int .i64 l, .bool true, .bool false, .int .u64 d0, .int .u64 d1, .int .u64 d2, .int .u64 d3, .int .u64 d4, .int .u64 d5, .int .u64 d6, .int .u64 d7] 26)).cell? ⟨b', o, none⟩)) (first | exact stay_drew | assumption | exact stay_step (by simp) (by assumption) (by assumption)) ((go_at_call 24; refine (may_any _).mono ?_; rintro e w1 ⟨rfl, hb⟩))
    go_wp2
    go_ret
    exact ⟨ret_bool (by simp [goodM, zM, h0, h1]), Below.then (Below.drew (Below.al (Below.refl _ _) _)) hb⟩
  · go_enter Try.func8, Try.ntmps8
    go_wp2_with fail
    go_region_held3 (fun w' => Below (w.heap.size + 1) (w.alloc (.cells #[.int .i64 5, .int .i64 l, .bool true, .bool true, .int .u64 d0, .int .u64 d1, .int .u64 d2, .int .u64 d3, .int .u64 d4, .int .u64 d5, .int .u64 d6, .int .u64 d7] 26)) w' ∧ (∀ b' o, b' < w.heap.size + 1 → w'.cell? ⟨b', o, none⟩ = (w.alloc (.cells #[.int .i64 5, .int .i64 l, .bool true, .bool true, .int .u64 d0, .int .u64 d1, .int .u64 d2, .int .u64 d3, .int .u64 d4, .int .u64 d5, .int .u64 d6, .int .u64 d7] 26)).cell? ⟨b', o, none⟩)) (first | exact stay_drew | assumption | exact stay_step (by simp) (by assumption) (by assumption)) ((go_at_call 24; refine (may_any _).mono ?_; rintro e w1 ⟨rfl, hb⟩))
    go_wp2
    go_ret
    exact ⟨ret_bool (by simp [goodM, zM, h0, h1]), Below.then (Below.drew (Below.al (Below.refl _ _) _)) hb⟩

set_option maxHeartbeats 4000000 in
theorem good_6 (l : Int) (a b : Bool) (d0 d1 d2 d3 d4 d5 d6 d7 : Int) (w : World) (h0 : 0 ≤ l) (h1 : l < 64) :
    Calls Try.prog 8 #[.agg #[.int .i64 6, .int .i64 l, .bool a, .bool b, .int .u64 d0, .int .u64 d1, .int .u64 d2, .int .u64 d3, .int .u64 d4, .int .u64 d5, .int .u64 d6, .int .u64 d7]] w fun e w' => e = .returned (.bool (goodM 6 l a b (zM d0 d1 d2 d3 d4 d5 d6 d7))) ∧ Below w.heap.size w w' := by
  have i0 : ∀ w, (Instr.index 47 (.agg #[.int .i64 0, .int .i64 0, .int .i64 0, .int .i64 1, .int .i64 0, .int .i64 0, .int .i64 1, .int .i64 3, .int .i64 4, .int .i64 4, .int .i64 4, .int .i64 0, .int .i64 0, .int .i64 0, .int .i64 0]) (.int .i64 6)).run Try.prog w = .ok (.int .i64 1) w := fun _ => by kernel_rfl
  have hi := info22
  cases a <;> cases b
  · go_enter Try.func8, Try.ntmps8
    go_wp2_with fail
    go_region_held3 (fun w' => Below (w.heap.size + 1) (w.alloc (.cells #[.int .i64 6, .int .i64 l, .bool false, .bool false, .int .u64 d0, .int .u64 d1, .int .u64 d2, .int .u64 d3, .int .u64 d4, .int .u64 d5, .int .u64 d6, .int .u64 d7] 26)) w' ∧ (∀ b' o, b' < w.heap.size + 1 → w'.cell? ⟨b', o, none⟩ = (w.alloc (.cells #[.int .i64 6, .int .i64 l, .bool false, .bool false, .int .u64 d0, .int .u64 d1, .int .u64 d2, .int .u64 d3, .int .u64 d4, .int .u64 d5, .int .u64 d6, .int .u64 d7] 26)).cell? ⟨b', o, none⟩)) (first | exact stay_drew | assumption | exact stay_step (by simp) (by assumption) (by assumption)) ((go_at_call 24; refine (may_any _).mono ?_; rintro e w1 ⟨rfl, hb⟩))
    go_wp2
    go_ret
    exact ⟨ret_bool (by simp [goodM, zM, h0, h1]), Below.then (Below.drew (Below.al (Below.refl _ _) _)) hb⟩
  · go_enter Try.func8, Try.ntmps8
    go_wp2_with fail
    go_region_held3 (fun w' => Below (w.heap.size + 1) (w.alloc (.cells #[.int .i64 6, .int .i64 l, .bool false, .bool true, .int .u64 d0, .int .u64 d1, .int .u64 d2, .int .u64 d3, .int .u64 d4, .int .u64 d5, .int .u64 d6, .int .u64 d7] 26)) w' ∧ (∀ b' o, b' < w.heap.size + 1 → w'.cell? ⟨b', o, none⟩ = (w.alloc (.cells #[.int .i64 6, .int .i64 l, .bool false, .bool true, .int .u64 d0, .int .u64 d1, .int .u64 d2, .int .u64 d3, .int .u64 d4, .int .u64 d5, .int .u64 d6, .int .u64 d7] 26)).cell? ⟨b', o, none⟩)) (first | exact stay_drew | assumption | exact stay_step (by simp) (by assumption) (by assumption)) ((go_at_call 24; refine (may_any _).mono ?_; rintro e w1 ⟨rfl, hb⟩))
    go_wp2
    go_ret
    exact ⟨ret_bool (by simp [goodM, zM, h0, h1]), Below.then (Below.drew (Below.al (Below.refl _ _) _)) hb⟩
  · go_enter Try.func8, Try.ntmps8
    go_wp2_with fail
    go_region_held3 (fun w' => Below (w.heap.size + 1) (w.alloc (.cells #[.int .i64 6, .int .i64 l, .bool true, .bool false, .int .u64 d0, .int .u64 d1, .int .u64 d2, .int .u64 d3, .int .u64 d4, .int .u64 d5, .int .u64 d6, .int .u64 d7] 26)) w' ∧ (∀ b' o, b' < w.heap.size + 1 → w'.cell? ⟨b', o, none⟩ = (w.alloc (.cells #[.int .i64 6, .int .i64 l, .bool true, .bool false, .int .u64 d0, .int .u64 d1, .int .u64 d2, .int .u64 d3, .int .u64 d4, .int .u64 d5, .int .u64 d6, .int .u64 d7] 26)).cell? ⟨b', o, none⟩)) (first | exact stay_drew | assumption | exact stay_step (by simp) (by assumption) (by assumption)) ((go_at_call 24; refine (may_any _).mono ?_; rintro e w1 ⟨rfl, hb⟩))
    go_wp2
    go_ret
    exact ⟨ret_bool (by simp [goodM, zM, h0, h1]), Below.then (Below.drew (Below.al (Below.refl _ _) _)) hb⟩
  · go_enter Try.func8, Try.ntmps8
    go_wp2_with fail
    go_region_held3 (fun w' => Below (w.heap.size + 1) (w.alloc (.cells #[.int .i64 6, .int .i64 l, .bool true, .bool true, .int .u64 d0, .int .u64 d1, .int .u64 d2, .int .u64 d3, .int .u64 d4, .int .u64 d5, .int .u64 d6, .int .u64 d7] 26)) w' ∧ (∀ b' o, b' < w.heap.size + 1 → w'.cell? ⟨b', o, none⟩ = (w.alloc (.cells #[.int .i64 6, .int .i64 l, .bool true, .bool true, .int .u64 d0, .int .u64 d1, .int .u64 d2, .int .u64 d3, .int .u64 d4, .int .u64 d5, .int .u64 d6, .int .u64 d7] 26)).cell? ⟨b', o, none⟩)) (first | exact stay_drew | assumption | exact stay_step (by simp) (by assumption) (by assumption)) ((go_at_call 24; refine (may_any _).mono ?_; rintro e w1 ⟨rfl, hb⟩))
    go_wp2
    go_ret
    exact ⟨ret_bool (by simp [goodM, zM, h0, h1]), Below.then (Below.drew (Below.al (Below.refl _ _) _)) hb⟩

set_option maxHeartbeats 4000000 in
theorem good_7 (l : Int) (a b : Bool) (d0 d1 d2 d3 d4 d5 d6 d7 : Int) (w : World) (h0 : 0 ≤ l) (h1 : l < 64) :
    Calls Try.prog 8 #[.agg #[.int .i64 7, .int .i64 l, .bool a, .bool b, .int .u64 d0, .int .u64 d1, .int .u64 d2, .int .u64 d3, .int .u64 d4, .int .u64 d5, .int .u64 d6, .int .u64 d7]] w fun e w' => e = .returned (.bool (goodM 7 l a b (zM d0 d1 d2 d3 d4 d5 d6 d7))) ∧ Below w.heap.size w w' := by
  have i0 : ∀ w, (Instr.index 47 (.agg #[.int .i64 0, .int .i64 0, .int .i64 0, .int .i64 1, .int .i64 0, .int .i64 0, .int .i64 1, .int .i64 3, .int .i64 4, .int .i64 4, .int .i64 4, .int .i64 0, .int .i64 0, .int .i64 0, .int .i64 0]) (.int .i64 7)).run Try.prog w = .ok (.int .i64 3) w := fun _ => by kernel_rfl
  have hi := info22
  cases a <;> cases b
  · go_enter Try.func8, Try.ntmps8
    go_wp2_with fail
    go_region_held3 (fun w' => Below (w.heap.size + 1) (w.alloc (.cells #[.int .i64 7, .int .i64 l, .bool false, .bool false, .int .u64 d0, .int .u64 d1, .int .u64 d2, .int .u64 d3, .int .u64 d4, .int .u64 d5, .int .u64 d6, .int .u64 d7] 26)) w' ∧ (∀ b' o, b' < w.heap.size + 1 → w'.cell? ⟨b', o, none⟩ = (w.alloc (.cells #[.int .i64 7, .int .i64 l, .bool false, .bool false, .int .u64 d0, .int .u64 d1, .int .u64 d2, .int .u64 d3, .int .u64 d4, .int .u64 d5, .int .u64 d6, .int .u64 d7] 26)).cell? ⟨b', o, none⟩)) (first | exact stay_drew | assumption | exact stay_step (by simp) (by assumption) (by assumption)) ((go_at_call 24; refine (may_any _).mono ?_; rintro e w1 ⟨rfl, hb⟩))
    go_wp2
    go_ret
    exact ⟨ret_bool (by simp [goodM, zM, h0, h1]), Below.then (Below.drew (Below.al (Below.refl _ _) _)) hb⟩
  · go_enter Try.func8, Try.ntmps8
    go_wp2_with fail
    go_region_held3 (fun w' => Below (w.heap.size + 1) (w.alloc (.cells #[.int .i64 7, .int .i64 l, .bool false, .bool true, .int .u64 d0, .int .u64 d1, .int .u64 d2, .int .u64 d3, .int .u64 d4, .int .u64 d5, .int .u64 d6, .int .u64 d7] 26)) w' ∧ (∀ b' o, b' < w.heap.size + 1 → w'.cell? ⟨b', o, none⟩ = (w.alloc (.cells #[.int .i64 7, .int .i64 l, .bool false, .bool true, .int .u64 d0, .int .u64 d1, .int .u64 d2, .int .u64 d3, .int .u64 d4, .int .u64 d5, .int .u64 d6, .int .u64 d7] 26)).cell? ⟨b', o, none⟩)) (first | exact stay_drew | assumption | exact stay_step (by simp) (by assumption) (by assumption)) ((go_at_call 24; refine (may_any _).mono ?_; rintro e w1 ⟨rfl, hb⟩))
    go_wp2
    go_ret
    exact ⟨ret_bool (by simp [goodM, zM, h0, h1]), Below.then (Below.drew (Below.al (Below.refl _ _) _)) hb⟩
  · go_enter Try.func8, Try.ntmps8
    go_wp2_with fail
    go_region_held3 (fun w' => Below (w.heap.size + 1) (w.alloc (.cells #[.int .i64 7, .int .i64 l, .bool true, .bool false, .int .u64 d0, .int .u64 d1, .int .u64 d2, .int .u64 d3, .int .u64 d4, .int .u64 d5, .int .u64 d6, .int .u64 d7] 26)) w' ∧ (∀ b' o, b' < w.heap.size + 1 → w'.cell? ⟨b', o, none⟩ = (w.alloc (.cells #[.int .i64 7, .int .i64 l, .bool true, .bool false, .int .u64 d0, .int .u64 d1, .int .u64 d2, .int .u64 d3, .int .u64 d4, .int .u64 d5, .int .u64 d6, .int .u64 d7] 26)).cell? ⟨b', o, none⟩)) (first | exact stay_drew | assumption | exact stay_step (by simp) (by assumption) (by assumption)) ((go_at_call 24; refine (may_any _).mono ?_; rintro e w1 ⟨rfl, hb⟩))
    go_wp2
    go_ret
    exact ⟨ret_bool (by simp [goodM, zM, h0, h1]), Below.then (Below.drew (Below.al (Below.refl _ _) _)) hb⟩
  · go_enter Try.func8, Try.ntmps8
    go_wp2_with fail
    go_region_held3 (fun w' => Below (w.heap.size + 1) (w.alloc (.cells #[.int .i64 7, .int .i64 l, .bool true, .bool true, .int .u64 d0, .int .u64 d1, .int .u64 d2, .int .u64 d3, .int .u64 d4, .int .u64 d5, .int .u64 d6, .int .u64 d7] 26)) w' ∧ (∀ b' o, b' < w.heap.size + 1 → w'.cell? ⟨b', o, none⟩ = (w.alloc (.cells #[.int .i64 7, .int .i64 l, .bool true, .bool true, .int .u64 d0, .int .u64 d1, .int .u64 d2, .int .u64 d3, .int .u64 d4, .int .u64 d5, .int .u64 d6, .int .u64 d7] 26)).cell? ⟨b', o, none⟩)) (first | exact stay_drew | assumption | exact stay_step (by simp) (by assumption) (by assumption)) ((go_at_call 24; refine (may_any _).mono ?_; rintro e w1 ⟨rfl, hb⟩))
    go_wp2
    go_ret
    exact ⟨ret_bool (by simp [goodM, zM, h0, h1]), Below.then (Below.drew (Below.al (Below.refl _ _) _)) hb⟩
end Go.Proofs.Ytjkckcmogpipmaa

