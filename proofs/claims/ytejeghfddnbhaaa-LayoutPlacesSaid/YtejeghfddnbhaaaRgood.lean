/-
  What a heap has, and where: the reference's Good.
-/
import Derived.Test.YtejeghfddnbhaaaPlan
import Derived.Test.YtejeghfddnbhaaaGoodr
namespace Go.Proofs.Ytejeghfddnbhaaa
open Go.RowKit
attribute [local go_sem ↓] Go.wp_at_zero Go.wp_at_succ
set_option maxRecDepth 100000 in
set_option maxHeartbeats 8000000 in
theorem rgood_last (a b c d e f g p q : Int) (w : World) (hg : goodC a b c d e f g = true) (k1 : 1 ≤ p) (k2 : p ≤ 16) (k3 : 1 ≤ q) (k4 : q ≤ 16) :
    Calls Try.prog 8 #[.agg #[.int .i64 a, .int .i64 b, .int .i64 c, .int .i64 d, .int .i64 e, .int .i64 f, .int .i64 g, .int .i64 p, .int .i64 q]] w fun E w' => E = .returned (.bool (decide (c + 1 + p + q ≤ b))) ∧ Below w.heap.size w w' := by
  have hga := fun w => goodr_any a b c d e f g w
  rw [hg] at hga
  obtain ⟨hb1, hb2, hb3, hb4⟩ := goodC_b hg
  clear hg
  go_enter Try.func8, Try.ntmps8
  go_wp2_with fail
  refine (hga _).mono ?_
  rintro e w1 ⟨rfl, hB1⟩
  obtain ⟨hbx, hold⟩ := past_box hB1
  have hB : Below w.heap.size w w1 := Below.then (Below.al (Below.refl _ _) _) hB1
  have HB := Lib.hid hB
  obtain ⟨n0, hn0⟩ : ∃ n0, w.heap.size = n0 := ⟨_, rfl⟩
  simp only [hn0] at hbx ⊢
  have q1 : w1.cell? ⟨n0, 1, none⟩ = some (.int .i64 b) := by rw [cell_of_row _ _ _ _ 25 (0, 0) hbx]; rfl
  have q2 : w1.cell? ⟨n0, 2, none⟩ = some (.int .i64 c) := by rw [cell_of_row _ _ _ _ 25 (0, 0) hbx]; rfl
  have q7 : w1.cell? ⟨n0, 7, none⟩ = some (.int .i64 p) := by rw [cell_of_row _ _ _ _ 25 (0, 0) hbx]; rfl
  have q8 : w1.cell? ⟨n0, 8, none⟩ = some (.int .i64 q) := by rw [cell_of_row _ _ _ _ 25 (0, 0) hbx]; rfl
  clear hga hB1 hbx hold hB hn0
  go_wp2
  go_ret
  exact ⟨rfl, HB.out⟩
set_option maxRecDepth 100000 in
set_option maxHeartbeats 8000000 in
theorem rgood_no1 (a b c d e f g p q : Int) (w : World) (hg : goodC a b c d e f g = true) (k1 : ¬ 1 ≤ p) :
    Calls Try.prog 8 #[.agg #[.int .i64 a, .int .i64 b, .int .i64 c, .int .i64 d, .int .i64 e, .int .i64 f, .int .i64 g, .int .i64 p, .int .i64 q]] w fun E w' => E = .returned (.bool false) ∧ Below w.heap.size w w' := by
  have hga := fun w => goodr_any a b c d e f g w
  rw [hg] at hga
  obtain ⟨hb1, hb2, hb3, hb4⟩ := goodC_b hg
  clear hg
  go_enter Try.func8, Try.ntmps8
  go_wp2_with fail
  refine (hga _).mono ?_
  rintro e w1 ⟨rfl, hB1⟩
  obtain ⟨hbx, hold⟩ := past_box hB1
  have hB : Below w.heap.size w w1 := Below.then (Below.al (Below.refl _ _) _) hB1
  have HB := Lib.hid hB
  obtain ⟨n0, hn0⟩ : ∃ n0, w.heap.size = n0 := ⟨_, rfl⟩
  simp only [hn0] at hbx ⊢
  have q1 : w1.cell? ⟨n0, 1, none⟩ = some (.int .i64 b) := by rw [cell_of_row _ _ _ _ 25 (0, 0) hbx]; rfl
  have q2 : w1.cell? ⟨n0, 2, none⟩ = some (.int .i64 c) := by rw [cell_of_row _ _ _ _ 25 (0, 0) hbx]; rfl
  have q7 : w1.cell? ⟨n0, 7, none⟩ = some (.int .i64 p) := by rw [cell_of_row _ _ _ _ 25 (0, 0) hbx]; rfl
  have q8 : w1.cell? ⟨n0, 8, none⟩ = some (.int .i64 q) := by rw [cell_of_row _ _ _ _ 25 (0, 0) hbx]; rfl
  clear hga hB1 hbx hold hB hn0
  go_wp2
  go_ret
  exact ⟨rfl, HB.out⟩
set_option maxRecDepth 100000 in
set_option maxHeartbeats 8000000 in
theorem rgood_no2 (a b c d e f g p q : Int) (w : World) (hg : goodC a b c d e f g = true) (k1 : 1 ≤ p) (k2 : ¬ p ≤ 16) :
    Calls Try.prog 8 #[.agg #[.int .i64 a, .int .i64 b, .int .i64 c, .int .i64 d, .int .i64 e, .int .i64 f, .int .i64 g, .int .i64 p, .int .i64 q]] w fun E w' => E = .returned (.bool false) ∧ Below w.heap.size w w' := by
  have hga := fun w => goodr_any a b c d e f g w
  rw [hg] at hga
  obtain ⟨hb1, hb2, hb3, hb4⟩ := goodC_b hg
  clear hg
  go_enter Try.func8, Try.ntmps8
  go_wp2_with fail
  refine (hga _).mono ?_
  rintro e w1 ⟨rfl, hB1⟩
  obtain ⟨hbx, hold⟩ := past_box hB1
  have hB : Below w.heap.size w w1 := Below.then (Below.al (Below.refl _ _) _) hB1
  have HB := Lib.hid hB
  obtain ⟨n0, hn0⟩ : ∃ n0, w.heap.size = n0 := ⟨_, rfl⟩
  simp only [hn0] at hbx ⊢
  have q1 : w1.cell? ⟨n0, 1, none⟩ = some (.int .i64 b) := by rw [cell_of_row _ _ _ _ 25 (0, 0) hbx]; rfl
  have q2 : w1.cell? ⟨n0, 2, none⟩ = some (.int .i64 c) := by rw [cell_of_row _ _ _ _ 25 (0, 0) hbx]; rfl
  have q7 : w1.cell? ⟨n0, 7, none⟩ = some (.int .i64 p) := by rw [cell_of_row _ _ _ _ 25 (0, 0) hbx]; rfl
  have q8 : w1.cell? ⟨n0, 8, none⟩ = some (.int .i64 q) := by rw [cell_of_row _ _ _ _ 25 (0, 0) hbx]; rfl
  clear hga hB1 hbx hold hB hn0
  go_wp2
  go_ret
  exact ⟨rfl, HB.out⟩
set_option maxRecDepth 100000 in
set_option maxHeartbeats 8000000 in
theorem rgood_no3 (a b c d e f g p q : Int) (w : World) (hg : goodC a b c d e f g = true) (k1 : 1 ≤ p) (k2 : p ≤ 16) (k3 : ¬ 1 ≤ q) :
    Calls Try.prog 8 #[.agg #[.int .i64 a, .int .i64 b, .int .i64 c, .int .i64 d, .int .i64 e, .int .i64 f, .int .i64 g, .int .i64 p, .int .i64 q]] w fun E w' => E = .returned (.bool false) ∧ Below w.heap.size w w' := by
  have hga := fun w => goodr_any a b c d e f g w
  rw [hg] at hga
  obtain ⟨hb1, hb2, hb3, hb4⟩ := goodC_b hg
  clear hg
  go_enter Try.func8, Try.ntmps8
  go_wp2_with fail
  refine (hga _).mono ?_
  rintro e w1 ⟨rfl, hB1⟩
  obtain ⟨hbx, hold⟩ := past_box hB1
  have hB : Below w.heap.size w w1 := Below.then (Below.al (Below.refl _ _) _) hB1
  have HB := Lib.hid hB
  obtain ⟨n0, hn0⟩ : ∃ n0, w.heap.size = n0 := ⟨_, rfl⟩
  simp only [hn0] at hbx ⊢
  have q1 : w1.cell? ⟨n0, 1, none⟩ = some (.int .i64 b) := by rw [cell_of_row _ _ _ _ 25 (0, 0) hbx]; rfl
  have q2 : w1.cell? ⟨n0, 2, none⟩ = some (.int .i64 c) := by rw [cell_of_row _ _ _ _ 25 (0, 0) hbx]; rfl
  have q7 : w1.cell? ⟨n0, 7, none⟩ = some (.int .i64 p) := by rw [cell_of_row _ _ _ _ 25 (0, 0) hbx]; rfl
  have q8 : w1.cell? ⟨n0, 8, none⟩ = some (.int .i64 q) := by rw [cell_of_row _ _ _ _ 25 (0, 0) hbx]; rfl
  clear hga hB1 hbx hold hB hn0
  go_wp2
  go_ret
  exact ⟨rfl, HB.out⟩
set_option maxRecDepth 100000 in
set_option maxHeartbeats 8000000 in
theorem rgood_no4 (a b c d e f g p q : Int) (w : World) (hg : goodC a b c d e f g = true) (k1 : 1 ≤ p) (k2 : p ≤ 16) (k3 : 1 ≤ q) (k4 : ¬ q ≤ 16) :
    Calls Try.prog 8 #[.agg #[.int .i64 a, .int .i64 b, .int .i64 c, .int .i64 d, .int .i64 e, .int .i64 f, .int .i64 g, .int .i64 p, .int .i64 q]] w fun E w' => E = .returned (.bool false) ∧ Below w.heap.size w w' := by
  have hga := fun w => goodr_any a b c d e f g w
  rw [hg] at hga
  obtain ⟨hb1, hb2, hb3, hb4⟩ := goodC_b hg
  clear hg
  go_enter Try.func8, Try.ntmps8
  go_wp2_with fail
  refine (hga _).mono ?_
  rintro e w1 ⟨rfl, hB1⟩
  obtain ⟨hbx, hold⟩ := past_box hB1
  have hB : Below w.heap.size w w1 := Below.then (Below.al (Below.refl _ _) _) hB1
  have HB := Lib.hid hB
  obtain ⟨n0, hn0⟩ : ∃ n0, w.heap.size = n0 := ⟨_, rfl⟩
  simp only [hn0] at hbx ⊢
  have q1 : w1.cell? ⟨n0, 1, none⟩ = some (.int .i64 b) := by rw [cell_of_row _ _ _ _ 25 (0, 0) hbx]; rfl
  have q2 : w1.cell? ⟨n0, 2, none⟩ = some (.int .i64 c) := by rw [cell_of_row _ _ _ _ 25 (0, 0) hbx]; rfl
  have q7 : w1.cell? ⟨n0, 7, none⟩ = some (.int .i64 p) := by rw [cell_of_row _ _ _ _ 25 (0, 0) hbx]; rfl
  have q8 : w1.cell? ⟨n0, 8, none⟩ = some (.int .i64 q) := by rw [cell_of_row _ _ _ _ 25 (0, 0) hbx]; rfl
  clear hga hB1 hbx hold hB hn0
  go_wp2
  go_ret
  exact ⟨rfl, HB.out⟩
set_option maxRecDepth 100000 in
set_option maxHeartbeats 8000000 in
theorem rgood_no0 (a b c d e f g p q : Int) (w : World) (hg : goodC a b c d e f g = false) :
    Calls Try.prog 8 #[.agg #[.int .i64 a, .int .i64 b, .int .i64 c, .int .i64 d, .int .i64 e, .int .i64 f, .int .i64 g, .int .i64 p, .int .i64 q]] w fun E w' => E = .returned (.bool false) ∧ Below w.heap.size w w' := by
  have hga := fun w => goodr_any a b c d e f g w
  rw [hg] at hga
  clear hg
  go_enter Try.func8, Try.ntmps8
  go_wp2_with fail
  refine (hga _).mono ?_
  rintro e w1 ⟨rfl, hB1⟩
  obtain ⟨hbx, hold⟩ := past_box hB1
  have hB : Below w.heap.size w w1 := Below.then (Below.al (Below.refl _ _) _) hB1
  have HB := Lib.hid hB
  obtain ⟨n0, hn0⟩ : ∃ n0, w.heap.size = n0 := ⟨_, rfl⟩
  simp only [hn0] at hbx ⊢
  have q1 : w1.cell? ⟨n0, 1, none⟩ = some (.int .i64 b) := by rw [cell_of_row _ _ _ _ 25 (0, 0) hbx]; rfl
  have q2 : w1.cell? ⟨n0, 2, none⟩ = some (.int .i64 c) := by rw [cell_of_row _ _ _ _ 25 (0, 0) hbx]; rfl
  have q7 : w1.cell? ⟨n0, 7, none⟩ = some (.int .i64 p) := by rw [cell_of_row _ _ _ _ 25 (0, 0) hbx]; rfl
  have q8 : w1.cell? ⟨n0, 8, none⟩ = some (.int .i64 q) := by rw [cell_of_row _ _ _ _ 25 (0, 0) hbx]; rfl
  clear hga hB1 hbx hold hB hn0
  go_wp2
  go_ret
  exact ⟨rfl, HB.out⟩
theorem rgood_any (a b c d e f g p q : Int) (w : World) : Calls Try.prog 8 #[.agg #[.int .i64 a, .int .i64 b, .int .i64 c, .int .i64 d, .int .i64 e, .int .i64 f, .int .i64 g, .int .i64 p, .int .i64 q]] w fun E w' => E = .returned (.bool (goodH a b c d e f g p q)) ∧ Below w.heap.size w w' := by
  by_cases hg : goodC a b c d e f g = true
  · have hG : goodH a b c d e f g p q = decide (1 ≤ p ∧ p ≤ 16 ∧ 1 ≤ q ∧ q ≤ 16 ∧ c + 1 + p + q ≤ b) := by rw [goodH, hg]; rfl
    rw [hG]
    by_cases k1 : 1 ≤ p
    · skip
      by_cases k2 : p ≤ 16
      · skip
        by_cases k3 : 1 ≤ q
        · skip
          by_cases k4 : q ≤ 16
          · skip
            rw [show decide (1 ≤ p ∧ p ≤ 16 ∧ 1 ≤ q ∧ q ≤ 16 ∧ c + 1 + p + q ≤ b) = decide (c + 1 + p + q ≤ b) from decide_eq_decide.2 ⟨fun h => h.2.2.2.2, fun h => ⟨k1, k2, k3, k4, h⟩⟩]
            exact rgood_last a b c d e f g p q w hg k1 k2 k3 k4
          · skip
            rw [show decide (1 ≤ p ∧ p ≤ 16 ∧ 1 ≤ q ∧ q ≤ 16 ∧ c + 1 + p + q ≤ b) = false from decide_eq_false (by omega)]
            exact rgood_no4 a b c d e f g p q w hg k1 k2 k3 k4
        · skip
          rw [show decide (1 ≤ p ∧ p ≤ 16 ∧ 1 ≤ q ∧ q ≤ 16 ∧ c + 1 + p + q ≤ b) = false from decide_eq_false (by omega)]
          exact rgood_no3 a b c d e f g p q w hg k1 k2 k3
      · skip
        rw [show decide (1 ≤ p ∧ p ≤ 16 ∧ 1 ≤ q ∧ q ≤ 16 ∧ c + 1 + p + q ≤ b) = false from decide_eq_false (by omega)]
        exact rgood_no2 a b c d e f g p q w hg k1 k2
    · skip
      rw [show decide (1 ≤ p ∧ p ≤ 16 ∧ 1 ≤ q ∧ q ≤ 16 ∧ c + 1 + p + q ≤ b) = false from decide_eq_false (by omega)]
      exact rgood_no1 a b c d e f g p q w hg k1
  · have hg : goodC a b c d e f g = false := by simpa using hg
    rw [show goodH a b c d e f g p q = false by rw [goodH, hg]; rfl]
    exact rgood_no0 a b c d e f g p q w hg
end Go.Proofs.Ytejeghfddnbhaaa
