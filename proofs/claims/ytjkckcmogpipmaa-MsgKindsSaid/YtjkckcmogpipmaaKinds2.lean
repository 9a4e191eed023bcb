/-
  MsgKinds and MsgNone, walked.
-/
import Derived.Test.YtjkckcmogpipmaaForms
namespace Go.Proofs.Ytjkckcmogpipmaa
open Go.RowKit
attribute [local go_sem ↓] Go.wp_at_zero Go.wp_at_succ

set_option maxRecDepth 100000 in
set_option maxHeartbeats 4000000 in
theorem kinds_asks_in (kind line : Int) (k0 : 1 ≤ kind) (k1 : kind ≤ 5) (l0 : 0 ≤ line) (l1 : line < 64) (w : World) : Calls Try.prog 5 #[.int .i64 kind, .int .i64 line] w fun e w' => e = .returned (.bool true) ∧ Below w.heap.size w w' := by
  have f1 : asksM kind = true := by simp [asksM]; omega
  have f2 : answersM kind = false := by simp [answersM]; omega
  have f3 : tellsM kind = false := by simp [tellsM]; omega
  have g1 : goodM kind line false false (zM 0 0 0 0 0 0 0 0) = true := by simp [goodM, zM]; omega
  have g2 : goodM kind line false true (zM 0 0 0 0 0 0 0 0) = false := by simp [goodM, zM]; omega
  have k7 : (kind == 7) = false := by simp; omega
  have lb0 : decide (0 ≤ line) = true := decide_eq_true l0
  have lb1 : decide (line < 64) = true := decide_eq_true l1
  go_enter Try.func5, Try.ntmps5
  go_wp2_with (first | (go_at_call 10; refine (asks_any _ _).mono ?_; rintro e w' ⟨rfl, rfl⟩) | (go_at_call 12; refine (answers_any _ _).mono ?_; rintro e w' ⟨rfl, rfl⟩) | (go_at_call 14; refine (tells_any _ _).mono ?_; rintro e w' ⟨rfl, rfl⟩))
  refine (good_any _ _ _ _ _ _ _ _ _ _ _ _  _).mono ?_
  rintro e w1 ⟨rfl, hb1⟩
  rw [g1]
  have hc1 := fun o => hb1.cell (p := ⟨w.heap.size + 1, o, none⟩) (by simp)
  have hz1 : w.heap.size + 1 < w1.heap.size := by have := hb1.size; simp at this; omega
  have HB1 := Lib.hid hb1
  clear hb1
  go_wp2_with fail
  refine (good_any _ _ _ _ _ _ _ _ _ _ _ _  _).mono ?_
  rintro e w2 ⟨rfl, hb2⟩
  rw [g2]
  have HB2 := Lib.hid hb2
  clear hb2
  go_wp2_with fail
  refine (wakes_any _).mono ?_
  rintro e w3 ⟨rfl, hb3⟩
  have HB3 := Lib.hid hb3
  clear hb3
  go_wp2
  go_ret
  exact ⟨rfl, Below.then (Below.then (Below.then (Below.al (Below.al (Below.refl _ _) _) _) HB1.out) HB2.out) HB3.out⟩
set_option maxRecDepth 100000 in
set_option maxHeartbeats 4000000 in
theorem kinds_asks_lo (kind line : Int) (k0 : 1 ≤ kind) (k1 : kind ≤ 5) (l0 : line < 0) (w : World) : Calls Try.prog 5 #[.int .i64 kind, .int .i64 line] w fun e w' => e = .returned (.bool true) ∧ Below w.heap.size w w' := by
  have f1 : asksM kind = true := by simp [asksM]; omega
  have f2 : answersM kind = false := by simp [answersM]; omega
  have f3 : tellsM kind = false := by simp [tellsM]; omega
  have g1 : goodM kind line false false (zM 0 0 0 0 0 0 0 0) = false := by simp [goodM, zM]; omega
  have g2 : goodM kind line false true (zM 0 0 0 0 0 0 0 0) = false := by simp [goodM, zM]; omega
  have k7 : (kind == 7) = false := by simp; omega
  have lb0 : decide (0 ≤ line) = false := decide_eq_false (by omega)
  go_enter Try.func5, Try.ntmps5
  go_wp2_with (first | (go_at_call 10; refine (asks_any _ _).mono ?_; rintro e w' ⟨rfl, rfl⟩) | (go_at_call 12; refine (answers_any _ _).mono ?_; rintro e w' ⟨rfl, rfl⟩) | (go_at_call 14; refine (tells_any _ _).mono ?_; rintro e w' ⟨rfl, rfl⟩))
  refine (good_any _ _ _ _ _ _ _ _ _ _ _ _  _).mono ?_
  rintro e w1 ⟨rfl, hb1⟩
  rw [g1]
  have hc1 := fun o => hb1.cell (p := ⟨w.heap.size + 1, o, none⟩) (by simp)
  have hz1 : w.heap.size + 1 < w1.heap.size := by have := hb1.size; simp at this; omega
  have HB1 := Lib.hid hb1
  clear hb1
  go_wp2_with fail
  refine (good_any _ _ _ _ _ _ _ _ _ _ _ _  _).mono ?_
  rintro e w2 ⟨rfl, hb2⟩
  rw [g2]
  have HB2 := Lib.hid hb2
  clear hb2
  go_wp2_with fail
  refine (wakes_any _).mono ?_
  rintro e w3 ⟨rfl, hb3⟩
  have HB3 := Lib.hid hb3
  clear hb3
  go_wp2
  go_ret
  exact ⟨rfl, Below.then (Below.then (Below.then (Below.al (Below.al (Below.refl _ _) _) _) HB1.out) HB2.out) HB3.out⟩
set_option maxRecDepth 100000 in
set_option maxHeartbeats 4000000 in
theorem kinds_asks_hi (kind line : Int) (k0 : 1 ≤ kind) (k1 : kind ≤ 5) (l0 : 64 ≤ line) (w : World) : Calls Try.prog 5 #[.int .i64 kind, .int .i64 line] w fun e w' => e = .returned (.bool true) ∧ Below w.heap.size w w' := by
  have f1 : asksM kind = true := by simp [asksM]; omega
  have f2 : answersM kind = false := by simp [answersM]; omega
  have f3 : tellsM kind = false := by simp [tellsM]; omega
  have g1 : goodM kind line false false (zM 0 0 0 0 0 0 0 0) = false := by simp [goodM, zM]; omega
  have g2 : goodM kind line false true (zM 0 0 0 0 0 0 0 0) = false := by simp [goodM, zM]; omega
  have k7 : (kind == 7) = false := by simp; omega
  have lb0 : 0 ≤ line := by omega
  have lb1 : decide (line < 64) = false := decide_eq_false (by omega)
  go_enter Try.func5, Try.ntmps5
  go_wp2_with (first | (go_at_call 10; refine (asks_any _ _).mono ?_; rintro e w' ⟨rfl, rfl⟩) | (go_at_call 12; refine (answers_any _ _).mono ?_; rintro e w' ⟨rfl, rfl⟩) | (go_at_call 14; refine (tells_any _ _).mono ?_; rintro e w' ⟨rfl, rfl⟩))
  refine (good_any _ _ _ _ _ _ _ _ _ _ _ _  _).mono ?_
  rintro e w1 ⟨rfl, hb1⟩
  rw [g1]
  have hc1 := fun o => hb1.cell (p := ⟨w.heap.size + 1, o, none⟩) (by simp)
  have hz1 : w.heap.size + 1 < w1.heap.size := by have := hb1.size; simp at this; omega
  have HB1 := Lib.hid hb1
  clear hb1
  go_wp2_with fail
  refine (good_any _ _ _ _ _ _ _ _ _ _ _ _  _).mono ?_
  rintro e w2 ⟨rfl, hb2⟩
  rw [g2]
  have HB2 := Lib.hid hb2
  clear hb2
  go_wp2_with fail
  refine (wakes_any _).mono ?_
  rintro e w3 ⟨rfl, hb3⟩
  have HB3 := Lib.hid hb3
  clear hb3
  go_wp2
  go_ret
  exact ⟨rfl, Below.then (Below.then (Below.then (Below.al (Below.al (Below.refl _ _) _) _) HB1.out) HB2.out) HB3.out⟩
set_option maxRecDepth 100000 in
set_option maxHeartbeats 4000000 in
theorem kinds_six_in (kind line : Int) (k0 : 6 ≤ kind) (k1 : kind ≤ 6) (l0 : 0 ≤ line) (l1 : line < 64) (w : World) : Calls Try.prog 5 #[.int .i64 kind, .int .i64 line] w fun e w' => e = .returned (.bool true) ∧ Below w.heap.size w w' := by
  have f1 : asksM kind = false := by simp [asksM]; omega
  have f2 : answersM kind = true := by simp [answersM]; omega
  have f3 : tellsM kind = false := by simp [tellsM]; omega
  have g1 : goodM kind line false false (zM 0 0 0 0 0 0 0 0) = true := by simp [goodM, zM]; omega
  have g2 : goodM kind line false true (zM 0 0 0 0 0 0 0 0) = false := by simp [goodM, zM]; omega
  have k7 : (kind == 7) = false := by simp; omega
  have lb0 : decide (0 ≤ line) = true := decide_eq_true l0
  have lb1 : decide (line < 64) = true := decide_eq_true l1
  go_enter Try.func5, Try.ntmps5
  go_wp2_with (first | (go_at_call 10; refine (asks_any _ _).mono ?_; rintro e w' ⟨rfl, rfl⟩) | (go_at_call 12; refine (answers_any _ _).mono ?_; rintro e w' ⟨rfl, rfl⟩) | (go_at_call 14; refine (tells_any _ _).mono ?_; rintro e w' ⟨rfl, rfl⟩))
  refine (good_any _ _ _ _ _ _ _ _ _ _ _ _  _).mono ?_
  rintro e w1 ⟨rfl, hb1⟩
  rw [g1]
  have hc1 := fun o => hb1.cell (p := ⟨w.heap.size + 1, o, none⟩) (by simp)
  have hz1 : w.heap.size + 1 < w1.heap.size := by have := hb1.size; simp at this; omega
  have HB1 := Lib.hid hb1
  clear hb1
  go_wp2_with fail
  refine (good_any _ _ _ _ _ _ _ _ _ _ _ _  _).mono ?_
  rintro e w2 ⟨rfl, hb2⟩
  rw [g2]
  have HB2 := Lib.hid hb2
  clear hb2
  go_wp2_with fail
  refine (wakes_any _).mono ?_
  rintro e w3 ⟨rfl, hb3⟩
  have HB3 := Lib.hid hb3
  clear hb3
  go_wp2
  go_ret
  exact ⟨rfl, Below.then (Below.then (Below.then (Below.al (Below.al (Below.refl _ _) _) _) HB1.out) HB2.out) HB3.out⟩
set_option maxRecDepth 100000 in
set_option maxHeartbeats 4000000 in
theorem kinds_six_lo (kind line : Int) (k0 : 6 ≤ kind) (k1 : kind ≤ 6) (l0 : line < 0) (w : World) : Calls Try.prog 5 #[.int .i64 kind, .int .i64 line] w fun e w' => e = .returned (.bool true) ∧ Below w.heap.size w w' := by
  have f1 : asksM kind = false := by simp [asksM]; omega
  have f2 : answersM kind = true := by simp [answersM]; omega
  have f3 : tellsM kind = false := by simp [tellsM]; omega
  have g1 : goodM kind line false false (zM 0 0 0 0 0 0 0 0) = false := by simp [goodM, zM]; omega
  have g2 : goodM kind line false true (zM 0 0 0 0 0 0 0 0) = false := by simp [goodM, zM]; omega
  have k7 : (kind == 7) = false := by simp; omega
  have lb0 : decide (0 ≤ line) = false := decide_eq_false (by omega)
  go_enter Try.func5, Try.ntmps5
  go_wp2_with (first | (go_at_call 10; refine (asks_any _ _).mono ?_; rintro e w' ⟨rfl, rfl⟩) | (go_at_call 12; refine (answers_any _ _).mono ?_; rintro e w' ⟨rfl, rfl⟩) | (go_at_call 14; refine (tells_any _ _).mono ?_; rintro e w' ⟨rfl, rfl⟩))
  refine (good_any _ _ _ _ _ _ _ _ _ _ _ _  _).mono ?_
  rintro e w1 ⟨rfl, hb1⟩
  rw [g1]
  have hc1 := fun o => hb1.cell (p := ⟨w.heap.size + 1, o, none⟩) (by simp)
  have hz1 : w.heap.size + 1 < w1.heap.size := by have := hb1.size; simp at this; omega
  have HB1 := Lib.hid hb1
  clear hb1
  go_wp2_with fail
  refine (good_any _ _ _ _ _ _ _ _ _ _ _ _  _).mono ?_
  rintro e w2 ⟨rfl, hb2⟩
  rw [g2]
  have HB2 := Lib.hid hb2
  clear hb2
  go_wp2_with fail
  refine (wakes_any _).mono ?_
  rintro e w3 ⟨rfl, hb3⟩
  have HB3 := Lib.hid hb3
  clear hb3
  go_wp2
  go_ret
  exact ⟨rfl, Below.then (Below.then (Below.then (Below.al (Below.al (Below.refl _ _) _) _) HB1.out) HB2.out) HB3.out⟩
set_option maxRecDepth 100000 in
set_option maxHeartbeats 4000000 in
theorem kinds_six_hi (kind line : Int) (k0 : 6 ≤ kind) (k1 : kind ≤ 6) (l0 : 64 ≤ line) (w : World) : Calls Try.prog 5 #[.int .i64 kind, .int .i64 line] w fun e w' => e = .returned (.bool true) ∧ Below w.heap.size w w' := by
  have f1 : asksM kind = false := by simp [asksM]; omega
  have f2 : answersM kind = true := by simp [answersM]; omega
  have f3 : tellsM kind = false := by simp [tellsM]; omega
  have g1 : goodM kind line false false (zM 0 0 0 0 0 0 0 0) = false := by simp [goodM, zM]; omega
  have g2 : goodM kind line false true (zM 0 0 0 0 0 0 0 0) = false := by simp [goodM, zM]; omega
  have k7 : (kind == 7) = false := by simp; omega
  have lb0 : 0 ≤ line := by omega
  have lb1 : decide (line < 64) = false := decide_eq_false (by omega)
  go_enter Try.func5, Try.ntmps5
  go_wp2_with (first | (go_at_call 10; refine (asks_any _ _).mono ?_; rintro e w' ⟨rfl, rfl⟩) | (go_at_call 12; refine (answers_any _ _).mono ?_; rintro e w' ⟨rfl, rfl⟩) | (go_at_call 14; refine (tells_any _ _).mono ?_; rintro e w' ⟨rfl, rfl⟩))
  refine (good_any _ _ _ _ _ _ _ _ _ _ _ _  _).mono ?_
  rintro e w1 ⟨rfl, hb1⟩
  rw [g1]
  have hc1 := fun o => hb1.cell (p := ⟨w.heap.size + 1, o, none⟩) (by simp)
  have hz1 : w.heap.size + 1 < w1.heap.size := by have := hb1.size; simp at this; omega
  have HB1 := Lib.hid hb1
  clear hb1
  go_wp2_with fail
  refine (good_any _ _ _ _ _ _ _ _ _ _ _ _  _).mono ?_
  rintro e w2 ⟨rfl, hb2⟩
  rw [g2]
  have HB2 := Lib.hid hb2
  clear hb2
  go_wp2_with fail
  refine (wakes_any _).mono ?_
  rintro e w3 ⟨rfl, hb3⟩
  have HB3 := Lib.hid hb3
  clear hb3
  go_wp2
  go_ret
  exact ⟨rfl, Below.then (Below.then (Below.then (Below.al (Below.al (Below.refl _ _) _) _) HB1.out) HB2.out) HB3.out⟩
set_option maxRecDepth 100000 in
set_option maxHeartbeats 4000000 in
theorem kinds_seven_in (kind line : Int) (k0 : 7 ≤ kind) (k1 : kind ≤ 7) (l0 : 0 ≤ line) (l1 : line < 64) (w : World) : Calls Try.prog 5 #[.int .i64 kind, .int .i64 line] w fun e w' => e = .returned (.bool true) ∧ Below w.heap.size w w' := by
  have f1 : asksM kind = false := by simp [asksM]; omega
  have f2 : answersM kind = true := by simp [answersM]; omega
  have f3 : tellsM kind = false := by simp [tellsM]; omega
  have g1 : goodM kind line false false (zM 0 0 0 0 0 0 0 0) = true := by simp [goodM, zM]; omega
  have g2 : goodM kind line false true (zM 0 0 0 0 0 0 0 0) = true := by simp [goodM, zM]; omega
  have k7 : (kind == 7) = true := by simp; omega
  have lb0 : decide (0 ≤ line) = true := decide_eq_true l0
  have lb1 : decide (line < 64) = true := decide_eq_true l1
  go_enter Try.func5, Try.ntmps5
  go_wp2_with (first | (go_at_call 10; refine (asks_any _ _).mono ?_; rintro e w' ⟨rfl, rfl⟩) | (go_at_call 12; refine (answers_any _ _).mono ?_; rintro e w' ⟨rfl, rfl⟩) | (go_at_call 14; refine (tells_any _ _).mono ?_; rintro e w' ⟨rfl, rfl⟩))
  refine (good_any _ _ _ _ _ _ _ _ _ _ _ _  _).mono ?_
  rintro e w1 ⟨rfl, hb1⟩
  rw [g1]
  have hc1 := fun o => hb1.cell (p := ⟨w.heap.size + 1, o, none⟩) (by simp)
  have hz1 : w.heap.size + 1 < w1.heap.size := by have := hb1.size; simp at this; omega
  have HB1 := Lib.hid hb1
  clear hb1
  go_wp2_with fail
  refine (good_any _ _ _ _ _ _ _ _ _ _ _ _  _).mono ?_
  rintro e w2 ⟨rfl, hb2⟩
  rw [g2]
  have HB2 := Lib.hid hb2
  clear hb2
  go_wp2_with fail
  refine (wakes_any _).mono ?_
  rintro e w3 ⟨rfl, hb3⟩
  have HB3 := Lib.hid hb3
  clear hb3
  go_wp2
  go_ret
  exact ⟨rfl, Below.then (Below.then (Below.then (Below.al (Below.al (Below.refl _ _) _) _) HB1.out) HB2.out) HB3.out⟩
set_option maxRecDepth 100000 in
set_option maxHeartbeats 4000000 in
theorem kinds_seven_lo (kind line : Int) (k0 : 7 ≤ kind) (k1 : kind ≤ 7) (l0 : line < 0) (w : World) : Calls Try.prog 5 #[.int .i64 kind, .int .i64 line] w fun e w' => e = .returned (.bool true) ∧ Below w.heap.size w w' := by
  have f1 : asksM kind = false := by simp [asksM]; omega
  have f2 : answersM kind = true := by simp [answersM]; omega
  have f3 : tellsM kind = false := by simp [tellsM]; omega
  have g1 : goodM kind line false false (zM 0 0 0 0 0 0 0 0) = false := by simp [goodM, zM]; omega
  have g2 : goodM kind line false true (zM 0 0 0 0 0 0 0 0) = false := by simp [goodM, zM]; omega
  have k7 : (kind == 7) = true := by simp; omega
  have lb0 : decide (0 ≤ line) = false := decide_eq_false (by omega)
  go_enter Try.func5, Try.ntmps5
  go_wp2_with (first | (go_at_call 10; refine (asks_any _ _).mono ?_; rintro e w' ⟨rfl, rfl⟩) | (go_at_call 12; refine (answers_any _ _).mono ?_; rintro e w' ⟨rfl, rfl⟩) | (go_at_call 14; refine (tells_any _ _).mono ?_; rintro e w' ⟨rfl, rfl⟩))
  refine (good_any _ _ _ _ _ _ _ _ _ _ _ _  _).mono ?_
  rintro e w1 ⟨rfl, hb1⟩
  rw [g1]
  have hc1 := fun o => hb1.cell (p := ⟨w.heap.size + 1, o, none⟩) (by simp)
  have hz1 : w.heap.size + 1 < w1.heap.size := by have := hb1.size; simp at this; omega
  have HB1 := Lib.hid hb1
  clear hb1
  go_wp2_with fail
  refine (good_any _ _ _ _ _ _ _ _ _ _ _ _  _).mono ?_
  rintro e w2 ⟨rfl, hb2⟩
  rw [g2]
  have HB2 := Lib.hid hb2
  clear hb2
  go_wp2_with fail
  refine (wakes_any _).mono ?_
  rintro e w3 ⟨rfl, hb3⟩
  have HB3 := Lib.hid hb3
  clear hb3
  go_wp2
  go_ret
  exact ⟨rfl, Below.then (Below.then (Below.then (Below.al (Below.al (Below.refl _ _) _) _) HB1.out) HB2.out) HB3.out⟩
set_option maxRecDepth 100000 in
set_option maxHeartbeats 4000000 in
theorem kinds_seven_hi (kind line : Int) (k0 : 7 ≤ kind) (k1 : kind ≤ 7) (l0 : 64 ≤ line) (w : World) : Calls Try.prog 5 #[.int .i64 kind, .int .i64 line] w fun e w' => e = .returned (.bool true) ∧ Below w.heap.size w w' := by
  have f1 : asksM kind = false := by simp [asksM]; omega
  have f2 : answersM kind = true := by simp [answersM]; omega
  have f3 : tellsM kind = false := by simp [tellsM]; omega
  have g1 : goodM kind line false false (zM 0 0 0 0 0 0 0 0) = false := by simp [goodM, zM]; omega
  have g2 : goodM kind line false true (zM 0 0 0 0 0 0 0 0) = false := by simp [goodM, zM]; omega
  have k7 : (kind == 7) = true := by simp; omega
  have lb0 : 0 ≤ line := by omega
  have lb1 : decide (line < 64) = false := decide_eq_false (by omega)
  go_enter Try.func5, Try.ntmps5
  go_wp2_with (first | (go_at_call 10; refine (asks_any _ _).mono ?_; rintro e w' ⟨rfl, rfl⟩) | (go_at_call 12; refine (answers_any _ _).mono ?_; rintro e w' ⟨rfl, rfl⟩) | (go_at_call 14; refine (tells_any _ _).mono ?_; rintro e w' ⟨rfl, rfl⟩))
  refine (good_any _ _ _ _ _ _ _ _ _ _ _ _  _).mono ?_
  rintro e w1 ⟨rfl, hb1⟩
  rw [g1]
  have hc1 := fun o => hb1.cell (p := ⟨w.heap.size + 1, o, none⟩) (by simp)
  have hz1 : w.heap.size + 1 < w1.heap.size := by have := hb1.size; simp at this; omega
  have HB1 := Lib.hid hb1
  clear hb1
  go_wp2_with fail
  refine (good_any _ _ _ _ _ _ _ _ _ _ _ _  _).mono ?_
  rintro e w2 ⟨rfl, hb2⟩
  rw [g2]
  have HB2 := Lib.hid hb2
  clear hb2
  go_wp2_with fail
  refine (wakes_any _).mono ?_
  rintro e w3 ⟨rfl, hb3⟩
  have HB3 := Lib.hid hb3
  clear hb3
  go_wp2
  go_ret
  exact ⟨rfl, Below.then (Below.then (Below.then (Below.al (Below.al (Below.refl _ _) _) _) HB1.out) HB2.out) HB3.out⟩
set_option maxRecDepth 100000 in
set_option maxHeartbeats 4000000 in
theorem kinds_tells_in (kind line : Int) (k0 : 8 ≤ kind) (k1 : kind ≤ 14) (l0 : 0 ≤ line) (l1 : line < 64) (w : World) : Calls Try.prog 5 #[.int .i64 kind, .int .i64 line] w fun e w' => e = .returned (.bool true) ∧ Below w.heap.size w w' := by
  have f1 : asksM kind = false := by simp [asksM]; omega
  have f2 : answersM kind = false := by simp [answersM]; omega
  have f3 : tellsM kind = true := by simp [tellsM]; omega
  have g1 : goodM kind line false false (zM 0 0 0 0 0 0 0 0) = true := by simp [goodM, zM]; omega
  have g2 : goodM kind line false true (zM 0 0 0 0 0 0 0 0) = false := by simp [goodM, zM]; omega
  have k7 : (kind == 7) = false := by simp; omega
  have lb0 : decide (0 ≤ line) = true := decide_eq_true l0
  have lb1 : decide (line < 64) = true := decide_eq_true l1
  go_enter Try.func5, Try.ntmps5
  go_wp2_with (first | (go_at_call 10; refine (asks_any _ _).mono ?_; rintro e w' ⟨rfl, rfl⟩) | (go_at_call 12; refine (answers_any _ _).mono ?_; rintro e w' ⟨rfl, rfl⟩) | (go_at_call 14; refine (tells_any _ _).mono ?_; rintro e w' ⟨rfl, rfl⟩))
  refine (good_any _ _ _ _ _ _ _ _ _ _ _ _  _).mono ?_
  rintro e w1 ⟨rfl, hb1⟩
  rw [g1]
  have hc1 := fun o => hb1.cell (p := ⟨w.heap.size + 1, o, none⟩) (by simp)
  have hz1 : w.heap.size + 1 < w1.heap.size := by have := hb1.size; simp at this; omega
  have HB1 := Lib.hid hb1
  clear hb1
  go_wp2_with fail
  refine (good_any _ _ _ _ _ _ _ _ _ _ _ _  _).mono ?_
  rintro e w2 ⟨rfl, hb2⟩
  rw [g2]
  have HB2 := Lib.hid hb2
  clear hb2
  go_wp2_with fail
  refine (wakes_any _).mono ?_
  rintro e w3 ⟨rfl, hb3⟩
  have HB3 := Lib.hid hb3
  clear hb3
  go_wp2
  go_ret
  exact ⟨rfl, Below.then (Below.then (Below.then (Below.al (Below.al (Below.refl _ _) _) _) HB1.out) HB2.out) HB3.out⟩
set_option maxRecDepth 100000 in
set_option maxHeartbeats 4000000 in
theorem kinds_tells_lo (kind line : Int) (k0 : 8 ≤ kind) (k1 : kind ≤ 14) (l0 : line < 0) (w : World) : Calls Try.prog 5 #[.int .i64 kind, .int .i64 line] w fun e w' => e = .returned (.bool true) ∧ Below w.heap.size w w' := by
  have f1 : asksM kind = false := by simp [asksM]; omega
  have f2 : answersM kind = false := by simp [answersM]; omega
  have f3 : tellsM kind = true := by simp [tellsM]; omega
  have g1 : goodM kind line false false (zM 0 0 0 0 0 0 0 0) = false := by simp [goodM, zM]; omega
  have g2 : goodM kind line false true (zM 0 0 0 0 0 0 0 0) = false := by simp [goodM, zM]; omega
  have k7 : (kind == 7) = false := by simp; omega
  have lb0 : decide (0 ≤ line) = false := decide_eq_false (by omega)
  go_enter Try.func5, Try.ntmps5
  go_wp2_with (first | (go_at_call 10; refine (asks_any _ _).mono ?_; rintro e w' ⟨rfl, rfl⟩) | (go_at_call 12; refine (answers_any _ _).mono ?_; rintro e w' ⟨rfl, rfl⟩) | (go_at_call 14; refine (tells_any _ _).mono ?_; rintro e w' ⟨rfl, rfl⟩))
  refine (good_any _ _ _ _ _ _ _ _ _ _ _ _  _).mono ?_
  rintro e w1 ⟨rfl, hb1⟩
  rw [g1]
  have hc1 := fun o => hb1.cell (p := ⟨w.heap.size + 1, o, none⟩) (by simp)
  have hz1 : w.heap.size + 1 < w1.heap.size := by have := hb1.size; simp at this; omega
  have HB1 := Lib.hid hb1
  clear hb1
  go_wp2_with fail
  refine (good_any _ _ _ _ _ _ _ _ _ _ _ _  _).mono ?_
  rintro e w2 ⟨rfl, hb2⟩
  rw [g2]
  have HB2 := Lib.hid hb2
  clear hb2
  go_wp2_with fail
  refine (wakes_any _).mono ?_
  rintro e w3 ⟨rfl, hb3⟩
  have HB3 := Lib.hid hb3
  clear hb3
  go_wp2
  go_ret
  exact ⟨rfl, Below.then (Below.then (Below.then (Below.al (Below.al (Below.refl _ _) _) _) HB1.out) HB2.out) HB3.out⟩
set_option maxRecDepth 100000 in
set_option maxHeartbeats 4000000 in
theorem kinds_tells_hi (kind line : Int) (k0 : 8 ≤ kind) (k1 : kind ≤ 14) (l0 : 64 ≤ line) (w : World) : Calls Try.prog 5 #[.int .i64 kind, .int .i64 line] w fun e w' => e = .returned (.bool true) ∧ Below w.heap.size w w' := by
  have f1 : asksM kind = false := by simp [asksM]; omega
  have f2 : answersM kind = false := by simp [answersM]; omega
  have f3 : tellsM kind = true := by simp [tellsM]; omega
  have g1 : goodM kind line false false (zM 0 0 0 0 0 0 0 0) = false := by simp [goodM, zM]; omega
  have g2 : goodM kind line false true (zM 0 0 0 0 0 0 0 0) = false := by simp [goodM, zM]; omega
  have k7 : (kind == 7) = false := by simp; omega
  have lb0 : 0 ≤ line := by omega
  have lb1 : decide (line < 64) = false := decide_eq_false (by omega)
  go_enter Try.func5, Try.ntmps5
  go_wp2_with (first | (go_at_call 10; refine (asks_any _ _).mono ?_; rintro e w' ⟨rfl, rfl⟩) | (go_at_call 12; refine (answers_any _ _).mono ?_; rintro e w' ⟨rfl, rfl⟩) | (go_at_call 14; refine (tells_any _ _).mono ?_; rintro e w' ⟨rfl, rfl⟩))
  refine (good_any _ _ _ _ _ _ _ _ _ _ _ _  _).mono ?_
  rintro e w1 ⟨rfl, hb1⟩
  rw [g1]
  have hc1 := fun o => hb1.cell (p := ⟨w.heap.size + 1, o, none⟩) (by simp)
  have hz1 : w.heap.size + 1 < w1.heap.size := by have := hb1.size; simp at this; omega
  have HB1 := Lib.hid hb1
  clear hb1
  go_wp2_with fail
  refine (good_any _ _ _ _ _ _ _ _ _ _ _ _  _).mono ?_
  rintro e w2 ⟨rfl, hb2⟩
  rw [g2]
  have HB2 := Lib.hid hb2
  clear hb2
  go_wp2_with fail
  refine (wakes_any _).mono ?_
  rintro e w3 ⟨rfl, hb3⟩
  have HB3 := Lib.hid hb3
  clear hb3
  go_wp2
  go_ret
  exact ⟨rfl, Below.then (Below.then (Below.then (Below.al (Below.al (Below.refl _ _) _) _) HB1.out) HB2.out) HB3.out⟩
set_option maxRecDepth 100000 in
set_option maxHeartbeats 4000000 in
theorem kinds_below_in (kind line : Int) (k1 : kind < 1) (l0 : 0 ≤ line) (l1 : line < 64) (w : World) : Calls Try.prog 5 #[.int .i64 kind, .int .i64 line] w fun e w' => e = .returned (.bool true) ∧ Below w.heap.size w w' := by
  have f1 : asksM kind = false := by simp [asksM]; omega
  have f2 : answersM kind = false := by simp [answersM]; omega
  have f3 : tellsM kind = false := by simp [tellsM]; omega
  have g1 : goodM kind line false false (zM 0 0 0 0 0 0 0 0) = false := by simp [goodM, zM]; omega
  have g2 : goodM kind line false true (zM 0 0 0 0 0 0 0 0) = false := by simp [goodM, zM]; omega
  have k7 : (kind == 7) = false := by simp; omega
  have lb0 : decide (0 ≤ line) = true := decide_eq_true l0
  have lb1 : decide (line < 64) = true := decide_eq_true l1
  go_enter Try.func5, Try.ntmps5
  go_wp2_with (first | (go_at_call 10; refine (asks_any _ _).mono ?_; rintro e w' ⟨rfl, rfl⟩) | (go_at_call 12; refine (answers_any _ _).mono ?_; rintro e w' ⟨rfl, rfl⟩) | (go_at_call 14; refine (tells_any _ _).mono ?_; rintro e w' ⟨rfl, rfl⟩))
  refine (good_any _ _ _ _ _ _ _ _ _ _ _ _  _).mono ?_
  rintro e w1 ⟨rfl, hb1⟩
  rw [g1]
  have hc1 := fun o => hb1.cell (p := ⟨w.heap.size + 1, o, none⟩) (by simp)
  have hz1 : w.heap.size + 1 < w1.heap.size := by have := hb1.size; simp at this; omega
  have HB1 := Lib.hid hb1
  clear hb1
  go_wp2_with fail
  refine (good_any _ _ _ _ _ _ _ _ _ _ _ _  _).mono ?_
  rintro e w2 ⟨rfl, hb2⟩
  rw [g2]
  have HB2 := Lib.hid hb2
  clear hb2
  go_wp2_with fail
  refine (wakes_any _).mono ?_
  rintro e w3 ⟨rfl, hb3⟩
  have HB3 := Lib.hid hb3
  clear hb3
  go_wp2
  go_ret
  exact ⟨rfl, Below.then (Below.then (Below.then (Below.al (Below.al (Below.refl _ _) _) _) HB1.out) HB2.out) HB3.out⟩
set_option maxRecDepth 100000 in
set_option maxHeartbeats 4000000 in
theorem kinds_below_lo (kind line : Int) (k1 : kind < 1) (l0 : line < 0) (w : World) : Calls Try.prog 5 #[.int .i64 kind, .int .i64 line] w fun e w' => e = .returned (.bool true) ∧ Below w.heap.size w w' := by
  have f1 : asksM kind = false := by simp [asksM]; omega
  have f2 : answersM kind = false := by simp [answersM]; omega
  have f3 : tellsM kind = false := by simp [tellsM]; omega
  have g1 : goodM kind line false false (zM 0 0 0 0 0 0 0 0) = false := by simp [goodM, zM]; omega
  have g2 : goodM kind line false true (zM 0 0 0 0 0 0 0 0) = false := by simp [goodM, zM]; omega
  have k7 : (kind == 7) = false := by simp; omega
  have lb0 : decide (0 ≤ line) = false := decide_eq_false (by omega)
  go_enter Try.func5, Try.ntmps5
  go_wp2_with (first | (go_at_call 10; refine (asks_any _ _).mono ?_; rintro e w' ⟨rfl, rfl⟩) | (go_at_call 12; refine (answers_any _ _).mono ?_; rintro e w' ⟨rfl, rfl⟩) | (go_at_call 14; refine (tells_any _ _).mono ?_; rintro e w' ⟨rfl, rfl⟩))
  refine (good_any _ _ _ _ _ _ _ _ _ _ _ _  _).mono ?_
  rintro e w1 ⟨rfl, hb1⟩
  rw [g1]
  have hc1 := fun o => hb1.cell (p := ⟨w.heap.size + 1, o, none⟩) (by simp)
  have hz1 : w.heap.size + 1 < w1.heap.size := by have := hb1.size; simp at this; omega
  have HB1 := Lib.hid hb1
  clear hb1
  go_wp2_with fail
  refine (good_any _ _ _ _ _ _ _ _ _ _ _ _  _).mono ?_
  rintro e w2 ⟨rfl, hb2⟩
  rw [g2]
  have HB2 := Lib.hid hb2
  clear hb2
  go_wp2_with fail
  refine (wakes_any _).mono ?_
  rintro e w3 ⟨rfl, hb3⟩
  have HB3 := Lib.hid hb3
  clear hb3
  go_wp2
  go_ret
  exact ⟨rfl, Below.then (Below.then (Below.then (Below.al (Below.al (Below.refl _ _) _) _) HB1.out) HB2.out) HB3.out⟩
set_option maxRecDepth 100000 in
set_option maxHeartbeats 4000000 in
theorem kinds_below_hi (kind line : Int) (k1 : kind < 1) (l0 : 64 ≤ line) (w : World) : Calls Try.prog 5 #[.int .i64 kind, .int .i64 line] w fun e w' => e = .returned (.bool true) ∧ Below w.heap.size w w' := by
  have f1 : asksM kind = false := by simp [asksM]; omega
  have f2 : answersM kind = false := by simp [answersM]; omega
  have f3 : tellsM kind = false := by simp [tellsM]; omega
  have g1 : goodM kind line false false (zM 0 0 0 0 0 0 0 0) = false := by simp [goodM, zM]; omega
  have g2 : goodM kind line false true (zM 0 0 0 0 0 0 0 0) = false := by simp [goodM, zM]; omega
  have k7 : (kind == 7) = false := by simp; omega
  have lb0 : 0 ≤ line := by omega
  have lb1 : decide (line < 64) = false := decide_eq_false (by omega)
  go_enter Try.func5, Try.ntmps5
  go_wp2_with (first | (go_at_call 10; refine (asks_any _ _).mono ?_; rintro e w' ⟨rfl, rfl⟩) | (go_at_call 12; refine (answers_any _ _).mono ?_; rintro e w' ⟨rfl, rfl⟩) | (go_at_call 14; refine (tells_any _ _).mono ?_; rintro e w' ⟨rfl, rfl⟩))
  refine (good_any _ _ _ _ _ _ _ _ _ _ _ _  _).mono ?_
  rintro e w1 ⟨rfl, hb1⟩
  rw [g1]
  have hc1 := fun o => hb1.cell (p := ⟨w.heap.size + 1, o, none⟩) (by simp)
  have hz1 : w.heap.size + 1 < w1.heap.size := by have := hb1.size; simp at this; omega
  have HB1 := Lib.hid hb1
  clear hb1
  go_wp2_with fail
  refine (good_any _ _ _ _ _ _ _ _ _ _ _ _  _).mono ?_
  rintro e w2 ⟨rfl, hb2⟩
  rw [g2]
  have HB2 := Lib.hid hb2
  clear hb2
  go_wp2_with fail
  refine (wakes_any _).mono ?_
  rintro e w3 ⟨rfl, hb3⟩
  have HB3 := Lib.hid hb3
  clear hb3
  go_wp2
  go_ret
  exact ⟨rfl, Below.then (Below.then (Below.then (Below.al (Below.al (Below.refl _ _) _) _) HB1.out) HB2.out) HB3.out⟩
set_option maxRecDepth 100000 in
set_option maxHeartbeats 4000000 in
theorem kinds_above_in (kind line : Int) (k0 : 14 < kind) (l0 : 0 ≤ line) (l1 : line < 64) (w : World) : Calls Try.prog 5 #[.int .i64 kind, .int .i64 line] w fun e w' => e = .returned (.bool true) ∧ Below w.heap.size w w' := by
  have f1 : asksM kind = false := by simp [asksM]; omega
  have f2 : answersM kind = false := by simp [answersM]; omega
  have f3 : tellsM kind = false := by simp [tellsM]; omega
  have g1 : goodM kind line false false (zM 0 0 0 0 0 0 0 0) = false := by simp [goodM, zM]; omega
  have g2 : goodM kind line false true (zM 0 0 0 0 0 0 0 0) = false := by simp [goodM, zM]; omega
  have k7 : (kind == 7) = false := by simp; omega
  have lb0 : decide (0 ≤ line) = true := decide_eq_true l0
  have lb1 : decide (line < 64) = true := decide_eq_true l1
  go_enter Try.func5, Try.ntmps5
  go_wp2_with (first | (go_at_call 10; refine (asks_any _ _).mono ?_; rintro e w' ⟨rfl, rfl⟩) | (go_at_call 12; refine (answers_any _ _).mono ?_; rintro e w' ⟨rfl, rfl⟩) | (go_at_call 14; refine (tells_any _ _).mono ?_; rintro e w' ⟨rfl, rfl⟩))
  refine (good_any _ _ _ _ _ _ _ _ _ _ _ _  _).mono ?_
  rintro e w1 ⟨rfl, hb1⟩
  rw [g1]
  have hc1 := fun o => hb1.cell (p := ⟨w.heap.size + 1, o, none⟩) (by simp)
  have hz1 : w.heap.size + 1 < w1.heap.size := by have := hb1.size; simp at this; omega
  have HB1 := Lib.hid hb1
  clear hb1
  go_wp2_with fail
  refine (good_any _ _ _ _ _ _ _ _ _ _ _ _  _).mono ?_
  rintro e w2 ⟨rfl, hb2⟩
  rw [g2]
  have HB2 := Lib.hid hb2
  clear hb2
  go_wp2_with fail
  refine (wakes_any _).mono ?_
  rintro e w3 ⟨rfl, hb3⟩
  have HB3 := Lib.hid hb3
  clear hb3
  go_wp2
  go_ret
  exact ⟨rfl, Below.then (Below.then (Below.then (Below.al (Below.al (Below.refl _ _) _) _) HB1.out) HB2.out) HB3.out⟩
set_option maxRecDepth 100000 in
set_option maxHeartbeats 4000000 in
theorem kinds_above_lo (kind line : Int) (k0 : 14 < kind) (l0 : line < 0) (w : World) : Calls Try.prog 5 #[.int .i64 kind, .int .i64 line] w fun e w' => e = .returned (.bool true) ∧ Below w.heap.size w w' := by
  have f1 : asksM kind = false := by simp [asksM]; omega
  have f2 : answersM kind = false := by simp [answersM]; omega
  have f3 : tellsM kind = false := by simp [tellsM]; omega
  have g1 : goodM kind line false false (zM 0 0 0 0 0 0 0 0) = false := by simp [goodM, zM]; omega
  have g2 : goodM kind line false true (zM 0 0 0 0 0 0 0 0) = false := by simp [goodM, zM]; omega
  have k7 : (kind == 7) = false := by simp; omega
  have lb0 : decide (0 ≤ line) = false := decide_eq_false (by omega)
  go_enter Try.func5, Try.ntmps5
  go_wp2_with (first | (go_at_call 10; refine (asks_any _ _).mono ?_; rintro e w' ⟨rfl, rfl⟩) | (go_at_call 12; refine (answers_any _ _).mono ?_; rintro e w' ⟨rfl, rfl⟩) | (go_at_call 14; refine (tells_any _ _).mono ?_; rintro e w' ⟨rfl, rfl⟩))
  refine (good_any _ _ _ _ _ _ _ _ _ _ _ _  _).mono ?_
  rintro e w1 ⟨rfl, hb1⟩
  rw [g1]
  have hc1 := fun o => hb1.cell (p := ⟨w.heap.size + 1, o, none⟩) (by simp)
  have hz1 : w.heap.size + 1 < w1.heap.size := by have := hb1.size; simp at this; omega
  have HB1 := Lib.hid hb1
  clear hb1
  go_wp2_with fail
  refine (good_any _ _ _ _ _ _ _ _ _ _ _ _  _).mono ?_
  rintro e w2 ⟨rfl, hb2⟩
  rw [g2]
  have HB2 := Lib.hid hb2
  clear hb2
  go_wp2_with fail
  refine (wakes_any _).mono ?_
  rintro e w3 ⟨rfl, hb3⟩
  have HB3 := Lib.hid hb3
  clear hb3
  go_wp2
  go_ret
  exact ⟨rfl, Below.then (Below.then (Below.then (Below.al (Below.al (Below.refl _ _) _) _) HB1.out) HB2.out) HB3.out⟩
set_option maxRecDepth 100000 in
set_option maxHeartbeats 4000000 in
theorem kinds_above_hi (kind line : Int) (k0 : 14 < kind) (l0 : 64 ≤ line) (w : World) : Calls Try.prog 5 #[.int .i64 kind, .int .i64 line] w fun e w' => e = .returned (.bool true) ∧ Below w.heap.size w w' := by
  have f1 : asksM kind = false := by simp [asksM]; omega
  have f2 : answersM kind = false := by simp [answersM]; omega
  have f3 : tellsM kind = false := by simp [tellsM]; omega
  have g1 : goodM kind line false false (zM 0 0 0 0 0 0 0 0) = false := by simp [goodM, zM]; omega
  have g2 : goodM kind line false true (zM 0 0 0 0 0 0 0 0) = false := by simp [goodM, zM]; omega
  have k7 : (kind == 7) = false := by simp; omega
  have lb0 : 0 ≤ line := by omega
  have lb1 : decide (line < 64) = false := decide_eq_false (by omega)
  go_enter Try.func5, Try.ntmps5
  go_wp2_with (first | (go_at_call 10; refine (asks_any _ _).mono ?_; rintro e w' ⟨rfl, rfl⟩) | (go_at_call 12; refine (answers_any _ _).mono ?_; rintro e w' ⟨rfl, rfl⟩) | (go_at_call 14; refine (tells_any _ _).mono ?_; rintro e w' ⟨rfl, rfl⟩))
  refine (good_any _ _ _ _ _ _ _ _ _ _ _ _  _).mono ?_
  rintro e w1 ⟨rfl, hb1⟩
  rw [g1]
  have hc1 := fun o => hb1.cell (p := ⟨w.heap.size + 1, o, none⟩) (by simp)
  have hz1 : w.heap.size + 1 < w1.heap.size := by have := hb1.size; simp at this; omega
  have HB1 := Lib.hid hb1
  clear hb1
  go_wp2_with fail
  refine (good_any _ _ _ _ _ _ _ _ _ _ _ _  _).mono ?_
  rintro e w2 ⟨rfl, hb2⟩
  rw [g2]
  have HB2 := Lib.hid hb2
  clear hb2
  go_wp2_with fail
  refine (wakes_any _).mono ?_
  rintro e w3 ⟨rfl, hb3⟩
  have HB3 := Lib.hid hb3
  clear hb3
  go_wp2
  go_ret
  exact ⟨rfl, Below.then (Below.then (Below.then (Below.al (Below.al (Below.refl _ _) _) _) HB1.out) HB2.out) HB3.out⟩
theorem kinds_law (kind line : Int) (w : World) : Calls Try.prog 5 #[.int .i64 kind, .int .i64 line] w fun e w' => e = .returned (.bool true) ∧ Below w.heap.size w w' := by
  rcases Int.lt_or_le line 0 with l0 | l0
  · rcases Int.lt_or_le kind 1 with k | k
    · exact kinds_below_lo kind line k l0 w
    · rcases Int.lt_or_le kind 6 with k2 | k2
      · exact kinds_asks_lo kind line k (by omega) l0 w
      · rcases Int.lt_or_le kind 7 with k3 | k3
        · exact kinds_six_lo kind line k2 (by omega) l0 w
        · rcases Int.lt_or_le kind 8 with k4 | k4
          · exact kinds_seven_lo kind line k3 (by omega) l0 w
          · rcases Int.lt_or_le 14 kind with k5 | k5
            · exact kinds_above_lo kind line k5 l0 w
            · exact kinds_tells_lo kind line k4 k5 l0 w
  · rcases Int.lt_or_le line 64 with l1 | l1
    · rcases Int.lt_or_le kind 1 with k | k
      · exact kinds_below_in kind line k l0 l1 w
      · rcases Int.lt_or_le kind 6 with k2 | k2
        · exact kinds_asks_in kind line k (by omega) l0 l1 w
        · rcases Int.lt_or_le kind 7 with k3 | k3
          · exact kinds_six_in kind line k2 (by omega) l0 l1 w
          · rcases Int.lt_or_le kind 8 with k4 | k4
            · exact kinds_seven_in kind line k3 (by omega) l0 l1 w
            · rcases Int.lt_or_le 14 kind with k5 | k5
              · exact kinds_above_in kind line k5 l0 l1 w
              · exact kinds_tells_in kind line k4 k5 l0 l1 w
    · rcases Int.lt_or_le kind 1 with k | k
      · exact kinds_below_hi kind line k l1 w
      · rcases Int.lt_or_le kind 6 with k2 | k2
        · exact kinds_asks_hi kind line k (by omega) l1 w
        · rcases Int.lt_or_le kind 7 with k3 | k3
          · exact kinds_six_hi kind line k2 (by omega) l1 w
          · rcases Int.lt_or_le kind 8 with k4 | k4
            · exact kinds_seven_hi kind line k3 (by omega) l1 w
            · rcases Int.lt_or_le 14 kind with k5 | k5
              · exact kinds_above_hi kind line k5 l1 w
              · exact kinds_tells_hi kind line k4 k5 l1 w
section
variable {H : Type} {enc : TypeId × Value → H}
theorem kinds_walk {base : Nat} (W : World) (v0 v1 : Value) (a0 : Arg enc Try.prog W base 3 v0) (a1 : Arg enc Try.prog W base 3 v1) :
    Calls Try.prog 5 #[v0, v1] W fun e w' => e = .returned (.bool true) ∧ Below W.heap.size W w' := by
  obtain ⟨k, rfl, _⟩ := a0.int Try.underlying3
  obtain ⟨l, rfl, _⟩ := a1.int Try.underlying3
  exact kinds_law k l W
end
end Go.Proofs.Ytjkckcmogpipmaa
