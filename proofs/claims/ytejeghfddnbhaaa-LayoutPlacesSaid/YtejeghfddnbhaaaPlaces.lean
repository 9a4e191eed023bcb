/-
  LayoutPlaces, walked.
-/
import Derived.Test.YtejeghfddnbhaaaWakes
import Derived.Deep.RegionHeld3
namespace Go.Proofs.Ytejeghfddnbhaaa
open Go.RowKit
attribute [local go_sem ↓] Go.wp_at_zero Go.wp_at_succ
set_option maxRecDepth 100000 in
set_option maxHeartbeats 8000000 in
theorem places_law (a b c d e f g p q n k : Int) (w : World) : Calls Try.prog 3 #[.agg #[.int .i64 a, .int .i64 b, .int .i64 c, .int .i64 d, .int .i64 e, .int .i64 f, .int .i64 g, .int .i64 p, .int .i64 q], .int .i64 n, .int .i64 k] w fun E w' => E = .returned (.bool true) ∧ Below w.heap.size w w' := by
  have c1 := fun w => gd_any a b c d e f g p q  w
  have c2 := fun w => rgood_any a b c d e f g p q  w
  have c3 := fun w => lock_any a b c d e f g p q  w
  have c4 := fun w => count_any a b c d e f g p q  w
  have c5 := fun w => rcount_any a b c d e f g p q  w
  have c6 := fun w => entry_any a b c d e f g p q n w
  have c7 := fun w => rentry_any a b c d e f g p q n w
  have c8 := fun w => word_any a b c d e f g p q k w
  have c9 := fun w => rword_any a b c d e f g p q k w
  have c10 := fun w => room_any a b c d e f g p q  w
  have c11 := fun w => rroom_any a b c d e f g p q  w
  have c12 := fun w => words_any a b c d e f g p q  w
  have c13 := fun w => rwords_any a b c d e f g p q  w
  obtain ⟨G, hG⟩ : ∃ G, goodH a b c d e f g p q = G := ⟨_, rfl⟩
  obtain ⟨x1, h1⟩ : ∃ x, countI G c = x := ⟨_, rfl⟩
  obtain ⟨x2, h2⟩ : ∃ x, entryI G c p n = x := ⟨_, rfl⟩
  obtain ⟨x3, h3⟩ : ∃ x, wordI G c p q k = x := ⟨_, rfl⟩
  obtain ⟨x4, h4⟩ : ∃ x, roomI G p = x := ⟨_, rfl⟩
  obtain ⟨x5, h5⟩ : ∃ x, wordsI G q = x := ⟨_, rfl⟩
  simp only [hG, h1, h2, h3, h4, h5] at c1 c2 c4 c5 c6 c7 c8 c9 c10 c11 c12 c13
  have C1 := Lib.hid c1; have C2 := Lib.hid c2; have C3 := Lib.hid c3; have C4 := Lib.hid c4; have C5 := Lib.hid c5; have C6 := Lib.hid c6; have C7 := Lib.hid c7; have C8 := Lib.hid c8; have C9 := Lib.hid c9; have C10 := Lib.hid c10; have C11 := Lib.hid c11; have C12 := Lib.hid c12; have C13 := Lib.hid c13
  clear c1 c2 c3 c4 c5 c6 c7 c8 c9 c10 c11 c12 c13 hG h1 h2 h3 h4 h5
  have hbx : (w.alloc (.cells #[.int .i64 a, .int .i64 b, .int .i64 c, .int .i64 d, .int .i64 e, .int .i64 f, .int .i64 g, .int .i64 p, .int .i64 q] 25)).heap[w.heap.size]? = some (.cells #[.int .i64 a, .int .i64 b, .int .i64 c, .int .i64 d, .int .i64 e, .int .i64 f, .int .i64 g, .int .i64 p, .int .i64 q] 25 (0, 0)) := heap_alloc_new w _
  have q0 : (w.alloc (.cells #[.int .i64 a, .int .i64 b, .int .i64 c, .int .i64 d, .int .i64 e, .int .i64 f, .int .i64 g, .int .i64 p, .int .i64 q] 25)).cell? ⟨w.heap.size, 0, none⟩ = some (.int .i64 a) := by rw [cell_of_row _ _ _ _ 25 (0, 0) hbx]; rfl
  have q1 : (w.alloc (.cells #[.int .i64 a, .int .i64 b, .int .i64 c, .int .i64 d, .int .i64 e, .int .i64 f, .int .i64 g, .int .i64 p, .int .i64 q] 25)).cell? ⟨w.heap.size, 1, none⟩ = some (.int .i64 b) := by rw [cell_of_row _ _ _ _ 25 (0, 0) hbx]; rfl
  have q2 : (w.alloc (.cells #[.int .i64 a, .int .i64 b, .int .i64 c, .int .i64 d, .int .i64 e, .int .i64 f, .int .i64 g, .int .i64 p, .int .i64 q] 25)).cell? ⟨w.heap.size, 2, none⟩ = some (.int .i64 c) := by rw [cell_of_row _ _ _ _ 25 (0, 0) hbx]; rfl
  have q3 : (w.alloc (.cells #[.int .i64 a, .int .i64 b, .int .i64 c, .int .i64 d, .int .i64 e, .int .i64 f, .int .i64 g, .int .i64 p, .int .i64 q] 25)).cell? ⟨w.heap.size, 3, none⟩ = some (.int .i64 d) := by rw [cell_of_row _ _ _ _ 25 (0, 0) hbx]; rfl
  have q4 : (w.alloc (.cells #[.int .i64 a, .int .i64 b, .int .i64 c, .int .i64 d, .int .i64 e, .int .i64 f, .int .i64 g, .int .i64 p, .int .i64 q] 25)).cell? ⟨w.heap.size, 4, none⟩ = some (.int .i64 e) := by rw [cell_of_row _ _ _ _ 25 (0, 0) hbx]; rfl
  have q5 : (w.alloc (.cells #[.int .i64 a, .int .i64 b, .int .i64 c, .int .i64 d, .int .i64 e, .int .i64 f, .int .i64 g, .int .i64 p, .int .i64 q] 25)).cell? ⟨w.heap.size, 5, none⟩ = some (.int .i64 f) := by rw [cell_of_row _ _ _ _ 25 (0, 0) hbx]; rfl
  have q6 : (w.alloc (.cells #[.int .i64 a, .int .i64 b, .int .i64 c, .int .i64 d, .int .i64 e, .int .i64 f, .int .i64 g, .int .i64 p, .int .i64 q] 25)).cell? ⟨w.heap.size, 6, none⟩ = some (.int .i64 g) := by rw [cell_of_row _ _ _ _ 25 (0, 0) hbx]; rfl
  have q7 : (w.alloc (.cells #[.int .i64 a, .int .i64 b, .int .i64 c, .int .i64 d, .int .i64 e, .int .i64 f, .int .i64 g, .int .i64 p, .int .i64 q] 25)).cell? ⟨w.heap.size, 7, none⟩ = some (.int .i64 p) := by rw [cell_of_row _ _ _ _ 25 (0, 0) hbx]; rfl
  have q8 : (w.alloc (.cells #[.int .i64 a, .int .i64 b, .int .i64 c, .int .i64 d, .int .i64 e, .int .i64 f, .int .i64 g, .int .i64 p, .int .i64 q] 25)).cell? ⟨w.heap.size, 8, none⟩ = some (.int .i64 q) := by rw [cell_of_row _ _ _ _ 25 (0, 0) hbx]; rfl
  clear hbx
  go_enter Try.func3, Try.ntmps3
  go_wp2_with fail
  go_region_held3 (fun w' => Below (w.heap.size + 1) (w.alloc (.cells #[.int .i64 a, .int .i64 b, .int .i64 c, .int .i64 d, .int .i64 e, .int .i64 f, .int .i64 g, .int .i64 p, .int .i64 q] 25)) w' ∧ (∀ b' o, b' < w.heap.size + 1 → w'.cell? ⟨b', o, none⟩ = (w.alloc (.cells #[.int .i64 a, .int .i64 b, .int .i64 c, .int .i64 d, .int .i64 e, .int .i64 f, .int .i64 g, .int .i64 p, .int .i64 q] 25)).cell? ⟨b', o, none⟩)) (first | exact stay_drew | exact stay_step (by simp) (by assumption) (by assumption))
   (first | (go_at_call 7; refine (C1.out _).mono ?_; rintro e' w' ⟨rfl, hb⟩) | (go_at_call 8; refine (C2.out _).mono ?_; rintro e' w' ⟨rfl, hb⟩) | (go_at_call 9; refine (C3.out _).mono ?_; rintro e' w' ⟨rfl, hb⟩) | (go_at_call 10; refine (C4.out _).mono ?_; rintro e' w' ⟨rfl, hb⟩) | (go_at_call 11; refine (C5.out _).mono ?_; rintro e' w' ⟨rfl, hb⟩) | (go_at_call 12; refine (C6.out _).mono ?_; rintro e' w' ⟨rfl, hb⟩) | (go_at_call 13; refine (C7.out _).mono ?_; rintro e' w' ⟨rfl, hb⟩) | (go_at_call 14; refine (C8.out _).mono ?_; rintro e' w' ⟨rfl, hb⟩) | (go_at_call 15; refine (C9.out _).mono ?_; rintro e' w' ⟨rfl, hb⟩) | (go_at_call 16; refine (C10.out _).mono ?_; rintro e' w' ⟨rfl, hb⟩) | (go_at_call 17; refine (C11.out _).mono ?_; rintro e' w' ⟨rfl, hb⟩) | (go_at_call 18; refine (C12.out _).mono ?_; rintro e' w' ⟨rfl, hb⟩) | (go_at_call 19; refine (C13.out _).mono ?_; rintro e' w' ⟨rfl, hb⟩) | (go_at_call 20; refine (wakes_any _).mono ?_; rintro e' w' ⟨rfl, hb⟩))
  go_wp2
  go_ret
  refine ⟨rfl, stay_end (B := w.heap.size + 1) (W0 := (w.alloc (.cells #[.int .i64 a, .int .i64 b, .int .i64 c, .int .i64 d, .int .i64 e, .int .i64 f, .int .i64 g, .int .i64 p, .int .i64 q] 25))) ((Below.refl _ _).alloc (Nat.le_refl _) _) (by omega) (by assumption)⟩
section
variable {H : Type} {enc : TypeId × Value → H}
theorem places_walk {base : Nat} (W : World) (v0 v1 v2 : Value) (a0 : Arg enc Try.prog W base 25 v0) (a1 : Arg enc Try.prog W base 3 v1) (a2 : Arg enc Try.prog W base 3 v2) :
    Calls Try.prog 3 #[v0, v1, v2] W fun e w' => e = .returned (.bool true) ∧ Below W.heap.size W w' := by
  obtain ⟨cs, rfl, h'⟩ := Arg.agg Try.underlying25 rfl (by kernel_rfl : flat Try.prog 10 25 = some [3, 3, 3, 3, 3, 3, 3, 3, 3]) a0
  obtain ⟨c0, _, rfl, r0, h'⟩ := h'.cons
  obtain ⟨c1, _, rfl, r1, h'⟩ := h'.cons
  obtain ⟨c2, _, rfl, r2, h'⟩ := h'.cons
  obtain ⟨c3, _, rfl, r3, h'⟩ := h'.cons
  obtain ⟨c4, _, rfl, r4, h'⟩ := h'.cons
  obtain ⟨c5, _, rfl, r5, h'⟩ := h'.cons
  obtain ⟨c6, _, rfl, r6, h'⟩ := h'.cons
  obtain ⟨c7, _, rfl, r7, h'⟩ := h'.cons
  obtain ⟨c8, _, rfl, r8, h'⟩ := h'.cons
  obtain rfl := h'.nil
  obtain ⟨x0, rfl, _⟩ := r0.int Try.underlying3
  obtain ⟨x1, rfl, _⟩ := r1.int Try.underlying3
  obtain ⟨x2, rfl, _⟩ := r2.int Try.underlying3
  obtain ⟨x3, rfl, _⟩ := r3.int Try.underlying3
  obtain ⟨x4, rfl, _⟩ := r4.int Try.underlying3
  obtain ⟨x5, rfl, _⟩ := r5.int Try.underlying3
  obtain ⟨x6, rfl, _⟩ := r6.int Try.underlying3
  obtain ⟨x7, rfl, _⟩ := r7.int Try.underlying3
  obtain ⟨x8, rfl, _⟩ := r8.int Try.underlying3
  obtain ⟨n, rfl, _⟩ := a1.int Try.underlying3
  obtain ⟨k, rfl, _⟩ := a2.int Try.underlying3
  exact places_law x0 x1 x2 x3 x4 x5 x6 x7 x8 n k W
end
end Go.Proofs.Ytejeghfddnbhaaa
