/-
  What a heap's plan is: (*plan).reckon.
-/
import Derived.Test.YtejeghfddnbhaaaLow
import Derived.Test.YtejeghfddnbhaaaKitO
import Derived.Test.YtejeghfddnbhaaaKitD
import Derived.Test.YtejeghfddnbhaaaKitB
import Derived.Deep.RegionLaw
import Derived.IntWalk
namespace Go.Proofs.Ytejeghfddnbhaaa
open Go.RowKit
attribute [local go_sem ↓] Go.wp_at_zero Go.wp_at_succ

def goodH (a b c d e f g p q : Int) : Bool := goodC a b c d e f g && decide (1 ≤ p ∧ p ≤ 16 ∧ 1 ≤ q ∧ q ≤ 16 ∧ c + 1 + p + q ≤ b)
theorem goodC_b {a b c d e f g : Int} (h : goodC a b c d e f g = true) : 2 ≤ b ∧ b ≤ 64 ∧ 1 ≤ c ∧ c ≤ b - 1 := by
  have h := of_decide_eq_true h
  omega
def PlanRow (c0 c1 c2 : Value) (G : Bool) (x1 x2 x3 x4 : Int) : Array Value := #[c0, c1, c2, .bool G, .int .i64 x1, .int .i64 x2, .int .i64 x3, .int .i64 x4]
theorem past_box {w w1 : World} {h9 : Array Value} (hB : Below (w.alloc (.cells h9 25)).heap.size (w.alloc (.cells h9 25)) w1) : w1.heap[w.heap.size]? = some (.cells h9 25 (0, 0)) ∧ ∀ k, k < w.heap.size → w1.heap[k]? = w.heap[k]? := by
  refine ⟨?_, fun k hk => ?_⟩
  · rw [hB.block _ (by simp)]
    exact heap_alloc_new w _
  · rw [hB.block _ (by simp; omega)]
    exact (Only.al (Only.refl (fun _ => False) w) _).block k hk (fun h => h)
set_option maxRecDepth 100000 in
set_option maxHeartbeats 8000000 in
theorem reckon_last (B : Nat) (c0 c1 c2 c3 c4 c5 c6 c7 : Value) (a b c d e f g p q x2 x3 : Int) (w : World) (hg : goodC a b c d e f g = true) (k1 : 1 ≤ p) (k2 : p ≤ 16) (k3 : 1 ≤ q) (k4 : q ≤ 16) (hx2 : IntKind.i64.wrap (c + 1 + p) = x2) (hx3 : IntKind.i64.wrap (4 * p) = x3) (hrow : w.heap[B]? = some (.cells #[c0, c1, c2, c3, c4, c5, c6, c7] 62 (0, 0))) :
    Calls Try.prog 36 #[.pointer (some ⟨B, 0, none⟩), .agg #[.int .i64 a, .int .i64 b, .int .i64 c, .int .i64 d, .int .i64 e, .int .i64 f, .int .i64 g, .int .i64 p, .int .i64 q]] w fun E w' => E = .returned (.tuple #[]) ∧ Only (fun k => k = B) w w' ∧ w'.heap[B]? = some (.cells (PlanRow c0 c1 c2 (decide (1 + p + q ≤ b - c)) (c + 1) x2 q x3) 62 (0, 0)) := by
  have hlt : B < w.heap.size := (Array.getElem?_eq_some_iff.1 hrow).1
  have hne : ¬ B = w.heap.size := by omega
  have hga := fun w => good_all a b c d e f g w
  rw [hg] at hga
  obtain ⟨hb1, hb2, hb3, hb4⟩ := goodC_b hg
  clear hg
  go_enter Try.func36, Try.ntmps36
  go_wp2_with fail
  refine (hga _).mono ?_
  rintro e w1 ⟨rfl, hB1⟩
  obtain ⟨hbx, hold⟩ := past_box hB1
  have hO0 : Only (fun k => k = B) w w1 := Only.of_below (Below.then (Below.al (Below.refl _ _) _) hB1)
  rw [← hold B hlt] at hrow
  have hsz : w.heap.size < w1.heap.size := by have := hB1.size; simp at this; omega
  obtain ⟨n0, hn0⟩ : ∃ n0, w.heap.size = n0 := ⟨_, rfl⟩
  simp only [hn0] at hbx hsz hne hlt ⊢
  have q1 : w1.cell? ⟨n0, 1, none⟩ = some (.int .i64 b) := by rw [cell_of_row _ _ _ _ 25 (0, 0) hbx]; rfl
  have q2 : w1.cell? ⟨n0, 2, none⟩ = some (.int .i64 c) := by rw [cell_of_row _ _ _ _ 25 (0, 0) hbx]; rfl
  have q7 : w1.cell? ⟨n0, 7, none⟩ = some (.int .i64 p) := by rw [cell_of_row _ _ _ _ 25 (0, 0) hbx]; rfl
  have q8 : w1.cell? ⟨n0, 8, none⟩ = some (.int .i64 q) := by rw [cell_of_row _ _ _ _ 25 (0, 0) hbx]; rfl
  have r3 : w1.cell? ⟨B, 3, none⟩ = some c3 := by rw [cell_of_row _ _ _ _ 62 (0, 0) hrow]; rfl
  have r4 : w1.cell? ⟨B, 4, none⟩ = some c4 := by rw [cell_of_row _ _ _ _ 62 (0, 0) hrow]; rfl
  have hfr : ∀ o, w1.frozen? ⟨B, o, none⟩ = false := fun o => frozen_of_row w1 B o _ 62 hrow
  have hr1 : (w1.setCell ⟨B, 3, none⟩ (.bool (decide (1 + p + q ≤ b - c)))).heap[B]? = some (.cells #[c0, c1, c2, .bool (decide (1 + p + q ≤ b - c)), c4, c5, c6, c7] 62 (0, 0)) := row_setCells B 62 [.bool (decide (1 + p + q ≤ b - c))] 3 w1 _ hrow (by show 3 + 1 ≤ 8; omega)
  have hr2 : ((w1.setCell ⟨B, 3, none⟩ (.bool (decide (1 + p + q ≤ b - c)))).setCell ⟨B, 4, none⟩ (.int .i64 (c + 1))).heap[B]? = some (.cells #[c0, c1, c2, .bool (decide (1 + p + q ≤ b - c)), .int .i64 (c + 1), c5, c6, c7] 62 (0, 0)) := row_setCells B 62 [.int .i64 (c + 1)] 4 _ _ hr1 (by show 4 + 1 ≤ 8; omega)
  have hO2 : Only (fun k => k = B) w ((w1.setCell ⟨B, 3, none⟩ (.bool (decide (1 + p + q ≤ b - c)))).setCell ⟨B, 4, none⟩ (.int .i64 (c + 1))) := (hO0.set _ _ (Or.inl rfl)).set _ _ (Or.inl rfl)
  have hb2 : ((w1.setCell ⟨B, 3, none⟩ (.bool (decide (1 + p + q ≤ b - c)))).setCell ⟨B, 4, none⟩ (.int .i64 (c + 1))).heap[n0]? = some (.cells #[.int .i64 a, .int .i64 b, .int .i64 c, .int .i64 d, .int .i64 e, .int .i64 f, .int .i64 g, .int .i64 p, .int .i64 q] 25 (0, 0)) := (((((Only.refl (fun k => k = B) w1).set ⟨B, 3, none⟩ (.bool (decide (1 + p + q ≤ b - c))) (Or.inl rfl)).set ⟨B, 4, none⟩ (.int .i64 (c + 1)) (Or.inl rfl)).block n0 hsz (fun h => hne h.symm))).trans hbx
  have HB := Lib.hid hO2; have HBX := Lib.hid hb2; have HROW := Lib.hid hr2
  clear hga hB1 hbx hold hO0 hrow hn0 hr1 hr2 hO2 hb2
  go_wp2_with fail
  obtain ⟨W2, hW2⟩ : ∃ W2, (w1.setCell ⟨B, 3, none⟩ (.bool (decide (1 + p + q ≤ b - c)))).setCell ⟨B, 4, none⟩ (.int .i64 (c + 1)) = W2 := ⟨_, rfl⟩
  have hr := HROW.out; have hO := HB.out; have hb := HBX.out
  rw [hW2] at hr hO hb ⊢
  clear q1 q2 q7 q8 r3 r4 hfr HB HBX HROW hW2
  have q7 : W2.cell? ⟨n0, 7, none⟩ = some (.int .i64 p) := by rw [cell_of_row _ _ _ _ 25 (0, 0) hb]; rfl
  have q8 : W2.cell? ⟨n0, 8, none⟩ = some (.int .i64 q) := by rw [cell_of_row _ _ _ _ 25 (0, 0) hb]; rfl
  have r4 : W2.cell? ⟨B, 4, none⟩ = some (.int .i64 (c + 1)) := by rw [cell_of_row _ _ _ _ 62 (0, 0) hr]; rfl
  have r5 : W2.cell? ⟨B, 5, none⟩ = some c5 := by rw [cell_of_row _ _ _ _ 62 (0, 0) hr]; rfl
  have hfr : ∀ o, W2.frozen? ⟨B, o, none⟩ = false := fun o => frozen_of_row W2 B o _ 62 hr
  have hr3 : ((W2.setCell ⟨B, 5, none⟩ (.int .i64 x2)).drew).heap[B]? = some (.cells #[c0, c1, c2, .bool (decide (1 + p + q ≤ b - c)), .int .i64 (c + 1), .int .i64 x2, c6, c7] 62 (0, 0)) := row_setCells B 62 [.int .i64 x2] 5 W2.drew _ hr (by show 5 + 1 ≤ 8; omega)
  have hO3 : Only (fun k => k = B) w ((W2.setCell ⟨B, 5, none⟩ (.int .i64 x2)).drew) := hO.drew.set _ _ (Or.inl rfl)
  have hsz2 : n0 < W2.heap.size := (Array.getElem?_eq_some_iff.1 hb).1
  have hb3 : ((W2.setCell ⟨B, 5, none⟩ (.int .i64 x2)).drew).heap[n0]? = some (.cells #[.int .i64 a, .int .i64 b, .int .i64 c, .int .i64 d, .int .i64 e, .int .i64 f, .int .i64 g, .int .i64 p, .int .i64 q] 25 (0, 0)) := ((((Only.refl (fun k => k = B) W2).drew).set ⟨B, 5, none⟩ (.int .i64 x2) (Or.inl rfl)).block n0 hsz2 (fun h => hne h.symm)).trans hb
  have HB := Lib.hid hO3; have HBX := Lib.hid hb3; have HROW := Lib.hid hr3
  clear hr hO hb hr3 hO3 hb3
  go_region_law (fail)
  all_goals
    obtain ⟨W3, hW3⟩ : ∃ W3, (W2.setCell ⟨B, 5, none⟩ (.int .i64 x2)).drew = W3 := ⟨_, rfl⟩
    have hr := HROW.out; have hO := HB.out; have hb := HBX.out
    rw [hW3] at hr hO hb ⊢
    clear q7 q8 r4 r5 hfr HB HBX HROW hW3
    have q7 : W3.cell? ⟨n0, 7, none⟩ = some (.int .i64 p) := by rw [cell_of_row _ _ _ _ 25 (0, 0) hb]; rfl
    have q8 : W3.cell? ⟨n0, 8, none⟩ = some (.int .i64 q) := by rw [cell_of_row _ _ _ _ 25 (0, 0) hb]; rfl
    have r6 : W3.cell? ⟨B, 6, none⟩ = some c6 := by rw [cell_of_row _ _ _ _ 62 (0, 0) hr]; rfl
    have r7 : W3.cell? ⟨B, 7, none⟩ = some c7 := by rw [cell_of_row _ _ _ _ 62 (0, 0) hr]; rfl
    have hfr : ∀ o, W3.frozen? ⟨B, o, none⟩ = false := fun o => frozen_of_row W3 B o _ 62 hr
    have hr4 : (W3.drew.setCell ⟨B, 6, none⟩ (.int .i64 q)).heap[B]? = some (.cells #[c0, c1, c2, .bool (decide (1 + p + q ≤ b - c)), .int .i64 (c + 1), .int .i64 x2, .int .i64 q, c7] 62 (0, 0)) := row_setCells B 62 [.int .i64 q] 6 W3.drew _ hr (by show 6 + 1 ≤ 8; omega)
    have hr5 : ((W3.drew.setCell ⟨B, 6, none⟩ (.int .i64 q)).setCell ⟨B, 7, none⟩ (.int .i64 x3)).heap[B]? = some (.cells #[c0, c1, c2, .bool (decide (1 + p + q ≤ b - c)), .int .i64 (c + 1), .int .i64 x2, .int .i64 q, .int .i64 x3] 62 (0, 0)) := row_setCells B 62 [.int .i64 x3] 7 _ _ hr4 (by show 7 + 1 ≤ 8; omega)
    have hO5 : Only (fun k => k = B) w ((W3.drew.setCell ⟨B, 6, none⟩ (.int .i64 q)).setCell ⟨B, 7, none⟩ (.int .i64 x3)) := (hO.drew.set _ _ (Or.inl rfl)).set _ _ (Or.inl rfl)
    have HB := Lib.hid hO5; have HROW := Lib.hid hr5
    clear hr hO hb hr4 hr5 hO5
    go_wp2_with fail
    go_region_law (fail)
    all_goals
      go_wp2
      go_end0
      exact ⟨rfl, HB.out, HROW.out⟩
set_option maxRecDepth 100000 in
set_option maxHeartbeats 8000000 in
theorem reckon_no1 (B : Nat) (c0 c1 c2 c3 c4 c5 c6 c7 : Value) (a b c d e f g p q x2 x3 : Int) (w : World) (hg : goodC a b c d e f g = true) (k1 : ¬ 1 ≤ p) (hx2 : IntKind.i64.wrap (c + 1 + p) = x2) (hx3 : IntKind.i64.wrap (4 * p) = x3) (hrow : w.heap[B]? = some (.cells #[c0, c1, c2, c3, c4, c5, c6, c7] 62 (0, 0))) :
    Calls Try.prog 36 #[.pointer (some ⟨B, 0, none⟩), .agg #[.int .i64 a, .int .i64 b, .int .i64 c, .int .i64 d, .int .i64 e, .int .i64 f, .int .i64 g, .int .i64 p, .int .i64 q]] w fun E w' => E = .returned (.tuple #[]) ∧ Only (fun k => k = B) w w' ∧ w'.heap[B]? = some (.cells (PlanRow c0 c1 c2 false (c + 1) x2 q x3) 62 (0, 0)) := by
  have hlt : B < w.heap.size := (Array.getElem?_eq_some_iff.1 hrow).1
  have hne : ¬ B = w.heap.size := by omega
  have hga := fun w => good_all a b c d e f g w
  rw [hg] at hga
  obtain ⟨hb1, hb2, hb3, hb4⟩ := goodC_b hg
  clear hg
  go_enter Try.func36, Try.ntmps36
  go_wp2_with fail
  refine (hga _).mono ?_
  rintro e w1 ⟨rfl, hB1⟩
  obtain ⟨hbx, hold⟩ := past_box hB1
  have hO0 : Only (fun k => k = B) w w1 := Only.of_below (Below.then (Below.al (Below.refl _ _) _) hB1)
  rw [← hold B hlt] at hrow
  have hsz : w.heap.size < w1.heap.size := by have := hB1.size; simp at this; omega
  obtain ⟨n0, hn0⟩ : ∃ n0, w.heap.size = n0 := ⟨_, rfl⟩
  simp only [hn0] at hbx hsz hne hlt ⊢
  have q1 : w1.cell? ⟨n0, 1, none⟩ = some (.int .i64 b) := by rw [cell_of_row _ _ _ _ 25 (0, 0) hbx]; rfl
  have q2 : w1.cell? ⟨n0, 2, none⟩ = some (.int .i64 c) := by rw [cell_of_row _ _ _ _ 25 (0, 0) hbx]; rfl
  have q7 : w1.cell? ⟨n0, 7, none⟩ = some (.int .i64 p) := by rw [cell_of_row _ _ _ _ 25 (0, 0) hbx]; rfl
  have q8 : w1.cell? ⟨n0, 8, none⟩ = some (.int .i64 q) := by rw [cell_of_row _ _ _ _ 25 (0, 0) hbx]; rfl
  have r3 : w1.cell? ⟨B, 3, none⟩ = some c3 := by rw [cell_of_row _ _ _ _ 62 (0, 0) hrow]; rfl
  have r4 : w1.cell? ⟨B, 4, none⟩ = some c4 := by rw [cell_of_row _ _ _ _ 62 (0, 0) hrow]; rfl
  have hfr : ∀ o, w1.frozen? ⟨B, o, none⟩ = false := fun o => frozen_of_row w1 B o _ 62 hrow
  have hr1 : (w1.setCell ⟨B, 3, none⟩ (.bool false)).heap[B]? = some (.cells #[c0, c1, c2, .bool false, c4, c5, c6, c7] 62 (0, 0)) := row_setCells B 62 [.bool false] 3 w1 _ hrow (by show 3 + 1 ≤ 8; omega)
  have hr2 : ((w1.setCell ⟨B, 3, none⟩ (.bool false)).setCell ⟨B, 4, none⟩ (.int .i64 (c + 1))).heap[B]? = some (.cells #[c0, c1, c2, .bool false, .int .i64 (c + 1), c5, c6, c7] 62 (0, 0)) := row_setCells B 62 [.int .i64 (c + 1)] 4 _ _ hr1 (by show 4 + 1 ≤ 8; omega)
  have hO2 : Only (fun k => k = B) w ((w1.setCell ⟨B, 3, none⟩ (.bool false)).setCell ⟨B, 4, none⟩ (.int .i64 (c + 1))) := (hO0.set _ _ (Or.inl rfl)).set _ _ (Or.inl rfl)
  have hb2 : ((w1.setCell ⟨B, 3, none⟩ (.bool false)).setCell ⟨B, 4, none⟩ (.int .i64 (c + 1))).heap[n0]? = some (.cells #[.int .i64 a, .int .i64 b, .int .i64 c, .int .i64 d, .int .i64 e, .int .i64 f, .int .i64 g, .int .i64 p, .int .i64 q] 25 (0, 0)) := (((((Only.refl (fun k => k = B) w1).set ⟨B, 3, none⟩ (.bool false) (Or.inl rfl)).set ⟨B, 4, none⟩ (.int .i64 (c + 1)) (Or.inl rfl)).block n0 hsz (fun h => hne h.symm))).trans hbx
  have HB := Lib.hid hO2; have HBX := Lib.hid hb2; have HROW := Lib.hid hr2
  clear hga hB1 hbx hold hO0 hrow hn0 hr1 hr2 hO2 hb2
  go_wp2_with fail
  obtain ⟨W2, hW2⟩ : ∃ W2, (w1.setCell ⟨B, 3, none⟩ (.bool false)).setCell ⟨B, 4, none⟩ (.int .i64 (c + 1)) = W2 := ⟨_, rfl⟩
  have hr := HROW.out; have hO := HB.out; have hb := HBX.out
  rw [hW2] at hr hO hb ⊢
  clear q1 q2 q7 q8 r3 r4 hfr HB HBX HROW hW2
  have q7 : W2.cell? ⟨n0, 7, none⟩ = some (.int .i64 p) := by rw [cell_of_row _ _ _ _ 25 (0, 0) hb]; rfl
  have q8 : W2.cell? ⟨n0, 8, none⟩ = some (.int .i64 q) := by rw [cell_of_row _ _ _ _ 25 (0, 0) hb]; rfl
  have r4 : W2.cell? ⟨B, 4, none⟩ = some (.int .i64 (c + 1)) := by rw [cell_of_row _ _ _ _ 62 (0, 0) hr]; rfl
  have r5 : W2.cell? ⟨B, 5, none⟩ = some c5 := by rw [cell_of_row _ _ _ _ 62 (0, 0) hr]; rfl
  have hfr : ∀ o, W2.frozen? ⟨B, o, none⟩ = false := fun o => frozen_of_row W2 B o _ 62 hr
  have hr3 : ((W2.setCell ⟨B, 5, none⟩ (.int .i64 x2)).drew).heap[B]? = some (.cells #[c0, c1, c2, .bool false, .int .i64 (c + 1), .int .i64 x2, c6, c7] 62 (0, 0)) := row_setCells B 62 [.int .i64 x2] 5 W2.drew _ hr (by show 5 + 1 ≤ 8; omega)
  have hO3 : Only (fun k => k = B) w ((W2.setCell ⟨B, 5, none⟩ (.int .i64 x2)).drew) := hO.drew.set _ _ (Or.inl rfl)
  have hsz2 : n0 < W2.heap.size := (Array.getElem?_eq_some_iff.1 hb).1
  have hb3 : ((W2.setCell ⟨B, 5, none⟩ (.int .i64 x2)).drew).heap[n0]? = some (.cells #[.int .i64 a, .int .i64 b, .int .i64 c, .int .i64 d, .int .i64 e, .int .i64 f, .int .i64 g, .int .i64 p, .int .i64 q] 25 (0, 0)) := ((((Only.refl (fun k => k = B) W2).drew).set ⟨B, 5, none⟩ (.int .i64 x2) (Or.inl rfl)).block n0 hsz2 (fun h => hne h.symm)).trans hb
  have HB := Lib.hid hO3; have HBX := Lib.hid hb3; have HROW := Lib.hid hr3
  clear hr hO hb hr3 hO3 hb3
  go_region_law (fail)
  all_goals
    obtain ⟨W3, hW3⟩ : ∃ W3, (W2.setCell ⟨B, 5, none⟩ (.int .i64 x2)).drew = W3 := ⟨_, rfl⟩
    have hr := HROW.out; have hO := HB.out; have hb := HBX.out
    rw [hW3] at hr hO hb ⊢
    clear q7 q8 r4 r5 hfr HB HBX HROW hW3
    have q7 : W3.cell? ⟨n0, 7, none⟩ = some (.int .i64 p) := by rw [cell_of_row _ _ _ _ 25 (0, 0) hb]; rfl
    have q8 : W3.cell? ⟨n0, 8, none⟩ = some (.int .i64 q) := by rw [cell_of_row _ _ _ _ 25 (0, 0) hb]; rfl
    have r6 : W3.cell? ⟨B, 6, none⟩ = some c6 := by rw [cell_of_row _ _ _ _ 62 (0, 0) hr]; rfl
    have r7 : W3.cell? ⟨B, 7, none⟩ = some c7 := by rw [cell_of_row _ _ _ _ 62 (0, 0) hr]; rfl
    have hfr : ∀ o, W3.frozen? ⟨B, o, none⟩ = false := fun o => frozen_of_row W3 B o _ 62 hr
    have hr4 : (W3.drew.setCell ⟨B, 6, none⟩ (.int .i64 q)).heap[B]? = some (.cells #[c0, c1, c2, .bool false, .int .i64 (c + 1), .int .i64 x2, .int .i64 q, c7] 62 (0, 0)) := row_setCells B 62 [.int .i64 q] 6 W3.drew _ hr (by show 6 + 1 ≤ 8; omega)
    have hr5 : ((W3.drew.setCell ⟨B, 6, none⟩ (.int .i64 q)).setCell ⟨B, 7, none⟩ (.int .i64 x3)).heap[B]? = some (.cells #[c0, c1, c2, .bool false, .int .i64 (c + 1), .int .i64 x2, .int .i64 q, .int .i64 x3] 62 (0, 0)) := row_setCells B 62 [.int .i64 x3] 7 _ _ hr4 (by show 7 + 1 ≤ 8; omega)
    have hO5 : Only (fun k => k = B) w ((W3.drew.setCell ⟨B, 6, none⟩ (.int .i64 q)).setCell ⟨B, 7, none⟩ (.int .i64 x3)) := (hO.drew.set _ _ (Or.inl rfl)).set _ _ (Or.inl rfl)
    have HB := Lib.hid hO5; have HROW := Lib.hid hr5
    clear hr hO hb hr4 hr5 hO5
    go_wp2_with fail
    go_region_law (fail)
    all_goals
      go_wp2
      go_end0
      exact ⟨rfl, HB.out, HROW.out⟩
set_option maxRecDepth 100000 in
set_option maxHeartbeats 8000000 in
theorem reckon_no2 (B : Nat) (c0 c1 c2 c3 c4 c5 c6 c7 : Value) (a b c d e f g p q x2 x3 : Int) (w : World) (hg : goodC a b c d e f g = true) (k1 : 1 ≤ p) (k2 : ¬ p ≤ 16) (hx2 : IntKind.i64.wrap (c + 1 + p) = x2) (hx3 : IntKind.i64.wrap (4 * p) = x3) (hrow : w.heap[B]? = some (.cells #[c0, c1, c2, c3, c4, c5, c6, c7] 62 (0, 0))) :
    Calls Try.prog 36 #[.pointer (some ⟨B, 0, none⟩), .agg #[.int .i64 a, .int .i64 b, .int .i64 c, .int .i64 d, .int .i64 e, .int .i64 f, .int .i64 g, .int .i64 p, .int .i64 q]] w fun E w' => E = .returned (.tuple #[]) ∧ Only (fun k => k = B) w w' ∧ w'.heap[B]? = some (.cells (PlanRow c0 c1 c2 false (c + 1) x2 q x3) 62 (0, 0)) := by
  have hlt : B < w.heap.size := (Array.getElem?_eq_some_iff.1 hrow).1
  have hne : ¬ B = w.heap.size := by omega
  have hga := fun w => good_all a b c d e f g w
  rw [hg] at hga
  obtain ⟨hb1, hb2, hb3, hb4⟩ := goodC_b hg
  clear hg
  go_enter Try.func36, Try.ntmps36
  go_wp2_with fail
  refine (hga _).mono ?_
  rintro e w1 ⟨rfl, hB1⟩
  obtain ⟨hbx, hold⟩ := past_box hB1
  have hO0 : Only (fun k => k = B) w w1 := Only.of_below (Below.then (Below.al (Below.refl _ _) _) hB1)
  rw [← hold B hlt] at hrow
  have hsz : w.heap.size < w1.heap.size := by have := hB1.size; simp at this; omega
  obtain ⟨n0, hn0⟩ : ∃ n0, w.heap.size = n0 := ⟨_, rfl⟩
  simp only [hn0] at hbx hsz hne hlt ⊢
  have q1 : w1.cell? ⟨n0, 1, none⟩ = some (.int .i64 b) := by rw [cell_of_row _ _ _ _ 25 (0, 0) hbx]; rfl
  have q2 : w1.cell? ⟨n0, 2, none⟩ = some (.int .i64 c) := by rw [cell_of_row _ _ _ _ 25 (0, 0) hbx]; rfl
  have q7 : w1.cell? ⟨n0, 7, none⟩ = some (.int .i64 p) := by rw [cell_of_row _ _ _ _ 25 (0, 0) hbx]; rfl
  have q8 : w1.cell? ⟨n0, 8, none⟩ = some (.int .i64 q) := by rw [cell_of_row _ _ _ _ 25 (0, 0) hbx]; rfl
  have r3 : w1.cell? ⟨B, 3, none⟩ = some c3 := by rw [cell_of_row _ _ _ _ 62 (0, 0) hrow]; rfl
  have r4 : w1.cell? ⟨B, 4, none⟩ = some c4 := by rw [cell_of_row _ _ _ _ 62 (0, 0) hrow]; rfl
  have hfr : ∀ o, w1.frozen? ⟨B, o, none⟩ = false := fun o => frozen_of_row w1 B o _ 62 hrow
  have hr1 : (w1.setCell ⟨B, 3, none⟩ (.bool false)).heap[B]? = some (.cells #[c0, c1, c2, .bool false, c4, c5, c6, c7] 62 (0, 0)) := row_setCells B 62 [.bool false] 3 w1 _ hrow (by show 3 + 1 ≤ 8; omega)
  have hr2 : ((w1.setCell ⟨B, 3, none⟩ (.bool false)).setCell ⟨B, 4, none⟩ (.int .i64 (c + 1))).heap[B]? = some (.cells #[c0, c1, c2, .bool false, .int .i64 (c + 1), c5, c6, c7] 62 (0, 0)) := row_setCells B 62 [.int .i64 (c + 1)] 4 _ _ hr1 (by show 4 + 1 ≤ 8; omega)
  have hO2 : Only (fun k => k = B) w ((w1.setCell ⟨B, 3, none⟩ (.bool false)).setCell ⟨B, 4, none⟩ (.int .i64 (c + 1))) := (hO0.set _ _ (Or.inl rfl)).set _ _ (Or.inl rfl)
  have hb2 : ((w1.setCell ⟨B, 3, none⟩ (.bool false)).setCell ⟨B, 4, none⟩ (.int .i64 (c + 1))).heap[n0]? = some (.cells #[.int .i64 a, .int .i64 b, .int .i64 c, .int .i64 d, .int .i64 e, .int .i64 f, .int .i64 g, .int .i64 p, .int .i64 q] 25 (0, 0)) := (((((Only.refl (fun k => k = B) w1).set ⟨B, 3, none⟩ (.bool false) (Or.inl rfl)).set ⟨B, 4, none⟩ (.int .i64 (c + 1)) (Or.inl rfl)).block n0 hsz (fun h => hne h.symm))).trans hbx
  have HB := Lib.hid hO2; have HBX := Lib.hid hb2; have HROW := Lib.hid hr2
  clear hga hB1 hbx hold hO0 hrow hn0 hr1 hr2 hO2 hb2
  go_wp2_with fail
  obtain ⟨W2, hW2⟩ : ∃ W2, (w1.setCell ⟨B, 3, none⟩ (.bool false)).setCell ⟨B, 4, none⟩ (.int .i64 (c + 1)) = W2 := ⟨_, rfl⟩
  have hr := HROW.out; have hO := HB.out; have hb := HBX.out
  rw [hW2] at hr hO hb ⊢
  clear q1 q2 q7 q8 r3 r4 hfr HB HBX HROW hW2
  have q7 : W2.cell? ⟨n0, 7, none⟩ = some (.int .i64 p) := by rw [cell_of_row _ _ _ _ 25 (0, 0) hb]; rfl
  have q8 : W2.cell? ⟨n0, 8, none⟩ = some (.int .i64 q) := by rw [cell_of_row _ _ _ _ 25 (0, 0) hb]; rfl
  have r4 : W2.cell? ⟨B, 4, none⟩ = some (.int .i64 (c + 1)) := by rw [cell_of_row _ _ _ _ 62 (0, 0) hr]; rfl
  have r5 : W2.cell? ⟨B, 5, none⟩ = some c5 := by rw [cell_of_row _ _ _ _ 62 (0, 0) hr]; rfl
  have hfr : ∀ o, W2.frozen? ⟨B, o, none⟩ = false := fun o => frozen_of_row W2 B o _ 62 hr
  have hr3 : ((W2.setCell ⟨B, 5, none⟩ (.int .i64 x2)).drew).heap[B]? = some (.cells #[c0, c1, c2, .bool false, .int .i64 (c + 1), .int .i64 x2, c6, c7] 62 (0, 0)) := row_setCells B 62 [.int .i64 x2] 5 W2.drew _ hr (by show 5 + 1 ≤ 8; omega)
  have hO3 : Only (fun k => k = B) w ((W2.setCell ⟨B, 5, none⟩ (.int .i64 x2)).drew) := hO.drew.set _ _ (Or.inl rfl)
  have hsz2 : n0 < W2.heap.size := (Array.getElem?_eq_some_iff.1 hb).1
  have hb3 : ((W2.setCell ⟨B, 5, none⟩ (.int .i64 x2)).drew).heap[n0]? = some (.cells #[.int .i64 a, .int .i64 b, .int .i64 c, .int .i64 d, .int .i64 e, .int .i64 f, .int .i64 g, .int .i64 p, .int .i64 q] 25 (0, 0)) := ((((Only.refl (fun k => k = B) W2).drew).set ⟨B, 5, none⟩ (.int .i64 x2) (Or.inl rfl)).block n0 hsz2 (fun h => hne h.symm)).trans hb
  have HB := Lib.hid hO3; have HBX := Lib.hid hb3; have HROW := Lib.hid hr3
  clear hr hO hb hr3 hO3 hb3
  go_region_law (fail)
  all_goals
    obtain ⟨W3, hW3⟩ : ∃ W3, (W2.setCell ⟨B, 5, none⟩ (.int .i64 x2)).drew = W3 := ⟨_, rfl⟩
    have hr := HROW.out; have hO := HB.out; have hb := HBX.out
    rw [hW3] at hr hO hb ⊢
    clear q7 q8 r4 r5 hfr HB HBX HROW hW3
    have q7 : W3.cell? ⟨n0, 7, none⟩ = some (.int .i64 p) := by rw [cell_of_row _ _ _ _ 25 (0, 0) hb]; rfl
    have q8 : W3.cell? ⟨n0, 8, none⟩ = some (.int .i64 q) := by rw [cell_of_row _ _ _ _ 25 (0, 0) hb]; rfl
    have r6 : W3.cell? ⟨B, 6, none⟩ = some c6 := by rw [cell_of_row _ _ _ _ 62 (0, 0) hr]; rfl
    have r7 : W3.cell? ⟨B, 7, none⟩ = some c7 := by rw [cell_of_row _ _ _ _ 62 (0, 0) hr]; rfl
    have hfr : ∀ o, W3.frozen? ⟨B, o, none⟩ = false := fun o => frozen_of_row W3 B o _ 62 hr
    have hr4 : (W3.drew.setCell ⟨B, 6, none⟩ (.int .i64 q)).heap[B]? = some (.cells #[c0, c1, c2, .bool false, .int .i64 (c + 1), .int .i64 x2, .int .i64 q, c7] 62 (0, 0)) := row_setCells B 62 [.int .i64 q] 6 W3.drew _ hr (by show 6 + 1 ≤ 8; omega)
    have hr5 : ((W3.drew.setCell ⟨B, 6, none⟩ (.int .i64 q)).setCell ⟨B, 7, none⟩ (.int .i64 x3)).heap[B]? = some (.cells #[c0, c1, c2, .bool false, .int .i64 (c + 1), .int .i64 x2, .int .i64 q, .int .i64 x3] 62 (0, 0)) := row_setCells B 62 [.int .i64 x3] 7 _ _ hr4 (by show 7 + 1 ≤ 8; omega)
    have hO5 : Only (fun k => k = B) w ((W3.drew.setCell ⟨B, 6, none⟩ (.int .i64 q)).setCell ⟨B, 7, none⟩ (.int .i64 x3)) := (hO.drew.set _ _ (Or.inl rfl)).set _ _ (Or.inl rfl)
    have HB := Lib.hid hO5; have HROW := Lib.hid hr5
    clear hr hO hb hr4 hr5 hO5
    go_wp2_with fail
    go_region_law (fail)
    all_goals
      go_wp2
      go_end0
      exact ⟨rfl, HB.out, HROW.out⟩
set_option maxRecDepth 100000 in
set_option maxHeartbeats 8000000 in
theorem reckon_no3 (B : Nat) (c0 c1 c2 c3 c4 c5 c6 c7 : Value) (a b c d e f g p q x2 x3 : Int) (w : World) (hg : goodC a b c d e f g = true) (k1 : 1 ≤ p) (k2 : p ≤ 16) (k3 : ¬ 1 ≤ q) (hx2 : IntKind.i64.wrap (c + 1 + p) = x2) (hx3 : IntKind.i64.wrap (4 * p) = x3) (hrow : w.heap[B]? = some (.cells #[c0, c1, c2, c3, c4, c5, c6, c7] 62 (0, 0))) :
    Calls Try.prog 36 #[.pointer (some ⟨B, 0, none⟩), .agg #[.int .i64 a, .int .i64 b, .int .i64 c, .int .i64 d, .int .i64 e, .int .i64 f, .int .i64 g, .int .i64 p, .int .i64 q]] w fun E w' => E = .returned (.tuple #[]) ∧ Only (fun k => k = B) w w' ∧ w'.heap[B]? = some (.cells (PlanRow c0 c1 c2 false (c + 1) x2 q x3) 62 (0, 0)) := by
  have hlt : B < w.heap.size := (Array.getElem?_eq_some_iff.1 hrow).1
  have hne : ¬ B = w.heap.size := by omega
  have hga := fun w => good_all a b c d e f g w
  rw [hg] at hga
  obtain ⟨hb1, hb2, hb3, hb4⟩ := goodC_b hg
  clear hg
  go_enter Try.func36, Try.ntmps36
  go_wp2_with fail
  refine (hga _).mono ?_
  rintro e w1 ⟨rfl, hB1⟩
  obtain ⟨hbx, hold⟩ := past_box hB1
  have hO0 : Only (fun k => k = B) w w1 := Only.of_below (Below.then (Below.al (Below.refl _ _) _) hB1)
  rw [← hold B hlt] at hrow
  have hsz : w.heap.size < w1.heap.size := by have := hB1.size; simp at this; omega
  obtain ⟨n0, hn0⟩ : ∃ n0, w.heap.size = n0 := ⟨_, rfl⟩
  simp only [hn0] at hbx hsz hne hlt ⊢
  have q1 : w1.cell? ⟨n0, 1, none⟩ = some (.int .i64 b) := by rw [cell_of_row _ _ _ _ 25 (0, 0) hbx]; rfl
  have q2 : w1.cell? ⟨n0, 2, none⟩ = some (.int .i64 c) := by rw [cell_of_row _ _ _ _ 25 (0, 0) hbx]; rfl
  have q7 : w1.cell? ⟨n0, 7, none⟩ = some (.int .i64 p) := by rw [cell_of_row _ _ _ _ 25 (0, 0) hbx]; rfl
  have q8 : w1.cell? ⟨n0, 8, none⟩ = some (.int .i64 q) := by rw [cell_of_row _ _ _ _ 25 (0, 0) hbx]; rfl
  have r3 : w1.cell? ⟨B, 3, none⟩ = some c3 := by rw [cell_of_row _ _ _ _ 62 (0, 0) hrow]; rfl
  have r4 : w1.cell? ⟨B, 4, none⟩ = some c4 := by rw [cell_of_row _ _ _ _ 62 (0, 0) hrow]; rfl
  have hfr : ∀ o, w1.frozen? ⟨B, o, none⟩ = false := fun o => frozen_of_row w1 B o _ 62 hrow
  have hr1 : (w1.setCell ⟨B, 3, none⟩ (.bool false)).heap[B]? = some (.cells #[c0, c1, c2, .bool false, c4, c5, c6, c7] 62 (0, 0)) := row_setCells B 62 [.bool false] 3 w1 _ hrow (by show 3 + 1 ≤ 8; omega)
  have hr2 : ((w1.setCell ⟨B, 3, none⟩ (.bool false)).setCell ⟨B, 4, none⟩ (.int .i64 (c + 1))).heap[B]? = some (.cells #[c0, c1, c2, .bool false, .int .i64 (c + 1), c5, c6, c7] 62 (0, 0)) := row_setCells B 62 [.int .i64 (c + 1)] 4 _ _ hr1 (by show 4 + 1 ≤ 8; omega)
  have hO2 : Only (fun k => k = B) w ((w1.setCell ⟨B, 3, none⟩ (.bool false)).setCell ⟨B, 4, none⟩ (.int .i64 (c + 1))) := (hO0.set _ _ (Or.inl rfl)).set _ _ (Or.inl rfl)
  have hb2 : ((w1.setCell ⟨B, 3, none⟩ (.bool false)).setCell ⟨B, 4, none⟩ (.int .i64 (c + 1))).heap[n0]? = some (.cells #[.int .i64 a, .int .i64 b, .int .i64 c, .int .i64 d, .int .i64 e, .int .i64 f, .int .i64 g, .int .i64 p, .int .i64 q] 25 (0, 0)) := (((((Only.refl (fun k => k = B) w1).set ⟨B, 3, none⟩ (.bool false) (Or.inl rfl)).set ⟨B, 4, none⟩ (.int .i64 (c + 1)) (Or.inl rfl)).block n0 hsz (fun h => hne h.symm))).trans hbx
  have HB := Lib.hid hO2; have HBX := Lib.hid hb2; have HROW := Lib.hid hr2
  clear hga hB1 hbx hold hO0 hrow hn0 hr1 hr2 hO2 hb2
  go_wp2_with fail
  obtain ⟨W2, hW2⟩ : ∃ W2, (w1.setCell ⟨B, 3, none⟩ (.bool false)).setCell ⟨B, 4, none⟩ (.int .i64 (c + 1)) = W2 := ⟨_, rfl⟩
  have hr := HROW.out; have hO := HB.out; have hb := HBX.out
  rw [hW2] at hr hO hb ⊢
  clear q1 q2 q7 q8 r3 r4 hfr HB HBX HROW hW2
  have q7 : W2.cell? ⟨n0, 7, none⟩ = some (.int .i64 p) := by rw [cell_of_row _ _ _ _ 25 (0, 0) hb]; rfl
  have q8 : W2.cell? ⟨n0, 8, none⟩ = some (.int .i64 q) := by rw [cell_of_row _ _ _ _ 25 (0, 0) hb]; rfl
  have r4 : W2.cell? ⟨B, 4, none⟩ = some (.int .i64 (c + 1)) := by rw [cell_of_row _ _ _ _ 62 (0, 0) hr]; rfl
  have r5 : W2.cell? ⟨B, 5, none⟩ = some c5 := by rw [cell_of_row _ _ _ _ 62 (0, 0) hr]; rfl
  have hfr : ∀ o, W2.frozen? ⟨B, o, none⟩ = false := fun o => frozen_of_row W2 B o _ 62 hr
  have hr3 : ((W2.setCell ⟨B, 5, none⟩ (.int .i64 x2)).drew).heap[B]? = some (.cells #[c0, c1, c2, .bool false, .int .i64 (c + 1), .int .i64 x2, c6, c7] 62 (0, 0)) := row_setCells B 62 [.int .i64 x2] 5 W2.drew _ hr (by show 5 + 1 ≤ 8; omega)
  have hO3 : Only (fun k => k = B) w ((W2.setCell ⟨B, 5, none⟩ (.int .i64 x2)).drew) := hO.drew.set _ _ (Or.inl rfl)
  have hsz2 : n0 < W2.heap.size := (Array.getElem?_eq_some_iff.1 hb).1
  have hb3 : ((W2.setCell ⟨B, 5, none⟩ (.int .i64 x2)).drew).heap[n0]? = some (.cells #[.int .i64 a, .int .i64 b, .int .i64 c, .int .i64 d, .int .i64 e, .int .i64 f, .int .i64 g, .int .i64 p, .int .i64 q] 25 (0, 0)) := ((((Only.refl (fun k => k = B) W2).drew).set ⟨B, 5, none⟩ (.int .i64 x2) (Or.inl rfl)).block n0 hsz2 (fun h => hne h.symm)).trans hb
  have HB := Lib.hid hO3; have HBX := Lib.hid hb3; have HROW := Lib.hid hr3
  clear hr hO hb hr3 hO3 hb3
  go_region_law (fail)
  all_goals
    obtain ⟨W3, hW3⟩ : ∃ W3, (W2.setCell ⟨B, 5, none⟩ (.int .i64 x2)).drew = W3 := ⟨_, rfl⟩
    have hr := HROW.out; have hO := HB.out; have hb := HBX.out
    rw [hW3] at hr hO hb ⊢
    clear q7 q8 r4 r5 hfr HB HBX HROW hW3
    have q7 : W3.cell? ⟨n0, 7, none⟩ = some (.int .i64 p) := by rw [cell_of_row _ _ _ _ 25 (0, 0) hb]; rfl
    have q8 : W3.cell? ⟨n0, 8, none⟩ = some (.int .i64 q) := by rw [cell_of_row _ _ _ _ 25 (0, 0) hb]; rfl
    have r6 : W3.cell? ⟨B, 6, none⟩ = some c6 := by rw [cell_of_row _ _ _ _ 62 (0, 0) hr]; rfl
    have r7 : W3.cell? ⟨B, 7, none⟩ = some c7 := by rw [cell_of_row _ _ _ _ 62 (0, 0) hr]; rfl
    have hfr : ∀ o, W3.frozen? ⟨B, o, none⟩ = false := fun o => frozen_of_row W3 B o _ 62 hr
    have hr4 : (W3.drew.setCell ⟨B, 6, none⟩ (.int .i64 q)).heap[B]? = some (.cells #[c0, c1, c2, .bool false, .int .i64 (c + 1), .int .i64 x2, .int .i64 q, c7] 62 (0, 0)) := row_setCells B 62 [.int .i64 q] 6 W3.drew _ hr (by show 6 + 1 ≤ 8; omega)
    have hr5 : ((W3.drew.setCell ⟨B, 6, none⟩ (.int .i64 q)).setCell ⟨B, 7, none⟩ (.int .i64 x3)).heap[B]? = some (.cells #[c0, c1, c2, .bool false, .int .i64 (c + 1), .int .i64 x2, .int .i64 q, .int .i64 x3] 62 (0, 0)) := row_setCells B 62 [.int .i64 x3] 7 _ _ hr4 (by show 7 + 1 ≤ 8; omega)
    have hO5 : Only (fun k => k = B) w ((W3.drew.setCell ⟨B, 6, none⟩ (.int .i64 q)).setCell ⟨B, 7, none⟩ (.int .i64 x3)) := (hO.drew.set _ _ (Or.inl rfl)).set _ _ (Or.inl rfl)
    have HB := Lib.hid hO5; have HROW := Lib.hid hr5
    clear hr hO hb hr4 hr5 hO5
    go_wp2_with fail
    go_region_law (fail)
    all_goals
      go_wp2
      go_end0
      exact ⟨rfl, HB.out, HROW.out⟩
set_option maxRecDepth 100000 in
set_option maxHeartbeats 8000000 in
theorem reckon_no4 (B : Nat) (c0 c1 c2 c3 c4 c5 c6 c7 : Value) (a b c d e f g p q x2 x3 : Int) (w : World) (hg : goodC a b c d e f g = true) (k1 : 1 ≤ p) (k2 : p ≤ 16) (k3 : 1 ≤ q) (k4 : ¬ q ≤ 16) (hx2 : IntKind.i64.wrap (c + 1 + p) = x2) (hx3 : IntKind.i64.wrap (4 * p) = x3) (hrow : w.heap[B]? = some (.cells #[c0, c1, c2, c3, c4, c5, c6, c7] 62 (0, 0))) :
    Calls Try.prog 36 #[.pointer (some ⟨B, 0, none⟩), .agg #[.int .i64 a, .int .i64 b, .int .i64 c, .int .i64 d, .int .i64 e, .int .i64 f, .int .i64 g, .int .i64 p, .int .i64 q]] w fun E w' => E = .returned (.tuple #[]) ∧ Only (fun k => k = B) w w' ∧ w'.heap[B]? = some (.cells (PlanRow c0 c1 c2 false (c + 1) x2 q x3) 62 (0, 0)) := by
  have hlt : B < w.heap.size := (Array.getElem?_eq_some_iff.1 hrow).1
  have hne : ¬ B = w.heap.size := by omega
  have hga := fun w => good_all a b c d e f g w
  rw [hg] at hga
  obtain ⟨hb1, hb2, hb3, hb4⟩ := goodC_b hg
  clear hg
  go_enter Try.func36, Try.ntmps36
  go_wp2_with fail
  refine (hga _).mono ?_
  rintro e w1 ⟨rfl, hB1⟩
  obtain ⟨hbx, hold⟩ := past_box hB1
  have hO0 : Only (fun k => k = B) w w1 := Only.of_below (Below.then (Below.al (Below.refl _ _) _) hB1)
  rw [← hold B hlt] at hrow
  have hsz : w.heap.size < w1.heap.size := by have := hB1.size; simp at this; omega
  obtain ⟨n0, hn0⟩ : ∃ n0, w.heap.size = n0 := ⟨_, rfl⟩
  simp only [hn0] at hbx hsz hne hlt ⊢
  have q1 : w1.cell? ⟨n0, 1, none⟩ = some (.int .i64 b) := by rw [cell_of_row _ _ _ _ 25 (0, 0) hbx]; rfl
  have q2 : w1.cell? ⟨n0, 2, none⟩ = some (.int .i64 c) := by rw [cell_of_row _ _ _ _ 25 (0, 0) hbx]; rfl
  have q7 : w1.cell? ⟨n0, 7, none⟩ = some (.int .i64 p) := by rw [cell_of_row _ _ _ _ 25 (0, 0) hbx]; rfl
  have q8 : w1.cell? ⟨n0, 8, none⟩ = some (.int .i64 q) := by rw [cell_of_row _ _ _ _ 25 (0, 0) hbx]; rfl
  have r3 : w1.cell? ⟨B, 3, none⟩ = some c3 := by rw [cell_of_row _ _ _ _ 62 (0, 0) hrow]; rfl
  have r4 : w1.cell? ⟨B, 4, none⟩ = some c4 := by rw [cell_of_row _ _ _ _ 62 (0, 0) hrow]; rfl
  have hfr : ∀ o, w1.frozen? ⟨B, o, none⟩ = false := fun o => frozen_of_row w1 B o _ 62 hrow
  have hr1 : (w1.setCell ⟨B, 3, none⟩ (.bool false)).heap[B]? = some (.cells #[c0, c1, c2, .bool false, c4, c5, c6, c7] 62 (0, 0)) := row_setCells B 62 [.bool false] 3 w1 _ hrow (by show 3 + 1 ≤ 8; omega)
  have hr2 : ((w1.setCell ⟨B, 3, none⟩ (.bool false)).setCell ⟨B, 4, none⟩ (.int .i64 (c + 1))).heap[B]? = some (.cells #[c0, c1, c2, .bool false, .int .i64 (c + 1), c5, c6, c7] 62 (0, 0)) := row_setCells B 62 [.int .i64 (c + 1)] 4 _ _ hr1 (by show 4 + 1 ≤ 8; omega)
  have hO2 : Only (fun k => k = B) w ((w1.setCell ⟨B, 3, none⟩ (.bool false)).setCell ⟨B, 4, none⟩ (.int .i64 (c + 1))) := (hO0.set _ _ (Or.inl rfl)).set _ _ (Or.inl rfl)
  have hb2 : ((w1.setCell ⟨B, 3, none⟩ (.bool false)).setCell ⟨B, 4, none⟩ (.int .i64 (c + 1))).heap[n0]? = some (.cells #[.int .i64 a, .int .i64 b, .int .i64 c, .int .i64 d, .int .i64 e, .int .i64 f, .int .i64 g, .int .i64 p, .int .i64 q] 25 (0, 0)) := (((((Only.refl (fun k => k = B) w1).set ⟨B, 3, none⟩ (.bool false) (Or.inl rfl)).set ⟨B, 4, none⟩ (.int .i64 (c + 1)) (Or.inl rfl)).block n0 hsz (fun h => hne h.symm))).trans hbx
  have HB := Lib.hid hO2; have HBX := Lib.hid hb2; have HROW := Lib.hid hr2
  clear hga hB1 hbx hold hO0 hrow hn0 hr1 hr2 hO2 hb2
  go_wp2_with fail
  obtain ⟨W2, hW2⟩ : ∃ W2, (w1.setCell ⟨B, 3, none⟩ (.bool false)).setCell ⟨B, 4, none⟩ (.int .i64 (c + 1)) = W2 := ⟨_, rfl⟩
  have hr := HROW.out; have hO := HB.out; have hb := HBX.out
  rw [hW2] at hr hO hb ⊢
  clear q1 q2 q7 q8 r3 r4 hfr HB HBX HROW hW2
  have q7 : W2.cell? ⟨n0, 7, none⟩ = some (.int .i64 p) := by rw [cell_of_row _ _ _ _ 25 (0, 0) hb]; rfl
  have q8 : W2.cell? ⟨n0, 8, none⟩ = some (.int .i64 q) := by rw [cell_of_row _ _ _ _ 25 (0, 0) hb]; rfl
  have r4 : W2.cell? ⟨B, 4, none⟩ = some (.int .i64 (c + 1)) := by rw [cell_of_row _ _ _ _ 62 (0, 0) hr]; rfl
  have r5 : W2.cell? ⟨B, 5, none⟩ = some c5 := by rw [cell_of_row _ _ _ _ 62 (0, 0) hr]; rfl
  have hfr : ∀ o, W2.frozen? ⟨B, o, none⟩ = false := fun o => frozen_of_row W2 B o _ 62 hr
  have hr3 : ((W2.setCell ⟨B, 5, none⟩ (.int .i64 x2)).drew).heap[B]? = some (.cells #[c0, c1, c2, .bool false, .int .i64 (c + 1), .int .i64 x2, c6, c7] 62 (0, 0)) := row_setCells B 62 [.int .i64 x2] 5 W2.drew _ hr (by show 5 + 1 ≤ 8; omega)
  have hO3 : Only (fun k => k = B) w ((W2.setCell ⟨B, 5, none⟩ (.int .i64 x2)).drew) := hO.drew.set _ _ (Or.inl rfl)
  have hsz2 : n0 < W2.heap.size := (Array.getElem?_eq_some_iff.1 hb).1
  have hb3 : ((W2.setCell ⟨B, 5, none⟩ (.int .i64 x2)).drew).heap[n0]? = some (.cells #[.int .i64 a, .int .i64 b, .int .i64 c, .int .i64 d, .int .i64 e, .int .i64 f, .int .i64 g, .int .i64 p, .int .i64 q] 25 (0, 0)) := ((((Only.refl (fun k => k = B) W2).drew).set ⟨B, 5, none⟩ (.int .i64 x2) (Or.inl rfl)).block n0 hsz2 (fun h => hne h.symm)).trans hb
  have HB := Lib.hid hO3; have HBX := Lib.hid hb3; have HROW := Lib.hid hr3
  clear hr hO hb hr3 hO3 hb3
  go_region_law (fail)
  all_goals
    obtain ⟨W3, hW3⟩ : ∃ W3, (W2.setCell ⟨B, 5, none⟩ (.int .i64 x2)).drew = W3 := ⟨_, rfl⟩
    have hr := HROW.out; have hO := HB.out; have hb := HBX.out
    rw [hW3] at hr hO hb ⊢
    clear q7 q8 r4 r5 hfr HB HBX HROW hW3
    have q7 : W3.cell? ⟨n0, 7, none⟩ = some (.int .i64 p) := by rw [cell_of_row _ _ _ _ 25 (0, 0) hb]; rfl
    have q8 : W3.cell? ⟨n0, 8, none⟩ = some (.int .i64 q) := by rw [cell_of_row _ _ _ _ 25 (0, 0) hb]; rfl
    have r6 : W3.cell? ⟨B, 6, none⟩ = some c6 := by rw [cell_of_row _ _ _ _ 62 (0, 0) hr]; rfl
    have r7 : W3.cell? ⟨B, 7, none⟩ = some c7 := by rw [cell_of_row _ _ _ _ 62 (0, 0) hr]; rfl
    have hfr : ∀ o, W3.frozen? ⟨B, o, none⟩ = false := fun o => frozen_of_row W3 B o _ 62 hr
    have hr4 : (W3.drew.setCell ⟨B, 6, none⟩ (.int .i64 q)).heap[B]? = some (.cells #[c0, c1, c2, .bool false, .int .i64 (c + 1), .int .i64 x2, .int .i64 q, c7] 62 (0, 0)) := row_setCells B 62 [.int .i64 q] 6 W3.drew _ hr (by show 6 + 1 ≤ 8; omega)
    have hr5 : ((W3.drew.setCell ⟨B, 6, none⟩ (.int .i64 q)).setCell ⟨B, 7, none⟩ (.int .i64 x3)).heap[B]? = some (.cells #[c0, c1, c2, .bool false, .int .i64 (c + 1), .int .i64 x2, .int .i64 q, .int .i64 x3] 62 (0, 0)) := row_setCells B 62 [.int .i64 x3] 7 _ _ hr4 (by show 7 + 1 ≤ 8; omega)
    have hO5 : Only (fun k => k = B) w ((W3.drew.setCell ⟨B, 6, none⟩ (.int .i64 q)).setCell ⟨B, 7, none⟩ (.int .i64 x3)) := (hO.drew.set _ _ (Or.inl rfl)).set _ _ (Or.inl rfl)
    have HB := Lib.hid hO5; have HROW := Lib.hid hr5
    clear hr hO hb hr4 hr5 hO5
    go_wp2_with fail
    go_region_law (fail)
    all_goals
      go_wp2
      go_end0
      exact ⟨rfl, HB.out, HROW.out⟩
set_option maxRecDepth 100000 in
set_option maxHeartbeats 8000000 in
theorem reckon_no0 (B : Nat) (c0 c1 c2 c3 c4 c5 c6 c7 : Value) (a b c d e f g p q x1 x2 x3 : Int) (w : World) (hg : goodC a b c d e f g = false) (hx1 : IntKind.i64.wrap (c + 1) = x1) (hx2 : IntKind.i64.wrap (x1 + p) = x2) (hx3 : IntKind.i64.wrap (4 * p) = x3) (hrow : w.heap[B]? = some (.cells #[c0, c1, c2, c3, c4, c5, c6, c7] 62 (0, 0))) :
    Calls Try.prog 36 #[.pointer (some ⟨B, 0, none⟩), .agg #[.int .i64 a, .int .i64 b, .int .i64 c, .int .i64 d, .int .i64 e, .int .i64 f, .int .i64 g, .int .i64 p, .int .i64 q]] w fun E w' => E = .returned (.tuple #[]) ∧ Only (fun k => k = B) w w' ∧ w'.heap[B]? = some (.cells (PlanRow c0 c1 c2 false x1 x2 q x3) 62 (0, 0)) := by
  have hlt : B < w.heap.size := (Array.getElem?_eq_some_iff.1 hrow).1
  have hne : ¬ B = w.heap.size := by omega
  have hga := fun w => good_all a b c d e f g w
  rw [hg] at hga
  clear hg
  go_enter Try.func36, Try.ntmps36
  go_wp2_with fail
  refine (hga _).mono ?_
  rintro e w1 ⟨rfl, hB1⟩
  obtain ⟨hbx, hold⟩ := past_box hB1
  have hO0 : Only (fun k => k = B) w w1 := Only.of_below (Below.then (Below.al (Below.refl _ _) _) hB1)
  rw [← hold B hlt] at hrow
  have hsz : w.heap.size < w1.heap.size := by have := hB1.size; simp at this; omega
  obtain ⟨n0, hn0⟩ : ∃ n0, w.heap.size = n0 := ⟨_, rfl⟩
  simp only [hn0] at hbx hsz hne hlt ⊢
  have q1 : w1.cell? ⟨n0, 1, none⟩ = some (.int .i64 b) := by rw [cell_of_row _ _ _ _ 25 (0, 0) hbx]; rfl
  have q2 : w1.cell? ⟨n0, 2, none⟩ = some (.int .i64 c) := by rw [cell_of_row _ _ _ _ 25 (0, 0) hbx]; rfl
  have q7 : w1.cell? ⟨n0, 7, none⟩ = some (.int .i64 p) := by rw [cell_of_row _ _ _ _ 25 (0, 0) hbx]; rfl
  have q8 : w1.cell? ⟨n0, 8, none⟩ = some (.int .i64 q) := by rw [cell_of_row _ _ _ _ 25 (0, 0) hbx]; rfl
  have r3 : w1.cell? ⟨B, 3, none⟩ = some c3 := by rw [cell_of_row _ _ _ _ 62 (0, 0) hrow]; rfl
  have r4 : w1.cell? ⟨B, 4, none⟩ = some c4 := by rw [cell_of_row _ _ _ _ 62 (0, 0) hrow]; rfl
  have hfr : ∀ o, w1.frozen? ⟨B, o, none⟩ = false := fun o => frozen_of_row w1 B o _ 62 hrow
  have hr1 : (w1.setCell ⟨B, 3, none⟩ (.bool false)).heap[B]? = some (.cells #[c0, c1, c2, .bool false, c4, c5, c6, c7] 62 (0, 0)) := row_setCells B 62 [.bool false] 3 w1 _ hrow (by show 3 + 1 ≤ 8; omega)
  have hr2 : ((w1.setCell ⟨B, 3, none⟩ (.bool false)).setCell ⟨B, 4, none⟩ (.int .i64 x1)).heap[B]? = some (.cells #[c0, c1, c2, .bool false, .int .i64 x1, c5, c6, c7] 62 (0, 0)) := row_setCells B 62 [.int .i64 x1] 4 _ _ hr1 (by show 4 + 1 ≤ 8; omega)
  have hO2 : Only (fun k => k = B) w ((w1.setCell ⟨B, 3, none⟩ (.bool false)).setCell ⟨B, 4, none⟩ (.int .i64 x1)) := (hO0.set _ _ (Or.inl rfl)).set _ _ (Or.inl rfl)
  have hb2 : ((w1.setCell ⟨B, 3, none⟩ (.bool false)).setCell ⟨B, 4, none⟩ (.int .i64 x1)).heap[n0]? = some (.cells #[.int .i64 a, .int .i64 b, .int .i64 c, .int .i64 d, .int .i64 e, .int .i64 f, .int .i64 g, .int .i64 p, .int .i64 q] 25 (0, 0)) := (((((Only.refl (fun k => k = B) w1).set ⟨B, 3, none⟩ (.bool false) (Or.inl rfl)).set ⟨B, 4, none⟩ (.int .i64 x1) (Or.inl rfl)).block n0 hsz (fun h => hne h.symm))).trans hbx
  have HB := Lib.hid hO2; have HBX := Lib.hid hb2; have HROW := Lib.hid hr2
  clear hga hB1 hbx hold hO0 hrow hn0 hr1 hr2 hO2 hb2
  go_wp2_with fail
  obtain ⟨W2, hW2⟩ : ∃ W2, (w1.setCell ⟨B, 3, none⟩ (.bool false)).setCell ⟨B, 4, none⟩ (.int .i64 x1) = W2 := ⟨_, rfl⟩
  have hr := HROW.out; have hO := HB.out; have hb := HBX.out
  rw [hW2] at hr hO hb ⊢
  clear q1 q2 q7 q8 r3 r4 hfr HB HBX HROW hW2
  have q7 : W2.cell? ⟨n0, 7, none⟩ = some (.int .i64 p) := by rw [cell_of_row _ _ _ _ 25 (0, 0) hb]; rfl
  have q8 : W2.cell? ⟨n0, 8, none⟩ = some (.int .i64 q) := by rw [cell_of_row _ _ _ _ 25 (0, 0) hb]; rfl
  have r4 : W2.cell? ⟨B, 4, none⟩ = some (.int .i64 x1) := by rw [cell_of_row _ _ _ _ 62 (0, 0) hr]; rfl
  have r5 : W2.cell? ⟨B, 5, none⟩ = some c5 := by rw [cell_of_row _ _ _ _ 62 (0, 0) hr]; rfl
  have hfr : ∀ o, W2.frozen? ⟨B, o, none⟩ = false := fun o => frozen_of_row W2 B o _ 62 hr
  have hr3 : ((W2.setCell ⟨B, 5, none⟩ (.int .i64 x2)).drew).heap[B]? = some (.cells #[c0, c1, c2, .bool false, .int .i64 x1, .int .i64 x2, c6, c7] 62 (0, 0)) := row_setCells B 62 [.int .i64 x2] 5 W2.drew _ hr (by show 5 + 1 ≤ 8; omega)
  have hO3 : Only (fun k => k = B) w ((W2.setCell ⟨B, 5, none⟩ (.int .i64 x2)).drew) := hO.drew.set _ _ (Or.inl rfl)
  have hsz2 : n0 < W2.heap.size := (Array.getElem?_eq_some_iff.1 hb).1
  have hb3 : ((W2.setCell ⟨B, 5, none⟩ (.int .i64 x2)).drew).heap[n0]? = some (.cells #[.int .i64 a, .int .i64 b, .int .i64 c, .int .i64 d, .int .i64 e, .int .i64 f, .int .i64 g, .int .i64 p, .int .i64 q] 25 (0, 0)) := ((((Only.refl (fun k => k = B) W2).drew).set ⟨B, 5, none⟩ (.int .i64 x2) (Or.inl rfl)).block n0 hsz2 (fun h => hne h.symm)).trans hb
  have HB := Lib.hid hO3; have HBX := Lib.hid hb3; have HROW := Lib.hid hr3
  clear hr hO hb hr3 hO3 hb3
  go_region_law (fail)
  all_goals
    obtain ⟨W3, hW3⟩ : ∃ W3, (W2.setCell ⟨B, 5, none⟩ (.int .i64 x2)).drew = W3 := ⟨_, rfl⟩
    have hr := HROW.out; have hO := HB.out; have hb := HBX.out
    rw [hW3] at hr hO hb ⊢
    clear q7 q8 r4 r5 hfr HB HBX HROW hW3
    have q7 : W3.cell? ⟨n0, 7, none⟩ = some (.int .i64 p) := by rw [cell_of_row _ _ _ _ 25 (0, 0) hb]; rfl
    have q8 : W3.cell? ⟨n0, 8, none⟩ = some (.int .i64 q) := by rw [cell_of_row _ _ _ _ 25 (0, 0) hb]; rfl
    have r6 : W3.cell? ⟨B, 6, none⟩ = some c6 := by rw [cell_of_row _ _ _ _ 62 (0, 0) hr]; rfl
    have r7 : W3.cell? ⟨B, 7, none⟩ = some c7 := by rw [cell_of_row _ _ _ _ 62 (0, 0) hr]; rfl
    have hfr : ∀ o, W3.frozen? ⟨B, o, none⟩ = false := fun o => frozen_of_row W3 B o _ 62 hr
    have hr4 : (W3.drew.setCell ⟨B, 6, none⟩ (.int .i64 q)).heap[B]? = some (.cells #[c0, c1, c2, .bool false, .int .i64 x1, .int .i64 x2, .int .i64 q, c7] 62 (0, 0)) := row_setCells B 62 [.int .i64 q] 6 W3.drew _ hr (by show 6 + 1 ≤ 8; omega)
    have hr5 : ((W3.drew.setCell ⟨B, 6, none⟩ (.int .i64 q)).setCell ⟨B, 7, none⟩ (.int .i64 x3)).heap[B]? = some (.cells #[c0, c1, c2, .bool false, .int .i64 x1, .int .i64 x2, .int .i64 q, .int .i64 x3] 62 (0, 0)) := row_setCells B 62 [.int .i64 x3] 7 _ _ hr4 (by show 7 + 1 ≤ 8; omega)
    have hO5 : Only (fun k => k = B) w ((W3.drew.setCell ⟨B, 6, none⟩ (.int .i64 q)).setCell ⟨B, 7, none⟩ (.int .i64 x3)) := (hO.drew.set _ _ (Or.inl rfl)).set _ _ (Or.inl rfl)
    have HB := Lib.hid hO5; have HROW := Lib.hid hr5
    clear hr hO hb hr4 hr5 hO5
    go_wp2_with fail
    go_region_law (fail)
    all_goals
      go_wp2
      go_end0
      exact ⟨rfl, HB.out, HROW.out⟩
theorem reckon_any (B : Nat) (c0 c1 c2 c3 c4 c5 c6 c7 : Value) (a b c d e f g p q : Int) (w : World) (hrow : w.heap[B]? = some (.cells #[c0, c1, c2, c3, c4, c5, c6, c7] 62 (0, 0))) :
    Calls Try.prog 36 #[.pointer (some ⟨B, 0, none⟩), .agg #[.int .i64 a, .int .i64 b, .int .i64 c, .int .i64 d, .int .i64 e, .int .i64 f, .int .i64 g, .int .i64 p, .int .i64 q]] w fun E w' => E = .returned (.tuple #[]) ∧ Only (fun k => k = B) w w' ∧ ∃ x1 x2 x3, (goodH a b c d e f g p q = true → x1 = c + 1 ∧ x2 = c + 1 + p ∧ x3 = 4 * p) ∧ w'.heap[B]? = some (.cells (PlanRow c0 c1 c2 (goodH a b c d e f g p q) x1 x2 q x3) 62 (0, 0)) := by
  by_cases hg : goodC a b c d e f g = true
  · obtain ⟨hb1, hb2, hb3, hb4⟩ := goodC_b hg
    by_cases k1 : 1 ≤ p
    · skip
      by_cases k2 : p ≤ 16
      · skip
        by_cases k3 : 1 ≤ q
        · skip
          by_cases k4 : q ≤ 16
          · skip
            by_cases k5 : 1 + p + q ≤ b - c
            · skip
              have hG : goodH a b c d e f g p q = true := by rw [goodH, hg]; simp; omega
              rw [hG]
              refine (reckon_last B c0 c1 c2 c3 c4 c5 c6 c7 a b c d e f g p q _ _ w hg k1 k2 k3 k4 rfl rfl hrow).mono ?_
              rintro E w1 ⟨h1, h2, h3⟩
              rw [decide_eq_true k5] at h3
              exact ⟨h1, h2, _, _, _, fun _ => ⟨rfl, IntWalk.i64_in _ (by omega), IntWalk.i64_in _ (by omega)⟩, h3⟩
            · skip
              have hG : goodH a b c d e f g p q = false := by rw [goodH, hg]; simp; omega
              rw [hG]
              refine (reckon_last B c0 c1 c2 c3 c4 c5 c6 c7 a b c d e f g p q _ _ w hg k1 k2 k3 k4 rfl rfl hrow).mono ?_
              rintro E w1 ⟨h1, h2, h3⟩
              rw [decide_eq_false k5] at h3
              exact ⟨h1, h2, _, _, _, fun h => (by cases h), h3⟩
          · skip
            have hG : goodH a b c d e f g p q = false := by rw [goodH, hg]; simp; omega
            rw [hG]
            refine (reckon_no4 B c0 c1 c2 c3 c4 c5 c6 c7 a b c d e f g p q _ _ w hg k1 k2 k3 k4 rfl rfl hrow).mono ?_
            rintro E w1 ⟨h1, h2, h3⟩
            exact ⟨h1, h2, _, _, _, fun h => (by cases h), h3⟩
        · skip
          have hG : goodH a b c d e f g p q = false := by rw [goodH, hg]; simp; omega
          rw [hG]
          refine (reckon_no3 B c0 c1 c2 c3 c4 c5 c6 c7 a b c d e f g p q _ _ w hg k1 k2 k3 rfl rfl hrow).mono ?_
          rintro E w1 ⟨h1, h2, h3⟩
          exact ⟨h1, h2, _, _, _, fun h => (by cases h), h3⟩
      · skip
        have hG : goodH a b c d e f g p q = false := by rw [goodH, hg]; simp; omega
        rw [hG]
        refine (reckon_no2 B c0 c1 c2 c3 c4 c5 c6 c7 a b c d e f g p q _ _ w hg k1 k2 rfl rfl hrow).mono ?_
        rintro E w1 ⟨h1, h2, h3⟩
        exact ⟨h1, h2, _, _, _, fun h => (by cases h), h3⟩
    · skip
      have hG : goodH a b c d e f g p q = false := by rw [goodH, hg]; simp; omega
      rw [hG]
      refine (reckon_no1 B c0 c1 c2 c3 c4 c5 c6 c7 a b c d e f g p q _ _ w hg k1 rfl rfl hrow).mono ?_
      rintro E w1 ⟨h1, h2, h3⟩
      exact ⟨h1, h2, _, _, _, fun h => (by cases h), h3⟩
  · have hg : goodC a b c d e f g = false := by simpa using hg
    have hG : goodH a b c d e f g p q = false := by rw [goodH, hg]; rfl
    rw [hG]
    refine (reckon_no0 B c0 c1 c2 c3 c4 c5 c6 c7 a b c d e f g p q _ _ _ w hg rfl rfl rfl hrow).mono ?_
    rintro E w1 ⟨h1, h2, h3⟩
    exact ⟨h1, h2, _, _, _, fun h => (by cases h), h3⟩
end Go.Proofs.Ytejeghfddnbhaaa
