/-
  The reference's Run.
-/
import Derived.Test.YtigbhlkafmpgmaaRat
namespace Go.Proofs.Ytigbhlkafmpgmaa
open Go.RowKit Go.Maps
attribute [local go_sem ↓] Go.wp_at_zero Go.wp_at_succ
set_option maxRecDepth 100000 in
set_option maxHeartbeats 8000000 in
theorem rrun_noform (va : Option Addr) (vc : Nat) (ab : Bool) (ops : List Op) (vm : Value) (room : Int) (w : World) (hr : Rds w 3 (.slice va ops.length vc) ops.length (encOs ops)) (hg : goodT ops = false) :
    Calls Try.prog 11 #[vm, .int .i64 room, .agg #[.slice va ops.length vc, .bool ab]] w fun e w' => e = .returned (.agg #[.slice none 0 0, .slice none 0 0, .int .i64 11]) ∧ Below w.heap.size w w' := by
  obtain ⟨n0, hn0⟩ : ∃ n0, w.heap.size = n0 := ⟨_, rfl⟩
  obtain ⟨W1, hW1⟩ : ∃ W1, w.alloc (.cells #[.slice va ops.length vc, .bool ab] 25) = W1 := ⟨_, rfl⟩
  obtain ⟨W2, hW2⟩ : ∃ W2, W1.alloc (.cells #[.slice none 0 0, .slice none 0 0, .int .i64 0] 33) = W2 := ⟨_, rfl⟩
  have e1 : W1.heap.size = n0 + 1 := by rw [← hW1, ← hn0]; simp
  have g1 : W1.heap[n0]? = some (.cells #[.slice va ops.length vc, .bool ab] 25 (0, 0)) := by rw [← hW1, ← hn0]; exact heap_alloc_new w _
  have b2 : Below W1.heap.size W1 W2 := by rw [← hW2]; exact Below.al (Below.refl _ _) _
  have g2 := below_row g1 b2
  have k2 : W2.heap[n0 + 1]? = some (.cells #[.slice none 0 0, .slice none 0 0, .int .i64 0] 33 (0, 0)) := by rw [← hW2, ← e1]; exact heap_alloc_new W1 _
  have hB2 : Below w.heap.size w W2 := Below.then (by rw [← hW1]; exact Below.al (Below.refl _ _) _) b2
  have hA : Rds W2 3 (.slice va ops.length vc) ops.length (encOs ops) := hr.below hB2
  have HA := Lib.hid hA; have HB2 := Lib.hid hB2; have G2 := Lib.hid g2; have K2 := Lib.hid k2
  have q0 : W2.cell? ⟨n0, 0, none⟩ = some (.slice va ops.length vc) := by rw [cell_of_row _ _ _ _ 25 (0, 0) g2]; rfl
  have q1 : W2.cell? ⟨n0, 1, none⟩ = some (.bool ab) := by rw [cell_of_row _ _ _ _ 25 (0, 0) g2]; rfl
  clear hr hA hB2 g1 g2 k2 b2
  go_enter Try.func11, Try.ntmps11
  go_wp2_with fail
  refine (rgood_any va vc ab ops _ HA.out).mono ?_
  rintro e w1 ⟨rfl, hb1⟩
  rw [hg]
  have HB := Lib.hid (Below.then HB2.out hb1)
  have hk := below_row K2.out hb1
  have hg1 := below_row G2.out hb1
  have HK := Lib.hid hk; have HG1 := Lib.hid hg1
  have d0 : w1.cell? ⟨n0 + 1, 0, none⟩ = some (.slice none 0 0) := by rw [cell_of_row _ _ _ _ 33 (0, 0) hk]; rfl
  have d1 : w1.cell? ⟨n0 + 1, 1, none⟩ = some (.slice none 0 0) := by rw [cell_of_row _ _ _ _ 33 (0, 0) hk]; rfl
  have d2 : w1.cell? ⟨n0 + 1, 2, none⟩ = some (.int .i64 0) := by rw [cell_of_row _ _ _ _ 33 (0, 0) hk]; rfl
  have f6 : ∀ o, w1.frozen? ⟨n0 + 1, o, none⟩ = false := fun o => frozen_of_row _ _ _ _ 33 hk
  clear hb1 hk hg1 G2 K2 HB2 q0 q1
  have r6 := row_setCells (n0 + 1) 33 [.slice none 0 0, .slice none 0 0, .int .i64 11] 0 _ _ HK.out (by show 0 + 3 ≤ 3; omega)
  have R6 := Lib.hid (show (((w1.setCell ⟨n0 + 1, 0, none⟩ (.slice none 0 0)).setCell ⟨n0 + 1, 1, none⟩ (.slice none 0 0)).setCell ⟨n0 + 1, 2, none⟩ (.int .i64 11)).heap[n0 + 1]? = some (.cells #[.slice none 0 0, .slice none 0 0, .int .i64 11] 33 (0, 0)) from r6)
  have hO : Only (fun k => k = n0 + 1) w1 (((w1.setCell ⟨n0 + 1, 0, none⟩ (.slice none 0 0)).setCell ⟨n0 + 1, 1, none⟩ (.slice none 0 0)).setCell ⟨n0 + 1, 2, none⟩ (.int .i64 11)) := Only.setCells (n0 + 1) [.slice none 0 0, .slice none 0 0, .int .i64 11] 0 w1
  have HOO := Lib.hid hO
  clear r6 hO
  go_wp2
  refine bodyPost_ret (v := .agg #[.slice none 0 0, .slice none 0 0, .int .i64 11]) (results_cell1 (fn := Try.f11) (p := 6) _ rfl _ (n0 + 1) [.slice none 0 0, .slice none 0 0, .int .i64 11] _ rfl (fun j u hj => by rw [cell_of_row _ _ _ _ 33 (0, 0) R6.out]; simpa using hj) Try.underlying33 rfl info33s) rfl ⟨rfl, ?_⟩
  exact HB.out.trans (HOO.out.below HB.out.size (fun k hk => by omega))
set_option maxRecDepth 100000 in
set_option maxHeartbeats 8000000 in
theorem rrun_low (va : Option Addr) (vc : Nat) (ab : Bool) (ops : List Op) (am : Option Addr) (n cm : Nat) (room : Int) (w : World) (hr : Rds w 3 (.slice va ops.length vc) ops.length (encOs ops)) (hg : goodT ops = true) (h0 : room < 0) :
    Calls Try.prog 11 #[.slice am n cm, .int .i64 room, .agg #[.slice va ops.length vc, .bool ab]] w fun e w' => e = .returned (.agg #[.slice none 0 0, .slice none 0 0, .int .i64 1]) ∧ Below w.heap.size w w' := by
  obtain ⟨n0, hn0⟩ : ∃ n0, w.heap.size = n0 := ⟨_, rfl⟩
  obtain ⟨W1, hW1⟩ : ∃ W1, w.alloc (.cells #[.slice va ops.length vc, .bool ab] 25) = W1 := ⟨_, rfl⟩
  obtain ⟨W2, hW2⟩ : ∃ W2, W1.alloc (.cells #[.slice none 0 0, .slice none 0 0, .int .i64 0] 33) = W2 := ⟨_, rfl⟩
  have e1 : W1.heap.size = n0 + 1 := by rw [← hW1, ← hn0]; simp
  have g1 : W1.heap[n0]? = some (.cells #[.slice va ops.length vc, .bool ab] 25 (0, 0)) := by rw [← hW1, ← hn0]; exact heap_alloc_new w _
  have b2 : Below W1.heap.size W1 W2 := by rw [← hW2]; exact Below.al (Below.refl _ _) _
  have g2 := below_row g1 b2
  have k2 : W2.heap[n0 + 1]? = some (.cells #[.slice none 0 0, .slice none 0 0, .int .i64 0] 33 (0, 0)) := by rw [← hW2, ← e1]; exact heap_alloc_new W1 _
  have hB2 : Below w.heap.size w W2 := Below.then (by rw [← hW1]; exact Below.al (Below.refl _ _) _) b2
  have hA : Rds W2 3 (.slice va ops.length vc) ops.length (encOs ops) := hr.below hB2
  have HA := Lib.hid hA; have HB2 := Lib.hid hB2; have G2 := Lib.hid g2; have K2 := Lib.hid k2
  have q0 : W2.cell? ⟨n0, 0, none⟩ = some (.slice va ops.length vc) := by rw [cell_of_row _ _ _ _ 25 (0, 0) g2]; rfl
  have q1 : W2.cell? ⟨n0, 1, none⟩ = some (.bool ab) := by rw [cell_of_row _ _ _ _ 25 (0, 0) g2]; rfl
  clear hr hA hB2 g1 g2 k2 b2
  go_enter Try.func11, Try.ntmps11
  go_wp2_with fail
  refine (rgood_any va vc ab ops _ HA.out).mono ?_
  rintro e w1 ⟨rfl, hb1⟩
  rw [hg]
  have HB := Lib.hid (Below.then HB2.out hb1)
  have hk := below_row K2.out hb1
  have hg1 := below_row G2.out hb1
  have HK := Lib.hid hk; have HG1 := Lib.hid hg1
  have d0 : w1.cell? ⟨n0 + 1, 0, none⟩ = some (.slice none 0 0) := by rw [cell_of_row _ _ _ _ 33 (0, 0) hk]; rfl
  have d1 : w1.cell? ⟨n0 + 1, 1, none⟩ = some (.slice none 0 0) := by rw [cell_of_row _ _ _ _ 33 (0, 0) hk]; rfl
  have d2 : w1.cell? ⟨n0 + 1, 2, none⟩ = some (.int .i64 0) := by rw [cell_of_row _ _ _ _ 33 (0, 0) hk]; rfl
  have f6 : ∀ o, w1.frozen? ⟨n0 + 1, o, none⟩ = false := fun o => frozen_of_row _ _ _ _ 33 hk
  clear hb1 hk hg1 G2 K2 HB2 q0 q1
  have r6 := row_setCells (n0 + 1) 33 [.slice none 0 0, .slice none 0 0, .int .i64 1] 0 _ _ HK.out (by show 0 + 3 ≤ 3; omega)
  have R6 := Lib.hid (show (((w1.setCell ⟨n0 + 1, 0, none⟩ (.slice none 0 0)).setCell ⟨n0 + 1, 1, none⟩ (.slice none 0 0)).setCell ⟨n0 + 1, 2, none⟩ (.int .i64 1)).heap[n0 + 1]? = some (.cells #[.slice none 0 0, .slice none 0 0, .int .i64 1] 33 (0, 0)) from r6)
  have hO : Only (fun k => k = n0 + 1) w1 (((w1.setCell ⟨n0 + 1, 0, none⟩ (.slice none 0 0)).setCell ⟨n0 + 1, 1, none⟩ (.slice none 0 0)).setCell ⟨n0 + 1, 2, none⟩ (.int .i64 1)) := Only.setCells (n0 + 1) [.slice none 0 0, .slice none 0 0, .int .i64 1] 0 w1
  have HOO := Lib.hid hO
  clear r6 hO
  go_wp2
  refine bodyPost_ret (v := .agg #[.slice none 0 0, .slice none 0 0, .int .i64 1]) (results_cell1 (fn := Try.f11) (p := 6) _ rfl _ (n0 + 1) [.slice none 0 0, .slice none 0 0, .int .i64 1] _ rfl (fun j u hj => by rw [cell_of_row _ _ _ _ 33 (0, 0) R6.out]; simpa using hj) Try.underlying33 rfl info33s) rfl ⟨rfl, ?_⟩
  exact HB.out.trans (HOO.out.below HB.out.size (fun k hk => by omega))
set_option maxRecDepth 100000 in
set_option maxHeartbeats 8000000 in
theorem rrun_high (va : Option Addr) (vc : Nat) (ab : Bool) (ops : List Op) (am : Option Addr) (n cm : Nat) (room : Int) (w : World) (hr : Rds w 3 (.slice va ops.length vc) ops.length (encOs ops)) (hg : goodT ops = true) (h0 : ¬ room < 0) (h1 : 1000 < room) :
    Calls Try.prog 11 #[.slice am n cm, .int .i64 room, .agg #[.slice va ops.length vc, .bool ab]] w fun e w' => e = .returned (.agg #[.slice none 0 0, .slice none 0 0, .int .i64 1]) ∧ Below w.heap.size w w' := by
  obtain ⟨n0, hn0⟩ : ∃ n0, w.heap.size = n0 := ⟨_, rfl⟩
  obtain ⟨W1, hW1⟩ : ∃ W1, w.alloc (.cells #[.slice va ops.length vc, .bool ab] 25) = W1 := ⟨_, rfl⟩
  obtain ⟨W2, hW2⟩ : ∃ W2, W1.alloc (.cells #[.slice none 0 0, .slice none 0 0, .int .i64 0] 33) = W2 := ⟨_, rfl⟩
  have e1 : W1.heap.size = n0 + 1 := by rw [← hW1, ← hn0]; simp
  have g1 : W1.heap[n0]? = some (.cells #[.slice va ops.length vc, .bool ab] 25 (0, 0)) := by rw [← hW1, ← hn0]; exact heap_alloc_new w _
  have b2 : Below W1.heap.size W1 W2 := by rw [← hW2]; exact Below.al (Below.refl _ _) _
  have g2 := below_row g1 b2
  have k2 : W2.heap[n0 + 1]? = some (.cells #[.slice none 0 0, .slice none 0 0, .int .i64 0] 33 (0, 0)) := by rw [← hW2, ← e1]; exact heap_alloc_new W1 _
  have hB2 : Below w.heap.size w W2 := Below.then (by rw [← hW1]; exact Below.al (Below.refl _ _) _) b2
  have hA : Rds W2 3 (.slice va ops.length vc) ops.length (encOs ops) := hr.below hB2
  have HA := Lib.hid hA; have HB2 := Lib.hid hB2; have G2 := Lib.hid g2; have K2 := Lib.hid k2
  have q0 : W2.cell? ⟨n0, 0, none⟩ = some (.slice va ops.length vc) := by rw [cell_of_row _ _ _ _ 25 (0, 0) g2]; rfl
  have q1 : W2.cell? ⟨n0, 1, none⟩ = some (.bool ab) := by rw [cell_of_row _ _ _ _ 25 (0, 0) g2]; rfl
  clear hr hA hB2 g1 g2 k2 b2
  go_enter Try.func11, Try.ntmps11
  go_wp2_with fail
  refine (rgood_any va vc ab ops _ HA.out).mono ?_
  rintro e w1 ⟨rfl, hb1⟩
  rw [hg]
  have HB := Lib.hid (Below.then HB2.out hb1)
  have hk := below_row K2.out hb1
  have hg1 := below_row G2.out hb1
  have HK := Lib.hid hk; have HG1 := Lib.hid hg1
  have d0 : w1.cell? ⟨n0 + 1, 0, none⟩ = some (.slice none 0 0) := by rw [cell_of_row _ _ _ _ 33 (0, 0) hk]; rfl
  have d1 : w1.cell? ⟨n0 + 1, 1, none⟩ = some (.slice none 0 0) := by rw [cell_of_row _ _ _ _ 33 (0, 0) hk]; rfl
  have d2 : w1.cell? ⟨n0 + 1, 2, none⟩ = some (.int .i64 0) := by rw [cell_of_row _ _ _ _ 33 (0, 0) hk]; rfl
  have f6 : ∀ o, w1.frozen? ⟨n0 + 1, o, none⟩ = false := fun o => frozen_of_row _ _ _ _ 33 hk
  clear hb1 hk hg1 G2 K2 HB2 q0 q1
  have r6 := row_setCells (n0 + 1) 33 [.slice none 0 0, .slice none 0 0, .int .i64 1] 0 _ _ HK.out (by show 0 + 3 ≤ 3; omega)
  have R6 := Lib.hid (show (((w1.setCell ⟨n0 + 1, 0, none⟩ (.slice none 0 0)).setCell ⟨n0 + 1, 1, none⟩ (.slice none 0 0)).setCell ⟨n0 + 1, 2, none⟩ (.int .i64 1)).heap[n0 + 1]? = some (.cells #[.slice none 0 0, .slice none 0 0, .int .i64 1] 33 (0, 0)) from r6)
  have hO : Only (fun k => k = n0 + 1) w1 (((w1.setCell ⟨n0 + 1, 0, none⟩ (.slice none 0 0)).setCell ⟨n0 + 1, 1, none⟩ (.slice none 0 0)).setCell ⟨n0 + 1, 2, none⟩ (.int .i64 1)) := Only.setCells (n0 + 1) [.slice none 0 0, .slice none 0 0, .int .i64 1] 0 w1
  have HOO := Lib.hid hO
  clear r6 hO
  go_wp2
  refine bodyPost_ret (v := .agg #[.slice none 0 0, .slice none 0 0, .int .i64 1]) (results_cell1 (fn := Try.f11) (p := 6) _ rfl _ (n0 + 1) [.slice none 0 0, .slice none 0 0, .int .i64 1] _ rfl (fun j u hj => by rw [cell_of_row _ _ _ _ 33 (0, 0) R6.out]; simpa using hj) Try.underlying33 rfl info33s) rfl ⟨rfl, ?_⟩
  exact HB.out.trans (HOO.out.below HB.out.size (fun k hk => by omega))
set_option maxRecDepth 100000 in
set_option maxHeartbeats 8000000 in
theorem rrun_many (va : Option Addr) (vc : Nat) (ab : Bool) (ops : List Op) (am : Option Addr) (n cm : Nat) (room : Int) (w : World) (hr : Rds w 3 (.slice va ops.length vc) ops.length (encOs ops)) (hg : goodT ops = true) (h0 : ¬ room < 0) (h1 : ¬ 1000 < room) (h2 : 1000 < n) :
    Calls Try.prog 11 #[.slice am n cm, .int .i64 room, .agg #[.slice va ops.length vc, .bool ab]] w fun e w' => e = .returned (.agg #[.slice none 0 0, .slice none 0 0, .int .i64 1]) ∧ Below w.heap.size w w' := by
  obtain ⟨n0, hn0⟩ : ∃ n0, w.heap.size = n0 := ⟨_, rfl⟩
  obtain ⟨W1, hW1⟩ : ∃ W1, w.alloc (.cells #[.slice va ops.length vc, .bool ab] 25) = W1 := ⟨_, rfl⟩
  obtain ⟨W2, hW2⟩ : ∃ W2, W1.alloc (.cells #[.slice none 0 0, .slice none 0 0, .int .i64 0] 33) = W2 := ⟨_, rfl⟩
  have e1 : W1.heap.size = n0 + 1 := by rw [← hW1, ← hn0]; simp
  have g1 : W1.heap[n0]? = some (.cells #[.slice va ops.length vc, .bool ab] 25 (0, 0)) := by rw [← hW1, ← hn0]; exact heap_alloc_new w _
  have b2 : Below W1.heap.size W1 W2 := by rw [← hW2]; exact Below.al (Below.refl _ _) _
  have g2 := below_row g1 b2
  have k2 : W2.heap[n0 + 1]? = some (.cells #[.slice none 0 0, .slice none 0 0, .int .i64 0] 33 (0, 0)) := by rw [← hW2, ← e1]; exact heap_alloc_new W1 _
  have hB2 : Below w.heap.size w W2 := Below.then (by rw [← hW1]; exact Below.al (Below.refl _ _) _) b2
  have hA : Rds W2 3 (.slice va ops.length vc) ops.length (encOs ops) := hr.below hB2
  have HA := Lib.hid hA; have HB2 := Lib.hid hB2; have G2 := Lib.hid g2; have K2 := Lib.hid k2
  have q0 : W2.cell? ⟨n0, 0, none⟩ = some (.slice va ops.length vc) := by rw [cell_of_row _ _ _ _ 25 (0, 0) g2]; rfl
  have q1 : W2.cell? ⟨n0, 1, none⟩ = some (.bool ab) := by rw [cell_of_row _ _ _ _ 25 (0, 0) g2]; rfl
  clear hr hA hB2 g1 g2 k2 b2
  go_enter Try.func11, Try.ntmps11
  go_wp2_with fail
  refine (rgood_any va vc ab ops _ HA.out).mono ?_
  rintro e w1 ⟨rfl, hb1⟩
  rw [hg]
  have HB := Lib.hid (Below.then HB2.out hb1)
  have hk := below_row K2.out hb1
  have hg1 := below_row G2.out hb1
  have HK := Lib.hid hk; have HG1 := Lib.hid hg1
  have d0 : w1.cell? ⟨n0 + 1, 0, none⟩ = some (.slice none 0 0) := by rw [cell_of_row _ _ _ _ 33 (0, 0) hk]; rfl
  have d1 : w1.cell? ⟨n0 + 1, 1, none⟩ = some (.slice none 0 0) := by rw [cell_of_row _ _ _ _ 33 (0, 0) hk]; rfl
  have d2 : w1.cell? ⟨n0 + 1, 2, none⟩ = some (.int .i64 0) := by rw [cell_of_row _ _ _ _ 33 (0, 0) hk]; rfl
  have f6 : ∀ o, w1.frozen? ⟨n0 + 1, o, none⟩ = false := fun o => frozen_of_row _ _ _ _ 33 hk
  clear hb1 hk hg1 G2 K2 HB2 q0 q1
  have r6 := row_setCells (n0 + 1) 33 [.slice none 0 0, .slice none 0 0, .int .i64 1] 0 _ _ HK.out (by show 0 + 3 ≤ 3; omega)
  have R6 := Lib.hid (show (((w1.setCell ⟨n0 + 1, 0, none⟩ (.slice none 0 0)).setCell ⟨n0 + 1, 1, none⟩ (.slice none 0 0)).setCell ⟨n0 + 1, 2, none⟩ (.int .i64 1)).heap[n0 + 1]? = some (.cells #[.slice none 0 0, .slice none 0 0, .int .i64 1] 33 (0, 0)) from r6)
  have hO : Only (fun k => k = n0 + 1) w1 (((w1.setCell ⟨n0 + 1, 0, none⟩ (.slice none 0 0)).setCell ⟨n0 + 1, 1, none⟩ (.slice none 0 0)).setCell ⟨n0 + 1, 2, none⟩ (.int .i64 1)) := Only.setCells (n0 + 1) [.slice none 0 0, .slice none 0 0, .int .i64 1] 0 w1
  have HOO := Lib.hid hO
  clear r6 hO
  go_wp2
  refine bodyPost_ret (v := .agg #[.slice none 0 0, .slice none 0 0, .int .i64 1]) (results_cell1 (fn := Try.f11) (p := 6) _ rfl _ (n0 + 1) [.slice none 0 0, .slice none 0 0, .int .i64 1] _ rfl (fun j u hj => by rw [cell_of_row _ _ _ _ 33 (0, 0) R6.out]; simpa using hj) Try.underlying33 rfl info33s) rfl ⟨rfl, ?_⟩
  exact HB.out.trans (HOO.out.below HB.out.size (fun k hk => by omega))
end Go.Proofs.Ytigbhlkafmpgmaa
