/-
  The table of how many bits are set in each number of four.
-/
import Derived.Test.YtmjienajfjjdhaaKitO
import Derived.Test.YtmjienajfjjdhaaKitD
import Derived.Test.YtmjienajfjjdhaaKitB
import Derived.Deep.RegionLaw
namespace Go.Proofs.Ytmjienajfjjdhaa
open Go.RowKit
attribute [local go_sem ↓] Go.wp_at_zero Go.wp_at_succ

def pcT : List Int := [0, 1, 1, 2, 1, 2, 2, 3, 1, 2, 2, 3, 2, 3, 3, 4]
def rowF (c0 c1 c2 : Value) (j : Nat) : Array Value := (c0 :: c1 :: c2 :: ((pcT.take j).map (fun x => .int .i64 x) ++ List.replicate (16 - j) (.int .i64 0))).toArray
set_option maxRecDepth 100000 in
set_option maxHeartbeats 4000000 in
theorem fill_any (b : Nat) (c0 c1 c2 : Value) (w : World) (hrow : w.heap[b]? = some (.cells (rowF c0 c1 c2 0) 47 (0, 0))) :
    Calls Try.prog 21 #[.pointer (some ⟨b, 0, none⟩)] w fun e w' => e = .returned (.tuple #[]) ∧ Only (fun k => k = b) w w' ∧ w'.heap[b]? = some (.cells (rowF c0 c1 c2 16) 47 (0, 0)) := by
  have HW := Lib.hid hrow
  clear hrow
  go_enter Try.func21, Try.ntmps21
  go_wp2_with fail
  go_loopw [3] (fun i w' => ∃ j : Nat, j ≤ 16 ∧ i = .int .i64 j ∧ w'.heap[b]? = some (.cells (rowF c0 c1 c2 j) 47 (0, 0)) ∧ Only (fun k => k = b) w w') (fun i _ => 16 - (intOf i).toNat)
  case atStart => exact ⟨0, by omega, rfl, HW.out, Only.refl _ _⟩
  case round =>
  obtain ⟨j, hj, rfl, hrow, hO⟩ := hrel
  have hfr : ∀ o, wr.frozen? ⟨b, o, none⟩ = false := fun o => frozen_of_row wr b o _ 47 hrow
  have hcs : j = 0 ∨ j = 1 ∨ j = 2 ∨ j = 3 ∨ j = 4 ∨ j = 5 ∨ j = 6 ∨ j = 7 ∨ j = 8 ∨ j = 9 ∨ j = 10 ∨ j = 11 ∨ j = 12 ∨ j = 13 ∨ j = 14 ∨ j = 15 ∨ j = 16 := by omega
  rcases hcs with rfl | rfl | rfl | rfl | rfl | rfl | rfl | rfl | rfl | rfl | rfl | rfl | rfl | rfl | rfl | rfl | rfl
  · have q0 : wr.cell? ⟨b, 3 + 0, none⟩ = some (.int .i64 0) := by rw [cell_of_row _ _ _ _ 47 (0, 0) hrow]; rfl
    have hr1 : (wr.drew.setCell ⟨b, 3 + 0, none⟩ (.int .i64 0)).heap[b]? = some (.cells (rowF c0 c1 c2 1) 47 (0, 0)) := row_setCells b 47 [.int .i64 0] (3 + 0) wr.drew _ hrow (by show 3 + 0 + 1 ≤ 19; omega)
    have hO1 : Only (fun k => k = b) w (wr.drew.setCell ⟨b, 3 + 0, none⟩ (.int .i64 0)) := hO.drew.set _ _ (Or.inl rfl)
    have HR1 := Lib.hid hr1; have HO1 := Lib.hid hO1
    clear hr1 hO1 hO hrow
    have hw0 : IntKind.i64.wrap 0 = 0 := by decide
    go_wp2_with fail
    go_region_law (fail)
    all_goals
      go_wp2
      go_roundw
      case rel => exact ⟨1, by omega, by first | rfl | go_num, HR1.out, HO1.out⟩
      case measure => simp [intOf]
  · have q0 : wr.cell? ⟨b, 3 + 0, none⟩ = some (.int .i64 0) := by rw [cell_of_row _ _ _ _ 47 (0, 0) hrow]; rfl
    have q1 : wr.cell? ⟨b, 3 + 1, none⟩ = some (.int .i64 0) := by rw [cell_of_row _ _ _ _ 47 (0, 0) hrow]; rfl
    have hr1 : (wr.drew.setCell ⟨b, 3 + 1, none⟩ (.int .i64 1)).heap[b]? = some (.cells (rowF c0 c1 c2 2) 47 (0, 0)) := row_setCells b 47 [.int .i64 1] (3 + 1) wr.drew _ hrow (by show 3 + 1 + 1 ≤ 19; omega)
    have hO1 : Only (fun k => k = b) w (wr.drew.setCell ⟨b, 3 + 1, none⟩ (.int .i64 1)) := hO.drew.set _ _ (Or.inl rfl)
    have HR1 := Lib.hid hr1; have HO1 := Lib.hid hO1
    clear hr1 hO1 hO hrow
    have hw0 : IntKind.i64.wrap 0 = 0 := by decide
    have hw1 : IntKind.i64.wrap 1 = 1 := by decide
    go_wp2_with fail
    go_region_law (fail)
    all_goals
      go_wp2
      go_roundw
      case rel => exact ⟨2, by omega, by first | rfl | go_num, HR1.out, HO1.out⟩
      case measure => simp [intOf]
  · have q0 : wr.cell? ⟨b, 3 + 1, none⟩ = some (.int .i64 1) := by rw [cell_of_row _ _ _ _ 47 (0, 0) hrow]; rfl
    have q1 : wr.cell? ⟨b, 3 + 2, none⟩ = some (.int .i64 0) := by rw [cell_of_row _ _ _ _ 47 (0, 0) hrow]; rfl
    have hr1 : (wr.drew.setCell ⟨b, 3 + 2, none⟩ (.int .i64 1)).heap[b]? = some (.cells (rowF c0 c1 c2 3) 47 (0, 0)) := row_setCells b 47 [.int .i64 1] (3 + 2) wr.drew _ hrow (by show 3 + 2 + 1 ≤ 19; omega)
    have hO1 : Only (fun k => k = b) w (wr.drew.setCell ⟨b, 3 + 2, none⟩ (.int .i64 1)) := hO.drew.set _ _ (Or.inl rfl)
    have HR1 := Lib.hid hr1; have HO1 := Lib.hid hO1
    clear hr1 hO1 hO hrow
    have hw0 : IntKind.i64.wrap 0 = 0 := by decide
    have hw1 : IntKind.i64.wrap 1 = 1 := by decide
    have hw2 : IntKind.i64.wrap 2 = 2 := by decide
    go_wp2_with fail
    go_region_law (fail)
    all_goals
      go_wp2
      go_roundw
      case rel => exact ⟨3, by omega, by first | rfl | go_num, HR1.out, HO1.out⟩
      case measure => simp [intOf]
  · have q0 : wr.cell? ⟨b, 3 + 1, none⟩ = some (.int .i64 1) := by rw [cell_of_row _ _ _ _ 47 (0, 0) hrow]; rfl
    have q1 : wr.cell? ⟨b, 3 + 3, none⟩ = some (.int .i64 0) := by rw [cell_of_row _ _ _ _ 47 (0, 0) hrow]; rfl
    have hr1 : (wr.drew.setCell ⟨b, 3 + 3, none⟩ (.int .i64 2)).heap[b]? = some (.cells (rowF c0 c1 c2 4) 47 (0, 0)) := row_setCells b 47 [.int .i64 2] (3 + 3) wr.drew _ hrow (by show 3 + 3 + 1 ≤ 19; omega)
    have hO1 : Only (fun k => k = b) w (wr.drew.setCell ⟨b, 3 + 3, none⟩ (.int .i64 2)) := hO.drew.set _ _ (Or.inl rfl)
    have HR1 := Lib.hid hr1; have HO1 := Lib.hid hO1
    clear hr1 hO1 hO hrow
    have hw1 : IntKind.i64.wrap 1 = 1 := by decide
    have hw2 : IntKind.i64.wrap 2 = 2 := by decide
    have hw3 : IntKind.i64.wrap 3 = 3 := by decide
    go_wp2_with fail
    go_region_law (fail)
    all_goals
      go_wp2
      go_roundw
      case rel => exact ⟨4, by omega, by first | rfl | go_num, HR1.out, HO1.out⟩
      case measure => simp [intOf]
  · have q0 : wr.cell? ⟨b, 3 + 2, none⟩ = some (.int .i64 1) := by rw [cell_of_row _ _ _ _ 47 (0, 0) hrow]; rfl
    have q1 : wr.cell? ⟨b, 3 + 4, none⟩ = some (.int .i64 0) := by rw [cell_of_row _ _ _ _ 47 (0, 0) hrow]; rfl
    have hr1 : (wr.drew.setCell ⟨b, 3 + 4, none⟩ (.int .i64 1)).heap[b]? = some (.cells (rowF c0 c1 c2 5) 47 (0, 0)) := row_setCells b 47 [.int .i64 1] (3 + 4) wr.drew _ hrow (by show 3 + 4 + 1 ≤ 19; omega)
    have hO1 : Only (fun k => k = b) w (wr.drew.setCell ⟨b, 3 + 4, none⟩ (.int .i64 1)) := hO.drew.set _ _ (Or.inl rfl)
    have HR1 := Lib.hid hr1; have HO1 := Lib.hid hO1
    clear hr1 hO1 hO hrow
    have hw0 : IntKind.i64.wrap 0 = 0 := by decide
    have hw1 : IntKind.i64.wrap 1 = 1 := by decide
    have hw2 : IntKind.i64.wrap 2 = 2 := by decide
    have hw4 : IntKind.i64.wrap 4 = 4 := by decide
    go_wp2_with fail
    go_region_law (fail)
    all_goals
      go_wp2
      go_roundw
      case rel => exact ⟨5, by omega, by first | rfl | go_num, HR1.out, HO1.out⟩
      case measure => simp [intOf]
  · have q0 : wr.cell? ⟨b, 3 + 2, none⟩ = some (.int .i64 1) := by rw [cell_of_row _ _ _ _ 47 (0, 0) hrow]; rfl
    have q1 : wr.cell? ⟨b, 3 + 5, none⟩ = some (.int .i64 0) := by rw [cell_of_row _ _ _ _ 47 (0, 0) hrow]; rfl
    have hr1 : (wr.drew.setCell ⟨b, 3 + 5, none⟩ (.int .i64 2)).heap[b]? = some (.cells (rowF c0 c1 c2 6) 47 (0, 0)) := row_setCells b 47 [.int .i64 2] (3 + 5) wr.drew _ hrow (by show 3 + 5 + 1 ≤ 19; omega)
    have hO1 : Only (fun k => k = b) w (wr.drew.setCell ⟨b, 3 + 5, none⟩ (.int .i64 2)) := hO.drew.set _ _ (Or.inl rfl)
    have HR1 := Lib.hid hr1; have HO1 := Lib.hid hO1
    clear hr1 hO1 hO hrow
    have hw1 : IntKind.i64.wrap 1 = 1 := by decide
    have hw2 : IntKind.i64.wrap 2 = 2 := by decide
    have hw5 : IntKind.i64.wrap 5 = 5 := by decide
    go_wp2_with fail
    go_region_law (fail)
    all_goals
      go_wp2
      go_roundw
      case rel => exact ⟨6, by omega, by first | rfl | go_num, HR1.out, HO1.out⟩
      case measure => simp [intOf]
  · have q0 : wr.cell? ⟨b, 3 + 3, none⟩ = some (.int .i64 2) := by rw [cell_of_row _ _ _ _ 47 (0, 0) hrow]; rfl
    have q1 : wr.cell? ⟨b, 3 + 6, none⟩ = some (.int .i64 0) := by rw [cell_of_row _ _ _ _ 47 (0, 0) hrow]; rfl
    have hr1 : (wr.drew.setCell ⟨b, 3 + 6, none⟩ (.int .i64 2)).heap[b]? = some (.cells (rowF c0 c1 c2 7) 47 (0, 0)) := row_setCells b 47 [.int .i64 2] (3 + 6) wr.drew _ hrow (by show 3 + 6 + 1 ≤ 19; omega)
    have hO1 : Only (fun k => k = b) w (wr.drew.setCell ⟨b, 3 + 6, none⟩ (.int .i64 2)) := hO.drew.set _ _ (Or.inl rfl)
    have HR1 := Lib.hid hr1; have HO1 := Lib.hid hO1
    clear hr1 hO1 hO hrow
    have hw0 : IntKind.i64.wrap 0 = 0 := by decide
    have hw2 : IntKind.i64.wrap 2 = 2 := by decide
    have hw3 : IntKind.i64.wrap 3 = 3 := by decide
    have hw6 : IntKind.i64.wrap 6 = 6 := by decide
    go_wp2_with fail
    go_region_law (fail)
    all_goals
      go_wp2
      go_roundw
      case rel => exact ⟨7, by omega, by first | rfl | go_num, HR1.out, HO1.out⟩
      case measure => simp [intOf]
  · have q0 : wr.cell? ⟨b, 3 + 3, none⟩ = some (.int .i64 2) := by rw [cell_of_row _ _ _ _ 47 (0, 0) hrow]; rfl
    have q1 : wr.cell? ⟨b, 3 + 7, none⟩ = some (.int .i64 0) := by rw [cell_of_row _ _ _ _ 47 (0, 0) hrow]; rfl
    have hr1 : (wr.drew.setCell ⟨b, 3 + 7, none⟩ (.int .i64 3)).heap[b]? = some (.cells (rowF c0 c1 c2 8) 47 (0, 0)) := row_setCells b 47 [.int .i64 3] (3 + 7) wr.drew _ hrow (by show 3 + 7 + 1 ≤ 19; omega)
    have hO1 : Only (fun k => k = b) w (wr.drew.setCell ⟨b, 3 + 7, none⟩ (.int .i64 3)) := hO.drew.set _ _ (Or.inl rfl)
    have HR1 := Lib.hid hr1; have HO1 := Lib.hid hO1
    clear hr1 hO1 hO hrow
    have hw1 : IntKind.i64.wrap 1 = 1 := by decide
    have hw2 : IntKind.i64.wrap 2 = 2 := by decide
    have hw3 : IntKind.i64.wrap 3 = 3 := by decide
    have hw7 : IntKind.i64.wrap 7 = 7 := by decide
    go_wp2_with fail
    go_region_law (fail)
    all_goals
      go_wp2
      go_roundw
      case rel => exact ⟨8, by omega, by first | rfl | go_num, HR1.out, HO1.out⟩
      case measure => simp [intOf]
  · have q0 : wr.cell? ⟨b, 3 + 4, none⟩ = some (.int .i64 1) := by rw [cell_of_row _ _ _ _ 47 (0, 0) hrow]; rfl
    have q1 : wr.cell? ⟨b, 3 + 8, none⟩ = some (.int .i64 0) := by rw [cell_of_row _ _ _ _ 47 (0, 0) hrow]; rfl
    have hr1 : (wr.drew.setCell ⟨b, 3 + 8, none⟩ (.int .i64 1)).heap[b]? = some (.cells (rowF c0 c1 c2 9) 47 (0, 0)) := row_setCells b 47 [.int .i64 1] (3 + 8) wr.drew _ hrow (by show 3 + 8 + 1 ≤ 19; omega)
    have hO1 : Only (fun k => k = b) w (wr.drew.setCell ⟨b, 3 + 8, none⟩ (.int .i64 1)) := hO.drew.set _ _ (Or.inl rfl)
    have HR1 := Lib.hid hr1; have HO1 := Lib.hid hO1
    clear hr1 hO1 hO hrow
    have hw0 : IntKind.i64.wrap 0 = 0 := by decide
    have hw1 : IntKind.i64.wrap 1 = 1 := by decide
    have hw4 : IntKind.i64.wrap 4 = 4 := by decide
    have hw8 : IntKind.i64.wrap 8 = 8 := by decide
    go_wp2_with fail
    go_region_law (fail)
    all_goals
      go_wp2
      go_roundw
      case rel => exact ⟨9, by omega, by first | rfl | go_num, HR1.out, HO1.out⟩
      case measure => simp [intOf]
  · have q0 : wr.cell? ⟨b, 3 + 4, none⟩ = some (.int .i64 1) := by rw [cell_of_row _ _ _ _ 47 (0, 0) hrow]; rfl
    have q1 : wr.cell? ⟨b, 3 + 9, none⟩ = some (.int .i64 0) := by rw [cell_of_row _ _ _ _ 47 (0, 0) hrow]; rfl
    have hr1 : (wr.drew.setCell ⟨b, 3 + 9, none⟩ (.int .i64 2)).heap[b]? = some (.cells (rowF c0 c1 c2 10) 47 (0, 0)) := row_setCells b 47 [.int .i64 2] (3 + 9) wr.drew _ hrow (by show 3 + 9 + 1 ≤ 19; omega)
    have hO1 : Only (fun k => k = b) w (wr.drew.setCell ⟨b, 3 + 9, none⟩ (.int .i64 2)) := hO.drew.set _ _ (Or.inl rfl)
    have HR1 := Lib.hid hr1; have HO1 := Lib.hid hO1
    clear hr1 hO1 hO hrow
    have hw1 : IntKind.i64.wrap 1 = 1 := by decide
    have hw2 : IntKind.i64.wrap 2 = 2 := by decide
    have hw4 : IntKind.i64.wrap 4 = 4 := by decide
    have hw9 : IntKind.i64.wrap 9 = 9 := by decide
    go_wp2_with fail
    go_region_law (fail)
    all_goals
      go_wp2
      go_roundw
      case rel => exact ⟨10, by omega, by first | rfl | go_num, HR1.out, HO1.out⟩
      case measure => simp [intOf]
  · have q0 : wr.cell? ⟨b, 3 + 5, none⟩ = some (.int .i64 2) := by rw [cell_of_row _ _ _ _ 47 (0, 0) hrow]; rfl
    have q1 : wr.cell? ⟨b, 3 + 10, none⟩ = some (.int .i64 0) := by rw [cell_of_row _ _ _ _ 47 (0, 0) hrow]; rfl
    have hr1 : (wr.drew.setCell ⟨b, 3 + 10, none⟩ (.int .i64 2)).heap[b]? = some (.cells (rowF c0 c1 c2 11) 47 (0, 0)) := row_setCells b 47 [.int .i64 2] (3 + 10) wr.drew _ hrow (by show 3 + 10 + 1 ≤ 19; omega)
    have hO1 : Only (fun k => k = b) w (wr.drew.setCell ⟨b, 3 + 10, none⟩ (.int .i64 2)) := hO.drew.set _ _ (Or.inl rfl)
    have HR1 := Lib.hid hr1; have HO1 := Lib.hid hO1
    clear hr1 hO1 hO hrow
    have hw0 : IntKind.i64.wrap 0 = 0 := by decide
    have hw2 : IntKind.i64.wrap 2 = 2 := by decide
    have hw5 : IntKind.i64.wrap 5 = 5 := by decide
    have hw10 : IntKind.i64.wrap 10 = 10 := by decide
    go_wp2_with fail
    go_region_law (fail)
    all_goals
      go_wp2
      go_roundw
      case rel => exact ⟨11, by omega, by first | rfl | go_num, HR1.out, HO1.out⟩
      case measure => simp [intOf]
  · have q0 : wr.cell? ⟨b, 3 + 5, none⟩ = some (.int .i64 2) := by rw [cell_of_row _ _ _ _ 47 (0, 0) hrow]; rfl
    have q1 : wr.cell? ⟨b, 3 + 11, none⟩ = some (.int .i64 0) := by rw [cell_of_row _ _ _ _ 47 (0, 0) hrow]; rfl
    have hr1 : (wr.drew.setCell ⟨b, 3 + 11, none⟩ (.int .i64 3)).heap[b]? = some (.cells (rowF c0 c1 c2 12) 47 (0, 0)) := row_setCells b 47 [.int .i64 3] (3 + 11) wr.drew _ hrow (by show 3 + 11 + 1 ≤ 19; omega)
    have hO1 : Only (fun k => k = b) w (wr.drew.setCell ⟨b, 3 + 11, none⟩ (.int .i64 3)) := hO.drew.set _ _ (Or.inl rfl)
    have HR1 := Lib.hid hr1; have HO1 := Lib.hid hO1
    clear hr1 hO1 hO hrow
    have hw1 : IntKind.i64.wrap 1 = 1 := by decide
    have hw2 : IntKind.i64.wrap 2 = 2 := by decide
    have hw3 : IntKind.i64.wrap 3 = 3 := by decide
    have hw5 : IntKind.i64.wrap 5 = 5 := by decide
    have hw11 : IntKind.i64.wrap 11 = 11 := by decide
    go_wp2_with fail
    go_region_law (fail)
    all_goals
      go_wp2
      go_roundw
      case rel => exact ⟨12, by omega, by first | rfl | go_num, HR1.out, HO1.out⟩
      case measure => simp [intOf]
  · have q0 : wr.cell? ⟨b, 3 + 6, none⟩ = some (.int .i64 2) := by rw [cell_of_row _ _ _ _ 47 (0, 0) hrow]; rfl
    have q1 : wr.cell? ⟨b, 3 + 12, none⟩ = some (.int .i64 0) := by rw [cell_of_row _ _ _ _ 47 (0, 0) hrow]; rfl
    have hr1 : (wr.drew.setCell ⟨b, 3 + 12, none⟩ (.int .i64 2)).heap[b]? = some (.cells (rowF c0 c1 c2 13) 47 (0, 0)) := row_setCells b 47 [.int .i64 2] (3 + 12) wr.drew _ hrow (by show 3 + 12 + 1 ≤ 19; omega)
    have hO1 : Only (fun k => k = b) w (wr.drew.setCell ⟨b, 3 + 12, none⟩ (.int .i64 2)) := hO.drew.set _ _ (Or.inl rfl)
    have HR1 := Lib.hid hr1; have HO1 := Lib.hid hO1
    clear hr1 hO1 hO hrow
    have hw0 : IntKind.i64.wrap 0 = 0 := by decide
    have hw2 : IntKind.i64.wrap 2 = 2 := by decide
    have hw6 : IntKind.i64.wrap 6 = 6 := by decide
    have hw12 : IntKind.i64.wrap 12 = 12 := by decide
    go_wp2_with fail
    go_region_law (fail)
    all_goals
      go_wp2
      go_roundw
      case rel => exact ⟨13, by omega, by first | rfl | go_num, HR1.out, HO1.out⟩
      case measure => simp [intOf]
  · have q0 : wr.cell? ⟨b, 3 + 6, none⟩ = some (.int .i64 2) := by rw [cell_of_row _ _ _ _ 47 (0, 0) hrow]; rfl
    have q1 : wr.cell? ⟨b, 3 + 13, none⟩ = some (.int .i64 0) := by rw [cell_of_row _ _ _ _ 47 (0, 0) hrow]; rfl
    have hr1 : (wr.drew.setCell ⟨b, 3 + 13, none⟩ (.int .i64 3)).heap[b]? = some (.cells (rowF c0 c1 c2 14) 47 (0, 0)) := row_setCells b 47 [.int .i64 3] (3 + 13) wr.drew _ hrow (by show 3 + 13 + 1 ≤ 19; omega)
    have hO1 : Only (fun k => k = b) w (wr.drew.setCell ⟨b, 3 + 13, none⟩ (.int .i64 3)) := hO.drew.set _ _ (Or.inl rfl)
    have HR1 := Lib.hid hr1; have HO1 := Lib.hid hO1
    clear hr1 hO1 hO hrow
    have hw1 : IntKind.i64.wrap 1 = 1 := by decide
    have hw2 : IntKind.i64.wrap 2 = 2 := by decide
    have hw3 : IntKind.i64.wrap 3 = 3 := by decide
    have hw6 : IntKind.i64.wrap 6 = 6 := by decide
    have hw13 : IntKind.i64.wrap 13 = 13 := by decide
    go_wp2_with fail
    go_region_law (fail)
    all_goals
      go_wp2
      go_roundw
      case rel => exact ⟨14, by omega, by first | rfl | go_num, HR1.out, HO1.out⟩
      case measure => simp [intOf]
  · have q0 : wr.cell? ⟨b, 3 + 7, none⟩ = some (.int .i64 3) := by rw [cell_of_row _ _ _ _ 47 (0, 0) hrow]; rfl
    have q1 : wr.cell? ⟨b, 3 + 14, none⟩ = some (.int .i64 0) := by rw [cell_of_row _ _ _ _ 47 (0, 0) hrow]; rfl
    have hr1 : (wr.drew.setCell ⟨b, 3 + 14, none⟩ (.int .i64 3)).heap[b]? = some (.cells (rowF c0 c1 c2 15) 47 (0, 0)) := row_setCells b 47 [.int .i64 3] (3 + 14) wr.drew _ hrow (by show 3 + 14 + 1 ≤ 19; omega)
    have hO1 : Only (fun k => k = b) w (wr.drew.setCell ⟨b, 3 + 14, none⟩ (.int .i64 3)) := hO.drew.set _ _ (Or.inl rfl)
    have HR1 := Lib.hid hr1; have HO1 := Lib.hid hO1
    clear hr1 hO1 hO hrow
    have hw0 : IntKind.i64.wrap 0 = 0 := by decide
    have hw3 : IntKind.i64.wrap 3 = 3 := by decide
    have hw7 : IntKind.i64.wrap 7 = 7 := by decide
    have hw14 : IntKind.i64.wrap 14 = 14 := by decide
    go_wp2_with fail
    go_region_law (fail)
    all_goals
      go_wp2
      go_roundw
      case rel => exact ⟨15, by omega, by first | rfl | go_num, HR1.out, HO1.out⟩
      case measure => simp [intOf]
  · have q0 : wr.cell? ⟨b, 3 + 7, none⟩ = some (.int .i64 3) := by rw [cell_of_row _ _ _ _ 47 (0, 0) hrow]; rfl
    have q1 : wr.cell? ⟨b, 3 + 15, none⟩ = some (.int .i64 0) := by rw [cell_of_row _ _ _ _ 47 (0, 0) hrow]; rfl
    have hr1 : (wr.drew.setCell ⟨b, 3 + 15, none⟩ (.int .i64 4)).heap[b]? = some (.cells (rowF c0 c1 c2 16) 47 (0, 0)) := row_setCells b 47 [.int .i64 4] (3 + 15) wr.drew _ hrow (by show 3 + 15 + 1 ≤ 19; omega)
    have hO1 : Only (fun k => k = b) w (wr.drew.setCell ⟨b, 3 + 15, none⟩ (.int .i64 4)) := hO.drew.set _ _ (Or.inl rfl)
    have HR1 := Lib.hid hr1; have HO1 := Lib.hid hO1
    clear hr1 hO1 hO hrow
    have hw1 : IntKind.i64.wrap 1 = 1 := by decide
    have hw3 : IntKind.i64.wrap 3 = 3 := by decide
    have hw4 : IntKind.i64.wrap 4 = 4 := by decide
    have hw7 : IntKind.i64.wrap 7 = 7 := by decide
    have hw15 : IntKind.i64.wrap 15 = 15 := by decide
    go_wp2_with fail
    go_region_law (fail)
    all_goals
      go_wp2
      go_roundw
      case rel => exact ⟨16, by omega, by first | rfl | go_num, HR1.out, HO1.out⟩
      case measure => simp [intOf]
  · have HR1 := Lib.hid hrow; have HO1 := Lib.hid hO
    clear hrow hO
    go_wp2
    go_end0
    exact ⟨rfl, HO1.out, HR1.out⟩
end Go.Proofs.Ytmjienajfjjdhaa
