/-
  GeomSets, walked.
-/
import Derived.Test.YtmjienajfjjdhaaWakes
namespace Go.Proofs.Ytmjienajfjjdhaa
open Go.RowKit
attribute [local go_sem ↓] Go.wp_at_zero Go.wp_at_succ

def cellS (s i k : Nat) : Value := .int .i64 (if k < s then (i + (s - 1 - k)) / s else 0 : Nat)
def rowS (s i : Nat) : Array Value := #[cellS s i 0, cellS s i 1, cellS s i 2, cellS s i 3, cellS s i 4, cellS s i 5, cellS s i 6, cellS s i 7]
set_option maxRecDepth 100000 in
set_option maxHeartbeats 600000 in
theorem sets_law1 (n l : Int) (hn : n % 4 = 0) (hn0 : 0 ≤ n) (hn1 : n ≤ 255) (hl0 : 0 ≤ l) (hl1 : l ≤ 255) (w : World) :
    Calls Try.prog 5 #[.int .u8 n, .int .u8 l] w fun e w' => e = .returned (.bool true) ∧ Below w.heap.size w w' := by
  have hn' : n.tmod 4 = 0 := by rw [Int.tmod_eq_emod_of_nonneg hn0]; exact hn
  obtain ⟨L, hL⟩ : ∃ L : Nat, l % 64 = (L : Int) := ⟨(l % 64).toNat, by omega⟩
  have hL' : l.tmod 64 = (L : Int) := by rw [Int.tmod_eq_emod_of_nonneg hl0]; exact hL
  have hL64 : L < 64 := by omega
  obtain ⟨X2, hX2⟩ : ∃ X2, (L : Int) % 1 = X2 := ⟨_, rfl⟩
  have hs2 : setI 1 (L : Int) = X2 := by rw [setI, if_pos ⟨by omega, by omega⟩]; exact hX2
  have hs3 : setI 1 ((L : Int) + 1) = X2 := by rw [setI, if_pos ⟨by omega, by omega⟩]; omega
  have hs4 : setI 3 (L : Int) = 0 := by rw [setI, if_neg (fun h => by omega)]
  have hs5 : setI 1 (-1 - (L : Int)) = 0 := by rw [setI, if_neg (fun h => by omega)]
  have HX2 := Lib.hid hX2; have HS2 := Lib.hid hs2; have HS3 := Lib.hid hs3; have HS4 := Lib.hid hs4; have HS5 := Lib.hid hs5
  clear hX2 hs2 hs3 hs4 hs5
  go_enter Try.func5, Try.ntmps5
  go_wp2_with fail
  go_loopw [7] (fun i w' => ∃ j : Nat, 1 ≤ j ∧ j ≤ 1 ∧ i = .int .i64 j ∧ w' = w) (fun i _ => 1 - (intOf i).toNat)
  case atStart => exact ⟨1, by omega, by omega, rfl, rfl⟩
  case round =>
  obtain ⟨j, hj1, hj, rfl, hw⟩ := hrel
  have hw2 : w = wr := hw.symm
  clear hw
  subst hw2
  by_cases hlt : j < 1
  · have hj2 : (j : Int) < 1 := by omega
    have hs1 : setI 1 ((L : Int) + (j : Int)) = ((L : Int) + j) % 1 := by rw [setI, if_pos ⟨by omega, by omega⟩]
    have hne : (((L : Int) + j) % 1 == X2) = false := by
      have := HX2.out
      simp only [beq_eq_false_iff_ne]
      omega
    obtain ⟨X1, hX1⟩ : ∃ X1, ((L : Int) + j) % 1 = X1 := ⟨_, rfl⟩
    rw [hX1] at hs1 hne
    have HS1 := Lib.hid hs1; have HNE := Lib.hid hne
    clear hs1 hne hX1
    go_wp2_with fail
    refine (set_any 1 _ _).mono ?_
    rintro e w9 ⟨rfl, rfl⟩
    rw [HS1.out]
    go_wp2_with fail
    refine (set_any 1 _ _).mono ?_
    rintro e w9 ⟨rfl, rfl⟩
    rw [HS2.out]
    have hne := HNE.out
    go_wp2
    go_roundw
    case rel => exact ⟨j + 1, by omega, by omega, by go_num, by first | rfl | trivial⟩
    case measure => simp [intOf]; omega
  obtain rfl : j = 1 := by omega
  have hrow0 : (w.alloc (.cells (rowS 1 0) 32)).heap[w.heap.size]? = some (.cells (rowS 1 0) 32 (0, 0)) := heap_alloc_new w _
  have HROW0 := Lib.hid hrow0
  have HO0 := Lib.hid ((Only.refl (fun k => k = w.heap.size) w).al (.cells (rowS 1 0) 32))
  clear hrow0
  go_wp2_with fail
  go_loopw [9] (fun i w' => ∃ j : Nat, j ≤ 64 ∧ i = .int .i64 j ∧ w'.heap[w.heap.size]? = some (.cells (rowS 1 j) 32 (0, 0)) ∧ Only (fun k => k = w.heap.size) w w') (fun i _ => 64 - (intOf i).toNat)
  case atStart => exact ⟨0, by omega, rfl, HROW0.out, HO0.out⟩
  case round =>
    obtain ⟨j, hj, rfl, hrow, hO⟩ := hrel
    by_cases hlt : j < 64
    · have hj2 : (j : Int) < 64 := by omega
      have hmod : j % 1 = 0 := by omega
      rcases hmod with hmod
      · have hx : setI 1 (j : Int) = 0 := by rw [setI, if_pos ⟨by omega, by omega⟩]; omega
        have q0 : wr.cell? ⟨w.heap.size, 0, none⟩ = some (.int .i64 ((j + 0) / 1 : Nat)) := by rw [cell_of_row _ _ _ _ 32 (0, 0) hrow]; rfl
        have f0 : wr.frozen? ⟨w.heap.size, 0, none⟩ = false := frozen_of_row _ _ _ _ 32 hrow
        obtain ⟨x, hxx⟩ : ∃ x : Nat, (j + 0) / 1 = x := ⟨_, rfl⟩
        have hx64 : x ≤ 64 := by omega
        have hr1 : (wr.setCell ⟨w.heap.size, 0, none⟩ (.int .i64 ((x : Int) + 1))).heap[w.heap.size]? = some (.cells (rowS 1 (j + 1)) 32 (0, 0)) := by
          refine (row_setCells w.heap.size 32 [.int .i64 ((x : Int) + 1)] 0 wr _ hrow (by show 0 + 1 ≤ 8; omega)).trans ?_
          have hrow2 : rowS 1 (j + 1) = #[.int .i64 ((j + 1 + 0) / 1 : Nat), .int .i64 (0 : Nat), .int .i64 (0 : Nat), .int .i64 (0 : Nat), .int .i64 (0 : Nat), .int .i64 (0 : Nat), .int .i64 (0 : Nat), .int .i64 (0 : Nat)] := rfl
          rw [hrow2]
          show some (Obj.cells #[.int .i64 ((x : Int) + 1), .int .i64 (0 : Nat), .int .i64 (0 : Nat), .int .i64 (0 : Nat), .int .i64 (0 : Nat), .int .i64 (0 : Nat), .int .i64 (0 : Nat), .int .i64 (0 : Nat)] 32 (0, 0)) = _
          congr 3
          all_goals first | rfl | (refine congrArg (fun l => l) ?_) | skip
          all_goals simp only [List.cons.injEq, Array.mk.injEq, Value.int.injEq, true_and, and_true]
          all_goals omega
        have hO1 := hO.set ⟨w.heap.size, 0, none⟩ (.int .i64 ((x : Int) + 1)) (Or.inl rfl)
        rw [hxx] at q0
        have HR1 := Lib.hid hr1; have HO1 := Lib.hid hO1; have HXX := Lib.hid hxx
        clear hr1 hO1 hO hrow hxx hmod
        go_wp2_with fail
        refine (set_any 1 _ _).mono ?_
        rintro e w9 ⟨rfl, rfl⟩
        rw [hx]
        clear hx
        go_wp2
        go_roundw
        case rel => first | exact ⟨j + 1, by omega, by go_num, HR1.out, HO1.out⟩ | ((repeat apply Exists.intro); exact ⟨⟨j + 1, by omega, by go_num, HR1.out, HO1.out⟩, rfl⟩)
        case measure => simp [intOf]; omega
    obtain rfl : j = 64 := by omega
    have hB1 : Below w.heap.size w wr := hO.below (Nat.le_refl _) (fun k (h : k = w.heap.size) => by omega)
    have hbl : w.heap.size < wr.heap.size := (Array.getElem?_eq_some_iff.1 hrow).1
    obtain ⟨w2, hwr⟩ : ∃ w, w = wr := ⟨_, rfl⟩
    rw [← hwr] at hrow hB1 hbl ⊢
    have HROW := Lib.hid hrow; have HB1 := Lib.hid hB1
    clear hrow hB1 hO hwr
    go_wp2_with fail
    go_loopw [11] (fun i w' => ∃ j : Nat, j ≤ 1 ∧ i = .int .i64 j ∧ Below w2.heap.size w2 w') (fun i _ => 1 - (intOf i).toNat)
    case atStart => exact ⟨0, by omega, rfl, Below.refl _ _⟩
    case round =>
    obtain ⟨j, hj, rfl, hB⟩ := hrel
    have hcs : j = 0 ∨ j = 1 := by omega
    rcases hcs with rfl | rfl
    · have q0 : wr.cell? ⟨w.heap.size, 0, none⟩ = some (.int .i64 64) := (hB.cell (p := ⟨w.heap.size, 0, none⟩) hbl).trans (by rw [cell_of_row _ _ _ _ 32 (0, 0) HROW.out]; rfl)
      have hw : IntKind.i64.wrap 64 = 64 := by decide
      have HB := Lib.hid hB
      clear hB
      go_wp2_with fail
      go_quiet (fail)
      go_wp2
      go_roundw
      case rel => exact ⟨1, by omega, by first | rfl | go_num, below_drewN HB.out _⟩
      case measure => simp [intOf]
    · have HBX := Lib.hid (Below.then HB1.out hB)
      clear hB
      go_wp2_with fail
      refine (set_any 1 _ _).mono ?_
      rintro e w9 ⟨rfl, rfl⟩
      rw [HS3.out]
      go_wp2_with fail
      refine (set_any 1 _ _).mono ?_
      rintro e w9 ⟨rfl, rfl⟩
      rw [HS2.out]
      go_wp2_with fail
      refine (set_any 3 _ _).mono ?_
      rintro e w9 ⟨rfl, rfl⟩
      rw [HS4.out]
      go_wp2_with fail
      refine (set_any 1 _ _).mono ?_
      rintro e w9 ⟨rfl, rfl⟩
      rw [HS5.out]
      go_wp2_with fail
      refine (wakes_any _).mono ?_
      rintro e w9 ⟨rfl, hb9⟩
      have HB9 := Lib.hid (Below.then HBX.out hb9)
      clear hb9
      go_wp2
      go_ret
      exact ⟨rfl, HB9.out⟩
set_option maxRecDepth 100000 in
set_option maxHeartbeats 600000 in
theorem sets_law2 (n l : Int) (hn : n % 4 = 1) (hn0 : 0 ≤ n) (hn1 : n ≤ 255) (hl0 : 0 ≤ l) (hl1 : l ≤ 255) (w : World) :
    Calls Try.prog 5 #[.int .u8 n, .int .u8 l] w fun e w' => e = .returned (.bool true) ∧ Below w.heap.size w w' := by
  have hn' : n.tmod 4 = 1 := by rw [Int.tmod_eq_emod_of_nonneg hn0]; exact hn
  obtain ⟨L, hL⟩ : ∃ L : Nat, l % 64 = (L : Int) := ⟨(l % 64).toNat, by omega⟩
  have hL' : l.tmod 64 = (L : Int) := by rw [Int.tmod_eq_emod_of_nonneg hl0]; exact hL
  have hL64 : L < 64 := by omega
  obtain ⟨X2, hX2⟩ : ∃ X2, (L : Int) % 2 = X2 := ⟨_, rfl⟩
  have hs2 : setI 2 (L : Int) = X2 := by rw [setI, if_pos ⟨by omega, by omega⟩]; exact hX2
  have hs3 : setI 2 ((L : Int) + 2) = X2 := by rw [setI, if_pos ⟨by omega, by omega⟩]; omega
  have hs4 : setI 3 (L : Int) = 0 := by rw [setI, if_neg (fun h => by omega)]
  have hs5 : setI 2 (-1 - (L : Int)) = 0 := by rw [setI, if_neg (fun h => by omega)]
  have HX2 := Lib.hid hX2; have HS2 := Lib.hid hs2; have HS3 := Lib.hid hs3; have HS4 := Lib.hid hs4; have HS5 := Lib.hid hs5
  clear hX2 hs2 hs3 hs4 hs5
  go_enter Try.func5, Try.ntmps5
  go_wp2_with fail
  go_loopw [7] (fun i w' => ∃ j : Nat, 1 ≤ j ∧ j ≤ 2 ∧ i = .int .i64 j ∧ w' = w) (fun i _ => 2 - (intOf i).toNat)
  case atStart => exact ⟨1, by omega, by omega, rfl, rfl⟩
  case round =>
  obtain ⟨j, hj1, hj, rfl, hw⟩ := hrel
  have hw2 : w = wr := hw.symm
  clear hw
  subst hw2
  by_cases hlt : j < 2
  · have hj2 : (j : Int) < 2 := by omega
    have hs1 : setI 2 ((L : Int) + (j : Int)) = ((L : Int) + j) % 2 := by rw [setI, if_pos ⟨by omega, by omega⟩]
    have hne : (((L : Int) + j) % 2 == X2) = false := by
      have := HX2.out
      simp only [beq_eq_false_iff_ne]
      omega
    obtain ⟨X1, hX1⟩ : ∃ X1, ((L : Int) + j) % 2 = X1 := ⟨_, rfl⟩
    rw [hX1] at hs1 hne
    have HS1 := Lib.hid hs1; have HNE := Lib.hid hne
    clear hs1 hne hX1
    go_wp2_with fail
    refine (set_any 2 _ _).mono ?_
    rintro e w9 ⟨rfl, rfl⟩
    rw [HS1.out]
    go_wp2_with fail
    refine (set_any 2 _ _).mono ?_
    rintro e w9 ⟨rfl, rfl⟩
    rw [HS2.out]
    have hne := HNE.out
    go_wp2
    go_roundw
    case rel => exact ⟨j + 1, by omega, by omega, by go_num, by first | rfl | trivial⟩
    case measure => simp [intOf]; omega
  obtain rfl : j = 2 := by omega
  have hrow0 : (w.alloc (.cells (rowS 2 0) 32)).heap[w.heap.size]? = some (.cells (rowS 2 0) 32 (0, 0)) := heap_alloc_new w _
  have HROW0 := Lib.hid hrow0
  have HO0 := Lib.hid ((Only.refl (fun k => k = w.heap.size) w).al (.cells (rowS 2 0) 32))
  clear hrow0
  go_wp2_with fail
  go_loopw [9] (fun i w' => ∃ j : Nat, j ≤ 64 ∧ i = .int .i64 j ∧ w'.heap[w.heap.size]? = some (.cells (rowS 2 j) 32 (0, 0)) ∧ Only (fun k => k = w.heap.size) w w') (fun i _ => 64 - (intOf i).toNat)
  case atStart => exact ⟨0, by omega, rfl, HROW0.out, HO0.out⟩
  case round =>
    obtain ⟨j, hj, rfl, hrow, hO⟩ := hrel
    by_cases hlt : j < 64
    · have hj2 : (j : Int) < 64 := by omega
      have hmod : j % 2 = 0 ∨ j % 2 = 1 := by omega
      rcases hmod with hmod | hmod
      · have hx : setI 2 (j : Int) = 0 := by rw [setI, if_pos ⟨by omega, by omega⟩]; omega
        have q0 : wr.cell? ⟨w.heap.size, 0, none⟩ = some (.int .i64 ((j + 1) / 2 : Nat)) := by rw [cell_of_row _ _ _ _ 32 (0, 0) hrow]; rfl
        have f0 : wr.frozen? ⟨w.heap.size, 0, none⟩ = false := frozen_of_row _ _ _ _ 32 hrow
        obtain ⟨x, hxx⟩ : ∃ x : Nat, (j + 1) / 2 = x := ⟨_, rfl⟩
        have hx64 : x ≤ 64 := by omega
        have hr1 : (wr.setCell ⟨w.heap.size, 0, none⟩ (.int .i64 ((x : Int) + 1))).heap[w.heap.size]? = some (.cells (rowS 2 (j + 1)) 32 (0, 0)) := by
          refine (row_setCells w.heap.size 32 [.int .i64 ((x : Int) + 1)] 0 wr _ hrow (by show 0 + 1 ≤ 8; omega)).trans ?_
          have hrow2 : rowS 2 (j + 1) = #[.int .i64 ((j + 1 + 1) / 2 : Nat), .int .i64 ((j + 1 + 0) / 2 : Nat), .int .i64 (0 : Nat), .int .i64 (0 : Nat), .int .i64 (0 : Nat), .int .i64 (0 : Nat), .int .i64 (0 : Nat), .int .i64 (0 : Nat)] := rfl
          rw [hrow2]
          show some (Obj.cells #[.int .i64 ((x : Int) + 1), .int .i64 ((j + 0) / 2 : Nat), .int .i64 (0 : Nat), .int .i64 (0 : Nat), .int .i64 (0 : Nat), .int .i64 (0 : Nat), .int .i64 (0 : Nat), .int .i64 (0 : Nat)] 32 (0, 0)) = _
          congr 3
          all_goals first | rfl | (refine congrArg (fun l => l) ?_) | skip
          all_goals simp only [List.cons.injEq, Array.mk.injEq, Value.int.injEq, true_and, and_true]
          all_goals omega
        have hO1 := hO.set ⟨w.heap.size, 0, none⟩ (.int .i64 ((x : Int) + 1)) (Or.inl rfl)
        rw [hxx] at q0
        have HR1 := Lib.hid hr1; have HO1 := Lib.hid hO1; have HXX := Lib.hid hxx
        clear hr1 hO1 hO hrow hxx hmod
        go_wp2_with fail
        refine (set_any 2 _ _).mono ?_
        rintro e w9 ⟨rfl, rfl⟩
        rw [hx]
        clear hx
        go_wp2
        go_roundw
        case rel => first | exact ⟨j + 1, by omega, by go_num, HR1.out, HO1.out⟩ | ((repeat apply Exists.intro); exact ⟨⟨j + 1, by omega, by go_num, HR1.out, HO1.out⟩, rfl⟩)
        case measure => simp [intOf]; omega
      · have hx : setI 2 (j : Int) = 1 := by rw [setI, if_pos ⟨by omega, by omega⟩]; omega
        have q0 : wr.cell? ⟨w.heap.size, 1, none⟩ = some (.int .i64 ((j + 0) / 2 : Nat)) := by rw [cell_of_row _ _ _ _ 32 (0, 0) hrow]; rfl
        have f0 : wr.frozen? ⟨w.heap.size, 1, none⟩ = false := frozen_of_row _ _ _ _ 32 hrow
        obtain ⟨x, hxx⟩ : ∃ x : Nat, (j + 0) / 2 = x := ⟨_, rfl⟩
        have hx64 : x ≤ 64 := by omega
        have hr1 : (wr.setCell ⟨w.heap.size, 1, none⟩ (.int .i64 ((x : Int) + 1))).heap[w.heap.size]? = some (.cells (rowS 2 (j + 1)) 32 (0, 0)) := by
          refine (row_setCells w.heap.size 32 [.int .i64 ((x : Int) + 1)] 1 wr _ hrow (by show 1 + 1 ≤ 8; omega)).trans ?_
          have hrow2 : rowS 2 (j + 1) = #[.int .i64 ((j + 1 + 1) / 2 : Nat), .int .i64 ((j + 1 + 0) / 2 : Nat), .int .i64 (0 : Nat), .int .i64 (0 : Nat), .int .i64 (0 : Nat), .int .i64 (0 : Nat), .int .i64 (0 : Nat), .int .i64 (0 : Nat)] := rfl
          rw [hrow2]
          show some (Obj.cells #[.int .i64 ((j + 1) / 2 : Nat), .int .i64 ((x : Int) + 1), .int .i64 (0 : Nat), .int .i64 (0 : Nat), .int .i64 (0 : Nat), .int .i64 (0 : Nat), .int .i64 (0 : Nat), .int .i64 (0 : Nat)] 32 (0, 0)) = _
          congr 3
          all_goals first | rfl | (refine congrArg (fun l => l) ?_) | skip
          all_goals simp only [List.cons.injEq, Array.mk.injEq, Value.int.injEq, true_and, and_true]
          all_goals omega
        have hO1 := hO.set ⟨w.heap.size, 1, none⟩ (.int .i64 ((x : Int) + 1)) (Or.inl rfl)
        rw [hxx] at q0
        have HR1 := Lib.hid hr1; have HO1 := Lib.hid hO1; have HXX := Lib.hid hxx
        clear hr1 hO1 hO hrow hxx hmod
        go_wp2_with fail
        refine (set_any 2 _ _).mono ?_
        rintro e w9 ⟨rfl, rfl⟩
        rw [hx]
        clear hx
        go_wp2
        go_roundw
        case rel => first | exact ⟨j + 1, by omega, by go_num, HR1.out, HO1.out⟩ | ((repeat apply Exists.intro); exact ⟨⟨j + 1, by omega, by go_num, HR1.out, HO1.out⟩, rfl⟩)
        case measure => simp [intOf]; omega
    obtain rfl : j = 64 := by omega
    have hB1 : Below w.heap.size w wr := hO.below (Nat.le_refl _) (fun k (h : k = w.heap.size) => by omega)
    have hbl : w.heap.size < wr.heap.size := (Array.getElem?_eq_some_iff.1 hrow).1
    obtain ⟨w2, hwr⟩ : ∃ w, w = wr := ⟨_, rfl⟩
    rw [← hwr] at hrow hB1 hbl ⊢
    have HROW := Lib.hid hrow; have HB1 := Lib.hid hB1
    clear hrow hB1 hO hwr
    go_wp2_with fail
    go_loopw [11] (fun i w' => ∃ j : Nat, j ≤ 2 ∧ i = .int .i64 j ∧ Below w2.heap.size w2 w') (fun i _ => 2 - (intOf i).toNat)
    case atStart => exact ⟨0, by omega, rfl, Below.refl _ _⟩
    case round =>
    obtain ⟨j, hj, rfl, hB⟩ := hrel
    have hcs : j = 0 ∨ j = 1 ∨ j = 2 := by omega
    rcases hcs with rfl | rfl | rfl
    · have q0 : wr.cell? ⟨w.heap.size, 0, none⟩ = some (.int .i64 32) := (hB.cell (p := ⟨w.heap.size, 0, none⟩) hbl).trans (by rw [cell_of_row _ _ _ _ 32 (0, 0) HROW.out]; rfl)
      have hw : IntKind.i64.wrap 32 = 32 := by decide
      have HB := Lib.hid hB
      clear hB
      go_wp2_with fail
      go_quiet (fail)
      go_wp2
      go_roundw
      case rel => exact ⟨1, by omega, by first | rfl | go_num, below_drewN HB.out _⟩
      case measure => simp [intOf]
    · have q0 : wr.cell? ⟨w.heap.size, 1, none⟩ = some (.int .i64 32) := (hB.cell (p := ⟨w.heap.size, 1, none⟩) hbl).trans (by rw [cell_of_row _ _ _ _ 32 (0, 0) HROW.out]; rfl)
      have hw : IntKind.i64.wrap 32 = 32 := by decide
      have HB := Lib.hid hB
      clear hB
      go_wp2_with fail
      go_quiet (fail)
      go_wp2
      go_roundw
      case rel => exact ⟨2, by omega, by first | rfl | go_num, below_drewN HB.out _⟩
      case measure => simp [intOf]
    · have HBX := Lib.hid (Below.then HB1.out hB)
      clear hB
      go_wp2_with fail
      refine (set_any 2 _ _).mono ?_
      rintro e w9 ⟨rfl, rfl⟩
      rw [HS3.out]
      go_wp2_with fail
      refine (set_any 2 _ _).mono ?_
      rintro e w9 ⟨rfl, rfl⟩
      rw [HS2.out]
      go_wp2_with fail
      refine (set_any 3 _ _).mono ?_
      rintro e w9 ⟨rfl, rfl⟩
      rw [HS4.out]
      go_wp2_with fail
      refine (set_any 2 _ _).mono ?_
      rintro e w9 ⟨rfl, rfl⟩
      rw [HS5.out]
      go_wp2_with fail
      refine (wakes_any _).mono ?_
      rintro e w9 ⟨rfl, hb9⟩
      have HB9 := Lib.hid (Below.then HBX.out hb9)
      clear hb9
      go_wp2
      go_ret
      exact ⟨rfl, HB9.out⟩
set_option maxRecDepth 100000 in
set_option maxHeartbeats 600000 in
theorem sets_law4 (n l : Int) (hn : n % 4 = 2) (hn0 : 0 ≤ n) (hn1 : n ≤ 255) (hl0 : 0 ≤ l) (hl1 : l ≤ 255) (w : World) :
    Calls Try.prog 5 #[.int .u8 n, .int .u8 l] w fun e w' => e = .returned (.bool true) ∧ Below w.heap.size w w' := by
  have hn' : n.tmod 4 = 2 := by rw [Int.tmod_eq_emod_of_nonneg hn0]; exact hn
  obtain ⟨L, hL⟩ : ∃ L : Nat, l % 64 = (L : Int) := ⟨(l % 64).toNat, by omega⟩
  have hL' : l.tmod 64 = (L : Int) := by rw [Int.tmod_eq_emod_of_nonneg hl0]; exact hL
  have hL64 : L < 64 := by omega
  obtain ⟨X2, hX2⟩ : ∃ X2, (L : Int) % 4 = X2 := ⟨_, rfl⟩
  have hs2 : setI 4 (L : Int) = X2 := by rw [setI, if_pos ⟨by omega, by omega⟩]; exact hX2
  have hs3 : setI 4 ((L : Int) + 4) = X2 := by rw [setI, if_pos ⟨by omega, by omega⟩]; omega
  have hs4 : setI 3 (L : Int) = 0 := by rw [setI, if_neg (fun h => by omega)]
  have hs5 : setI 4 (-1 - (L : Int)) = 0 := by rw [setI, if_neg (fun h => by omega)]
  have HX2 := Lib.hid hX2; have HS2 := Lib.hid hs2; have HS3 := Lib.hid hs3; have HS4 := Lib.hid hs4; have HS5 := Lib.hid hs5
  clear hX2 hs2 hs3 hs4 hs5
  go_enter Try.func5, Try.ntmps5
  go_wp2_with fail
  go_loopw [7] (fun i w' => ∃ j : Nat, 1 ≤ j ∧ j ≤ 4 ∧ i = .int .i64 j ∧ w' = w) (fun i _ => 4 - (intOf i).toNat)
  case atStart => exact ⟨1, by omega, by omega, rfl, rfl⟩
  case round =>
  obtain ⟨j, hj1, hj, rfl, hw⟩ := hrel
  have hw2 : w = wr := hw.symm
  clear hw
  subst hw2
  by_cases hlt : j < 4
  · have hj2 : (j : Int) < 4 := by omega
    have hs1 : setI 4 ((L : Int) + (j : Int)) = ((L : Int) + j) % 4 := by rw [setI, if_pos ⟨by omega, by omega⟩]
    have hne : (((L : Int) + j) % 4 == X2) = false := by
      have := HX2.out
      simp only [beq_eq_false_iff_ne]
      omega
    obtain ⟨X1, hX1⟩ : ∃ X1, ((L : Int) + j) % 4 = X1 := ⟨_, rfl⟩
    rw [hX1] at hs1 hne
    have HS1 := Lib.hid hs1; have HNE := Lib.hid hne
    clear hs1 hne hX1
    go_wp2_with fail
    refine (set_any 4 _ _).mono ?_
    rintro e w9 ⟨rfl, rfl⟩
    rw [HS1.out]
    go_wp2_with fail
    refine (set_any 4 _ _).mono ?_
    rintro e w9 ⟨rfl, rfl⟩
    rw [HS2.out]
    have hne := HNE.out
    go_wp2
    go_roundw
    case rel => exact ⟨j + 1, by omega, by omega, by go_num, by first | rfl | trivial⟩
    case measure => simp [intOf]; omega
  obtain rfl : j = 4 := by omega
  have hrow0 : (w.alloc (.cells (rowS 4 0) 32)).heap[w.heap.size]? = some (.cells (rowS 4 0) 32 (0, 0)) := heap_alloc_new w _
  have HROW0 := Lib.hid hrow0
  have HO0 := Lib.hid ((Only.refl (fun k => k = w.heap.size) w).al (.cells (rowS 4 0) 32))
  clear hrow0
  go_wp2_with fail
  go_loopw [9] (fun i w' => ∃ j : Nat, j ≤ 64 ∧ i = .int .i64 j ∧ w'.heap[w.heap.size]? = some (.cells (rowS 4 j) 32 (0, 0)) ∧ Only (fun k => k = w.heap.size) w w') (fun i _ => 64 - (intOf i).toNat)
  case atStart => exact ⟨0, by omega, rfl, HROW0.out, HO0.out⟩
  case round =>
    obtain ⟨j, hj, rfl, hrow, hO⟩ := hrel
    by_cases hlt : j < 64
    · have hj2 : (j : Int) < 64 := by omega
      have hmod : j % 4 = 0 ∨ j % 4 = 1 ∨ j % 4 = 2 ∨ j % 4 = 3 := by omega
      rcases hmod with hmod | hmod | hmod | hmod
      · have hx : setI 4 (j : Int) = 0 := by rw [setI, if_pos ⟨by omega, by omega⟩]; omega
        have q0 : wr.cell? ⟨w.heap.size, 0, none⟩ = some (.int .i64 ((j + 3) / 4 : Nat)) := by rw [cell_of_row _ _ _ _ 32 (0, 0) hrow]; rfl
        have f0 : wr.frozen? ⟨w.heap.size, 0, none⟩ = false := frozen_of_row _ _ _ _ 32 hrow
        obtain ⟨x, hxx⟩ : ∃ x : Nat, (j + 3) / 4 = x := ⟨_, rfl⟩
        have hx64 : x ≤ 64 := by omega
        have hr1 : (wr.setCell ⟨w.heap.size, 0, none⟩ (.int .i64 ((x : Int) + 1))).heap[w.heap.size]? = some (.cells (rowS 4 (j + 1)) 32 (0, 0)) := by
          refine (row_setCells w.heap.size 32 [.int .i64 ((x : Int) + 1)] 0 wr _ hrow (by show 0 + 1 ≤ 8; omega)).trans ?_
          have hrow2 : rowS 4 (j + 1) = #[.int .i64 ((j + 1 + 3) / 4 : Nat), .int .i64 ((j + 1 + 2) / 4 : Nat), .int .i64 ((j + 1 + 1) / 4 : Nat), .int .i64 ((j + 1 + 0) / 4 : Nat), .int .i64 (0 : Nat), .int .i64 (0 : Nat), .int .i64 (0 : Nat), .int .i64 (0 : Nat)] := rfl
          rw [hrow2]
          show some (Obj.cells #[.int .i64 ((x : Int) + 1), .int .i64 ((j + 2) / 4 : Nat), .int .i64 ((j + 1) / 4 : Nat), .int .i64 ((j + 0) / 4 : Nat), .int .i64 (0 : Nat), .int .i64 (0 : Nat), .int .i64 (0 : Nat), .int .i64 (0 : Nat)] 32 (0, 0)) = _
          congr 3
          all_goals first | rfl | (refine congrArg (fun l => l) ?_) | skip
          all_goals simp only [List.cons.injEq, Array.mk.injEq, Value.int.injEq, true_and, and_true]
          all_goals omega
        have hO1 := hO.set ⟨w.heap.size, 0, none⟩ (.int .i64 ((x : Int) + 1)) (Or.inl rfl)
        rw [hxx] at q0
        have HR1 := Lib.hid hr1; have HO1 := Lib.hid hO1; have HXX := Lib.hid hxx
        clear hr1 hO1 hO hrow hxx hmod
        go_wp2_with fail
        refine (set_any 4 _ _).mono ?_
        rintro e w9 ⟨rfl, rfl⟩
        rw [hx]
        clear hx
        go_wp2
        go_roundw
        case rel => first | exact ⟨j + 1, by omega, by go_num, HR1.out, HO1.out⟩ | ((repeat apply Exists.intro); exact ⟨⟨j + 1, by omega, by go_num, HR1.out, HO1.out⟩, rfl⟩)
        case measure => simp [intOf]; omega
      · have hx : setI 4 (j : Int) = 1 := by rw [setI, if_pos ⟨by omega, by omega⟩]; omega
        have q0 : wr.cell? ⟨w.heap.size, 1, none⟩ = some (.int .i64 ((j + 2) / 4 : Nat)) := by rw [cell_of_row _ _ _ _ 32 (0, 0) hrow]; rfl
        have f0 : wr.frozen? ⟨w.heap.size, 1, none⟩ = false := frozen_of_row _ _ _ _ 32 hrow
        obtain ⟨x, hxx⟩ : ∃ x : Nat, (j + 2) / 4 = x := ⟨_, rfl⟩
        have hx64 : x ≤ 64 := by omega
        have hr1 : (wr.setCell ⟨w.heap.size, 1, none⟩ (.int .i64 ((x : Int) + 1))).heap[w.heap.size]? = some (.cells (rowS 4 (j + 1)) 32 (0, 0)) := by
          refine (row_setCells w.heap.size 32 [.int .i64 ((x : Int) + 1)] 1 wr _ hrow (by show 1 + 1 ≤ 8; omega)).trans ?_
          have hrow2 : rowS 4 (j + 1) = #[.int .i64 ((j + 1 + 3) / 4 : Nat), .int .i64 ((j + 1 + 2) / 4 : Nat), .int .i64 ((j + 1 + 1) / 4 : Nat), .int .i64 ((j + 1 + 0) / 4 : Nat), .int .i64 (0 : Nat), .int .i64 (0 : Nat), .int .i64 (0 : Nat), .int .i64 (0 : Nat)] := rfl
          rw [hrow2]
          show some (Obj.cells #[.int .i64 ((j + 3) / 4 : Nat), .int .i64 ((x : Int) + 1), .int .i64 ((j + 1) / 4 : Nat), .int .i64 ((j + 0) / 4 : Nat), .int .i64 (0 : Nat), .int .i64 (0 : Nat), .int .i64 (0 : Nat), .int .i64 (0 : Nat)] 32 (0, 0)) = _
          congr 3
          all_goals first | rfl | (refine congrArg (fun l => l) ?_) | skip
          all_goals simp only [List.cons.injEq, Array.mk.injEq, Value.int.injEq, true_and, and_true]
          all_goals omega
        have hO1 := hO.set ⟨w.heap.size, 1, none⟩ (.int .i64 ((x : Int) + 1)) (Or.inl rfl)
        rw [hxx] at q0
        have HR1 := Lib.hid hr1; have HO1 := Lib.hid hO1; have HXX := Lib.hid hxx
        clear hr1 hO1 hO hrow hxx hmod
        go_wp2_with fail
        refine (set_any 4 _ _).mono ?_
        rintro e w9 ⟨rfl, rfl⟩
        rw [hx]
        clear hx
        go_wp2
        go_roundw
        case rel => first | exact ⟨j + 1, by omega, by go_num, HR1.out, HO1.out⟩ | ((repeat apply Exists.intro); exact ⟨⟨j + 1, by omega, by go_num, HR1.out, HO1.out⟩, rfl⟩)
        case measure => simp [intOf]; omega
      · have hx : setI 4 (j : Int) = 2 := by rw [setI, if_pos ⟨by omega, by omega⟩]; omega
        have q0 : wr.cell? ⟨w.heap.size, 2, none⟩ = some (.int .i64 ((j + 1) / 4 : Nat)) := by rw [cell_of_row _ _ _ _ 32 (0, 0) hrow]; rfl
        have f0 : wr.frozen? ⟨w.heap.size, 2, none⟩ = false := frozen_of_row _ _ _ _ 32 hrow
        obtain ⟨x, hxx⟩ : ∃ x : Nat, (j + 1) / 4 = x := ⟨_, rfl⟩
        have hx64 : x ≤ 64 := by omega
        have hr1 : (wr.setCell ⟨w.heap.size, 2, none⟩ (.int .i64 ((x : Int) + 1))).heap[w.heap.size]? = some (.cells (rowS 4 (j + 1)) 32 (0, 0)) := by
          refine (row_setCells w.heap.size 32 [.int .i64 ((x : Int) + 1)] 2 wr _ hrow (by show 2 + 1 ≤ 8; omega)).trans ?_
          have hrow2 : rowS 4 (j + 1) = #[.int .i64 ((j + 1 + 3) / 4 : Nat), .int .i64 ((j + 1 + 2) / 4 : Nat), .int .i64 ((j + 1 + 1) / 4 : Nat), .int .i64 ((j + 1 + 0) / 4 : Nat), .int .i64 (0 : Nat), .int .i64 (0 : Nat), .int .i64 (0 : Nat), .int .i64 (0 : Nat)] := rfl
          rw [hrow2]
          show some (Obj.cells #[.int .i64 ((j + 3) / 4 : Nat), .int .i64 ((j + 2) / 4 : Nat), .int .i64 ((x : Int) + 1), .int .i64 ((j + 0) / 4 : Nat), .int .i64 (0 : Nat), .int .i64 (0 : Nat), .int .i64 (0 : Nat), .int .i64 (0 : Nat)] 32 (0, 0)) = _
          congr 3
          all_goals first | rfl | (refine congrArg (fun l => l) ?_) | skip
          all_goals simp only [List.cons.injEq, Array.mk.injEq, Value.int.injEq, true_and, and_true]
          all_goals omega
        have hO1 := hO.set ⟨w.heap.size, 2, none⟩ (.int .i64 ((x : Int) + 1)) (Or.inl rfl)
        rw [hxx] at q0
        have HR1 := Lib.hid hr1; have HO1 := Lib.hid hO1; have HXX := Lib.hid hxx
        clear hr1 hO1 hO hrow hxx hmod
        go_wp2_with fail
        refine (set_any 4 _ _).mono ?_
        rintro e w9 ⟨rfl, rfl⟩
        rw [hx]
        clear hx
        go_wp2
        go_roundw
        case rel => first | exact ⟨j + 1, by omega, by go_num, HR1.out, HO1.out⟩ | ((repeat apply Exists.intro); exact ⟨⟨j + 1, by omega, by go_num, HR1.out, HO1.out⟩, rfl⟩)
        case measure => simp [intOf]; omega
      · have hx : setI 4 (j : Int) = 3 := by rw [setI, if_pos ⟨by omega, by omega⟩]; omega
        have q0 : wr.cell? ⟨w.heap.size, 3, none⟩ = some (.int .i64 ((j + 0) / 4 : Nat)) := by rw [cell_of_row _ _ _ _ 32 (0, 0) hrow]; rfl
        have f0 : wr.frozen? ⟨w.heap.size, 3, none⟩ = false := frozen_of_row _ _ _ _ 32 hrow
        obtain ⟨x, hxx⟩ : ∃ x : Nat, (j + 0) / 4 = x := ⟨_, rfl⟩
        have hx64 : x ≤ 64 := by omega
        have hr1 : (wr.setCell ⟨w.heap.size, 3, none⟩ (.int .i64 ((x : Int) + 1))).heap[w.heap.size]? = some (.cells (rowS 4 (j + 1)) 32 (0, 0)) := by
          refine (row_setCells w.heap.size 32 [.int .i64 ((x : Int) + 1)] 3 wr _ hrow (by show 3 + 1 ≤ 8; omega)).trans ?_
          have hrow2 : rowS 4 (j + 1) = #[.int .i64 ((j + 1 + 3) / 4 : Nat), .int .i64 ((j + 1 + 2) / 4 : Nat), .int .i64 ((j + 1 + 1) / 4 : Nat), .int .i64 ((j + 1 + 0) / 4 : Nat), .int .i64 (0 : Nat), .int .i64 (0 : Nat), .int .i64 (0 : Nat), .int .i64 (0 : Nat)] := rfl
          rw [hrow2]
          show some (Obj.cells #[.int .i64 ((j + 3) / 4 : Nat), .int .i64 ((j + 2) / 4 : Nat), .int .i64 ((j + 1) / 4 : Nat), .int .i64 ((x : Int) + 1), .int .i64 (0 : Nat), .int .i64 (0 : Nat), .int .i64 (0 : Nat), .int .i64 (0 : Nat)] 32 (0, 0)) = _
          congr 3
          all_goals first | rfl | (refine congrArg (fun l => l) ?_) | skip
          all_goals simp only [List.cons.injEq, Array.mk.injEq, Value.int.injEq, true_and, and_true]
          all_goals omega
        have hO1 := hO.set ⟨w.heap.size, 3, none⟩ (.int .i64 ((x : Int) + 1)) (Or.inl rfl)
        rw [hxx] at q0
        have HR1 := Lib.hid hr1; have HO1 := Lib.hid hO1; have HXX := Lib.hid hxx
        clear hr1 hO1 hO hrow hxx hmod
        go_wp2_with fail
        refine (set_any 4 _ _).mono ?_
        rintro e w9 ⟨rfl, rfl⟩
        rw [hx]
        clear hx
        go_wp2
        go_roundw
        case rel => first | exact ⟨j + 1, by omega, by go_num, HR1.out, HO1.out⟩ | ((repeat apply Exists.intro); exact ⟨⟨j + 1, by omega, by go_num, HR1.out, HO1.out⟩, rfl⟩)
        case measure => simp [intOf]; omega
    obtain rfl : j = 64 := by omega
    have hB1 : Below w.heap.size w wr := hO.below (Nat.le_refl _) (fun k (h : k = w.heap.size) => by omega)
    have hbl : w.heap.size < wr.heap.size := (Array.getElem?_eq_some_iff.1 hrow).1
    obtain ⟨w2, hwr⟩ : ∃ w, w = wr := ⟨_, rfl⟩
    rw [← hwr] at hrow hB1 hbl ⊢
    have HROW := Lib.hid hrow; have HB1 := Lib.hid hB1
    clear hrow hB1 hO hwr
    go_wp2_with fail
    go_loopw [11] (fun i w' => ∃ j : Nat, j ≤ 4 ∧ i = .int .i64 j ∧ Below w2.heap.size w2 w') (fun i _ => 4 - (intOf i).toNat)
    case atStart => exact ⟨0, by omega, rfl, Below.refl _ _⟩
    case round =>
    obtain ⟨j, hj, rfl, hB⟩ := hrel
    have hcs : j = 0 ∨ j = 1 ∨ j = 2 ∨ j = 3 ∨ j = 4 := by omega
    rcases hcs with rfl | rfl | rfl | rfl | rfl
    · have q0 : wr.cell? ⟨w.heap.size, 0, none⟩ = some (.int .i64 16) := (hB.cell (p := ⟨w.heap.size, 0, none⟩) hbl).trans (by rw [cell_of_row _ _ _ _ 32 (0, 0) HROW.out]; rfl)
      have hw : IntKind.i64.wrap 16 = 16 := by decide
      have HB := Lib.hid hB
      clear hB
      go_wp2_with fail
      go_quiet (fail)
      go_wp2
      go_roundw
      case rel => exact ⟨1, by omega, by first | rfl | go_num, below_drewN HB.out _⟩
      case measure => simp [intOf]
    · have q0 : wr.cell? ⟨w.heap.size, 1, none⟩ = some (.int .i64 16) := (hB.cell (p := ⟨w.heap.size, 1, none⟩) hbl).trans (by rw [cell_of_row _ _ _ _ 32 (0, 0) HROW.out]; rfl)
      have hw : IntKind.i64.wrap 16 = 16 := by decide
      have HB := Lib.hid hB
      clear hB
      go_wp2_with fail
      go_quiet (fail)
      go_wp2
      go_roundw
      case rel => exact ⟨2, by omega, by first | rfl | go_num, below_drewN HB.out _⟩
      case measure => simp [intOf]
    · have q0 : wr.cell? ⟨w.heap.size, 2, none⟩ = some (.int .i64 16) := (hB.cell (p := ⟨w.heap.size, 2, none⟩) hbl).trans (by rw [cell_of_row _ _ _ _ 32 (0, 0) HROW.out]; rfl)
      have hw : IntKind.i64.wrap 16 = 16 := by decide
      have HB := Lib.hid hB
      clear hB
      go_wp2_with fail
      go_quiet (fail)
      go_wp2
      go_roundw
      case rel => exact ⟨3, by omega, by first | rfl | go_num, below_drewN HB.out _⟩
      case measure => simp [intOf]
    · have q0 : wr.cell? ⟨w.heap.size, 3, none⟩ = some (.int .i64 16) := (hB.cell (p := ⟨w.heap.size, 3, none⟩) hbl).trans (by rw [cell_of_row _ _ _ _ 32 (0, 0) HROW.out]; rfl)
      have hw : IntKind.i64.wrap 16 = 16 := by decide
      have HB := Lib.hid hB
      clear hB
      go_wp2_with fail
      go_quiet (fail)
      go_wp2
      go_roundw
      case rel => exact ⟨4, by omega, by first | rfl | go_num, below_drewN HB.out _⟩
      case measure => simp [intOf]
    · have HBX := Lib.hid (Below.then HB1.out hB)
      clear hB
      go_wp2_with fail
      refine (set_any 4 _ _).mono ?_
      rintro e w9 ⟨rfl, rfl⟩
      rw [HS3.out]
      go_wp2_with fail
      refine (set_any 4 _ _).mono ?_
      rintro e w9 ⟨rfl, rfl⟩
      rw [HS2.out]
      go_wp2_with fail
      refine (set_any 3 _ _).mono ?_
      rintro e w9 ⟨rfl, rfl⟩
      rw [HS4.out]
      go_wp2_with fail
      refine (set_any 4 _ _).mono ?_
      rintro e w9 ⟨rfl, rfl⟩
      rw [HS5.out]
      go_wp2_with fail
      refine (wakes_any _).mono ?_
      rintro e w9 ⟨rfl, hb9⟩
      have HB9 := Lib.hid (Below.then HBX.out hb9)
      clear hb9
      go_wp2
      go_ret
      exact ⟨rfl, HB9.out⟩
set_option maxRecDepth 100000 in
set_option maxHeartbeats 600000 in
theorem sets_law8 (n l : Int) (hn : n % 4 = 3) (hn0 : 0 ≤ n) (hn1 : n ≤ 255) (hl0 : 0 ≤ l) (hl1 : l ≤ 255) (w : World) :
    Calls Try.prog 5 #[.int .u8 n, .int .u8 l] w fun e w' => e = .returned (.bool true) ∧ Below w.heap.size w w' := by
  have hn' : n.tmod 4 = 3 := by rw [Int.tmod_eq_emod_of_nonneg hn0]; exact hn
  obtain ⟨L, hL⟩ : ∃ L : Nat, l % 64 = (L : Int) := ⟨(l % 64).toNat, by omega⟩
  have hL' : l.tmod 64 = (L : Int) := by rw [Int.tmod_eq_emod_of_nonneg hl0]; exact hL
  have hL64 : L < 64 := by omega
  obtain ⟨X2, hX2⟩ : ∃ X2, (L : Int) % 8 = X2 := ⟨_, rfl⟩
  have hs2 : setI 8 (L : Int) = X2 := by rw [setI, if_pos ⟨by omega, by omega⟩]; exact hX2
  have hs3 : setI 8 ((L : Int) + 8) = X2 := by rw [setI, if_pos ⟨by omega, by omega⟩]; omega
  have hs4 : setI 3 (L : Int) = 0 := by rw [setI, if_neg (fun h => by omega)]
  have hs5 : setI 8 (-1 - (L : Int)) = 0 := by rw [setI, if_neg (fun h => by omega)]
  have HX2 := Lib.hid hX2; have HS2 := Lib.hid hs2; have HS3 := Lib.hid hs3; have HS4 := Lib.hid hs4; have HS5 := Lib.hid hs5
  clear hX2 hs2 hs3 hs4 hs5
  go_enter Try.func5, Try.ntmps5
  go_wp2_with fail
  go_loopw [7] (fun i w' => ∃ j : Nat, 1 ≤ j ∧ j ≤ 8 ∧ i = .int .i64 j ∧ w' = w) (fun i _ => 8 - (intOf i).toNat)
  case atStart => exact ⟨1, by omega, by omega, rfl, rfl⟩
  case round =>
  obtain ⟨j, hj1, hj, rfl, hw⟩ := hrel
  have hw2 : w = wr := hw.symm
  clear hw
  subst hw2
  by_cases hlt : j < 8
  · have hj2 : (j : Int) < 8 := by omega
    have hs1 : setI 8 ((L : Int) + (j : Int)) = ((L : Int) + j) % 8 := by rw [setI, if_pos ⟨by omega, by omega⟩]
    have hne : (((L : Int) + j) % 8 == X2) = false := by
      have := HX2.out
      simp only [beq_eq_false_iff_ne]
      omega
    obtain ⟨X1, hX1⟩ : ∃ X1, ((L : Int) + j) % 8 = X1 := ⟨_, rfl⟩
    rw [hX1] at hs1 hne
    have HS1 := Lib.hid hs1; have HNE := Lib.hid hne
    clear hs1 hne hX1
    go_wp2_with fail
    refine (set_any 8 _ _).mono ?_
    rintro e w9 ⟨rfl, rfl⟩
    rw [HS1.out]
    go_wp2_with fail
    refine (set_any 8 _ _).mono ?_
    rintro e w9 ⟨rfl, rfl⟩
    rw [HS2.out]
    have hne := HNE.out
    go_wp2
    go_roundw
    case rel => exact ⟨j + 1, by omega, by omega, by go_num, by first | rfl | trivial⟩
    case measure => simp [intOf]; omega
  obtain rfl : j = 8 := by omega
  have hrow0 : (w.alloc (.cells (rowS 8 0) 32)).heap[w.heap.size]? = some (.cells (rowS 8 0) 32 (0, 0)) := heap_alloc_new w _
  have HROW0 := Lib.hid hrow0
  have HO0 := Lib.hid ((Only.refl (fun k => k = w.heap.size) w).al (.cells (rowS 8 0) 32))
  clear hrow0
  go_wp2_with fail
  go_loopw [9] (fun i w' => ∃ j : Nat, j ≤ 64 ∧ i = .int .i64 j ∧ w'.heap[w.heap.size]? = some (.cells (rowS 8 j) 32 (0, 0)) ∧ Only (fun k => k = w.heap.size) w w') (fun i _ => 64 - (intOf i).toNat)
  case atStart => exact ⟨0, by omega, rfl, HROW0.out, HO0.out⟩
  case round =>
    obtain ⟨j, hj, rfl, hrow, hO⟩ := hrel
    by_cases hlt : j < 64
    · have hj2 : (j : Int) < 64 := by omega
      have hmod : j % 8 = 0 ∨ j % 8 = 1 ∨ j % 8 = 2 ∨ j % 8 = 3 ∨ j % 8 = 4 ∨ j % 8 = 5 ∨ j % 8 = 6 ∨ j % 8 = 7 := by omega
      rcases hmod with hmod | hmod | hmod | hmod | hmod | hmod | hmod | hmod
      · have hx : setI 8 (j : Int) = 0 := by rw [setI, if_pos ⟨by omega, by omega⟩]; omega
        have q0 : wr.cell? ⟨w.heap.size, 0, none⟩ = some (.int .i64 ((j + 7) / 8 : Nat)) := by rw [cell_of_row _ _ _ _ 32 (0, 0) hrow]; rfl
        have f0 : wr.frozen? ⟨w.heap.size, 0, none⟩ = false := frozen_of_row _ _ _ _ 32 hrow
        obtain ⟨x, hxx⟩ : ∃ x : Nat, (j + 7) / 8 = x := ⟨_, rfl⟩
        have hx64 : x ≤ 64 := by omega
        have hr1 : (wr.setCell ⟨w.heap.size, 0, none⟩ (.int .i64 ((x : Int) + 1))).heap[w.heap.size]? = some (.cells (rowS 8 (j + 1)) 32 (0, 0)) := by
          refine (row_setCells w.heap.size 32 [.int .i64 ((x : Int) + 1)] 0 wr _ hrow (by show 0 + 1 ≤ 8; omega)).trans ?_
          have hrow2 : rowS 8 (j + 1) = #[.int .i64 ((j + 1 + 7) / 8 : Nat), .int .i64 ((j + 1 + 6) / 8 : Nat), .int .i64 ((j + 1 + 5) / 8 : Nat), .int .i64 ((j + 1 + 4) / 8 : Nat), .int .i64 ((j + 1 + 3) / 8 : Nat), .int .i64 ((j + 1 + 2) / 8 : Nat), .int .i64 ((j + 1 + 1) / 8 : Nat), .int .i64 ((j + 1 + 0) / 8 : Nat)] := rfl
          rw [hrow2]
          show some (Obj.cells #[.int .i64 ((x : Int) + 1), .int .i64 ((j + 6) / 8 : Nat), .int .i64 ((j + 5) / 8 : Nat), .int .i64 ((j + 4) / 8 : Nat), .int .i64 ((j + 3) / 8 : Nat), .int .i64 ((j + 2) / 8 : Nat), .int .i64 ((j + 1) / 8 : Nat), .int .i64 ((j + 0) / 8 : Nat)] 32 (0, 0)) = _
          congr 3
          all_goals first | rfl | (refine congrArg (fun l => l) ?_) | skip
          all_goals simp only [List.cons.injEq, Array.mk.injEq, Value.int.injEq, true_and, and_true]
          all_goals omega
        have hO1 := hO.set ⟨w.heap.size, 0, none⟩ (.int .i64 ((x : Int) + 1)) (Or.inl rfl)
        rw [hxx] at q0
        have HR1 := Lib.hid hr1; have HO1 := Lib.hid hO1; have HXX := Lib.hid hxx
        clear hr1 hO1 hO hrow hxx hmod
        go_wp2_with fail
        refine (set_any 8 _ _).mono ?_
        rintro e w9 ⟨rfl, rfl⟩
        rw [hx]
        clear hx
        go_wp2
        go_roundw
        case rel => first | exact ⟨j + 1, by omega, by go_num, HR1.out, HO1.out⟩ | ((repeat apply Exists.intro); exact ⟨⟨j + 1, by omega, by go_num, HR1.out, HO1.out⟩, rfl⟩)
        case measure => simp [intOf]; omega
      · have hx : setI 8 (j : Int) = 1 := by rw [setI, if_pos ⟨by omega, by omega⟩]; omega
        have q0 : wr.cell? ⟨w.heap.size, 1, none⟩ = some (.int .i64 ((j + 6) / 8 : Nat)) := by rw [cell_of_row _ _ _ _ 32 (0, 0) hrow]; rfl
        have f0 : wr.frozen? ⟨w.heap.size, 1, none⟩ = false := frozen_of_row _ _ _ _ 32 hrow
        obtain ⟨x, hxx⟩ : ∃ x : Nat, (j + 6) / 8 = x := ⟨_, rfl⟩
        have hx64 : x ≤ 64 := by omega
        have hr1 : (wr.setCell ⟨w.heap.size, 1, none⟩ (.int .i64 ((x : Int) + 1))).heap[w.heap.size]? = some (.cells (rowS 8 (j + 1)) 32 (0, 0)) := by
          refine (row_setCells w.heap.size 32 [.int .i64 ((x : Int) + 1)] 1 wr _ hrow (by show 1 + 1 ≤ 8; omega)).trans ?_
          have hrow2 : rowS 8 (j + 1) = #[.int .i64 ((j + 1 + 7) / 8 : Nat), .int .i64 ((j + 1 + 6) / 8 : Nat), .int .i64 ((j + 1 + 5) / 8 : Nat), .int .i64 ((j + 1 + 4) / 8 : Nat), .int .i64 ((j + 1 + 3) / 8 : Nat), .int .i64 ((j + 1 + 2) / 8 : Nat), .int .i64 ((j + 1 + 1) / 8 : Nat), .int .i64 ((j + 1 + 0) / 8 : Nat)] := rfl
          rw [hrow2]
          show some (Obj.cells #[.int .i64 ((j + 7) / 8 : Nat), .int .i64 ((x : Int) + 1), .int .i64 ((j + 5) / 8 : Nat), .int .i64 ((j + 4) / 8 : Nat), .int .i64 ((j + 3) / 8 : Nat), .int .i64 ((j + 2) / 8 : Nat), .int .i64 ((j + 1) / 8 : Nat), .int .i64 ((j + 0) / 8 : Nat)] 32 (0, 0)) = _
          congr 3
          all_goals first | rfl | (refine congrArg (fun l => l) ?_) | skip
          all_goals simp only [List.cons.injEq, Array.mk.injEq, Value.int.injEq, true_and, and_true]
          all_goals omega
        have hO1 := hO.set ⟨w.heap.size, 1, none⟩ (.int .i64 ((x : Int) + 1)) (Or.inl rfl)
        rw [hxx] at q0
        have HR1 := Lib.hid hr1; have HO1 := Lib.hid hO1; have HXX := Lib.hid hxx
        clear hr1 hO1 hO hrow hxx hmod
        go_wp2_with fail
        refine (set_any 8 _ _).mono ?_
        rintro e w9 ⟨rfl, rfl⟩
        rw [hx]
        clear hx
        go_wp2
        go_roundw
        case rel => first | exact ⟨j + 1, by omega, by go_num, HR1.out, HO1.out⟩ | ((repeat apply Exists.intro); exact ⟨⟨j + 1, by omega, by go_num, HR1.out, HO1.out⟩, rfl⟩)
        case measure => simp [intOf]; omega
      · have hx : setI 8 (j : Int) = 2 := by rw [setI, if_pos ⟨by omega, by omega⟩]; omega
        have q0 : wr.cell? ⟨w.heap.size, 2, none⟩ = some (.int .i64 ((j + 5) / 8 : Nat)) := by rw [cell_of_row _ _ _ _ 32 (0, 0) hrow]; rfl
        have f0 : wr.frozen? ⟨w.heap.size, 2, none⟩ = false := frozen_of_row _ _ _ _ 32 hrow
        obtain ⟨x, hxx⟩ : ∃ x : Nat, (j + 5) / 8 = x := ⟨_, rfl⟩
        have hx64 : x ≤ 64 := by omega
        have hr1 : (wr.setCell ⟨w.heap.size, 2, none⟩ (.int .i64 ((x : Int) + 1))).heap[w.heap.size]? = some (.cells (rowS 8 (j + 1)) 32 (0, 0)) := by
          refine (row_setCells w.heap.size 32 [.int .i64 ((x : Int) + 1)] 2 wr _ hrow (by show 2 + 1 ≤ 8; omega)).trans ?_
          have hrow2 : rowS 8 (j + 1) = #[.int .i64 ((j + 1 + 7) / 8 : Nat), .int .i64 ((j + 1 + 6) / 8 : Nat), .int .i64 ((j + 1 + 5) / 8 : Nat), .int .i64 ((j + 1 + 4) / 8 : Nat), .int .i64 ((j + 1 + 3) / 8 : Nat), .int .i64 ((j + 1 + 2) / 8 : Nat), .int .i64 ((j + 1 + 1) / 8 : Nat), .int .i64 ((j + 1 + 0) / 8 : Nat)] := rfl
          rw [hrow2]
          show some (Obj.cells #[.int .i64 ((j + 7) / 8 : Nat), .int .i64 ((j + 6) / 8 : Nat), .int .i64 ((x : Int) + 1), .int .i64 ((j + 4) / 8 : Nat), .int .i64 ((j + 3) / 8 : Nat), .int .i64 ((j + 2) / 8 : Nat), .int .i64 ((j + 1) / 8 : Nat), .int .i64 ((j + 0) / 8 : Nat)] 32 (0, 0)) = _
          congr 3
          all_goals first | rfl | (refine congrArg (fun l => l) ?_) | skip
          all_goals simp only [List.cons.injEq, Array.mk.injEq, Value.int.injEq, true_and, and_true]
          all_goals omega
        have hO1 := hO.set ⟨w.heap.size, 2, none⟩ (.int .i64 ((x : Int) + 1)) (Or.inl rfl)
        rw [hxx] at q0
        have HR1 := Lib.hid hr1; have HO1 := Lib.hid hO1; have HXX := Lib.hid hxx
        clear hr1 hO1 hO hrow hxx hmod
        go_wp2_with fail
        refine (set_any 8 _ _).mono ?_
        rintro e w9 ⟨rfl, rfl⟩
        rw [hx]
        clear hx
        go_wp2
        go_roundw
        case rel => first | exact ⟨j + 1, by omega, by go_num, HR1.out, HO1.out⟩ | ((repeat apply Exists.intro); exact ⟨⟨j + 1, by omega, by go_num, HR1.out, HO1.out⟩, rfl⟩)
        case measure => simp [intOf]; omega
      · have hx : setI 8 (j : Int) = 3 := by rw [setI, if_pos ⟨by omega, by omega⟩]; omega
        have q0 : wr.cell? ⟨w.heap.size, 3, none⟩ = some (.int .i64 ((j + 4) / 8 : Nat)) := by rw [cell_of_row _ _ _ _ 32 (0, 0) hrow]; rfl
        have f0 : wr.frozen? ⟨w.heap.size, 3, none⟩ = false := frozen_of_row _ _ _ _ 32 hrow
        obtain ⟨x, hxx⟩ : ∃ x : Nat, (j + 4) / 8 = x := ⟨_, rfl⟩
        have hx64 : x ≤ 64 := by omega
        have hr1 : (wr.setCell ⟨w.heap.size, 3, none⟩ (.int .i64 ((x : Int) + 1))).heap[w.heap.size]? = some (.cells (rowS 8 (j + 1)) 32 (0, 0)) := by
          refine (row_setCells w.heap.size 32 [.int .i64 ((x : Int) + 1)] 3 wr _ hrow (by show 3 + 1 ≤ 8; omega)).trans ?_
          have hrow2 : rowS 8 (j + 1) = #[.int .i64 ((j + 1 + 7) / 8 : Nat), .int .i64 ((j + 1 + 6) / 8 : Nat), .int .i64 ((j + 1 + 5) / 8 : Nat), .int .i64 ((j + 1 + 4) / 8 : Nat), .int .i64 ((j + 1 + 3) / 8 : Nat), .int .i64 ((j + 1 + 2) / 8 : Nat), .int .i64 ((j + 1 + 1) / 8 : Nat), .int .i64 ((j + 1 + 0) / 8 : Nat)] := rfl
          rw [hrow2]
          show some (Obj.cells #[.int .i64 ((j + 7) / 8 : Nat), .int .i64 ((j + 6) / 8 : Nat), .int .i64 ((j + 5) / 8 : Nat), .int .i64 ((x : Int) + 1), .int .i64 ((j + 3) / 8 : Nat), .int .i64 ((j + 2) / 8 : Nat), .int .i64 ((j + 1) / 8 : Nat), .int .i64 ((j + 0) / 8 : Nat)] 32 (0, 0)) = _
          congr 3
          all_goals first | rfl | (refine congrArg (fun l => l) ?_) | skip
          all_goals simp only [List.cons.injEq, Array.mk.injEq, Value.int.injEq, true_and, and_true]
          all_goals omega
        have hO1 := hO.set ⟨w.heap.size, 3, none⟩ (.int .i64 ((x : Int) + 1)) (Or.inl rfl)
        rw [hxx] at q0
        have HR1 := Lib.hid hr1; have HO1 := Lib.hid hO1; have HXX := Lib.hid hxx
        clear hr1 hO1 hO hrow hxx hmod
        go_wp2_with fail
        refine (set_any 8 _ _).mono ?_
        rintro e w9 ⟨rfl, rfl⟩
        rw [hx]
        clear hx
        go_wp2
        go_roundw
        case rel => first | exact ⟨j + 1, by omega, by go_num, HR1.out, HO1.out⟩ | ((repeat apply Exists.intro); exact ⟨⟨j + 1, by omega, by go_num, HR1.out, HO1.out⟩, rfl⟩)
        case measure => simp [intOf]; omega
      · have hx : setI 8 (j : Int) = 4 := by rw [setI, if_pos ⟨by omega, by omega⟩]; omega
        have q0 : wr.cell? ⟨w.heap.size, 4, none⟩ = some (.int .i64 ((j + 3) / 8 : Nat)) := by rw [cell_of_row _ _ _ _ 32 (0, 0) hrow]; rfl
        have f0 : wr.frozen? ⟨w.heap.size, 4, none⟩ = false := frozen_of_row _ _ _ _ 32 hrow
        obtain ⟨x, hxx⟩ : ∃ x : Nat, (j + 3) / 8 = x := ⟨_, rfl⟩
        have hx64 : x ≤ 64 := by omega
        have hr1 : (wr.setCell ⟨w.heap.size, 4, none⟩ (.int .i64 ((x : Int) + 1))).heap[w.heap.size]? = some (.cells (rowS 8 (j + 1)) 32 (0, 0)) := by
          refine (row_setCells w.heap.size 32 [.int .i64 ((x : Int) + 1)] 4 wr _ hrow (by show 4 + 1 ≤ 8; omega)).trans ?_
          have hrow2 : rowS 8 (j + 1) = #[.int .i64 ((j + 1 + 7) / 8 : Nat), .int .i64 ((j + 1 + 6) / 8 : Nat), .int .i64 ((j + 1 + 5) / 8 : Nat), .int .i64 ((j + 1 + 4) / 8 : Nat), .int .i64 ((j + 1 + 3) / 8 : Nat), .int .i64 ((j + 1 + 2) / 8 : Nat), .int .i64 ((j + 1 + 1) / 8 : Nat), .int .i64 ((j + 1 + 0) / 8 : Nat)] := rfl
          rw [hrow2]
          show some (Obj.cells #[.int .i64 ((j + 7) / 8 : Nat), .int .i64 ((j + 6) / 8 : Nat), .int .i64 ((j + 5) / 8 : Nat), .int .i64 ((j + 4) / 8 : Nat), .int .i64 ((x : Int) + 1), .int .i64 ((j + 2) / 8 : Nat), .int .i64 ((j + 1) / 8 : Nat), .int .i64 ((j + 0) / 8 : Nat)] 32 (0, 0)) = _
          congr 3
          all_goals first | rfl | (refine congrArg (fun l => l) ?_) | skip
          all_goals simp only [List.cons.injEq, Array.mk.injEq, Value.int.injEq, true_and, and_true]
          all_goals omega
        have hO1 := hO.set ⟨w.heap.size, 4, none⟩ (.int .i64 ((x : Int) + 1)) (Or.inl rfl)
        rw [hxx] at q0
        have HR1 := Lib.hid hr1; have HO1 := Lib.hid hO1; have HXX := Lib.hid hxx
        clear hr1 hO1 hO hrow hxx hmod
        go_wp2_with fail
        refine (set_any 8 _ _).mono ?_
        rintro e w9 ⟨rfl, rfl⟩
        rw [hx]
        clear hx
        go_wp2
        go_roundw
        case rel => first | exact ⟨j + 1, by omega, by go_num, HR1.out, HO1.out⟩ | ((repeat apply Exists.intro); exact ⟨⟨j + 1, by omega, by go_num, HR1.out, HO1.out⟩, rfl⟩)
        case measure => simp [intOf]; omega
      · have hx : setI 8 (j : Int) = 5 := by rw [setI, if_pos ⟨by omega, by omega⟩]; omega
        have q0 : wr.cell? ⟨w.heap.size, 5, none⟩ = some (.int .i64 ((j + 2) / 8 : Nat)) := by rw [cell_of_row _ _ _ _ 32 (0, 0) hrow]; rfl
        have f0 : wr.frozen? ⟨w.heap.size, 5, none⟩ = false := frozen_of_row _ _ _ _ 32 hrow
        obtain ⟨x, hxx⟩ : ∃ x : Nat, (j + 2) / 8 = x := ⟨_, rfl⟩
        have hx64 : x ≤ 64 := by omega
        have hr1 : (wr.setCell ⟨w.heap.size, 5, none⟩ (.int .i64 ((x : Int) + 1))).heap[w.heap.size]? = some (.cells (rowS 8 (j + 1)) 32 (0, 0)) := by
          refine (row_setCells w.heap.size 32 [.int .i64 ((x : Int) + 1)] 5 wr _ hrow (by show 5 + 1 ≤ 8; omega)).trans ?_
          have hrow2 : rowS 8 (j + 1) = #[.int .i64 ((j + 1 + 7) / 8 : Nat), .int .i64 ((j + 1 + 6) / 8 : Nat), .int .i64 ((j + 1 + 5) / 8 : Nat), .int .i64 ((j + 1 + 4) / 8 : Nat), .int .i64 ((j + 1 + 3) / 8 : Nat), .int .i64 ((j + 1 + 2) / 8 : Nat), .int .i64 ((j + 1 + 1) / 8 : Nat), .int .i64 ((j + 1 + 0) / 8 : Nat)] := rfl
          rw [hrow2]
          show some (Obj.cells #[.int .i64 ((j + 7) / 8 : Nat), .int .i64 ((j + 6) / 8 : Nat), .int .i64 ((j + 5) / 8 : Nat), .int .i64 ((j + 4) / 8 : Nat), .int .i64 ((j + 3) / 8 : Nat), .int .i64 ((x : Int) + 1), .int .i64 ((j + 1) / 8 : Nat), .int .i64 ((j + 0) / 8 : Nat)] 32 (0, 0)) = _
          congr 3
          all_goals first | rfl | (refine congrArg (fun l => l) ?_) | skip
          all_goals simp only [List.cons.injEq, Array.mk.injEq, Value.int.injEq, true_and, and_true]
          all_goals omega
        have hO1 := hO.set ⟨w.heap.size, 5, none⟩ (.int .i64 ((x : Int) + 1)) (Or.inl rfl)
        rw [hxx] at q0
        have HR1 := Lib.hid hr1; have HO1 := Lib.hid hO1; have HXX := Lib.hid hxx
        clear hr1 hO1 hO hrow hxx hmod
        go_wp2_with fail
        refine (set_any 8 _ _).mono ?_
        rintro e w9 ⟨rfl, rfl⟩
        rw [hx]
        clear hx
        go_wp2
        go_roundw
        case rel => first | exact ⟨j + 1, by omega, by go_num, HR1.out, HO1.out⟩ | ((repeat apply Exists.intro); exact ⟨⟨j + 1, by omega, by go_num, HR1.out, HO1.out⟩, rfl⟩)
        case measure => simp [intOf]; omega
      · have hx : setI 8 (j : Int) = 6 := by rw [setI, if_pos ⟨by omega, by omega⟩]; omega
        have q0 : wr.cell? ⟨w.heap.size, 6, none⟩ = some (.int .i64 ((j + 1) / 8 : Nat)) := by rw [cell_of_row _ _ _ _ 32 (0, 0) hrow]; rfl
        have f0 : wr.frozen? ⟨w.heap.size, 6, none⟩ = false := frozen_of_row _ _ _ _ 32 hrow
        obtain ⟨x, hxx⟩ : ∃ x : Nat, (j + 1) / 8 = x := ⟨_, rfl⟩
        have hx64 : x ≤ 64 := by omega
        have hr1 : (wr.setCell ⟨w.heap.size, 6, none⟩ (.int .i64 ((x : Int) + 1))).heap[w.heap.size]? = some (.cells (rowS 8 (j + 1)) 32 (0, 0)) := by
          refine (row_setCells w.heap.size 32 [.int .i64 ((x : Int) + 1)] 6 wr _ hrow (by show 6 + 1 ≤ 8; omega)).trans ?_
          have hrow2 : rowS 8 (j + 1) = #[.int .i64 ((j + 1 + 7) / 8 : Nat), .int .i64 ((j + 1 + 6) / 8 : Nat), .int .i64 ((j + 1 + 5) / 8 : Nat), .int .i64 ((j + 1 + 4) / 8 : Nat), .int .i64 ((j + 1 + 3) / 8 : Nat), .int .i64 ((j + 1 + 2) / 8 : Nat), .int .i64 ((j + 1 + 1) / 8 : Nat), .int .i64 ((j + 1 + 0) / 8 : Nat)] := rfl
          rw [hrow2]
          show some (Obj.cells #[.int .i64 ((j + 7) / 8 : Nat), .int .i64 ((j + 6) / 8 : Nat), .int .i64 ((j + 5) / 8 : Nat), .int .i64 ((j + 4) / 8 : Nat), .int .i64 ((j + 3) / 8 : Nat), .int .i64 ((j + 2) / 8 : Nat), .int .i64 ((x : Int) + 1), .int .i64 ((j + 0) / 8 : Nat)] 32 (0, 0)) = _
          congr 3
          all_goals first | rfl | (refine congrArg (fun l => l) ?_) | skip
          all_goals simp only [List.cons.injEq, Array.mk.injEq, Value.int.injEq, true_and, and_true]
          all_goals omega
        have hO1 := hO.set ⟨w.heap.size, 6, none⟩ (.int .i64 ((x : Int) + 1)) (Or.inl rfl)
        rw [hxx] at q0
        have HR1 := Lib.hid hr1; have HO1 := Lib.hid hO1; have HXX := Lib.hid hxx
        clear hr1 hO1 hO hrow hxx hmod
        go_wp2_with fail
        refine (set_any 8 _ _).mono ?_
        rintro e w9 ⟨rfl, rfl⟩
        rw [hx]
        clear hx
        go_wp2
        go_roundw
        case rel => first | exact ⟨j + 1, by omega, by go_num, HR1.out, HO1.out⟩ | ((repeat apply Exists.intro); exact ⟨⟨j + 1, by omega, by go_num, HR1.out, HO1.out⟩, rfl⟩)
        case measure => simp [intOf]; omega
      · have hx : setI 8 (j : Int) = 7 := by rw [setI, if_pos ⟨by omega, by omega⟩]; omega
        have q0 : wr.cell? ⟨w.heap.size, 7, none⟩ = some (.int .i64 ((j + 0) / 8 : Nat)) := by rw [cell_of_row _ _ _ _ 32 (0, 0) hrow]; rfl
        have f0 : wr.frozen? ⟨w.heap.size, 7, none⟩ = false := frozen_of_row _ _ _ _ 32 hrow
        obtain ⟨x, hxx⟩ : ∃ x : Nat, (j + 0) / 8 = x := ⟨_, rfl⟩
        have hx64 : x ≤ 64 := by omega
        have hr1 : (wr.setCell ⟨w.heap.size, 7, none⟩ (.int .i64 ((x : Int) + 1))).heap[w.heap.size]? = some (.cells (rowS 8 (j + 1)) 32 (0, 0)) := by
          refine (row_setCells w.heap.size 32 [.int .i64 ((x : Int) + 1)] 7 wr _ hrow (by show 7 + 1 ≤ 8; omega)).trans ?_
          have hrow2 : rowS 8 (j + 1) = #[.int .i64 ((j + 1 + 7) / 8 : Nat), .int .i64 ((j + 1 + 6) / 8 : Nat), .int .i64 ((j + 1 + 5) / 8 : Nat), .int .i64 ((j + 1 + 4) / 8 : Nat), .int .i64 ((j + 1 + 3) / 8 : Nat), .int .i64 ((j + 1 + 2) / 8 : Nat), .int .i64 ((j + 1 + 1) / 8 : Nat), .int .i64 ((j + 1 + 0) / 8 : Nat)] := rfl
          rw [hrow2]
          show some (Obj.cells #[.int .i64 ((j + 7) / 8 : Nat), .int .i64 ((j + 6) / 8 : Nat), .int .i64 ((j + 5) / 8 : Nat), .int .i64 ((j + 4) / 8 : Nat), .int .i64 ((j + 3) / 8 : Nat), .int .i64 ((j + 2) / 8 : Nat), .int .i64 ((j + 1) / 8 : Nat), .int .i64 ((x : Int) + 1)] 32 (0, 0)) = _
          congr 3
          all_goals first | rfl | (refine congrArg (fun l => l) ?_) | skip
          all_goals simp only [List.cons.injEq, Array.mk.injEq, Value.int.injEq, true_and, and_true]
          all_goals omega
        have hO1 := hO.set ⟨w.heap.size, 7, none⟩ (.int .i64 ((x : Int) + 1)) (Or.inl rfl)
        rw [hxx] at q0
        have HR1 := Lib.hid hr1; have HO1 := Lib.hid hO1; have HXX := Lib.hid hxx
        clear hr1 hO1 hO hrow hxx hmod
        go_wp2_with fail
        refine (set_any 8 _ _).mono ?_
        rintro e w9 ⟨rfl, rfl⟩
        rw [hx]
        clear hx
        go_wp2
        go_roundw
        case rel => first | exact ⟨j + 1, by omega, by go_num, HR1.out, HO1.out⟩ | ((repeat apply Exists.intro); exact ⟨⟨j + 1, by omega, by go_num, HR1.out, HO1.out⟩, rfl⟩)
        case measure => simp [intOf]; omega
    obtain rfl : j = 64 := by omega
    have hB1 : Below w.heap.size w wr := hO.below (Nat.le_refl _) (fun k (h : k = w.heap.size) => by omega)
    have hbl : w.heap.size < wr.heap.size := (Array.getElem?_eq_some_iff.1 hrow).1
    obtain ⟨w2, hwr⟩ : ∃ w, w = wr := ⟨_, rfl⟩
    rw [← hwr] at hrow hB1 hbl ⊢
    have HROW := Lib.hid hrow; have HB1 := Lib.hid hB1
    clear hrow hB1 hO hwr
    go_wp2_with fail
    go_loopw [11] (fun i w' => ∃ j : Nat, j ≤ 8 ∧ i = .int .i64 j ∧ Below w2.heap.size w2 w') (fun i _ => 8 - (intOf i).toNat)
    case atStart => exact ⟨0, by omega, rfl, Below.refl _ _⟩
    case round =>
    obtain ⟨j, hj, rfl, hB⟩ := hrel
    have hcs : j = 0 ∨ j = 1 ∨ j = 2 ∨ j = 3 ∨ j = 4 ∨ j = 5 ∨ j = 6 ∨ j = 7 ∨ j = 8 := by omega
    rcases hcs with rfl | rfl | rfl | rfl | rfl | rfl | rfl | rfl | rfl
    · have q0 : wr.cell? ⟨w.heap.size, 0, none⟩ = some (.int .i64 8) := (hB.cell (p := ⟨w.heap.size, 0, none⟩) hbl).trans (by rw [cell_of_row _ _ _ _ 32 (0, 0) HROW.out]; rfl)
      have hw : IntKind.i64.wrap 8 = 8 := by decide
      have HB := Lib.hid hB
      clear hB
      go_wp2_with fail
      go_quiet (fail)
      go_wp2
      go_roundw
      case rel => exact ⟨1, by omega, by first | rfl | go_num, below_drewN HB.out _⟩
      case measure => simp [intOf]
    · have q0 : wr.cell? ⟨w.heap.size, 1, none⟩ = some (.int .i64 8) := (hB.cell (p := ⟨w.heap.size, 1, none⟩) hbl).trans (by rw [cell_of_row _ _ _ _ 32 (0, 0) HROW.out]; rfl)
      have hw : IntKind.i64.wrap 8 = 8 := by decide
      have HB := Lib.hid hB
      clear hB
      go_wp2_with fail
      go_quiet (fail)
      go_wp2
      go_roundw
      case rel => exact ⟨2, by omega, by first | rfl | go_num, below_drewN HB.out _⟩
      case measure => simp [intOf]
    · have q0 : wr.cell? ⟨w.heap.size, 2, none⟩ = some (.int .i64 8) := (hB.cell (p := ⟨w.heap.size, 2, none⟩) hbl).trans (by rw [cell_of_row _ _ _ _ 32 (0, 0) HROW.out]; rfl)
      have hw : IntKind.i64.wrap 8 = 8 := by decide
      have HB := Lib.hid hB
      clear hB
      go_wp2_with fail
      go_quiet (fail)
      go_wp2
      go_roundw
      case rel => exact ⟨3, by omega, by first | rfl | go_num, below_drewN HB.out _⟩
      case measure => simp [intOf]
    · have q0 : wr.cell? ⟨w.heap.size, 3, none⟩ = some (.int .i64 8) := (hB.cell (p := ⟨w.heap.size, 3, none⟩) hbl).trans (by rw [cell_of_row _ _ _ _ 32 (0, 0) HROW.out]; rfl)
      have hw : IntKind.i64.wrap 8 = 8 := by decide
      have HB := Lib.hid hB
      clear hB
      go_wp2_with fail
      go_quiet (fail)
      go_wp2
      go_roundw
      case rel => exact ⟨4, by omega, by first | rfl | go_num, below_drewN HB.out _⟩
      case measure => simp [intOf]
    · have q0 : wr.cell? ⟨w.heap.size, 4, none⟩ = some (.int .i64 8) := (hB.cell (p := ⟨w.heap.size, 4, none⟩) hbl).trans (by rw [cell_of_row _ _ _ _ 32 (0, 0) HROW.out]; rfl)
      have hw : IntKind.i64.wrap 8 = 8 := by decide
      have HB := Lib.hid hB
      clear hB
      go_wp2_with fail
      go_quiet (fail)
      go_wp2
      go_roundw
      case rel => exact ⟨5, by omega, by first | rfl | go_num, below_drewN HB.out _⟩
      case measure => simp [intOf]
    · have q0 : wr.cell? ⟨w.heap.size, 5, none⟩ = some (.int .i64 8) := (hB.cell (p := ⟨w.heap.size, 5, none⟩) hbl).trans (by rw [cell_of_row _ _ _ _ 32 (0, 0) HROW.out]; rfl)
      have hw : IntKind.i64.wrap 8 = 8 := by decide
      have HB := Lib.hid hB
      clear hB
      go_wp2_with fail
      go_quiet (fail)
      go_wp2
      go_roundw
      case rel => exact ⟨6, by omega, by first | rfl | go_num, below_drewN HB.out _⟩
      case measure => simp [intOf]
    · have q0 : wr.cell? ⟨w.heap.size, 6, none⟩ = some (.int .i64 8) := (hB.cell (p := ⟨w.heap.size, 6, none⟩) hbl).trans (by rw [cell_of_row _ _ _ _ 32 (0, 0) HROW.out]; rfl)
      have hw : IntKind.i64.wrap 8 = 8 := by decide
      have HB := Lib.hid hB
      clear hB
      go_wp2_with fail
      go_quiet (fail)
      go_wp2
      go_roundw
      case rel => exact ⟨7, by omega, by first | rfl | go_num, below_drewN HB.out _⟩
      case measure => simp [intOf]
    · have q0 : wr.cell? ⟨w.heap.size, 7, none⟩ = some (.int .i64 8) := (hB.cell (p := ⟨w.heap.size, 7, none⟩) hbl).trans (by rw [cell_of_row _ _ _ _ 32 (0, 0) HROW.out]; rfl)
      have hw : IntKind.i64.wrap 8 = 8 := by decide
      have HB := Lib.hid hB
      clear hB
      go_wp2_with fail
      go_quiet (fail)
      go_wp2
      go_roundw
      case rel => exact ⟨8, by omega, by first | rfl | go_num, below_drewN HB.out _⟩
      case measure => simp [intOf]
    · have HBX := Lib.hid (Below.then HB1.out hB)
      clear hB
      go_wp2_with fail
      refine (set_any 8 _ _).mono ?_
      rintro e w9 ⟨rfl, rfl⟩
      rw [HS3.out]
      go_wp2_with fail
      refine (set_any 8 _ _).mono ?_
      rintro e w9 ⟨rfl, rfl⟩
      rw [HS2.out]
      go_wp2_with fail
      refine (set_any 3 _ _).mono ?_
      rintro e w9 ⟨rfl, rfl⟩
      rw [HS4.out]
      go_wp2_with fail
      refine (set_any 8 _ _).mono ?_
      rintro e w9 ⟨rfl, rfl⟩
      rw [HS5.out]
      go_wp2_with fail
      refine (wakes_any _).mono ?_
      rintro e w9 ⟨rfl, hb9⟩
      have HB9 := Lib.hid (Below.then HBX.out hb9)
      clear hb9
      go_wp2
      go_ret
      exact ⟨rfl, HB9.out⟩
section
variable {H : Type} {enc : TypeId × Value → H}
theorem sets_walk {base : Nat} (W : World) (v0 v1 : Value) (a0 : Arg enc Try.prog W base 5 v0) (a1 : Arg enc Try.prog W base 5 v1) :
    Calls Try.prog 5 #[v0, v1] W fun e w' => e = .returned (.bool true) ∧ Below W.heap.size W w' := by
  obtain ⟨n, rfl, hn⟩ := a0.int Try.underlying5
  obtain ⟨hn0, hn1⟩ := wf_u8 hn
  obtain ⟨m, rfl, hm⟩ := a1.int Try.underlying5
  obtain ⟨hm0, hm1⟩ := wf_u8 hm
  have h : n % 4 = 0 ∨ n % 4 = 1 ∨ n % 4 = 2 ∨ n % 4 = 3 := by omega
  rcases h with h | h | h | h
  · exact sets_law1 n m h hn0 hn1 hm0 hm1 W
  · exact sets_law2 n m h hn0 hn1 hm0 hm1 W
  · exact sets_law4 n m h hn0 hn1 hm0 hm1 W
  · exact sets_law8 n m h hn0 hn1 hm0 hm1 W
end
end Go.Proofs.Ytmjienajfjjdhaa
