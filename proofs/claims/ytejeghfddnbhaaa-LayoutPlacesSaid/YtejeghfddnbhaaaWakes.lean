/-
  'wakes' answers true.
-/
import Derived.Test.YtejeghfddnbhaaaMap
import Derived.Test.YtejeghfddnbhaaaAlike
namespace Go.Proofs.Ytejeghfddnbhaaa
open Go.RowKit
attribute [local go_sem ↓] Go.wp_at_zero Go.wp_at_succ
def ms8 : List Int := [1, 2, 3, 4, 5, 6, 7, 8]
def img8 : List Ln := [Ln.zero, Ln.zero, Ln.zero, Ln.zero, ⟨1, 2, 3, 4, 5, 6, 7, 8⟩]
theorem good8 : goodH 2 5 1 1 2 2 2 2 1 = true := by decide
theorem image8 (gm : Nat) (w : World) (hgm : gm < w.heap.size) (hcm : ∀ j u, (encU ms8)[j]? = some u → w.cell? ⟨gm, 0 + j, none⟩ = some u) :
    Calls Try.prog 21 #[.agg #[.int .i64 2, .int .i64 5, .int .i64 1, .int .i64 1, .int .i64 2, .int .i64 2, .int .i64 2, .int .i64 2, .int .i64 1], .slice (some ⟨gm, 0, none⟩) 8 8] w fun E w' => ∃ v, E = .returned (.tuple #[v, .int .i64 0]) ∧ Own w' w.heap.size 68 8 v 5 (encLns img8) ∧ Below w.heap.size w w' :=
  image_yes 2 5 1 1 2 2 2 2 1 5 4 gm 0 8 ms8 w good8 rfl rfl rfl (Nat.le_refl _) hgm hcm
theorem map8 (gl ol capl : Nat) (w : World) (hcap : 5 ≤ capl) (hgl : gl < w.heap.size) (hcl : ∀ j u, (encLns img8)[j]? = some u → w.cell? ⟨gl, ol + j, none⟩ = some u) :
    Calls Try.prog 24 #[.agg #[.int .i64 2, .int .i64 5, .int .i64 1, .int .i64 1, .int .i64 2, .int .i64 2, .int .i64 2, .int .i64 2, .int .i64 1], .slice (some ⟨gl, ol, none⟩) 5 capl] w fun E w' => ∃ v, E = .returned v ∧ Own w' w.heap.size 27 1 v 8 (encU ms8) ∧ Below w.heap.size w w' :=
  map_yes 2 5 1 1 2 2 2 2 1 5 4 1 gl ol capl img8 w good8 rfl rfl rfl rfl hcap hgl hcl
set_option maxRecDepth 100000 in
set_option maxHeartbeats 8000000 in
theorem plain_any (w : World) : Calls Try.prog 27 #[] w fun E w' => E = .returned (.agg #[.int .i64 2, .int .i64 5, .int .i64 1, .int .i64 1, .int .i64 2, .int .i64 2, .int .i64 2, .int .i64 2, .int .i64 1]) ∧ Below w.heap.size w w' := by
  go_enter Try.func27, Try.ntmps27
  go_wp2
  exact bodyPost_ret (v := .agg #[.int .i64 2, .int .i64 5, .int .i64 1, .int .i64 1, .int .i64 2, .int .i64 2, .int .i64 2, .int .i64 2, .int .i64 1]) (by simp [results, Try.results27, go_sem]) rfl ⟨rfl, Below.al (Below.refl _ _) _⟩
theorem count8 (w : World) : Calls Try.prog 10 #[.agg #[.int .i64 2, .int .i64 5, .int .i64 1, .int .i64 1, .int .i64 2, .int .i64 2, .int .i64 2, .int .i64 2, .int .i64 1]] w fun E w' => E = .returned (.int .u64 64) ∧ Below w.heap.size w w' := by
  have h := count_any 2 5 1 1 2 2 2 2 1 w
  rw [good8, show countI true 1 = 64 by decide] at h
  exact h
theorem entry8 (w : World) : Calls Try.prog 12 #[.agg #[.int .i64 2, .int .i64 5, .int .i64 1, .int .i64 1, .int .i64 2, .int .i64 2, .int .i64 2, .int .i64 2, .int .i64 1], .int .i64 1] w fun E w' => E = .returned (.int .u64 144) ∧ Below w.heap.size w w' := by
  have h := entry_any 2 5 1 1 2 2 2 2 1 1 w
  rw [good8, show entryI true 1 2 1 = 144 by decide] at h
  exact h
theorem word8 (w : World) : Calls Try.prog 14 #[.agg #[.int .i64 2, .int .i64 5, .int .i64 1, .int .i64 1, .int .i64 2, .int .i64 2, .int .i64 2, .int .i64 2, .int .i64 1], .int .i64 1] w fun E w' => E = .returned (.int .u64 264) ∧ Below w.heap.size w w' := by
  have h := word_any 2 5 1 1 2 2 2 2 1 1 w
  rw [good8, show wordI true 1 2 1 1 = 264 by decide] at h
  exact h
theorem room8 (w : World) : Calls Try.prog 16 #[.agg #[.int .i64 2, .int .i64 5, .int .i64 1, .int .i64 1, .int .i64 2, .int .i64 2, .int .i64 2, .int .i64 2, .int .i64 1]] w fun E w' => E = .returned (.int .i64 8) ∧ Below w.heap.size w w' := by
  have h := room_any 2 5 1 1 2 2 2 2 1 w
  rw [good8, show roomI true 2 = 8 by decide] at h
  exact h
theorem words8 (w : World) : Calls Try.prog 18 #[.agg #[.int .i64 2, .int .i64 5, .int .i64 1, .int .i64 1, .int .i64 2, .int .i64 2, .int .i64 2, .int .i64 2, .int .i64 1]] w fun E w' => E = .returned (.int .i64 8) ∧ Below w.heap.size w w' := by
  have h := words_any 2 5 1 1 2 2 2 2 1 w
  rw [good8, show wordsI true 1 = 8 by decide] at h
  exact h
theorem gd8 (w : World) : Calls Try.prog 7 #[.agg #[.int .i64 2, .int .i64 5, .int .i64 1, .int .i64 1, .int .i64 2, .int .i64 2, .int .i64 2, .int .i64 2, .int .i64 1]] w fun E w' => E = .returned (.bool true) ∧ Below w.heap.size w w' := by
  have h := gd_any 2 5 1 1 2 2 2 2 1 w
  rw [good8] at h
  exact h
set_option maxRecDepth 100000 in
set_option maxHeartbeats 8000000 in
theorem wakes_any (w : World) : Calls Try.prog 20 #[] w fun E w' => E = .returned (.bool true) ∧ Below w.heap.size w w' := by
  go_enter Try.func20, Try.ntmps20
  go_wp2_with fail
  refine (plain_any _).mono ?_
  rintro e w1 ⟨rfl, hb1⟩
  have HB := Lib.hid hb1
  clear hb1
  go_wp2_with fail
  obtain ⟨hb0, hh0⟩ : ∃ hb0, w1.heap.size = hb0 := ⟨_, rfl⟩
  obtain ⟨W1, hW1⟩ : ∃ W1, w1.alloc (.cells #[.int .i64 2, .int .i64 5, .int .i64 1, .int .i64 1, .int .i64 2, .int .i64 2, .int .i64 2, .int .i64 2, .int .i64 1] 25) = W1 := ⟨_, rfl⟩
  obtain ⟨W2, hW2⟩ : ∃ W2, W1.alloc (.cells #[.int .u64 1, .int .u64 2, .int .u64 3, .int .u64 4, .int .u64 5, .int .u64 6, .int .u64 7, .int .u64 8] 27) = W2 := ⟨_, rfl⟩
  have e1 : W1.heap.size = hb0 + 1 := by rw [← hW1, ← hh0]; simp
  have g1 : W1.heap[hb0]? = some (.cells #[.int .i64 2, .int .i64 5, .int .i64 1, .int .i64 1, .int .i64 2, .int .i64 2, .int .i64 2, .int .i64 2, .int .i64 1] 25 (0, 0)) := by rw [← hW1, ← hh0]; exact heap_alloc_new w1 _
  have g2 : W2.heap[hb0 + 1]? = some (.cells #[.int .u64 1, .int .u64 2, .int .u64 3, .int .u64 4, .int .u64 5, .int .u64 6, .int .u64 7, .int .u64 8] 27 (0, 0)) := by rw [← hW2, ← e1]; exact heap_alloc_new W1 _
  have g3 := below_row g1 (by rw [← hW2]; exact Below.al (Below.refl _ _) _ : Below W1.heap.size W1 W2)
  have hB2 : Below w.heap.size w W2 := by rw [← hW2, ← hW1]; exact Below.al (Below.al HB.out _) _
  simp only [hh0, hW1, hW2]
  have hsz2 : hb0 + 1 < W2.heap.size := (Array.getElem?_eq_some_iff.1 g2).1
  have HB2 := Lib.hid hB2; have G2 := Lib.hid g2; have G3 := Lib.hid g3
  clear hW1 hW2 g1 g2 g3 hB2 e1 HB hh0
  refine (image8 (hb0 + 1) W2 hsz2 (fun j u hj => by rw [cell_of_row _ _ _ _ 27 (0, 0) G2.out, Nat.zero_add]; simpa [encU, ms8] using hj)).mono ?_
  rintro e w3 ⟨v, rfl, hO, hb3⟩
  obtain ⟨g, o, cap, rfl, hcap, _, hgb, hgl, hcl, -⟩ := hO.form (by omega)
  have c34 : w3.cell? ⟨g, o + 4 * 8 + 2, none⟩ = some (.int .u64 3) := by rw [Nat.add_assoc]; exact hcl 34 _ rfl
  have G2' := Lib.hid (below_row G2.out hb3); have G3' := Lib.hid (below_row G3.out hb3); have HB3 := Lib.hid (Below.then HB2.out hb3)
  have HCL := Lib.hid hcl
  have hc5 : (5 : Int) ≤ (cap : Int) := by omega
  clear G2 G3 HB2 hb3 hO hcl
  have hbx := G3'.out
  have q0 : w3.cell? ⟨hb0, 0, none⟩ = some (.int .i64 2) := by rw [cell_of_row _ _ _ _ 25 (0, 0) hbx]; rfl
  have q1 : w3.cell? ⟨hb0, 1, none⟩ = some (.int .i64 5) := by rw [cell_of_row _ _ _ _ 25 (0, 0) hbx]; rfl
  have q2 : w3.cell? ⟨hb0, 2, none⟩ = some (.int .i64 1) := by rw [cell_of_row _ _ _ _ 25 (0, 0) hbx]; rfl
  have q3 : w3.cell? ⟨hb0, 3, none⟩ = some (.int .i64 1) := by rw [cell_of_row _ _ _ _ 25 (0, 0) hbx]; rfl
  have q4 : w3.cell? ⟨hb0, 4, none⟩ = some (.int .i64 2) := by rw [cell_of_row _ _ _ _ 25 (0, 0) hbx]; rfl
  have q5 : w3.cell? ⟨hb0, 5, none⟩ = some (.int .i64 2) := by rw [cell_of_row _ _ _ _ 25 (0, 0) hbx]; rfl
  have q6 : w3.cell? ⟨hb0, 6, none⟩ = some (.int .i64 2) := by rw [cell_of_row _ _ _ _ 25 (0, 0) hbx]; rfl
  have q7 : w3.cell? ⟨hb0, 7, none⟩ = some (.int .i64 2) := by rw [cell_of_row _ _ _ _ 25 (0, 0) hbx]; rfl
  have q8 : w3.cell? ⟨hb0, 8, none⟩ = some (.int .i64 1) := by rw [cell_of_row _ _ _ _ 25 (0, 0) hbx]; rfl
  clear hbx
  go_wp2_with fail
  refine (map8 g o cap _ hcap hgl HCL.out).mono ?_
  rintro e w4 ⟨vm, rfl, hO4, hb4⟩
  have HO4 := Lib.hid hO4
  have g2 := below_row G2'.out hb4
  have hr4 : Rds w4 1 (.slice (some ⟨hb0 + 1, 0, none⟩) 8 8) 8 (encU ms8) := ⟨rfl, _, 8, rfl, Nat.le_refl _, by unfold maxLen; omega, fun h => (by cases h), fun _ => ⟨hb0 + 1, 0, rfl, (Array.getElem?_eq_some_iff.1 g2).1, fun j u hj => by rw [cell_of_row _ _ _ _ 27 (0, 0) g2, Nat.zero_add]; simpa [encU, ms8] using hj⟩⟩
  have HR4 := Lib.hid hr4
  have GA := Lib.hid (below_row G3'.out hb4); have BA := Lib.hid (Below.then HB3.out hb4)
  clear g2 hr4 hb4 hO4 c34 HCL G2' G3' HB3
  clear q0 q1 q2 q3 q4 q5 q6 q7 q8
  go_wp2_with fail
  refine (words_same _ _ ms8 ms8 _ HO4.out.rds HR4.out).mono ?_
  rintro e w5 ⟨rfl, hb5⟩
  have GB := Lib.hid (below_row GA.out hb5); have BB := Lib.hid (Below.then BA.out hb5)
  clear hb5 GA BA HO4 HR4
  have hd8 : decide (ms8 = ms8) = true := decide_eq_true rfl
  rw [hd8]
  have hbx := GB.out
  have q0 : w5.cell? ⟨hb0, 0, none⟩ = some (.int .i64 2) := by rw [cell_of_row _ _ _ _ 25 (0, 0) hbx]; rfl
  have q1 : w5.cell? ⟨hb0, 1, none⟩ = some (.int .i64 5) := by rw [cell_of_row _ _ _ _ 25 (0, 0) hbx]; rfl
  have q2 : w5.cell? ⟨hb0, 2, none⟩ = some (.int .i64 1) := by rw [cell_of_row _ _ _ _ 25 (0, 0) hbx]; rfl
  have q3 : w5.cell? ⟨hb0, 3, none⟩ = some (.int .i64 1) := by rw [cell_of_row _ _ _ _ 25 (0, 0) hbx]; rfl
  have q4 : w5.cell? ⟨hb0, 4, none⟩ = some (.int .i64 2) := by rw [cell_of_row _ _ _ _ 25 (0, 0) hbx]; rfl
  have q5 : w5.cell? ⟨hb0, 5, none⟩ = some (.int .i64 2) := by rw [cell_of_row _ _ _ _ 25 (0, 0) hbx]; rfl
  have q6 : w5.cell? ⟨hb0, 6, none⟩ = some (.int .i64 2) := by rw [cell_of_row _ _ _ _ 25 (0, 0) hbx]; rfl
  have q7 : w5.cell? ⟨hb0, 7, none⟩ = some (.int .i64 2) := by rw [cell_of_row _ _ _ _ 25 (0, 0) hbx]; rfl
  have q8 : w5.cell? ⟨hb0, 8, none⟩ = some (.int .i64 1) := by rw [cell_of_row _ _ _ _ 25 (0, 0) hbx]; rfl
  clear hbx
  go_wp2_with fail
  refine (count8 _).mono ?_
  rintro e w6 ⟨rfl, hb⟩
  have GC := Lib.hid (below_row GB.out hb); have BC := Lib.hid (Below.then BB.out hb)
  clear hb GB BB
  clear q0 q1 q2 q3 q4 q5 q6 q7 q8
  have hbx := GC.out
  have q0 : w6.cell? ⟨hb0, 0, none⟩ = some (.int .i64 2) := by rw [cell_of_row _ _ _ _ 25 (0, 0) hbx]; rfl
  have q1 : w6.cell? ⟨hb0, 1, none⟩ = some (.int .i64 5) := by rw [cell_of_row _ _ _ _ 25 (0, 0) hbx]; rfl
  have q2 : w6.cell? ⟨hb0, 2, none⟩ = some (.int .i64 1) := by rw [cell_of_row _ _ _ _ 25 (0, 0) hbx]; rfl
  have q3 : w6.cell? ⟨hb0, 3, none⟩ = some (.int .i64 1) := by rw [cell_of_row _ _ _ _ 25 (0, 0) hbx]; rfl
  have q4 : w6.cell? ⟨hb0, 4, none⟩ = some (.int .i64 2) := by rw [cell_of_row _ _ _ _ 25 (0, 0) hbx]; rfl
  have q5 : w6.cell? ⟨hb0, 5, none⟩ = some (.int .i64 2) := by rw [cell_of_row _ _ _ _ 25 (0, 0) hbx]; rfl
  have q6 : w6.cell? ⟨hb0, 6, none⟩ = some (.int .i64 2) := by rw [cell_of_row _ _ _ _ 25 (0, 0) hbx]; rfl
  have q7 : w6.cell? ⟨hb0, 7, none⟩ = some (.int .i64 2) := by rw [cell_of_row _ _ _ _ 25 (0, 0) hbx]; rfl
  have q8 : w6.cell? ⟨hb0, 8, none⟩ = some (.int .i64 1) := by rw [cell_of_row _ _ _ _ 25 (0, 0) hbx]; rfl
  clear hbx
  go_wp2_with fail
  refine (entry8 _).mono ?_
  rintro e w7 ⟨rfl, hb⟩
  have GD := Lib.hid (below_row GC.out hb); have BD := Lib.hid (Below.then BC.out hb)
  clear hb GC BC
  clear q0 q1 q2 q3 q4 q5 q6 q7 q8
  have hbx := GD.out
  have q0 : w7.cell? ⟨hb0, 0, none⟩ = some (.int .i64 2) := by rw [cell_of_row _ _ _ _ 25 (0, 0) hbx]; rfl
  have q1 : w7.cell? ⟨hb0, 1, none⟩ = some (.int .i64 5) := by rw [cell_of_row _ _ _ _ 25 (0, 0) hbx]; rfl
  have q2 : w7.cell? ⟨hb0, 2, none⟩ = some (.int .i64 1) := by rw [cell_of_row _ _ _ _ 25 (0, 0) hbx]; rfl
  have q3 : w7.cell? ⟨hb0, 3, none⟩ = some (.int .i64 1) := by rw [cell_of_row _ _ _ _ 25 (0, 0) hbx]; rfl
  have q4 : w7.cell? ⟨hb0, 4, none⟩ = some (.int .i64 2) := by rw [cell_of_row _ _ _ _ 25 (0, 0) hbx]; rfl
  have q5 : w7.cell? ⟨hb0, 5, none⟩ = some (.int .i64 2) := by rw [cell_of_row _ _ _ _ 25 (0, 0) hbx]; rfl
  have q6 : w7.cell? ⟨hb0, 6, none⟩ = some (.int .i64 2) := by rw [cell_of_row _ _ _ _ 25 (0, 0) hbx]; rfl
  have q7 : w7.cell? ⟨hb0, 7, none⟩ = some (.int .i64 2) := by rw [cell_of_row _ _ _ _ 25 (0, 0) hbx]; rfl
  have q8 : w7.cell? ⟨hb0, 8, none⟩ = some (.int .i64 1) := by rw [cell_of_row _ _ _ _ 25 (0, 0) hbx]; rfl
  clear hbx
  go_wp2_with fail
  refine (word8 _).mono ?_
  rintro e w8 ⟨rfl, hb⟩
  have GE := Lib.hid (below_row GD.out hb); have BE := Lib.hid (Below.then BD.out hb)
  clear hb GD BD
  clear q0 q1 q2 q3 q4 q5 q6 q7 q8
  have hbx := GE.out
  have q0 : w8.cell? ⟨hb0, 0, none⟩ = some (.int .i64 2) := by rw [cell_of_row _ _ _ _ 25 (0, 0) hbx]; rfl
  have q1 : w8.cell? ⟨hb0, 1, none⟩ = some (.int .i64 5) := by rw [cell_of_row _ _ _ _ 25 (0, 0) hbx]; rfl
  have q2 : w8.cell? ⟨hb0, 2, none⟩ = some (.int .i64 1) := by rw [cell_of_row _ _ _ _ 25 (0, 0) hbx]; rfl
  have q3 : w8.cell? ⟨hb0, 3, none⟩ = some (.int .i64 1) := by rw [cell_of_row _ _ _ _ 25 (0, 0) hbx]; rfl
  have q4 : w8.cell? ⟨hb0, 4, none⟩ = some (.int .i64 2) := by rw [cell_of_row _ _ _ _ 25 (0, 0) hbx]; rfl
  have q5 : w8.cell? ⟨hb0, 5, none⟩ = some (.int .i64 2) := by rw [cell_of_row _ _ _ _ 25 (0, 0) hbx]; rfl
  have q6 : w8.cell? ⟨hb0, 6, none⟩ = some (.int .i64 2) := by rw [cell_of_row _ _ _ _ 25 (0, 0) hbx]; rfl
  have q7 : w8.cell? ⟨hb0, 7, none⟩ = some (.int .i64 2) := by rw [cell_of_row _ _ _ _ 25 (0, 0) hbx]; rfl
  have q8 : w8.cell? ⟨hb0, 8, none⟩ = some (.int .i64 1) := by rw [cell_of_row _ _ _ _ 25 (0, 0) hbx]; rfl
  clear hbx
  go_wp2_with fail
  refine (room8 _).mono ?_
  rintro e w9 ⟨rfl, hb⟩
  have GF := Lib.hid (below_row GE.out hb); have BF := Lib.hid (Below.then BE.out hb)
  clear hb GE BE
  clear q0 q1 q2 q3 q4 q5 q6 q7 q8
  have hbx := GF.out
  have q0 : w9.cell? ⟨hb0, 0, none⟩ = some (.int .i64 2) := by rw [cell_of_row _ _ _ _ 25 (0, 0) hbx]; rfl
  have q1 : w9.cell? ⟨hb0, 1, none⟩ = some (.int .i64 5) := by rw [cell_of_row _ _ _ _ 25 (0, 0) hbx]; rfl
  have q2 : w9.cell? ⟨hb0, 2, none⟩ = some (.int .i64 1) := by rw [cell_of_row _ _ _ _ 25 (0, 0) hbx]; rfl
  have q3 : w9.cell? ⟨hb0, 3, none⟩ = some (.int .i64 1) := by rw [cell_of_row _ _ _ _ 25 (0, 0) hbx]; rfl
  have q4 : w9.cell? ⟨hb0, 4, none⟩ = some (.int .i64 2) := by rw [cell_of_row _ _ _ _ 25 (0, 0) hbx]; rfl
  have q5 : w9.cell? ⟨hb0, 5, none⟩ = some (.int .i64 2) := by rw [cell_of_row _ _ _ _ 25 (0, 0) hbx]; rfl
  have q6 : w9.cell? ⟨hb0, 6, none⟩ = some (.int .i64 2) := by rw [cell_of_row _ _ _ _ 25 (0, 0) hbx]; rfl
  have q7 : w9.cell? ⟨hb0, 7, none⟩ = some (.int .i64 2) := by rw [cell_of_row _ _ _ _ 25 (0, 0) hbx]; rfl
  have q8 : w9.cell? ⟨hb0, 8, none⟩ = some (.int .i64 1) := by rw [cell_of_row _ _ _ _ 25 (0, 0) hbx]; rfl
  clear hbx
  go_wp2_with fail
  refine (words8 _).mono ?_
  rintro e w10 ⟨rfl, hb⟩
  have GG := Lib.hid (below_row GF.out hb); have BG := Lib.hid (Below.then BF.out hb)
  clear hb GF BF
  clear q0 q1 q2 q3 q4 q5 q6 q7 q8
  have hbx := GG.out
  have q0 : w10.cell? ⟨hb0, 0, none⟩ = some (.int .i64 2) := by rw [cell_of_row _ _ _ _ 25 (0, 0) hbx]; rfl
  have q1 : w10.cell? ⟨hb0, 1, none⟩ = some (.int .i64 5) := by rw [cell_of_row _ _ _ _ 25 (0, 0) hbx]; rfl
  have q2 : w10.cell? ⟨hb0, 2, none⟩ = some (.int .i64 1) := by rw [cell_of_row _ _ _ _ 25 (0, 0) hbx]; rfl
  have q3 : w10.cell? ⟨hb0, 3, none⟩ = some (.int .i64 1) := by rw [cell_of_row _ _ _ _ 25 (0, 0) hbx]; rfl
  have q4 : w10.cell? ⟨hb0, 4, none⟩ = some (.int .i64 2) := by rw [cell_of_row _ _ _ _ 25 (0, 0) hbx]; rfl
  have q5 : w10.cell? ⟨hb0, 5, none⟩ = some (.int .i64 2) := by rw [cell_of_row _ _ _ _ 25 (0, 0) hbx]; rfl
  have q6 : w10.cell? ⟨hb0, 6, none⟩ = some (.int .i64 2) := by rw [cell_of_row _ _ _ _ 25 (0, 0) hbx]; rfl
  have q7 : w10.cell? ⟨hb0, 7, none⟩ = some (.int .i64 2) := by rw [cell_of_row _ _ _ _ 25 (0, 0) hbx]; rfl
  have q8 : w10.cell? ⟨hb0, 8, none⟩ = some (.int .i64 1) := by rw [cell_of_row _ _ _ _ 25 (0, 0) hbx]; rfl
  clear hbx
  go_wp2_with fail
  refine (gd8 _).mono ?_
  rintro e w11 ⟨rfl, hb⟩
  have GH := Lib.hid (below_row GG.out hb); have BH := Lib.hid (Below.then BG.out hb)
  clear hb GG BG
  clear q0 q1 q2 q3 q4 q5 q6 q7 q8
  have hbx := GH.out
  have q0 : w11.cell? ⟨hb0, 0, none⟩ = some (.int .i64 2) := by rw [cell_of_row _ _ _ _ 25 (0, 0) hbx]; rfl
  have q1 : w11.cell? ⟨hb0, 1, none⟩ = some (.int .i64 5) := by rw [cell_of_row _ _ _ _ 25 (0, 0) hbx]; rfl
  have q2 : w11.cell? ⟨hb0, 2, none⟩ = some (.int .i64 1) := by rw [cell_of_row _ _ _ _ 25 (0, 0) hbx]; rfl
  have q3 : w11.cell? ⟨hb0, 3, none⟩ = some (.int .i64 1) := by rw [cell_of_row _ _ _ _ 25 (0, 0) hbx]; rfl
  have q4 : w11.cell? ⟨hb0, 4, none⟩ = some (.int .i64 2) := by rw [cell_of_row _ _ _ _ 25 (0, 0) hbx]; rfl
  have q5 : w11.cell? ⟨hb0, 5, none⟩ = some (.int .i64 2) := by rw [cell_of_row _ _ _ _ 25 (0, 0) hbx]; rfl
  have q6 : w11.cell? ⟨hb0, 6, none⟩ = some (.int .i64 2) := by rw [cell_of_row _ _ _ _ 25 (0, 0) hbx]; rfl
  have q7 : w11.cell? ⟨hb0, 7, none⟩ = some (.int .i64 2) := by rw [cell_of_row _ _ _ _ 25 (0, 0) hbx]; rfl
  have q8 : w11.cell? ⟨hb0, 8, none⟩ = some (.int .i64 1) := by rw [cell_of_row _ _ _ _ 25 (0, 0) hbx]; rfl
  clear hbx
  go_wp2_with fail
  refine (lock_any 2 5 1 1 2 2 2 2 1 _).mono ?_
  rintro e w12 ⟨rfl, hb⟩
  have BZ := Lib.hid (Below.then BH.out hb)
  clear hb
  clear q0 q1 q2 q3 q4 q5 q6 q7 q8
  go_wp2
  go_ret
  exact ⟨rfl, BZ.out⟩
end Go.Proofs.Ytejeghfddnbhaaa
