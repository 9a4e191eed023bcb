/-
  A heap's plan: of; addresses of words.
-/
import Derived.Test.YtejeghfddnbhaaaPlan
import Derived.Deep.QuietTactic
import Derived.BigQuiet
namespace Go.Proofs.Ytejeghfddnbhaaa
open Go.RowKit
attribute [local go_sem ↓] Go.wp_at_zero Go.wp_at_succ

def addrW (line n : Int) : Int := if 0 ≤ line ∧ line < 64 ∧ 0 ≤ n ∧ n < 8 then line * 64 + n * 8 else 0
theorem ret_u64 {a b : Int} (h : a = b) : Ending.returned (.int .u64 a) = .returned (.int .u64 b) := by rw [h]
set_option maxRecDepth 100000 in
set_option maxHeartbeats 4000000 in
theorem closure_any (B n0 n2 : Nat) (c0 c1 c2 c3 c4 c5 c6 c7 : Value) (a b c d e f g p q : Int) (w : World) (hp : w.cell? ⟨n2, 0, none⟩ = some (.pointer (some ⟨B, 0, none⟩)))
    (hh : w.heap[n0]? = some (.cells #[.int .i64 a, .int .i64 b, .int .i64 c, .int .i64 d, .int .i64 e, .int .i64 f, .int .i64 g, .int .i64 p, .int .i64 q] 25 (0, 0))) (hrow : w.heap[B]? = some (.cells #[c0, c1, c2, c3, c4, c5, c6, c7] 62 (0, 0))) :
    Calls Try.prog 35 #[.pointer (some ⟨n2, 0, none⟩), .pointer (some ⟨n0, 0, none⟩)] w fun E w' => E = .returned (.tuple #[]) ∧ Only (fun k => k = B) w w' ∧ ∃ x1 x2 x3, (goodH a b c d e f g p q = true → x1 = c + 1 ∧ x2 = c + 1 + p ∧ x3 = 4 * p) ∧ w'.heap[B]? = some (.cells (PlanRow c0 c1 c2 (goodH a b c d e f g p q) x1 x2 q x3) 62 (0, 0)) := by
  have hk := reckon_any B c0 c1 c2 c3 c4 c5 c6 c7 a b c d e f g p q w hrow
  have HK := Lib.hid hk
  have q0 : w.cell? ⟨n0, 0, none⟩ = some (.int .i64 a) := by rw [cell_of_row _ _ _ _ 25 (0, 0) hh]; rfl
  have q1 : w.cell? ⟨n0, 1, none⟩ = some (.int .i64 b) := by rw [cell_of_row _ _ _ _ 25 (0, 0) hh]; rfl
  have q2 : w.cell? ⟨n0, 2, none⟩ = some (.int .i64 c) := by rw [cell_of_row _ _ _ _ 25 (0, 0) hh]; rfl
  have q3 : w.cell? ⟨n0, 3, none⟩ = some (.int .i64 d) := by rw [cell_of_row _ _ _ _ 25 (0, 0) hh]; rfl
  have q4 : w.cell? ⟨n0, 4, none⟩ = some (.int .i64 e) := by rw [cell_of_row _ _ _ _ 25 (0, 0) hh]; rfl
  have q5 : w.cell? ⟨n0, 5, none⟩ = some (.int .i64 f) := by rw [cell_of_row _ _ _ _ 25 (0, 0) hh]; rfl
  have q6 : w.cell? ⟨n0, 6, none⟩ = some (.int .i64 g) := by rw [cell_of_row _ _ _ _ 25 (0, 0) hh]; rfl
  have q7 : w.cell? ⟨n0, 7, none⟩ = some (.int .i64 p) := by rw [cell_of_row _ _ _ _ 25 (0, 0) hh]; rfl
  have q8 : w.cell? ⟨n0, 8, none⟩ = some (.int .i64 q) := by rw [cell_of_row _ _ _ _ 25 (0, 0) hh]; rfl
  clear hk hrow hh
  go_enter Try.func35, Try.ntmps35
  go_wp2_with fail
  refine HK.out.mono ?_
  rintro e w1 ⟨rfl, h2, h3⟩
  have H2 := Lib.hid h2; have H3 := Lib.hid h3
  clear h2 h3 HK
  go_wp2
  go_end0
  exact ⟨rfl, H2.out, H3.out⟩
def PlanAt (B : Nat) (w : World) (G : Bool) (c p q : Int) : Prop := ∃ x1 x2 x3, (G = true → x1 = c + 1 ∧ x2 = c + 1 + p ∧ x3 = 4 * p) ∧ w.heap[B]? = some (.cells (PlanRow (.int .u32 1) (.int .i32 0) (.int .u32 0) G x1 x2 q x3) 62 (0, 0))
set_option maxRecDepth 100000 in
set_option maxHeartbeats 4000000 in
theorem do_any (B n0 n2 : Nat) (a b c d e f g p q : Int) (w : World) (hn0 : ¬ n0 = B) (hp : w.cell? ⟨n2, 0, none⟩ = some (.pointer (some ⟨B, 0, none⟩)))
    (hh : w.heap[n0]? = some (.cells #[.int .i64 a, .int .i64 b, .int .i64 c, .int .i64 d, .int .i64 e, .int .i64 f, .int .i64 g, .int .i64 p, .int .i64 q] 25 (0, 0))) (hrow : w.heap[B]? = some (.cells #[.int .u32 0, .int .i32 0, .int .u32 0, .bool false, .int .i64 0, .int .i64 0, .int .i64 0, .int .i64 0] 62 (0, 0))) :
    Calls Try.prog 34 #[.pointer (some ⟨B, 0, none⟩), .func (.func 35) #[] #[.pointer (some ⟨n2, 0, none⟩), .pointer (some ⟨n0, 0, none⟩)]] w fun E w' => E = .returned (.tuple #[]) ∧ Only (fun k => k = B) w w' ∧ PlanAt B w' (goodH a b c d e f g p q) c p q := by
  refine (do_first B #[] #[.pointer (some ⟨n2, 0, none⟩), .pointer (some ⟨n0, 0, none⟩)] (fun w1 w2 => Only (fun k => k = B) w1 w2 ∧ ∃ x1 x2 x3, (goodH a b c d e f g p q = true → x1 = c + 1 ∧ x2 = c + 1 + p ∧ x3 = 4 * p) ∧ w2.heap[B]? = some (.cells (PlanRow (.int .u32 0) (.int .i32 1) (.int .u32 0) (goodH a b c d e f g p q) x1 x2 q x3) 62 (0, 0))) w (by rw [cell_of_row _ _ _ _ 62 (0, 0) hrow]; rfl) (by rw [cell_of_row _ _ _ _ 62 (0, 0) hrow]; rfl) (fun o => frozen_of_row w B o _ 62 hrow) ?_).mono ?_
  · rintro w1 rfl
    have hr1 : (w.setCell ⟨B, 1, none⟩ (.int .i32 1)).heap[B]? = some (.cells #[.int .u32 0, .int .i32 1, .int .u32 0, .bool false, .int .i64 0, .int .i64 0, .int .i64 0, .int .i64 0] 62 (0, 0)) := row_setCells B 62 [.int .i32 1] 1 w _ hrow (by show 1 + 1 ≤ 8; omega)
    have hlt0 : n0 < w.heap.size := (Array.getElem?_eq_some_iff.1 hh).1
    have hh1 : (w.setCell ⟨B, 1, none⟩ (.int .i32 1)).heap[n0]? = some (.cells #[.int .i64 a, .int .i64 b, .int .i64 c, .int .i64 d, .int .i64 e, .int .i64 f, .int .i64 g, .int .i64 p, .int .i64 q] 25 (0, 0)) := ((((Only.refl (fun k => k = B) w)).set ⟨B, 1, none⟩ (.int .i32 1) (Or.inl rfl)).block n0 hlt0 hn0).trans hh
    refine (closure_any B n0 n2 _ _ _ _ _ _ _ _ a b c d e f g p q _ ((World.cell?_setCell_other _ ⟨B, 1, none⟩ ⟨n2, 0, none⟩ _ (by simp; try (intro h; omega))).trans hp) hh1 hr1).mono ?_
    rintro e w2 ⟨rfl, hO, x1, x2, x3, hx, hr⟩
    exact ⟨rfl, ⟨hO, x1, x2, x3, hx, hr⟩, by rw [cell_of_row _ _ _ _ 62 (0, 0) hr]; rfl, by rw [cell_of_row _ _ _ _ 62 (0, 0) hr]; rfl, fun o => frozen_of_row w2 B o _ 62 hr⟩
  · rintro e w' ⟨rfl, w2, ⟨hO, x1, x2, x3, hx, hr⟩, hw'⟩
    have hr2 : (w2.drew.setCell ⟨B, 0, none⟩ (.int .u32 1)).heap[B]? = some (.cells (PlanRow (.int .u32 1) (.int .i32 1) (.int .u32 0) (goodH a b c d e f g p q) x1 x2 q x3) 62 (0, 0)) := row_setCells B 62 [.int .u32 1] 0 w2.drew _ hr (by show 0 + 1 ≤ 8; omega)
    have hr3 : ((w2.drew.setCell ⟨B, 0, none⟩ (.int .u32 1)).setCell ⟨B, 1, none⟩ (.int .i32 0)).heap[B]? = some (.cells (PlanRow (.int .u32 1) (.int .i32 0) (.int .u32 0) (goodH a b c d e f g p q) x1 x2 q x3) 62 (0, 0)) := row_setCells B 62 [.int .i32 0] 1 _ _ hr2 (by show 1 + 1 ≤ 8; omega)
    unfold OnceDone at hw'
    rw [hw']
    exact ⟨rfl, (((((Only.refl (fun k => k = B) w).set ⟨B, 1, none⟩ _ (Or.inl rfl)).trans hO).drew).set ⟨B, 0, none⟩ _ (Or.inl rfl)).set ⟨B, 1, none⟩ _ (Or.inl rfl), x1, x2, x3, hx, hr3⟩
set_option maxRecDepth 100000 in
set_option maxHeartbeats 4000000 in
theorem of_new (a b c d e f g p q : Int) (w : World) :
    Calls Try.prog 29 #[.agg #[.int .i64 a, .int .i64 b, .int .i64 c, .int .i64 d, .int .i64 e, .int .i64 f, .int .i64 g, .int .i64 p, .int .i64 q]] w fun E w' => ∃ B, E = .returned (.pointer (some ⟨B, 0, none⟩)) ∧ w.heap.size ≤ B ∧ Below w.heap.size w w' ∧ PlanAt B w' (goodH a b c d e f g p q) c p q := by
  obtain ⟨n0, hn0⟩ : ∃ n0, w.heap.size = n0 := ⟨_, rfl⟩
  obtain ⟨W1, hW1⟩ : ∃ W1, w.alloc (.cells #[.int .i64 a, .int .i64 b, .int .i64 c, .int .i64 d, .int .i64 e, .int .i64 f, .int .i64 g, .int .i64 p, .int .i64 q] 25) = W1 := ⟨_, rfl⟩
  have e1 : W1.heap.size = n0 + 1 := by rw [← hW1, ← hn0]; simp
  obtain ⟨W2, hW2⟩ : ∃ W2, W1.alloc (.cells #[.int .u32 0, .int .i32 0, .int .u32 0, .bool false, .int .i64 0, .int .i64 0, .int .i64 0, .int .i64 0] 62) = W2 := ⟨_, rfl⟩
  have e2 : W2.heap.size = n0 + 1 + 1 := by rw [← hW2, ← e1]; simp
  obtain ⟨W3, hW3⟩ : ∃ W3, W2.alloc (.cells #[.pointer (some ⟨n0 + 1, 0, none⟩)] 63) = W3 := ⟨_, rfl⟩
  have e3 : W3.heap.size = n0 + 1 + 1 + 1 := by rw [← hW3, ← e2]; simp
  have g1 : W1.heap[n0]? = some (.cells #[.int .i64 a, .int .i64 b, .int .i64 c, .int .i64 d, .int .i64 e, .int .i64 f, .int .i64 g, .int .i64 p, .int .i64 q] 25 (0, 0)) := by rw [← hW1, ← hn0]; exact heap_alloc_new w _
  have o1 : Only (fun _ => False) W1 W2 := by rw [← hW2]; exact (Only.refl _ _).al _
  have o2 : Only (fun _ => False) W2 W3 := by rw [← hW3]; exact (Only.refl _ _).al _
  have g2 : W2.heap[n0 + 1]? = some (.cells #[.int .u32 0, .int .i32 0, .int .u32 0, .bool false, .int .i64 0, .int .i64 0, .int .i64 0, .int .i64 0] 62 (0, 0)) := by rw [← hW2, ← e1]; exact heap_alloc_new W1 _
  have g3 : W3.heap[n0 + 1 + 1]? = some (.cells #[.pointer (some ⟨n0 + 1, 0, none⟩)] 63 (0, 0)) := by rw [← hW3, ← e2]; exact heap_alloc_new W2 _
  have hh : W3.heap[n0]? = some (.cells #[.int .i64 a, .int .i64 b, .int .i64 c, .int .i64 d, .int .i64 e, .int .i64 f, .int .i64 g, .int .i64 p, .int .i64 q] 25 (0, 0)) := by rw [o2.block n0 (by omega) (fun h => h), o1.block n0 (by omega) (fun h => h)]; exact g1
  have hrow : W3.heap[n0 + 1]? = some (.cells #[.int .u32 0, .int .i32 0, .int .u32 0, .bool false, .int .i64 0, .int .i64 0, .int .i64 0, .int .i64 0] 62 (0, 0)) := by rw [o2.block (n0 + 1) (by omega) (fun h => h)]; exact g2
  have hp : W3.cell? ⟨n0 + 1 + 1, 0, none⟩ = some (.pointer (some ⟨n0 + 1, 0, none⟩)) := by rw [cell_of_row _ _ _ _ 63 (0, 0) g3]; rfl
  have hB3 : Below n0 w W3 := by rw [← hW3, ← hW2, ← hW1, ← hn0]; exact Below.al (Below.al (Below.al (Below.refl _ _) _) _) _
  have hd := do_any (n0 + 1) n0 (n0 + 1 + 1) a b c d e f g p q W3 (by omega) hp hh hrow
  have HD := Lib.hid hd; have HB := Lib.hid hB3
  have H1 := Lib.hid hW1; have H2 := Lib.hid hW2; have H3 := Lib.hid hW3; have E3 := Lib.hid e3
  clear hd hB3 hh hrow g1 g2 g3 o1 o2 hW1 hW2 hW3 e1 e2 e3
  have HP := Lib.hid hp; clear hp
  go_enter Try.func29, Try.ntmps29
  go_wp2_with fail
  simp only [hn0, H1.out, H2.out, H3.out]
  refine HD.out.mono ?_
  rintro e w1 ⟨rfl, hO, hpl⟩
  have q : w1.cell? ⟨n0 + 1 + 1, 0, none⟩ = some (.pointer (some ⟨n0 + 1, 0, none⟩)) := (hO.cell (p := ⟨n0 + 1 + 1, 0, none⟩) (by rw [E3.out]; simp) (by simp)).trans HP.out
  have hB : Below n0 w w1 := HB.out.trans (hO.below (by rw [E3.out]; omega) (fun k hk => by omega))
  have HB1 := Lib.hid hB; have HPL := Lib.hid hpl
  clear HD HB H1 H2 H3 E3 HP hO hB hpl
  go_wp2
  go_ret
  exact ⟨n0 + 1, rfl, by omega, by rw [hn0]; exact HB1.out, HPL.out⟩
end Go.Proofs.Ytejeghfddnbhaaa
