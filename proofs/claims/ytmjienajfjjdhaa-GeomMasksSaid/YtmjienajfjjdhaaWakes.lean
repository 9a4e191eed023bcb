/-
  Lists alike; the first core; the statement's own test.
-/
import Derived.Test.YtmjienajfjjdhaaCores
namespace Go.Proofs.Ytmjienajfjjdhaa
open Go.RowKit
attribute [local go_sem ↓] Go.wp_at_zero Go.wp_at_succ

set_option maxRecDepth 100000 in
set_option maxHeartbeats 4000000 in
theorem ints_same (va vb : Value) (xs : List Nat) (w : World) (ha : Rds w 1 va xs.length (encI xs)) (hb : Rds w 1 vb xs.length (encI xs)) :
    Calls Try.prog 12 #[va, vb] w fun e w' => e = .returned (.bool true) ∧ Below w.heap.size w w' := by
  obtain ⟨_, a, capa, rfl, p2, p3, p4, p5⟩ := ha
  obtain ⟨_, b, capb, rfl, q2, q3, q4, q5⟩ := hb
  obtain ⟨n, hn⟩ : ∃ n, xs.length = n := ⟨_, rfl⟩
  have HN := Lib.hid hn
  rw [hn] at p2 p4 p5 q2 q4 q5 ⊢
  have P5 := Lib.hid p5; have Q5 := Lib.hid q5
  have ma : maxLen = 9223372036854775807 := rfl
  rw [ma] at p3
  clear hn p4 p5 q3 q4 q5 ma
  go_enter Try.func12, Try.ntmps12
  go_wp2
  go_loopw [5] (fun i w' => ∃ j : Nat, j ≤ n ∧ i = .int .i64 j ∧ Below w.heap.size w w') (fun i _ => n - (intOf i).toNat)
  case atStart => exact ⟨0, by omega, rfl, Below.refl _ _⟩
  case round =>
  obtain ⟨j, hj, rfl, hB⟩ := hrel
  by_cases hlt : j < n
  · obtain ⟨x, hx⟩ : ∃ x, xs[j]? = some x := ⟨_, List.getElem?_eq_getElem (by rw [HN.out]; exact hlt)⟩
    obtain ⟨ga, oa, rfl, ga1, ca⟩ := P5.out (by omega)
    obtain ⟨gb, ob, rfl, gb1, cb⟩ := Q5.out (by omega)
    have hu : (encI xs)[j]? = some (.int .i64 x) := by simp [encI, hx]
    have x0 : wr.cell? ⟨ga, oa + j, none⟩ = some (.int .i64 x) := (hB.cell (p := ⟨ga, oa + j, none⟩) ga1).trans (ca j _ hu)
    have y0 : wr.cell? ⟨gb, ob + j, none⟩ = some (.int .i64 x) := (hB.cell (p := ⟨gb, ob + j, none⟩) gb1).trans (cb j _ hu)
    have HB := Lib.hid hB
    have hj0 : (0 : Int) ≤ (j : Int) := by omega
    have hj1 : (j : Int) < (n : Int) := by omega
    clear hB hu hx ca cb
    go_wp2
    go_quiet (fail)
    go_wp2
    go_roundw
    case rel => exact ⟨j + 1, by omega, by go_num, below_drewN HB.out _⟩
    case measure => simp [intOf]; omega
  · have hj1 : ¬ (j : Int) < (n : Int) := by omega
    go_wp2
    go_ret
    exact ⟨rfl, hB⟩
def firstI (m : Int) : Int := match coresU m 8 with
  | [] => -1
  | x :: _ => x
set_option maxRecDepth 100000 in
theorem first_any (m : Int) (w : World) : Calls Try.prog 16 #[.int .u8 m] w fun e w' => e = .returned (.int .i64 (firstI m)) ∧ Below w.heap.size w w' := by
  go_enter Try.func16, Try.ntmps16
  go_wp2_with fail
  refine (cores_any m _).mono ?_
  rintro e w1 ⟨v1, rfl, hO, hB⟩
  have HB := Lib.hid hB
  rcases hl : coresU m 8 with _ | ⟨x, t⟩
  · have hf : firstI m = -1 := by rw [firstI, hl]
    rw [hl] at hO
    obtain ⟨a, c, rfl, _, _⟩ := hO.any
    have HF := Lib.hid hf
    clear hf hl hO hB
    simp only [List.length_nil]
    go_wp2
    go_ret
    exact ⟨by rw [HF.out]; rfl, HB.out⟩
  · have hf : firstI m = x := by rw [firstI, hl]
    rw [hl] at hO
    obtain ⟨g, o, c, rfl, _, _, _, _, hc, _⟩ := hO.form (by simp)
    have q0 : w1.cell? ⟨g, o, none⟩ = some (.int .i64 x) := hc 0 _ rfl
    obtain ⟨k, hk⟩ : ∃ k, (x :: t).length = k := ⟨_, rfl⟩
    have hk0 : (0 : Int) < (k : Int) := by simp at hk; omega
    have hk1 : ¬ (k : Int) = 0 := by omega
    rw [hk]
    have HF := Lib.hid hf
    clear hf hl hO hB hc hk
    go_wp2
    go_ret
    exact ⟨by rw [HF.out]; rfl, HB.out⟩
set_option maxRecDepth 100000 in
theorem rfirst_any (m : Int) (w : World) : Calls Try.prog 17 #[.int .u8 m] w fun e w' => e = .returned (.int .i64 (firstI m)) ∧ Below w.heap.size w w' := by
  go_enter Try.func17, Try.ntmps17
  go_wp2_with fail
  refine (rcores_any m _).mono ?_
  rintro e w1 ⟨v1, rfl, hO, hB⟩
  have HB := Lib.hid hB
  rcases hl : coresU m 8 with _ | ⟨x, t⟩
  · have hf : firstI m = -1 := by rw [firstI, hl]
    rw [hl] at hO
    obtain ⟨a, c, rfl, _, _⟩ := hO.any
    have HF := Lib.hid hf
    clear hf hl hO hB
    simp only [List.length_nil]
    go_wp2
    go_ret
    exact ⟨by rw [HF.out]; rfl, HB.out⟩
  · have hf : firstI m = x := by rw [firstI, hl]
    rw [hl] at hO
    obtain ⟨g, o, c, rfl, _, _, _, _, hc, _⟩ := hO.form (by simp)
    have q0 : w1.cell? ⟨g, o, none⟩ = some (.int .i64 x) := hc 0 _ rfl
    obtain ⟨k, hk⟩ : ∃ k, (x :: t).length = k := ⟨_, rfl⟩
    have hk0 : (0 : Int) < (k : Int) := by simp at hk; omega
    have hk1 : ¬ (k : Int) = 0 := by omega
    rw [hk]
    have HF := Lib.hid hf
    clear hf hl hO hB hc hk
    go_wp2
    go_ret
    exact ⟨by rw [HF.out]; rfl, HB.out⟩

theorem rds_pair (w : World) (a b : Nat) : Rds (w.alloc (.cells #[.int .i64 a, .int .i64 b] 3)) 1 (.slice (some ⟨w.heap.size, 0, none⟩) 2 2) [a, b].length (encI [a, b]) :=
  ⟨rfl, _, _, rfl, Nat.le_refl _, by simp [maxLen], fun h => (by cases h), fun _ => ⟨w.heap.size, 0, rfl, by simp, fun j u hj => by
    rw [Nat.zero_add, cell_of_row _ _ _ _ 3 (0, 0) (heap_alloc_new w _)]
    simpa [encI] using hj⟩⟩
set_option maxRecDepth 100000 in
set_option maxHeartbeats 4000000 in
theorem wakes_any (w : World) : Calls Try.prog 18 #[] w fun e w' => e = .returned (.bool true) ∧ Below w.heap.size w w' := by
  have hc5 : coresU 5 8 = [0, 2] := by decide
  have hs : setI 4 7 = 3 := by decide
  have hb : bitI 3 = 8 := by decide
  have hh : hasB 8 3 = true := by decide
  have hp : pcI 7 = 3 := by decide
  have hf : firstI 12 = 2 := by decide
  have hg : firstI 0 = -1 := by decide
  have c1 := fun w => cores_any 5 w
  rw [hc5] at c1
  have c2 := fun w => set_any 4 7 w
  rw [hs] at c2
  have c3 := fun w => bit_any 3 w
  rw [hb] at c3
  have c4 := fun w => has_any 8 3 w
  rw [hh] at c4
  have c5 := fun w => count_any 7 (by omega) (by omega) w
  rw [hp] at c5
  have c6 := fun w => first_any 12 w
  rw [hf] at c6
  have c7 := fun w => first_any 0 w
  rw [hg] at c7
  have C1 := Lib.hid c1; have C2 := Lib.hid c2; have C3 := Lib.hid c3; have C4 := Lib.hid c4; have C5 := Lib.hid c5; have C6 := Lib.hid c6; have C7 := Lib.hid c7
  clear c1 c2 c3 c4 c5 c6 c7 hc5 hs hb hh hp hf hg
  go_enter Try.func18, Try.ntmps18
  go_wp2_with fail
  refine (C1.out _).mono ?_
  rintro e w1 ⟨v1, rfl, hO1, hB1⟩
  have HO1 := Lib.hid hO1; have HB1 := Lib.hid hB1
  clear hO1 hB1
  go_wp2_with fail
  refine (ints_same _ _ [0, 2] _ (HO1.out.below' (Below.al (Below.refl _ _) _)).rds (rds_pair w1 0 2)).mono ?_
  rintro e w2 ⟨rfl, hb2⟩
  have HB2 := Lib.hid (Below.then (Below.al HB1.out _) hb2)
  clear hb2
  go_wp2_with fail
  refine (C2.out _).mono ?_
  rintro e w3 ⟨rfl, rfl⟩
  go_wp2_with fail
  refine (C3.out _).mono ?_
  rintro e w3 ⟨rfl, rfl⟩
  go_wp2_with fail
  refine (C4.out _).mono ?_
  rintro e w3 ⟨rfl, rfl⟩
  go_wp2_with fail
  refine (C5.out _).mono ?_
  rintro e w3 ⟨rfl, hb3⟩
  have HB3 := Lib.hid (Below.then HB2.out hb3)
  clear hb3
  go_wp2_with fail
  refine (C6.out _).mono ?_
  rintro e w4 ⟨rfl, hb4⟩
  have HB4 := Lib.hid (Below.then HB3.out hb4)
  clear hb4
  go_wp2_with fail
  refine (C7.out _).mono ?_
  rintro e w5 ⟨rfl, hb5⟩
  have HB5 := Lib.hid (Below.then HB4.out hb5)
  clear hb5
  go_wp2
  go_ret
  exact ⟨rfl, HB5.out⟩
end Go.Proofs.Ytmjienajfjjdhaa
