/-
  Lists of words alike; 'wakes' answers true.
-/
import Derived.Test.YtigbhlkafmpgmaaRun
namespace Go.Proofs.Ytigbhlkafmpgmaa
open Go.RowKit Go.Maps
attribute [local go_sem ↓] Go.wp_at_zero Go.wp_at_succ
set_option maxRecDepth 100000 in
set_option maxHeartbeats 8000000 in
theorem words_same (va vb : Value) (xs ys : List Int) (w : World) (ha : Rds w 1 va xs.length (encU xs)) (hb : Rds w 1 vb ys.length (encU ys)) :
    Calls Try.prog 12 #[va, vb] w fun e w' => e = .returned (.bool (decide (xs = ys))) ∧ Below w.heap.size w w' := by
  obtain ⟨_, a, capa, rfl, p2, p3, p4, p5⟩ := ha
  obtain ⟨_, b, capb, rfl, q2, q3, q4, q5⟩ := hb
  have ma : maxLen = 9223372036854775807 := rfl
  rw [ma] at p3 q3
  clear ma
  by_cases hlen : xs.length = ys.length
  · obtain ⟨n, hn⟩ : ∃ n, xs.length = n := ⟨_, rfl⟩
    have hn' : ys.length = n := by rw [← hlen]; exact hn
    have HN := Lib.hid hn; have HN' := Lib.hid hn'
    rw [hn] at p2 p4 p5 ⊢
    rw [hn'] at q2 q4 q5 ⊢
    have P5 := Lib.hid p5; have Q5 := Lib.hid q5
    have hl2 : ((n : Int) != (n : Int)) = false := by simp
    clear hn hn' hlen p4 p5 q3 q4 q5
    go_enter Try.func12, Try.ntmps12
    go_wp2
    go_loopw [5] (fun i w' => ∃ j : Nat, j ≤ n ∧ i = .int .i64 j ∧ Below w.heap.size w w' ∧ (∀ t, t < j → xs[t]? = ys[t]?)) (fun i _ => n - (intOf i).toNat)
    case atStart => exact ⟨0, by omega, rfl, Below.refl _ _, fun t ht => by omega⟩
    case round =>
    obtain ⟨j, hj, rfl, hB, hE⟩ := hrel
    by_cases hlt : j < n
    · obtain ⟨x, hx⟩ : ∃ x, xs[j]? = some x := ⟨_, List.getElem?_eq_getElem (by rw [HN.out]; exact hlt)⟩
      obtain ⟨y, hy⟩ : ∃ y, ys[j]? = some y := ⟨_, List.getElem?_eq_getElem (by rw [HN'.out]; exact hlt)⟩
      obtain ⟨ga, oa, rfl, ga1, ca⟩ := P5.out (by omega)
      obtain ⟨gb, ob, rfl, gb1, cb⟩ := Q5.out (by omega)
      have x0 : wr.cell? ⟨ga, oa + j, none⟩ = some (.int .u64 x) := (hB.cell (p := ⟨ga, oa + j, none⟩) ga1).trans (ca j _ (encU_get hx))
      have y0 : wr.cell? ⟨gb, ob + j, none⟩ = some (.int .u64 y) := (hB.cell (p := ⟨gb, ob + j, none⟩) gb1).trans (cb j _ (encU_get hy))
      have HB := Lib.hid hB
      have hj0 : (0 : Int) ≤ (j : Int) := by omega
      have hj1 : (j : Int) < (n : Int) := by omega
      by_cases he : x = y
      · subst he
        have hne : (x != x) = false := by simp
        have HE := Lib.hid (show ∀ t, t < j + 1 → xs[t]? = ys[t]? from fun t ht => by
          rcases Nat.lt_or_ge t j with h | h
          · exact hE t h
          · obtain rfl : t = j := by omega
            rw [hx, hy])
        clear hB hx hy ca cb hE
        go_wp2
        go_quiet (fail)
        go_wp2
        go_roundw
        case rel => exact ⟨j + 1, by omega, by go_num, below_drewN HB.out _, HE.out⟩
        case measure => simp [intOf]; omega
      · have hne : (x != y) = true := by simpa using he
        have hd : decide (xs = ys) = false := decide_eq_false (fun h => by rw [h, hy] at hx; injection hx with hx; exact he hx.symm)
        have HD := Lib.hid hd
        clear hB hx hy ca cb hE he hd
        go_wp2
        go_quiet (fail)
        go_wp2
        go_ret
        exact ⟨by rw [HD.out]; rfl, below_drewN HB.out _⟩
    · have hd : decide (xs = ys) = true := decide_eq_true (List.ext_getElem? fun t => by
        rcases Nat.lt_or_ge t j with h | h
        · exact hE t h
        · rw [List.getElem?_eq_none (by rw [HN.out]; omega), List.getElem?_eq_none (by rw [HN'.out]; omega)])
      have HD := Lib.hid hd; have HB := Lib.hid hB
      have hj1 : ¬ (j : Int) < (n : Int) := by omega
      clear hd hE hB
      go_wp2
      go_ret
      exact ⟨by rw [HD.out]; rfl, HB.out⟩
  · have hd : decide (xs = ys) = false := decide_eq_false (fun h => hlen (by rw [h]))
    have hl' : ((xs.length : Int) != (ys.length : Int)) = true := by simp; omega
    have HD := Lib.hid hd
    clear hd hlen p4 p5 q4 q5
    go_enter Try.func12, Try.ntmps12
    go_wp2
    go_ret
    exact ⟨by rw [HD.out]; rfl, Below.refl _ _⟩
theorem wk1 : ranS [3, 0] 5 [⟨3, 0, 5⟩, ⟨4, 1, 9⟩] false = (101, [8, 9], [8, 1, 101]) := by kernel_rfl
theorem wk2 : ranS [3, 0] 0 [⟨2, 0, 0⟩] false = (102, [3, 0], [102]) := by kernel_rfl
theorem wg1 : goodT [⟨3, 0, 5⟩, ⟨4, 1, 9⟩] = true := by decide
theorem wg2 : goodT [⟨2, 0, 0⟩] = true := by decide
theorem rds_block {w : World} {b : Nat} {cs : Array Value} {t : TypeId} {fr : Nat × Nat} {sz n : Nat} (h : w.heap[b]? = some (.cells cs t fr)) (hl : cs.toList.length = n * sz) (hn : n ≤ 1000) : Rds w sz (.slice (some ⟨b, 0, none⟩) n n) n cs.toList :=
  ⟨hl, _, n, rfl, Nat.le_refl _, by unfold maxLen; omega, fun h => (by cases h), fun _ => ⟨b, 0, rfl, (Array.getElem?_eq_some_iff.1 h).1, fun j u hj => by rw [cell_of_row _ _ _ _ t fr h, Nat.zero_add]; simpa using hj⟩⟩
set_option maxRecDepth 100000 in
set_option maxHeartbeats 8000000 in
theorem wakes_any (w : World) : Calls Try.prog 8 #[] w fun e w' => e = .returned (.bool true) ∧ Below w.heap.size w w' := by
  obtain ⟨n0, hn0⟩ : ∃ n0, w.heap.size = n0 := ⟨_, rfl⟩
  obtain ⟨W1, hW1⟩ : ∃ W1, w.alloc (.cells #[.int .u64 3, .int .u64 0] 37) = W1 := ⟨_, rfl⟩
  obtain ⟨W2, hW2⟩ : ∃ W2, W1.alloc (.cells #[.int .i64 3, .int .i64 0, .int .u64 5, .int .i64 4, .int .i64 1, .int .u64 9] 39) = W2 := ⟨_, rfl⟩
  have e1 : W1.heap.size = n0 + 1 := by rw [← hW1, ← hn0]; simp
  have g1 : W1.heap[n0]? = some (.cells #[.int .u64 3, .int .u64 0] 37 (0, 0)) := by rw [← hW1, ← hn0]; exact heap_alloc_new w _
  have b2 : Below W1.heap.size W1 W2 := by rw [← hW2]; exact Below.al (Below.refl _ _) _
  have g2 := below_row g1 b2
  have k2 : W2.heap[n0 + 1]? = some (.cells #[.int .i64 3, .int .i64 0, .int .u64 5, .int .i64 4, .int .i64 1, .int .u64 9] 39 (0, 0)) := by rw [← hW2, ← e1]; exact heap_alloc_new W1 _
  have hB2 : Below w.heap.size w W2 := Below.then (by rw [← hW1]; exact Below.al (Below.refl _ _) _) b2
  have c1 := run_any (some ⟨n0 + 1, 0, none⟩) 2 false [⟨3, 0, 5⟩, ⟨4, 1, 9⟩] (some ⟨n0, 0, none⟩) 2 [3, 0] 5 W2 (rds_block k2 rfl (by decide)) wg1 (by omega) (by omega) (by simp) (rds_block g2 rfl (by decide)) (by decide)
  rw [wk1] at c1
  have C1 := Lib.hid c1; have HB2 := Lib.hid hB2
  clear c1 hB2 b2 g1 g2 k2
  go_enter Try.func8, Try.ntmps8
  go_wp2_with fail
  refine C1.out.mono ?_
  rintro e w1 ⟨v1, v2, rfl, hO1, hO2, hB1⟩
  have HO1 := Lib.hid hO1; have HO2 := Lib.hid hO2; have HB := Lib.hid (Below.then HB2.out hB1)
  clear hO1 hO2 hB1 C1 HB2 hW1 hW2 e1 hn0
  obtain ⟨n0, hn0⟩ : ∃ n0, w1.heap.size = n0 := ⟨_, rfl⟩
  obtain ⟨W1, hW1⟩ : ∃ W1, w1.alloc (.cells #[.int .u64 3, .int .u64 0] 37) = W1 := ⟨_, rfl⟩
  obtain ⟨W2, hW2⟩ : ∃ W2, W1.alloc (.cells #[.int .i64 2, .int .i64 0, .int .u64 0] 39) = W2 := ⟨_, rfl⟩
  have e1 : W1.heap.size = n0 + 1 := by rw [← hW1, ← hn0]; simp
  have g1 : W1.heap[n0]? = some (.cells #[.int .u64 3, .int .u64 0] 37 (0, 0)) := by rw [← hW1, ← hn0]; exact heap_alloc_new w1 _
  have b2 : Below W1.heap.size W1 W2 := by rw [← hW2]; exact Below.al (Below.refl _ _) _
  have g2 := below_row g1 b2
  have k2 : W2.heap[n0 + 1]? = some (.cells #[.int .i64 2, .int .i64 0, .int .u64 0] 39 (0, 0)) := by rw [← hW2, ← e1]; exact heap_alloc_new W1 _
  have hB2 : Below w1.heap.size w1 W2 := Below.then (by rw [← hW1]; exact Below.al (Below.refl _ _) _) b2
  have c1 := run_any (some ⟨n0 + 1, 0, none⟩) 1 false [⟨2, 0, 0⟩] (some ⟨n0, 0, none⟩) 2 [3, 0] 0 W2 (rds_block k2 rfl (by decide)) wg2 (by omega) (by omega) (by simp) (rds_block g2 rfl (by decide)) (by decide)
  rw [wk2] at c1
  have C1 := Lib.hid c1; have HB2 := Lib.hid hB2
  clear c1 hB2 b2 g1 g2 k2
  go_wp2_with fail
  refine C1.out.mono ?_
  rintro e w2 ⟨v3, v4, rfl, hO3, hO4, hB3⟩
  have HC := Lib.hid (Below.then HB2.out hB3)
  have HA1 := Lib.hid (HO1.out.below' HC.out); have HA2 := Lib.hid (HO2.out.below' HC.out); have HO4 := Lib.hid hO4; have HB4 := Lib.hid (Below.then HB.out HC.out)
  clear hO3 hO4 hB3 C1 HB2 hW1 hW2 e1 hn0 HO1 HO2 HC HB
  have q0 := words_same _ (.slice (some ⟨w2.heap.size, 0, none⟩) 2 2) [8, 9] [8, 9] (w2.alloc (.cells #[.int .u64 8, .int .u64 9] 37)) (HA1.out.below' (Below.al (Below.refl _ _) _)).rds (rds_block (heap_alloc_new w2 _) rfl (by omega))
  rw [decide_eq_true (rfl : ([8, 9] : List Int) = [8, 9])] at q0
  have Q0 := Lib.hid q0
  clear q0
  go_wp2_with fail
  refine Q0.out.mono ?_
  rintro e x0 ⟨rfl, hb⟩
  have HS0 := Lib.hid (Below.then (Below.al (Below.refl _ w2) (.cells #[.int .u64 8, .int .u64 9] 37)) hb)
  clear hb
  have HA2 := Lib.hid (HA2.out.below' HS0.out); have HO4 := Lib.hid (HO4.out.below' HS0.out)
  have q1 := words_same _ (.slice (some ⟨x0.heap.size, 0, none⟩) 3 3) [8, 1, 101] [8, 1, 101] (x0.alloc (.cells #[.int .u64 8, .int .u64 1, .int .u64 101] 37)) (HA2.out.below' (Below.al (Below.refl _ _) _)).rds (rds_block (heap_alloc_new x0 _) rfl (by omega))
  rw [decide_eq_true (rfl : ([8, 1, 101] : List Int) = [8, 1, 101])] at q1
  have Q1 := Lib.hid q1
  clear q1
  go_wp2_with fail
  refine Q1.out.mono ?_
  rintro e x1 ⟨rfl, hb⟩
  have HS1 := Lib.hid (Below.then (Below.al (Below.refl _ x0) (.cells #[.int .u64 8, .int .u64 1, .int .u64 101] 37)) hb)
  clear hb
  have HO4 := Lib.hid (HO4.out.below' HS1.out)
  have q2 := words_same _ (.slice (some ⟨x1.heap.size, 0, none⟩) 1 1) [102] [102] (x1.alloc (.cells #[.int .u64 102] 37)) (HO4.out.below' (Below.al (Below.refl _ _) _)).rds (rds_block (heap_alloc_new x1 _) rfl (by omega))
  rw [decide_eq_true (rfl : ([102] : List Int) = [102])] at q2
  have Q2 := Lib.hid q2
  clear q2
  go_wp2_with fail
  refine Q2.out.mono ?_
  rintro e x2 ⟨rfl, hb⟩
  have HS2 := Lib.hid (Below.then (Below.al (Below.refl _ x1) (.cells #[.int .u64 102] 37)) hb)
  clear hb
  go_wp2
  go_ret
  exact ⟨rfl, Below.then (Below.then (Below.then HB4.out HS0.out) HS1.out) HS2.out⟩
end Go.Proofs.Ytigbhlkafmpgmaa
