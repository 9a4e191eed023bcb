/-
  NvmOwn, walked.
-/
import Derived.Test.YtkkeilbaieflmaaNone
import Derived.StillTailTactics
namespace Go.Proofs.Ytkkeilbaieflmaa
open Go.RowKit
attribute [local go_sem ↓] Go.wp_at_zero Go.wp_at_succ

theorem own_empty (w : World) : Own (w.alloc (.cells #[] 34)) w.heap.size 34 8 (.slice (some ⟨w.heap.size, 0, none⟩) 0 0) 0 [] :=
  ⟨by simp, .inr ⟨w.heap.size, 0, 0, #[], rfl, Nat.le_refl _, heap_alloc_new w _, Nat.le_refl _, Nat.zero_le _, by simp, by simp⟩⟩
theorem lines_cells {w : World} {xs : List Ln} {g o n cap : Nat} (h : Rds w 8 (.slice (some ⟨g, o, none⟩) n cap) xs.length (encLns xs)) (h0 : 0 < xs.length) (i : Nat) (y : Ln) (hy : xs[i]? = some y) (j : Nat) (u : Value) (hj : (encLn y)[j]? = some u) : w.cell? ⟨g, o + i * 8 + j, none⟩ = some u := by
  obtain ⟨_, a, c, hv, _, _, _, h5⟩ := h
  injection hv with h1 h2 h3
  obtain ⟨g', o', he, _, hc⟩ := h5 h0
  rw [he] at h1
  injection h1 with h1
  injection h1 with hg ho
  subst hg; subst ho
  rw [Nat.add_assoc]
  exact hc _ _ ((encLns_get xs i y hy j (List.getElem?_eq_some_iff.1 hj).1).trans hj)
theorem run_eql_Ln (w : World) (m m' : Ln) : (binOp .eql 34 (.agg #[.int .u64 m.d0, .int .u64 m.d1, .int .u64 m.d2, .int .u64 m.d3, .int .u64 m.d4, .int .u64 m.d5, .int .u64 m.d6, .int .u64 m.d7]) (.agg #[.int .u64 m'.d0, .int .u64 m'.d1, .int .u64 m'.d2, .int .u64 m'.d3, .int .u64 m'.d4, .int .u64 m'.d5, .int .u64 m'.d6, .int .u64 m'.d7])).run Try.prog w = .ok (.bool (eqLn m m')) w := by
  have hi := info22
  cases m; cases m'
  simp [go_sem, hi, eqLn]
theorem own_lines {w : World} {base g o n cap : Nat} {xs : List Ln} (h : Own w base 34 8 (.slice (some ⟨g, o, none⟩) n cap) n (encLns xs)) (hn : 0 < n) (i : Nat) (y : Ln) (hy : xs[i]? = some y) :
    (∀ j u, (encLn y)[j]? = some u → w.cell? ⟨g, o + i * 8 + j, none⟩ = some u) ∧ ∀ j, w.frozen? ⟨g, j, none⟩ = false := by
  obtain ⟨g', o', c', he, _, _, _, _, h5, h6⟩ := h.form hn
  injection he with e1 e2 e3
  injection e1 with e1
  injection e1 with e4 e5
  subst e4; subst e5
  exact ⟨fun j u hj => by rw [Nat.add_assoc]; exact h5 _ _ ((encLns_get xs i y hy j (List.getElem?_eq_some_iff.1 hj).1).trans hj), h6⟩
set_option maxRecDepth 100000 in
set_option maxHeartbeats 4000000 in
theorem own_law (v : Value) (xs : List Ln) (line : Int) (x : Ln) (w : World) (hl0 : 0 ≤ line) (hl1 : line ≤ 255) (hR : Rds w 8 v xs.length (encLns xs)) :
    Calls Try.prog 6 #[v, .int .u8 line, .agg #[.int .u64 x.d0, .int .u64 x.d1, .int .u64 x.d2, .int .u64 x.d3, .int .u64 x.d4, .int .u64 x.d5, .int .u64 x.d6, .int .u64 x.d7]] w fun e w' => e = .returned (.bool true) ∧ Below w.heap.size w w' := by
  obtain ⟨i0, hi0, hz0, hz1, hz2⟩ := info_parts info34
  have hnew : ∀ w, Calls Try.prog 9 #[.int .i64 6, .int .i64 1] w fun e w' => ∃ d g, e = .returned (.tuple #[.pointer (some ⟨d, 0, none⟩), .int .i64 0]) ∧ DAt w' d g w.heap.size (List.replicate 6 Ln.zero) 1 ∧ Below w.heap.size w w' := fun w => new_any 6 1 (by omega) (by omega) (by omega) (by omega) w
  obtain ⟨n, hn⟩ : ∃ n, xs.length = n := ⟨_, rfl⟩
  have HN := Lib.hid hn
  obtain ⟨_, ad, cap, hv, r2, r3, r4, r5⟩ := id hR
  rw [hn] at hv r2 r4 r5
  subst hv
  have R5 := Lib.hid r5; have HR := Lib.hid hR
  clear r4 r5 hR hn
  obtain ⟨r, hr⟩ : ∃ r : Nat, line % 6 = (r : Int) := ⟨(line % 6).toNat, by omega⟩
  have hr6 : r < 6 := by omega
  have HREM := Lib.hid hr
  clear hr
  go_enter Try.func6, Try.ntmps6
  go_wp2_with fail
  refine (hnew _).mono ?_
  rintro e w1 ⟨d, g, rfl, hD1, hB1⟩
  have hx1 : ∀ o, w1.cell? ⟨w.heap.size, o, none⟩ = (encLn x)[o]? := fun o => by
    rw [hB1.cell (p := ⟨w.heap.size, o, none⟩) (by simp), cell_of_row _ _ _ _ 34 (0, 0) (heap_alloc_new w _)]
    simp [encLn]
  have hs1 : w.heap.size < w1.heap.size := Nat.lt_of_lt_of_le (by simp) hB1.size
  have HB1 := Lib.hid (Below.then (Below.al (Below.refl _ w) (.cells #[.int .u64 x.d0, .int .u64 x.d1, .int .u64 x.d2, .int .u64 x.d3, .int .u64 x.d4, .int .u64 x.d5, .int .u64 x.d6, .int .u64 x.d7] 34)) hB1)
  have hD1' : ∃ B, w.heap.size < B ∧ DAt w1 d g B (List.replicate 6 Ln.zero) 1 := ⟨_, by simp, hD1⟩
  obtain ⟨B, hB, hD⟩ := hD1'
  have HD1 := Lib.hid hD
  have HR1 := Lib.hid (HR.out.below HB1.out)
  have HX1 := Lib.hid hx1
  clear hD1 hB1 hD hx1 hnew
  by_cases h6 : n = 6
  · subst h6
    obtain ⟨b, o, rfl, hb, _⟩ := R5.out (by omega)
    have hLL : (encLns xs).length = 6 * 8 := by rw [encLns_len, HN.out]
    have hnews : ∀ j u, (encLns xs)[j]? = some u → (w1.alloc (.cells #[] 34)).cell? ((⟨b, o, none⟩ : Addr).add j) = some u := fun j u hu => by
      have hadd : (⟨b, o, none⟩ : Addr).add j = ⟨b, o + j, none⟩ := by unfold Addr.add; split <;> simp_all
      obtain ⟨_, a', c', he, _, _, _, h5⟩ := HR1.out
      injection he with e1 e2 e3
      obtain ⟨g', o', he', hlt, hc⟩ := h5 (by rw [HN.out]; omega)
      rw [← e1] at he'
      injection he' with he'
      injection he' with e4 e5
      subst e4; subst e5
      rw [hadd, World.cell?_alloc_old _ _ _ (by simp; omega)]
      exact hc j u hu
    have HNW := Lib.hid hnews
    clear hnews
    go_wp2_with (at_builtin; refine wpList_append_Own _ rfl _ _ 35 rfl w1.heap.size 34 i0 _ 8 64 Try.underlying35 hi0 hz0 hz1 hz2 rfl (.slice (some ⟨w1.heap.size, 0, none⟩) 0 0) 0 [] rfl (own_empty w1) ⟨b, o, none⟩ 6 cap (encLns xs) rfl hLL HNW.out (encLns_one xs) (by omega) (by unfold maxLen; omega) (by omega) (by simp) ?_; intro g' o' cap' w2 hown2 honly2 hat2 hlt2)
    simp only [Nat.zero_add, List.nil_append] at hown2
    have hd1 : d < w1.heap.size := HD1.out.dlt
    have hgB : B ≤ g := HD1.out.glo
    have hdB : B ≤ d := HD1.out.dlo
    have hg1 : g < w1.heap.size := HD1.out.glt
    have hs01 : w.heap.size ≤ w1.heap.size := HB1.out.size
    have hD2 : DAt w2 d g B (List.replicate 6 Ln.zero) 1 := (HD1.out.al _).only honly2 (fun h => by
      have h' : w1.heap.size = d := Option.some.inj h
      omega) (fun h => by
      have h' : w1.heap.size = g := Option.some.inj h
      omega)
    have hB2 : Below w.heap.size w w2 := (Below.al HB1.out _).trans (honly2.below (by simp; omega) (fun k h => by
      have h' : w1.heap.size = k := Option.some.inj h
      omega))
    have HX2 : ∀ o, w2.cell? ⟨w.heap.size, o, none⟩ = (encLn x)[o]? := fun o => (honly2.cell (p := ⟨w.heap.size, o, none⟩) (by simp; omega) (fun h => by
      have h' : w1.heap.size = w.heap.size := Option.some.inj h
      omega)).trans ((World.cell?_alloc_old _ _ _ (by simp; omega)).trans (HX1.out o))
    obtain ⟨hg'1, hg'2⟩ : w1.heap.size ≤ g' ∧ g' < w2.heap.size := hown2.lt g' rfl
    have HD2 := Lib.hid hD2; have HB2 := Lib.hid hB2; have HO2 := Lib.hid hown2; have HX2 := Lib.hid HX2
    have hs2 : w.heap.size < w2.heap.size := by omega
    clear hD2 hB2 hown2 hat2 HB1 HD1 HX1 HR1 HNW honly2 hLL
    go_wp2_with fail
    refine (restore_any d g B _ xs 1 _ (by rw [HN.out]; simp) (by simp) _ HD2.out (by rw [HN.out]; exact HO2.out.rds)).mono ?_
    rintro e w3 ⟨rfl, hD3, ho3⟩
    have HB3 := Lib.hid (HB2.out.trans (ho3.below (by omega) (fun k (h : k = g) => by omega)))
    have HO3 := Lib.hid (HO2.out.only ho3 (fun k hk (h : k = g) => by
      have h' : g' = k := Option.some.inj hk
      omega))
    have HX3 : ∀ o, w3.cell? ⟨w.heap.size, o, none⟩ = (encLn x)[o]? := fun o => (ho3.cell (p := ⟨w.heap.size, o, none⟩) hs2 (fun (h : w.heap.size = g) => by omega)).trans (HX2.out o)
    have HX3 := Lib.hid HX3
    have HD3 := Lib.hid hD3
    have hs3 : w2.heap.size ≤ w3.heap.size := ho3.size
    clear hD3 ho3 HD2 HB2 HO2 HX2
    obtain ⟨y, hy⟩ : ∃ y, xs[r]? = some y := ⟨_, List.getElem?_eq_getElem (by rw [HN.out]; exact hr6)⟩
    obtain ⟨hy3, hf3⟩ := own_lines HO3.out (by omega) r y hy
    have HY := Lib.hid hy
    have y0 : w3.cell? ⟨g', o' + r * 8, none⟩ = some (.int .u64 y.d0) := hy3 0 _ rfl
    have y1 : w3.cell? ⟨g', o' + r * 8 + 1, none⟩ = some (.int .u64 y.d1) := hy3 1 _ rfl
    have y2 : w3.cell? ⟨g', o' + r * 8 + 2, none⟩ = some (.int .u64 y.d2) := hy3 2 _ rfl
    have y3 : w3.cell? ⟨g', o' + r * 8 + 3, none⟩ = some (.int .u64 y.d3) := hy3 3 _ rfl
    have y4 : w3.cell? ⟨g', o' + r * 8 + 4, none⟩ = some (.int .u64 y.d4) := hy3 4 _ rfl
    have y5 : w3.cell? ⟨g', o' + r * 8 + 5, none⟩ = some (.int .u64 y.d5) := hy3 5 _ rfl
    have y6 : w3.cell? ⟨g', o' + r * 8 + 6, none⟩ = some (.int .u64 y.d6) := hy3 6 _ rfl
    have y7 : w3.cell? ⟨g', o' + r * 8 + 7, none⟩ = some (.int .u64 y.d7) := hy3 7 _ rfl
    have hr := HREM.out
    have hr0 : (0 : Int) ≤ (r : Int) := by omega
    have hr1 : (r : Int) < 6 := by omega
    clear hy3 hy
    go_wp2_with fail
    obtain ⟨w4, hw4⟩ : ∃ w4, w4 = w3.setCells g' (o' + r * 8) (encLn ⟨123, 0, 0, 0, 0, 0, 0, 0⟩) := ⟨_, rfl⟩
    have HW4 := Lib.hid hw4
    change Calls Try.prog 20 _ (w3.setCells g' (o' + r * 8) (encLn ⟨123, 0, 0, 0, 0, 0, 0, 0⟩)) _
    rw [← HW4.out]
    have hon4 : Only (fun k => k = g') w3 w4 := by rw [hw4]; exact Only.setCells g' _ _ w3
    have HD4 := Lib.hid (HD3.out.only hon4 (fun (h : d = g') => by omega) (fun (h : g = g') => by omega))
    have hB4 : Below w.heap.size w w4 := HB3.out.trans (hon4.below (by omega) (fun k (h : k = g') => by omega))
    have HX4 : ∀ o, w4.cell? ⟨w.heap.size, o, none⟩ = (encLn x)[o]? := fun o => (hon4.cell (p := ⟨w.heap.size, o, none⟩) (by show w.heap.size < w3.heap.size; omega) (fun (h : w.heap.size = g') => by omega)).trans (HX3.out o)
    have HX4 := Lib.hid HX4
    have HB4 := Lib.hid hB4
    have hs4 : w3.heap.size ≤ w4.heap.size := hon4.size
    clear hw4 HW4 hon4 hB4 HD3 HX3 HB3 HO3 y0 y1 y2 y3 y4 y5 y6 y7 hf3
    refine (image_any d g B xs 1 w4 HD4.out).mono ?_
    rintro e w5 ⟨v5, rfl, ho5, hb5⟩
    rw [HN.out] at ho5
    have HB5 := Lib.hid (Below.then HB4.out hb5)
    have HX5 : ∀ o, w5.cell? ⟨w.heap.size, o, none⟩ = (encLn x)[o]? := fun o => (hb5.cell (p := ⟨w.heap.size, o, none⟩) (by show w.heap.size < w4.heap.size; omega)).trans (HX4.out o)
    have HX5 := Lib.hid HX5
    have HD5 := Lib.hid (HD4.out.below hb5)
    obtain ⟨g5, o5, c5, rfl, _, _, hg51, hg52, _, _⟩ := ho5.form (by omega)
    have HO5 := Lib.hid ho5
    have hs5 : w4.heap.size ≤ w5.heap.size := hb5.size
    clear ho5 hb5 HD4 HB4 HX4
    go_wp2_with fail
    refine (lines_any _ _ xs xs _ (by rw [HN.out]; exact HO5.out.rds) (HR.out.below HB5.out)).mono ?_
    rintro e w6 ⟨rfl, hb6⟩
    rw [decide_eq_true (rfl : xs = xs)]
    have HB6 := Lib.hid (Below.then HB5.out hb6)
    have HX6 : ∀ o, w6.cell? ⟨w.heap.size, o, none⟩ = (encLn x)[o]? := fun o => (hb6.cell (p := ⟨w.heap.size, o, none⟩) (by show w.heap.size < w5.heap.size; omega)).trans (HX5.out o)
    have HX6 := Lib.hid HX6
    have HD6 := Lib.hid (HD5.out.below hb6)
    have HO6 := Lib.hid (HO5.out.below' hb6)
    have hs6 : w5.heap.size ≤ w6.heap.size := hb6.size
    clear hb6 HD5 HB5 HX5 HO5
    obtain ⟨hy6, hf6⟩ := own_lines HO6.out (by omega) r y HY.out
    have z0 : w6.cell? ⟨g5, o5 + r * 8, none⟩ = some (.int .u64 y.d0) := hy6 0 _ rfl
    have z1 : w6.cell? ⟨g5, o5 + r * 8 + 1, none⟩ = some (.int .u64 y.d1) := hy6 1 _ rfl
    have z2 : w6.cell? ⟨g5, o5 + r * 8 + 2, none⟩ = some (.int .u64 y.d2) := hy6 2 _ rfl
    have z3 : w6.cell? ⟨g5, o5 + r * 8 + 3, none⟩ = some (.int .u64 y.d3) := hy6 3 _ rfl
    have z4 : w6.cell? ⟨g5, o5 + r * 8 + 4, none⟩ = some (.int .u64 y.d4) := hy6 4 _ rfl
    have z5 : w6.cell? ⟨g5, o5 + r * 8 + 5, none⟩ = some (.int .u64 y.d5) := hy6 5 _ rfl
    have z6 : w6.cell? ⟨g5, o5 + r * 8 + 6, none⟩ = some (.int .u64 y.d6) := hy6 6 _ rfl
    have z7 : w6.cell? ⟨g5, o5 + r * 8 + 7, none⟩ = some (.int .u64 y.d7) := hy6 7 _ rfl
    clear hy6
    go_wp2_with fail
    obtain ⟨w7, hw7⟩ : ∃ w7, w7 = w6.setCells g5 (o5 + r * 8) (encLn ⟨321, 0, 0, 0, 0, 0, 0, 0⟩) := ⟨_, rfl⟩
    have HW7 := Lib.hid hw7
    change Calls Try.prog 13 _ (w6.setCells g5 (o5 + r * 8) (encLn ⟨321, 0, 0, 0, 0, 0, 0, 0⟩)) _
    rw [← HW7.out]
    have hon7 : Only (fun k => k = g5) w6 w7 := by rw [hw7]; exact Only.setCells g5 _ _ w6
    have hd4 : d < w4.heap.size := by omega
    have hg4 : g < w4.heap.size := by omega
    have HD7 := Lib.hid (HD6.out.only hon7 (fun (h : d = g5) => by omega) (fun (h : g = g5) => by omega))
    have hB7 : Below w.heap.size w w7 := HB6.out.trans (hon7.below (by omega) (fun k (h : k = g5) => by omega))
    have HX7 : ∀ o, w7.cell? ⟨w.heap.size, o, none⟩ = (encLn x)[o]? := fun o => (hon7.cell (p := ⟨w.heap.size, o, none⟩) (by show w.heap.size < w6.heap.size; omega) (fun (h : w.heap.size = g5) => by omega)).trans (HX6.out o)
    have HX7 := Lib.hid HX7
    have HB7 := Lib.hid hB7
    have hs7 : w6.heap.size ≤ w7.heap.size := hon7.size
    clear hw7 HW7 hon7 hB7 HD6 HX6 HB6 HO6 z0 z1 z2 z3 z4 z5 z6 z7 hf6
    refine (read_in d g B xs 1 r y HY.out w7 HD7.out).mono ?_
    rintro e w8 ⟨rfl, hD8, ho8⟩
    have HD8 := Lib.hid hD8
    have HB8 := Lib.hid (HB7.out.trans (ho8.below (by omega) (fun k (h : k = d) => by have := HD7.out.dlo; omega)))
    have HX8 : ∀ o, w8.cell? ⟨w.heap.size, o, none⟩ = (encLn x)[o]? := fun o => (ho8.cell (p := ⟨w.heap.size, o, none⟩) (by show w.heap.size < w7.heap.size; omega) (fun (h : w.heap.size = d) => by omega)).trans (HX7.out o)
    have HX8 := Lib.hid HX8
    have hs8 : w7.heap.size ≤ w8.heap.size := ho8.size
    clear hD8 ho8 HD7 HB7 HX7
    have hq := run_neq_Ln
    have p0 : (w8.alloc (.cells #[.int .u64 y.d0, .int .u64 y.d1, .int .u64 y.d2, .int .u64 y.d3, .int .u64 y.d4, .int .u64 y.d5, .int .u64 y.d6, .int .u64 y.d7] 34)).cell? ⟨w8.heap.size, 0, none⟩ = some (.int .u64 y.d0) := by rw [cell_of_row _ _ _ _ 34 (0, 0) (heap_alloc_new w8 _)]; rfl
    have p1 : (w8.alloc (.cells #[.int .u64 y.d0, .int .u64 y.d1, .int .u64 y.d2, .int .u64 y.d3, .int .u64 y.d4, .int .u64 y.d5, .int .u64 y.d6, .int .u64 y.d7] 34)).cell? ⟨w8.heap.size, 1, none⟩ = some (.int .u64 y.d1) := by rw [cell_of_row _ _ _ _ 34 (0, 0) (heap_alloc_new w8 _)]; rfl
    have p2 : (w8.alloc (.cells #[.int .u64 y.d0, .int .u64 y.d1, .int .u64 y.d2, .int .u64 y.d3, .int .u64 y.d4, .int .u64 y.d5, .int .u64 y.d6, .int .u64 y.d7] 34)).cell? ⟨w8.heap.size, 2, none⟩ = some (.int .u64 y.d2) := by rw [cell_of_row _ _ _ _ 34 (0, 0) (heap_alloc_new w8 _)]; rfl
    have p3 : (w8.alloc (.cells #[.int .u64 y.d0, .int .u64 y.d1, .int .u64 y.d2, .int .u64 y.d3, .int .u64 y.d4, .int .u64 y.d5, .int .u64 y.d6, .int .u64 y.d7] 34)).cell? ⟨w8.heap.size, 3, none⟩ = some (.int .u64 y.d3) := by rw [cell_of_row _ _ _ _ 34 (0, 0) (heap_alloc_new w8 _)]; rfl
    have p4 : (w8.alloc (.cells #[.int .u64 y.d0, .int .u64 y.d1, .int .u64 y.d2, .int .u64 y.d3, .int .u64 y.d4, .int .u64 y.d5, .int .u64 y.d6, .int .u64 y.d7] 34)).cell? ⟨w8.heap.size, 4, none⟩ = some (.int .u64 y.d4) := by rw [cell_of_row _ _ _ _ 34 (0, 0) (heap_alloc_new w8 _)]; rfl
    have p5 : (w8.alloc (.cells #[.int .u64 y.d0, .int .u64 y.d1, .int .u64 y.d2, .int .u64 y.d3, .int .u64 y.d4, .int .u64 y.d5, .int .u64 y.d6, .int .u64 y.d7] 34)).cell? ⟨w8.heap.size, 5, none⟩ = some (.int .u64 y.d5) := by rw [cell_of_row _ _ _ _ 34 (0, 0) (heap_alloc_new w8 _)]; rfl
    have p6 : (w8.alloc (.cells #[.int .u64 y.d0, .int .u64 y.d1, .int .u64 y.d2, .int .u64 y.d3, .int .u64 y.d4, .int .u64 y.d5, .int .u64 y.d6, .int .u64 y.d7] 34)).cell? ⟨w8.heap.size, 6, none⟩ = some (.int .u64 y.d6) := by rw [cell_of_row _ _ _ _ 34 (0, 0) (heap_alloc_new w8 _)]; rfl
    have p7 : (w8.alloc (.cells #[.int .u64 y.d0, .int .u64 y.d1, .int .u64 y.d2, .int .u64 y.d3, .int .u64 y.d4, .int .u64 y.d5, .int .u64 y.d6, .int .u64 y.d7] 34)).cell? ⟨w8.heap.size, 7, none⟩ = some (.int .u64 y.d7) := by rw [cell_of_row _ _ _ _ 34 (0, 0) (heap_alloc_new w8 _)]; rfl
    have hq8 := lines_cells (HR.out.below (Below.al HB8.out (.cells #[.int .u64 y.d0, .int .u64 y.d1, .int .u64 y.d2, .int .u64 y.d3, .int .u64 y.d4, .int .u64 y.d5, .int .u64 y.d6, .int .u64 y.d7] 34))) (by rw [HN.out]; omega) r y HY.out
    have q0 : (w8.alloc (.cells #[.int .u64 y.d0, .int .u64 y.d1, .int .u64 y.d2, .int .u64 y.d3, .int .u64 y.d4, .int .u64 y.d5, .int .u64 y.d6, .int .u64 y.d7] 34)).cell? ⟨b, o + r * 8, none⟩ = some (.int .u64 y.d0) := hq8 0 _ rfl
    have q1 : (w8.alloc (.cells #[.int .u64 y.d0, .int .u64 y.d1, .int .u64 y.d2, .int .u64 y.d3, .int .u64 y.d4, .int .u64 y.d5, .int .u64 y.d6, .int .u64 y.d7] 34)).cell? ⟨b, o + r * 8 + 1, none⟩ = some (.int .u64 y.d1) := hq8 1 _ rfl
    have q2 : (w8.alloc (.cells #[.int .u64 y.d0, .int .u64 y.d1, .int .u64 y.d2, .int .u64 y.d3, .int .u64 y.d4, .int .u64 y.d5, .int .u64 y.d6, .int .u64 y.d7] 34)).cell? ⟨b, o + r * 8 + 2, none⟩ = some (.int .u64 y.d2) := hq8 2 _ rfl
    have q3 : (w8.alloc (.cells #[.int .u64 y.d0, .int .u64 y.d1, .int .u64 y.d2, .int .u64 y.d3, .int .u64 y.d4, .int .u64 y.d5, .int .u64 y.d6, .int .u64 y.d7] 34)).cell? ⟨b, o + r * 8 + 3, none⟩ = some (.int .u64 y.d3) := hq8 3 _ rfl
    have q4 : (w8.alloc (.cells #[.int .u64 y.d0, .int .u64 y.d1, .int .u64 y.d2, .int .u64 y.d3, .int .u64 y.d4, .int .u64 y.d5, .int .u64 y.d6, .int .u64 y.d7] 34)).cell? ⟨b, o + r * 8 + 4, none⟩ = some (.int .u64 y.d4) := hq8 4 _ rfl
    have q5 : (w8.alloc (.cells #[.int .u64 y.d0, .int .u64 y.d1, .int .u64 y.d2, .int .u64 y.d3, .int .u64 y.d4, .int .u64 y.d5, .int .u64 y.d6, .int .u64 y.d7] 34)).cell? ⟨b, o + r * 8 + 5, none⟩ = some (.int .u64 y.d5) := hq8 5 _ rfl
    have q6 : (w8.alloc (.cells #[.int .u64 y.d0, .int .u64 y.d1, .int .u64 y.d2, .int .u64 y.d3, .int .u64 y.d4, .int .u64 y.d5, .int .u64 y.d6, .int .u64 y.d7] 34)).cell? ⟨b, o + r * 8 + 6, none⟩ = some (.int .u64 y.d6) := hq8 6 _ rfl
    have q7 : (w8.alloc (.cells #[.int .u64 y.d0, .int .u64 y.d1, .int .u64 y.d2, .int .u64 y.d3, .int .u64 y.d4, .int .u64 y.d5, .int .u64 y.d6, .int .u64 y.d7] 34)).cell? ⟨b, o + r * 8 + 7, none⟩ = some (.int .u64 y.d7) := hq8 7 _ rfl
    have x0 : (w8.alloc (.cells #[.int .u64 y.d0, .int .u64 y.d1, .int .u64 y.d2, .int .u64 y.d3, .int .u64 y.d4, .int .u64 y.d5, .int .u64 y.d6, .int .u64 y.d7] 34)).cell? ⟨w.heap.size, 0, none⟩ = some (.int .u64 x.d0) := (World.cell?_alloc_old _ _ _ (by show w.heap.size ≠ w8.heap.size; omega)).trans (HX8.out 0)
    have x1 : (w8.alloc (.cells #[.int .u64 y.d0, .int .u64 y.d1, .int .u64 y.d2, .int .u64 y.d3, .int .u64 y.d4, .int .u64 y.d5, .int .u64 y.d6, .int .u64 y.d7] 34)).cell? ⟨w.heap.size, 1, none⟩ = some (.int .u64 x.d1) := (World.cell?_alloc_old _ _ _ (by show w.heap.size ≠ w8.heap.size; omega)).trans (HX8.out 1)
    have x2 : (w8.alloc (.cells #[.int .u64 y.d0, .int .u64 y.d1, .int .u64 y.d2, .int .u64 y.d3, .int .u64 y.d4, .int .u64 y.d5, .int .u64 y.d6, .int .u64 y.d7] 34)).cell? ⟨w.heap.size, 2, none⟩ = some (.int .u64 x.d2) := (World.cell?_alloc_old _ _ _ (by show w.heap.size ≠ w8.heap.size; omega)).trans (HX8.out 2)
    have x3 : (w8.alloc (.cells #[.int .u64 y.d0, .int .u64 y.d1, .int .u64 y.d2, .int .u64 y.d3, .int .u64 y.d4, .int .u64 y.d5, .int .u64 y.d6, .int .u64 y.d7] 34)).cell? ⟨w.heap.size, 3, none⟩ = some (.int .u64 x.d3) := (World.cell?_alloc_old _ _ _ (by show w.heap.size ≠ w8.heap.size; omega)).trans (HX8.out 3)
    have x4 : (w8.alloc (.cells #[.int .u64 y.d0, .int .u64 y.d1, .int .u64 y.d2, .int .u64 y.d3, .int .u64 y.d4, .int .u64 y.d5, .int .u64 y.d6, .int .u64 y.d7] 34)).cell? ⟨w.heap.size, 4, none⟩ = some (.int .u64 x.d4) := (World.cell?_alloc_old _ _ _ (by show w.heap.size ≠ w8.heap.size; omega)).trans (HX8.out 4)
    have x5 : (w8.alloc (.cells #[.int .u64 y.d0, .int .u64 y.d1, .int .u64 y.d2, .int .u64 y.d3, .int .u64 y.d4, .int .u64 y.d5, .int .u64 y.d6, .int .u64 y.d7] 34)).cell? ⟨w.heap.size, 5, none⟩ = some (.int .u64 x.d5) := (World.cell?_alloc_old _ _ _ (by show w.heap.size ≠ w8.heap.size; omega)).trans (HX8.out 5)
    have x6 : (w8.alloc (.cells #[.int .u64 y.d0, .int .u64 y.d1, .int .u64 y.d2, .int .u64 y.d3, .int .u64 y.d4, .int .u64 y.d5, .int .u64 y.d6, .int .u64 y.d7] 34)).cell? ⟨w.heap.size, 6, none⟩ = some (.int .u64 x.d6) := (World.cell?_alloc_old _ _ _ (by show w.heap.size ≠ w8.heap.size; omega)).trans (HX8.out 6)
    have x7 : (w8.alloc (.cells #[.int .u64 y.d0, .int .u64 y.d1, .int .u64 y.d2, .int .u64 y.d3, .int .u64 y.d4, .int .u64 y.d5, .int .u64 y.d6, .int .u64 y.d7] 34)).cell? ⟨w.heap.size, 7, none⟩ = some (.int .u64 x.d7) := (World.cell?_alloc_old _ _ _ (by show w.heap.size ≠ w8.heap.size; omega)).trans (HX8.out 7)
    clear hq8
    have hyy : eqLn y y = true := by rw [eqLn_decide]; simp
    have HD9 := Lib.hid (HD8.out.al (.cells #[.int .u64 y.d0, .int .u64 y.d1, .int .u64 y.d2, .int .u64 y.d3, .int .u64 y.d4, .int .u64 y.d5, .int .u64 y.d6, .int .u64 y.d7] 34))
    go_wp2_with fail
    go_region_law ((go_simp; go_at_call 11; refine (write_in d g B xs 1 r x (by rw [HN.out]; omega) _ HD9.out.drew).mono ?_; rintro e w10 ⟨rfl, hD10, ho10⟩))
    all_goals
      have HD10 := Lib.hid hD10
      have hs10 : w8.heap.size + 1 ≤ w10.heap.size := by have := ho10.size; simpa using this
      have hB10 : Below w.heap.size w w10 := ((Below.al HB8.out _).drew).trans (ho10.below (by simp; omega) (fun k (h : k = d ∨ k = g) => by omega))
      have HX10 : ∀ o, w10.cell? ⟨w.heap.size, o, none⟩ = (encLn x)[o]? := fun o => (ho10.cell (p := ⟨w.heap.size, o, none⟩) (by simp; omega) (fun (h : w.heap.size = d ∨ w.heap.size = g) => by omega)).trans ((World.cell?_alloc_old _ _ _ (by show w.heap.size ≠ w8.heap.size; omega)).trans (HX8.out o))
      have HX10 := Lib.hid HX10
      have HB10 := Lib.hid hB10
      clear hD10 hB10 ho10 HD9 HD8 HB8 HX8 x0 x1 x2 x3 x4 x5 x6 x7 p0 p1 p2 p3 p4 p5 p6 p7 q0 q1 q2 q3 q4 q5 q6 q7 hyy
      have hxr : (xs.set r x)[r]? = some x := by rw [List.getElem?_set_self (by rw [HN.out]; exact hr6)]
      have HXR := Lib.hid hxr
      clear hxr
      go_wp2_with fail
      refine (read_in d g B (xs.set r x) 1 r x HXR.out w10 HD10.out).mono ?_
      rintro e w11 ⟨rfl, hD11, ho11⟩
      have HB11 := Lib.hid (HB10.out.trans (ho11.below (by omega) (fun k (h : k = d) => by omega)))
      have HX11 : ∀ o, w11.cell? ⟨w.heap.size, o, none⟩ = (encLn x)[o]? := fun o => (ho11.cell (p := ⟨w.heap.size, o, none⟩) (by show w.heap.size < w10.heap.size; omega) (fun (h : w.heap.size = d) => by omega)).trans (HX10.out o)
      have HX11 := Lib.hid HX11
      have hs11 : w10.heap.size ≤ w11.heap.size := ho11.size
      have HD11 := Lib.hid (hD11.al (.cells #[.int .u64 x.d0, .int .u64 x.d1, .int .u64 x.d2, .int .u64 x.d3, .int .u64 x.d4, .int .u64 x.d5, .int .u64 x.d6, .int .u64 x.d7] 34))
      clear hD11 ho11 HD10 HB10 HX10
      have x0 : (w11.alloc (.cells #[.int .u64 x.d0, .int .u64 x.d1, .int .u64 x.d2, .int .u64 x.d3, .int .u64 x.d4, .int .u64 x.d5, .int .u64 x.d6, .int .u64 x.d7] 34)).cell? ⟨w.heap.size, 0, none⟩ = some (.int .u64 x.d0) := (World.cell?_alloc_old _ _ _ (by show w.heap.size ≠ w11.heap.size; omega)).trans (HX11.out 0)
      have x1 : (w11.alloc (.cells #[.int .u64 x.d0, .int .u64 x.d1, .int .u64 x.d2, .int .u64 x.d3, .int .u64 x.d4, .int .u64 x.d5, .int .u64 x.d6, .int .u64 x.d7] 34)).cell? ⟨w.heap.size, 1, none⟩ = some (.int .u64 x.d1) := (World.cell?_alloc_old _ _ _ (by show w.heap.size ≠ w11.heap.size; omega)).trans (HX11.out 1)
      have x2 : (w11.alloc (.cells #[.int .u64 x.d0, .int .u64 x.d1, .int .u64 x.d2, .int .u64 x.d3, .int .u64 x.d4, .int .u64 x.d5, .int .u64 x.d6, .int .u64 x.d7] 34)).cell? ⟨w.heap.size, 2, none⟩ = some (.int .u64 x.d2) := (World.cell?_alloc_old _ _ _ (by show w.heap.size ≠ w11.heap.size; omega)).trans (HX11.out 2)
      have x3 : (w11.alloc (.cells #[.int .u64 x.d0, .int .u64 x.d1, .int .u64 x.d2, .int .u64 x.d3, .int .u64 x.d4, .int .u64 x.d5, .int .u64 x.d6, .int .u64 x.d7] 34)).cell? ⟨w.heap.size, 3, none⟩ = some (.int .u64 x.d3) := (World.cell?_alloc_old _ _ _ (by show w.heap.size ≠ w11.heap.size; omega)).trans (HX11.out 3)
      have x4 : (w11.alloc (.cells #[.int .u64 x.d0, .int .u64 x.d1, .int .u64 x.d2, .int .u64 x.d3, .int .u64 x.d4, .int .u64 x.d5, .int .u64 x.d6, .int .u64 x.d7] 34)).cell? ⟨w.heap.size, 4, none⟩ = some (.int .u64 x.d4) := (World.cell?_alloc_old _ _ _ (by show w.heap.size ≠ w11.heap.size; omega)).trans (HX11.out 4)
      have x5 : (w11.alloc (.cells #[.int .u64 x.d0, .int .u64 x.d1, .int .u64 x.d2, .int .u64 x.d3, .int .u64 x.d4, .int .u64 x.d5, .int .u64 x.d6, .int .u64 x.d7] 34)).cell? ⟨w.heap.size, 5, none⟩ = some (.int .u64 x.d5) := (World.cell?_alloc_old _ _ _ (by show w.heap.size ≠ w11.heap.size; omega)).trans (HX11.out 5)
      have x6 : (w11.alloc (.cells #[.int .u64 x.d0, .int .u64 x.d1, .int .u64 x.d2, .int .u64 x.d3, .int .u64 x.d4, .int .u64 x.d5, .int .u64 x.d6, .int .u64 x.d7] 34)).cell? ⟨w.heap.size, 6, none⟩ = some (.int .u64 x.d6) := (World.cell?_alloc_old _ _ _ (by show w.heap.size ≠ w11.heap.size; omega)).trans (HX11.out 6)
      have x7 : (w11.alloc (.cells #[.int .u64 x.d0, .int .u64 x.d1, .int .u64 x.d2, .int .u64 x.d3, .int .u64 x.d4, .int .u64 x.d5, .int .u64 x.d6, .int .u64 x.d7] 34)).cell? ⟨w.heap.size, 7, none⟩ = some (.int .u64 x.d7) := (World.cell?_alloc_old _ _ _ (by show w.heap.size ≠ w11.heap.size; omega)).trans (HX11.out 7)
      have hq' := run_eql_Ln
      have hxx : eqLn x x = true := by rw [eqLn_decide]; simp
      have hl6 : ¬ 0 = (xs.set r x).length := by rw [List.length_set, HN.out]; omega
      have HL6 := Lib.hid hl6
      clear hl6
      go_wp2_with fail
      refine (restore_bad d g B (xs.set r x) 1 none 0 0 HL6.out _ HD11.out).mono ?_
      rintro e w12 ⟨rfl, rfl⟩
      go_wp2_with fail
      refine (wakes_any _).mono ?_
      rintro e w13 ⟨rfl, hb13⟩
      have HB13 := Lib.hid (Below.then (Below.al HB11.out _) hb13)
      clear hb13
      go_wp2
      go_ret
      exact ⟨rfl, HB13.out⟩
  · have h6' : ¬ (n : Int) = 6 := by omega
    go_wp2_with fail
    refine (wakes_any _).mono ?_
    rintro e w5 ⟨rfl, hb5⟩
    have HB5 := Lib.hid (Below.then HB1.out hb5)
    clear hb5
    go_wp2
    go_ret
    exact ⟨rfl, HB5.out⟩
section
variable {H : Type} {enc : TypeId × Value → H}
theorem own_walk {base : Nat} (W : World) (v0 v1 v2 : Value) (a0 : Arg enc Try.prog W base 35 v0) (a1 : Arg enc Try.prog W base 5 v1) (a2 : Arg enc Try.prog W base 34 v2) :
    Calls Try.prog 6 #[v0, v1, v2] W fun e w' => e = .returned (.bool true) ∧ Below W.heap.size W w' := by
  obtain ⟨xs, hxs⟩ := open_imgs a0
  obtain ⟨n, rfl, hn⟩ := a1.int Try.underlying5
  obtain ⟨hn0, hn1⟩ := wf_u8 hn
  obtain ⟨cs, rfl, h'⟩ := Arg.agg Try.underlying34 rfl (by kernel_rfl : flat Try.prog 10 34 = some [32, 32, 32, 32, 32, 32, 32, 32]) a2
  obtain ⟨x, rfl, _⟩ := open_line h'
  exact own_law v0 xs n x W hn0 hn1 hxs
end
end Go.Proofs.Ytkkeilbaieflmaa
