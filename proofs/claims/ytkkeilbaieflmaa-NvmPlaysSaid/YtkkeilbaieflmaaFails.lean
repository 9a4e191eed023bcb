/-
  NvmFails, walked.
-/
import Derived.Test.YtkkeilbaieflmaaOwn
import Derived.Deep.CutBlock
import Derived.Deep.DeepCutAuto
namespace Go.Proofs.Ytkkeilbaieflmaa
open Go.RowKit
attribute [local go_sem ↓] Go.wp_at_zero Go.wp_at_succ

theorem laid_set (xs : List Ln) (L j : Nat) (x : Ln) (hx : xs[j]? = some x) (hj : j < L) : (xs.take j ++ List.replicate (L - j) Ln.zero).set j x = xs.take (j + 1) ++ List.replicate (L - (j + 1)) Ln.zero := by
  have hl : j < xs.length := (List.getElem?_eq_some_iff.1 hx).1
  have h1 : (xs.take j).length = j := by rw [List.length_take]; omega
  rw [List.set_append_right _ _ (by omega), h1, Nat.sub_self, show L - j = (L - (j + 1)) + 1 by omega, List.replicate_succ, List.set_cons_zero, List.take_add_one, hx]
  simp
theorem run_neq_zero (w : World) : (binOp .neq 34 (.agg #[.int .u64 0, .int .u64 0, .int .u64 0, .int .u64 0, .int .u64 0, .int .u64 0, .int .u64 0, .int .u64 0]) (.agg #[.int .u64 0, .int .u64 0, .int .u64 0, .int .u64 0, .int .u64 0, .int .u64 0, .int .u64 0, .int .u64 0])).run Try.prog w = .ok (.bool false) w := by
  have h := run_neq_Ln w Ln.zero Ln.zero
  have hz : eqLn Ln.zero Ln.zero = true := by rw [eqLn_decide]; simp
  rw [hz] at h
  exact h
theorem run_neq_same (w : World) (y : Ln) : (binOp .neq 34 (.agg #[.int .u64 y.d0, .int .u64 y.d1, .int .u64 y.d2, .int .u64 y.d3, .int .u64 y.d4, .int .u64 y.d5, .int .u64 y.d6, .int .u64 y.d7]) (.agg #[.int .u64 y.d0, .int .u64 y.d1, .int .u64 y.d2, .int .u64 y.d3, .int .u64 y.d4, .int .u64 y.d5, .int .u64 y.d6, .int .u64 y.d7])).run Try.prog w = .ok (.bool false) w := by
  have h := run_neq_Ln w y y
  have hz : eqLn y y = true := by rw [eqLn_decide]; simp
  rw [hz] at h
  exact h
theorem laid_len (xs : List Ln) (L j : Nat) (h1 : j ≤ xs.length) (h2 : j ≤ L) : (xs.take j ++ List.replicate (L - j) Ln.zero).length = L := by
  rw [List.length_append, List.length_take, List.length_replicate]; omega
theorem laid_get (xs : List Ln) (L j i : Nat) (y : Ln) (hj : j ≤ xs.length) (hor : j = xs.length ∨ j = L) (hi : i < L) (h : xs[i]? = some y) : (xs.take j ++ List.replicate (L - j) Ln.zero)[i]? = some y := by
  have hl : i < xs.length := (List.getElem?_eq_some_iff.1 h).1
  have h1 : (xs.take j).length = j := by rw [List.length_take]; omega
  rw [List.getElem?_append_left (by omega), List.getElem?_take, if_pos (by omega), h]
theorem failed_lo (ls : List Ln) (M i : Nat) (h : i < M) : (List.replicate M Ln.zero ++ ls.drop M)[i]? = some Ln.zero := by
  rw [List.getElem?_append_left (by simpa using h), List.getElem?_replicate, if_pos h]
theorem failed_hi (ls : List Ln) (M i : Nat) (h : ¬ i < M) : (List.replicate M Ln.zero ++ ls.drop M)[i]? = ls[i]? := by
  rw [List.getElem?_append_right (by simp; omega), List.length_replicate, List.getElem?_drop]
  congr 1; omega
theorem failed_len (ls : List Ln) (M : Nat) (h : M ≤ ls.length) : (List.replicate M Ln.zero ++ ls.drop M).length = ls.length := by
  rw [List.length_append, List.length_replicate, List.length_drop]; omega
theorem _root_.Go.RowKit.Below.then_ {B : Nat} {w w1 w2 : World} (h : Below B w w1) (h2 : Below w1.heap.size w1 w2) (hB : B ≤ w1.heap.size) : Below B w w2 := h.trans (h2.mono hB)
set_option maxRecDepth 100000 in
set_option maxHeartbeats 4000000 in
theorem fails_law (v : Value) (xs : List Ln) (n m : Int) (w : World) (hn0 : 0 ≤ n) (hn1 : n ≤ 255) (hm0 : 0 ≤ m) (hm1 : m ≤ 255) (hR : Rds w 8 v xs.length (encLns xs)) :
    Calls Try.prog 4 #[.int .u8 n, .int .u8 m, v] w fun e w' => e = .returned (.bool true) ∧ Below w.heap.size w w' := by
  obtain ⟨L, hL⟩ : ∃ L : Nat, 2 + n % 63 = (L : Int) := ⟨(2 + n % 63).toNat, by omega⟩
  have hL2 : 2 ≤ L := by omega
  have hL64 : L ≤ 64 := by omega
  have hLp : (0 : Int) < (L : Int) - 1 := by omega
  have hb1 := Int.emod_nonneg m (show (L : Int) - 1 ≠ 0 by omega)
  have hb2 := Int.emod_lt_of_pos m hLp
  obtain ⟨M, hM⟩ : ∃ M : Nat, 1 + m % ((L : Int) - 1) = (M : Int) := ⟨(1 + m % ((L : Int) - 1)).toNat, by omega⟩
  have hM1 : 1 ≤ M := by omega
  have hML : M < L := by omega
  obtain ⟨k, hk⟩ : ∃ k, xs.length = k := ⟨_, rfl⟩
  have HK := Lib.hid hk
  obtain ⟨_, ad, cap, hv, r2, r3, r4, r5⟩ := id hR
  rw [hk] at hv r2 r4 r5
  subst hv
  have R5 := Lib.hid r5; have HR := Lib.hid hR
  clear r4 r5 hR hk
  have hnew : ∀ w, Calls Try.prog 9 #[.int .i64 L, .int .i64 M] w fun e w' => ∃ d g, e = .returned (.tuple #[.pointer (some ⟨d, 0, none⟩), .int .i64 0]) ∧ DAt w' d g w.heap.size (List.replicate L Ln.zero) M ∧ Below w.heap.size w w' := fun w => new_any L M hL2 hL64 hM1 hML w
  go_enter Try.func4, Try.ntmps4
  go_wp2_with fail
  refine (hnew _).mono ?_
  rintro e w1 ⟨d, g, rfl, hD1, hB1⟩
  have HD1 := Lib.hid hD1; have HB1 := Lib.hid hB1
  clear hD1 hB1 hnew hL hM hb1 hb2
  by_cases h100 : k ≤ 100
  · have h100' : ¬ (100 : Int) < (k : Int) := by omega
    go_upto_block 0 with fail
    go_cut [11] (fun s11 wx => ∃ j : Nat, s11 = .int .i64 j ∧ j ≤ k ∧ j ≤ L ∧ (j = k ∨ j = L) ∧ DAt wx d g w.heap.size (xs.take j ++ List.replicate (L - j) Ln.zero) M ∧ Below w.heap.size w wx)
    case first =>
      go_wp2_with fail
      go_loopw [11] (fun i w' => ∃ j : Nat, j ≤ k ∧ j ≤ L ∧ i = .int .i64 j ∧ DAt w' d g w.heap.size (xs.take j ++ List.replicate (L - j) Ln.zero) M ∧ Below w.heap.size w w') (fun i _ => L - (intOf i).toNat)
      case atStart => exact ⟨0, by omega, by omega, rfl, by simpa using HD1.out, HB1.out⟩
      case round =>
      obtain ⟨j, hjk, hjL, rfl, hD, hB⟩ := hrel
      have HD := Lib.hid hD; have HB := Lib.hid hB
      clear hD hB
      by_cases h1 : j < k
      · by_cases h2 : j < L
        · obtain ⟨y, hy⟩ : ∃ y, xs[j]? = some y := ⟨_, List.getElem?_eq_getElem (by rw [HK.out]; exact h1)⟩
          obtain ⟨b, o, hbo, _, _⟩ := R5.out (by omega)
          subst hbo
          have hc := lines_cells (HR.out.below HB.out) (by rw [HK.out]; omega) j y hy
          have y0 : wr.cell? ⟨b, o + j * 8, none⟩ = some (.int .u64 y.d0) := hc 0 _ rfl
          have y1 : wr.cell? ⟨b, o + j * 8 + 1, none⟩ = some (.int .u64 y.d1) := hc 1 _ rfl
          have y2 : wr.cell? ⟨b, o + j * 8 + 2, none⟩ = some (.int .u64 y.d2) := hc 2 _ rfl
          have y3 : wr.cell? ⟨b, o + j * 8 + 3, none⟩ = some (.int .u64 y.d3) := hc 3 _ rfl
          have y4 : wr.cell? ⟨b, o + j * 8 + 4, none⟩ = some (.int .u64 y.d4) := hc 4 _ rfl
          have y5 : wr.cell? ⟨b, o + j * 8 + 5, none⟩ = some (.int .u64 y.d5) := hc 5 _ rfl
          have y6 : wr.cell? ⟨b, o + j * 8 + 6, none⟩ = some (.int .u64 y.d6) := hc 6 _ rfl
          have y7 : wr.cell? ⟨b, o + j * 8 + 7, none⟩ = some (.int .u64 y.d7) := hc 7 _ rfl
          have HS := Lib.hid (laid_set xs L j y hy h2)
          have HLL := Lib.hid (laid_len xs L j (by rw [HK.out]; exact hjk) hjL)
          have hj0 : (0 : Int) ≤ (j : Int) := by omega
          have hj1 : (j : Int) < (k : Int) := by omega
          have hj2 : (j : Int) < (L : Int) := by omega
          clear hc hy
          go_wp2_with fail
          refine (write_in d g w.heap.size _ M j y (by rw [HLL.out]; exact h2) wr HD.out).mono ?_
          rintro e w2 ⟨rfl, hD2, ho2⟩
          rw [HS.out] at hD2
          have HB2 := Lib.hid (HD.out.stays HB.out ho2 (fun k hk => hk))
          have HD2 := Lib.hid hD2
          clear hD2 ho2
          go_wp2
          go_roundw
          case rel => exact ⟨j + 1, by omega, by omega, by go_num, HD2.out, HB2.out⟩
          case measure => simp [intOf]; omega
        · have hj1 : (j : Int) < (k : Int) := by omega
          have hj2 : ¬ (j : Int) < (L : Int) := by omega
          go_wp2
          go_meet
          exact ⟨j, rfl, hjk, hjL, Or.inr (by omega), HD.out, HB.out⟩
      · have hj1 : ¬ (j : Int) < (k : Int) := by omega
        go_wp2
        go_meet
        exact ⟨j, rfl, hjk, hjL, Or.inl (by omega), HD.out, HB.out⟩
    case rest =>
    obtain ⟨J, rfl, hJk, hJL, hor, hD, hB⟩ := hcut
    have hJx : J ≤ xs.length := by rw [HK.out]; exact hJk
    have hlen := laid_len xs L J hJx hJL
    have hget : ∀ i y, i < L → xs[i]? = some y → (xs.take J ++ List.replicate (L - J) Ln.zero)[i]? = some y := fun i y hi h => laid_get xs L J i y hJx (by rw [HK.out]; exact hor) hi h
    obtain ⟨ls, hls⟩ : ∃ ls, xs.take J ++ List.replicate (L - J) Ln.zero = ls := ⟨_, rfl⟩
    rw [hls] at hlen hD
    simp only [hls] at hget
    have HLEN := Lib.hid hlen; have HGET := Lib.hid hget; have HD := Lib.hid hD; have HB := Lib.hid hB
    clear hlen hget hD hB hls
    go_wp2_with fail
    refine (image_any d g w.heap.size ls M wc HD.out).mono ?_
    rintro e w2 ⟨v2, rfl, ho2, hb2⟩
    rw [HLEN.out] at ho2
    have HB2 := Lib.hid (Below.then HB.out hb2)
    have HD2 := Lib.hid (HD.out.below hb2)
    obtain ⟨g2, o2, c2, rfl, hc21, hc22, hg21, hg22, _, _⟩ := ho2.form (by omega)
    have hgc : g < wc.heap.size := HD.out.glt
    have HO2 := Lib.hid ho2
    clear ho2 hb2 HD HB HD1 HB1
    go_wp2_with fail
    refine (fail_any d g w.heap.size ls M (by omega) w2 HD2.out).mono ?_
    rintro e w3 ⟨rfl, hD3, ho3⟩
    have HB3 := Lib.hid (HD2.out.stays HB2.out ho3 (fun k hk => Or.inr hk))
    have HO3 := Lib.hid (HO2.out.only ho3 (fun k hk (h : k = g) => by
      have h' : g2 = k := Option.some.inj hk
      omega))
    have HD3 := Lib.hid hD3
    have hs3 : w2.heap.size ≤ w3.heap.size := ho3.size
    clear hD3 ho3 HD2 HB2 HO2
    go_wp2_with fail
    refine (image_any d g w.heap.size _ M w3 HD3.out).mono ?_
    rintro e w4 ⟨v4, rfl, ho4, hb4⟩
    rw [failed_len ls M (by rw [HLEN.out]; omega), HLEN.out] at ho4
    have HB4 := Lib.hid (Below.then HB3.out hb4)
    have HD4 := Lib.hid (HD3.out.below hb4)
    have HO2 := Lib.hid (HO3.out.below' hb4)
    obtain ⟨g4, o4, c4, rfl, hc41, hc42, hg41, hg42, _, _⟩ := ho4.form (by omega)
    have HO4 := Lib.hid ho4
    have hsw : w.heap.size ≤ w4.heap.size := HB4.out.size
    clear ho4 hb4 HD3 HB3 HO3
    go_wp2_with fail
    go_loopw [14] (fun i w' => ∃ j : Nat, j ≤ L ∧ i = .int .i64 j ∧ Below w4.heap.size w4 w') (fun i _ => L - (intOf i).toNat)
    case atStart => exact ⟨0, by omega, rfl, Below.refl _ _⟩
    case round =>
    obtain ⟨j, hjL, rfl, hBR⟩ := hrel
    have HBR := Lib.hid hBR
    clear hBR
    by_cases h1 : j < L
    · obtain ⟨y, hy⟩ : ∃ y, ls[j]? = some y := ⟨_, List.getElem?_eq_getElem (by rw [HLEN.out]; exact h1)⟩
      have HY := Lib.hid hy
      have hw := (own_lines (HO2.out.below' HBR.out) (by omega) j y hy).1
      have hj0 : (0 : Int) ≤ (j : Int) := by omega
      have hj1 : (j : Int) < (L : Int) := by omega
      have hg2w : ¬ g2 = wr.heap.size := by have := HBR.out.size; omega
      have hg4w : ¬ g4 = wr.heap.size := by have := HBR.out.size; omega
      by_cases h2 : j < M
      · have hj2 : (j : Int) < (M : Int) := by omega
        have HY4 := Lib.hid (failed_lo ls M j h2)
        by_cases h3 : j < k
        · have hj3 : (j : Int) < (k : Int) := by omega
          obtain ⟨b, o, hbo, hbl, _⟩ := R5.out (by omega)
          subst hbo
          obtain ⟨y1, hx⟩ : ∃ y1, xs[j]? = some y1 := ⟨_, List.getElem?_eq_getElem (by rw [HK.out]; exact h3)⟩
          obtain rfl : y = y1 := Option.some.inj (by rw [← hy]; exact HGET.out j y1 h1 hx)
          have HX := Lib.hid hx
          clear hx hy
          have hbw : ¬ b = wr.heap.size := by have := HBR.out.size; omega
          have p0 : wr.cell? ⟨g2, o2 + j * 8, none⟩ = some (.int .u64 y.d0) := hw 0 _ rfl
          have p1 : wr.cell? ⟨g2, o2 + j * 8 + 1, none⟩ = some (.int .u64 y.d1) := hw 1 _ rfl
          have p2 : wr.cell? ⟨g2, o2 + j * 8 + 2, none⟩ = some (.int .u64 y.d2) := hw 2 _ rfl
          have p3 : wr.cell? ⟨g2, o2 + j * 8 + 3, none⟩ = some (.int .u64 y.d3) := hw 3 _ rfl
          have p4 : wr.cell? ⟨g2, o2 + j * 8 + 4, none⟩ = some (.int .u64 y.d4) := hw 4 _ rfl
          have p5 : wr.cell? ⟨g2, o2 + j * 8 + 5, none⟩ = some (.int .u64 y.d5) := hw 5 _ rfl
          have p6 : wr.cell? ⟨g2, o2 + j * 8 + 6, none⟩ = some (.int .u64 y.d6) := hw 6 _ rfl
          have p7 : wr.cell? ⟨g2, o2 + j * 8 + 7, none⟩ = some (.int .u64 y.d7) := hw 7 _ rfl
          have hBA : Below w4.heap.size w4 (wr.alloc (.cells #[.int .u64 0, .int .u64 0, .int .u64 0, .int .u64 0, .int .u64 0, .int .u64 0, .int .u64 0, .int .u64 0] 34)) := Below.al HBR.out _
          have hA2 := (own_lines (HO2.out.below' hBA) (by omega) j y HY.out).1
          have hA4 := (own_lines (HO4.out.below' hBA) (by omega) j Ln.zero HY4.out).1
          have hA0 := lines_cells (HR.out.below ((HB4.out).then_ hBA hsw)) (by rw [HK.out]; omega) j y HX.out
          have q0 : (wr.alloc (.cells #[.int .u64 0, .int .u64 0, .int .u64 0, .int .u64 0, .int .u64 0, .int .u64 0, .int .u64 0, .int .u64 0] 34)).cell? ⟨g2, o2 + j * 8, none⟩ = some (.int .u64 y.d0) := hA2 0 _ rfl
          have q1 : (wr.alloc (.cells #[.int .u64 0, .int .u64 0, .int .u64 0, .int .u64 0, .int .u64 0, .int .u64 0, .int .u64 0, .int .u64 0] 34)).cell? ⟨g2, o2 + j * 8 + 1, none⟩ = some (.int .u64 y.d1) := hA2 1 _ rfl
          have q2 : (wr.alloc (.cells #[.int .u64 0, .int .u64 0, .int .u64 0, .int .u64 0, .int .u64 0, .int .u64 0, .int .u64 0, .int .u64 0] 34)).cell? ⟨g2, o2 + j * 8 + 2, none⟩ = some (.int .u64 y.d2) := hA2 2 _ rfl
          have q3 : (wr.alloc (.cells #[.int .u64 0, .int .u64 0, .int .u64 0, .int .u64 0, .int .u64 0, .int .u64 0, .int .u64 0, .int .u64 0] 34)).cell? ⟨g2, o2 + j * 8 + 3, none⟩ = some (.int .u64 y.d3) := hA2 3 _ rfl
          have q4 : (wr.alloc (.cells #[.int .u64 0, .int .u64 0, .int .u64 0, .int .u64 0, .int .u64 0, .int .u64 0, .int .u64 0, .int .u64 0] 34)).cell? ⟨g2, o2 + j * 8 + 4, none⟩ = some (.int .u64 y.d4) := hA2 4 _ rfl
          have q5 : (wr.alloc (.cells #[.int .u64 0, .int .u64 0, .int .u64 0, .int .u64 0, .int .u64 0, .int .u64 0, .int .u64 0, .int .u64 0] 34)).cell? ⟨g2, o2 + j * 8 + 5, none⟩ = some (.int .u64 y.d5) := hA2 5 _ rfl
          have q6 : (wr.alloc (.cells #[.int .u64 0, .int .u64 0, .int .u64 0, .int .u64 0, .int .u64 0, .int .u64 0, .int .u64 0, .int .u64 0] 34)).cell? ⟨g2, o2 + j * 8 + 6, none⟩ = some (.int .u64 y.d6) := hA2 6 _ rfl
          have q7 : (wr.alloc (.cells #[.int .u64 0, .int .u64 0, .int .u64 0, .int .u64 0, .int .u64 0, .int .u64 0, .int .u64 0, .int .u64 0] 34)).cell? ⟨g2, o2 + j * 8 + 7, none⟩ = some (.int .u64 y.d7) := hA2 7 _ rfl
          have r0 : (wr.alloc (.cells #[.int .u64 0, .int .u64 0, .int .u64 0, .int .u64 0, .int .u64 0, .int .u64 0, .int .u64 0, .int .u64 0] 34)).cell? ⟨g4, o4 + j * 8, none⟩ = some (.int .u64 0) := hA4 0 _ rfl
          have r1 : (wr.alloc (.cells #[.int .u64 0, .int .u64 0, .int .u64 0, .int .u64 0, .int .u64 0, .int .u64 0, .int .u64 0, .int .u64 0] 34)).cell? ⟨g4, o4 + j * 8 + 1, none⟩ = some (.int .u64 0) := hA4 1 _ rfl
          have r2 : (wr.alloc (.cells #[.int .u64 0, .int .u64 0, .int .u64 0, .int .u64 0, .int .u64 0, .int .u64 0, .int .u64 0, .int .u64 0] 34)).cell? ⟨g4, o4 + j * 8 + 2, none⟩ = some (.int .u64 0) := hA4 2 _ rfl
          have r3 : (wr.alloc (.cells #[.int .u64 0, .int .u64 0, .int .u64 0, .int .u64 0, .int .u64 0, .int .u64 0, .int .u64 0, .int .u64 0] 34)).cell? ⟨g4, o4 + j * 8 + 3, none⟩ = some (.int .u64 0) := hA4 3 _ rfl
          have r4 : (wr.alloc (.cells #[.int .u64 0, .int .u64 0, .int .u64 0, .int .u64 0, .int .u64 0, .int .u64 0, .int .u64 0, .int .u64 0] 34)).cell? ⟨g4, o4 + j * 8 + 4, none⟩ = some (.int .u64 0) := hA4 4 _ rfl
          have r5 : (wr.alloc (.cells #[.int .u64 0, .int .u64 0, .int .u64 0, .int .u64 0, .int .u64 0, .int .u64 0, .int .u64 0, .int .u64 0] 34)).cell? ⟨g4, o4 + j * 8 + 5, none⟩ = some (.int .u64 0) := hA4 5 _ rfl
          have r6 : (wr.alloc (.cells #[.int .u64 0, .int .u64 0, .int .u64 0, .int .u64 0, .int .u64 0, .int .u64 0, .int .u64 0, .int .u64 0] 34)).cell? ⟨g4, o4 + j * 8 + 6, none⟩ = some (.int .u64 0) := hA4 6 _ rfl
          have r7 : (wr.alloc (.cells #[.int .u64 0, .int .u64 0, .int .u64 0, .int .u64 0, .int .u64 0, .int .u64 0, .int .u64 0, .int .u64 0] 34)).cell? ⟨g4, o4 + j * 8 + 7, none⟩ = some (.int .u64 0) := hA4 7 _ rfl
          have t0 : (wr.alloc (.cells #[.int .u64 0, .int .u64 0, .int .u64 0, .int .u64 0, .int .u64 0, .int .u64 0, .int .u64 0, .int .u64 0] 34)).cell? ⟨b, o + j * 8, none⟩ = some (.int .u64 y.d0) := hA0 0 _ rfl
          have t1 : (wr.alloc (.cells #[.int .u64 0, .int .u64 0, .int .u64 0, .int .u64 0, .int .u64 0, .int .u64 0, .int .u64 0, .int .u64 0] 34)).cell? ⟨b, o + j * 8 + 1, none⟩ = some (.int .u64 y.d1) := hA0 1 _ rfl
          have t2 : (wr.alloc (.cells #[.int .u64 0, .int .u64 0, .int .u64 0, .int .u64 0, .int .u64 0, .int .u64 0, .int .u64 0, .int .u64 0] 34)).cell? ⟨b, o + j * 8 + 2, none⟩ = some (.int .u64 y.d2) := hA0 2 _ rfl
          have t3 : (wr.alloc (.cells #[.int .u64 0, .int .u64 0, .int .u64 0, .int .u64 0, .int .u64 0, .int .u64 0, .int .u64 0, .int .u64 0] 34)).cell? ⟨b, o + j * 8 + 3, none⟩ = some (.int .u64 y.d3) := hA0 3 _ rfl
          have t4 : (wr.alloc (.cells #[.int .u64 0, .int .u64 0, .int .u64 0, .int .u64 0, .int .u64 0, .int .u64 0, .int .u64 0, .int .u64 0] 34)).cell? ⟨b, o + j * 8 + 4, none⟩ = some (.int .u64 y.d4) := hA0 4 _ rfl
          have t5 : (wr.alloc (.cells #[.int .u64 0, .int .u64 0, .int .u64 0, .int .u64 0, .int .u64 0, .int .u64 0, .int .u64 0, .int .u64 0] 34)).cell? ⟨b, o + j * 8 + 5, none⟩ = some (.int .u64 y.d5) := hA0 5 _ rfl
          have t6 : (wr.alloc (.cells #[.int .u64 0, .int .u64 0, .int .u64 0, .int .u64 0, .int .u64 0, .int .u64 0, .int .u64 0, .int .u64 0] 34)).cell? ⟨b, o + j * 8 + 6, none⟩ = some (.int .u64 y.d6) := hA0 6 _ rfl
          have t7 : (wr.alloc (.cells #[.int .u64 0, .int .u64 0, .int .u64 0, .int .u64 0, .int .u64 0, .int .u64 0, .int .u64 0, .int .u64 0] 34)).cell? ⟨b, o + j * 8 + 7, none⟩ = some (.int .u64 y.d7) := hA0 7 _ rfl
          have b0 : (wr.alloc (.cells #[.int .u64 0, .int .u64 0, .int .u64 0, .int .u64 0, .int .u64 0, .int .u64 0, .int .u64 0, .int .u64 0] 34)).cell? ⟨wr.heap.size, 0, none⟩ = some (.int .u64 0) := by rw [cell_of_row _ _ _ _ 34 (0, 0) (heap_alloc_new wr _)]; rfl
          have b1 : (wr.alloc (.cells #[.int .u64 0, .int .u64 0, .int .u64 0, .int .u64 0, .int .u64 0, .int .u64 0, .int .u64 0, .int .u64 0] 34)).cell? ⟨wr.heap.size, 1, none⟩ = some (.int .u64 0) := by rw [cell_of_row _ _ _ _ 34 (0, 0) (heap_alloc_new wr _)]; rfl
          have b2 : (wr.alloc (.cells #[.int .u64 0, .int .u64 0, .int .u64 0, .int .u64 0, .int .u64 0, .int .u64 0, .int .u64 0, .int .u64 0] 34)).cell? ⟨wr.heap.size, 2, none⟩ = some (.int .u64 0) := by rw [cell_of_row _ _ _ _ 34 (0, 0) (heap_alloc_new wr _)]; rfl
          have b3 : (wr.alloc (.cells #[.int .u64 0, .int .u64 0, .int .u64 0, .int .u64 0, .int .u64 0, .int .u64 0, .int .u64 0, .int .u64 0] 34)).cell? ⟨wr.heap.size, 3, none⟩ = some (.int .u64 0) := by rw [cell_of_row _ _ _ _ 34 (0, 0) (heap_alloc_new wr _)]; rfl
          have b4 : (wr.alloc (.cells #[.int .u64 0, .int .u64 0, .int .u64 0, .int .u64 0, .int .u64 0, .int .u64 0, .int .u64 0, .int .u64 0] 34)).cell? ⟨wr.heap.size, 4, none⟩ = some (.int .u64 0) := by rw [cell_of_row _ _ _ _ 34 (0, 0) (heap_alloc_new wr _)]; rfl
          have b5 : (wr.alloc (.cells #[.int .u64 0, .int .u64 0, .int .u64 0, .int .u64 0, .int .u64 0, .int .u64 0, .int .u64 0, .int .u64 0] 34)).cell? ⟨wr.heap.size, 5, none⟩ = some (.int .u64 0) := by rw [cell_of_row _ _ _ _ 34 (0, 0) (heap_alloc_new wr _)]; rfl
          have b6 : (wr.alloc (.cells #[.int .u64 0, .int .u64 0, .int .u64 0, .int .u64 0, .int .u64 0, .int .u64 0, .int .u64 0, .int .u64 0] 34)).cell? ⟨wr.heap.size, 6, none⟩ = some (.int .u64 0) := by rw [cell_of_row _ _ _ _ 34 (0, 0) (heap_alloc_new wr _)]; rfl
          have b7 : (wr.alloc (.cells #[.int .u64 0, .int .u64 0, .int .u64 0, .int .u64 0, .int .u64 0, .int .u64 0, .int .u64 0, .int .u64 0] 34)).cell? ⟨wr.heap.size, 7, none⟩ = some (.int .u64 0) := by rw [cell_of_row _ _ _ _ 34 (0, 0) (heap_alloc_new wr _)]; rfl
          have hq := run_neq_Ln
          have hz := run_neq_zero
          have hz2 := fun w => run_neq_same w y
          have hyy : eqLn y y = true := by rw [eqLn_decide]; simp
          clear hA2 hA4 hA0 hw hBA
          go_wp2_with fail
          go_quiet (fail)
          go_wp2
          go_roundw
          case rel => exact ⟨j + 1, by omega, by go_num, below_drewN (Below.al HBR.out _) _⟩
          case measure => simp [intOf]; omega

        · have hj3 : ¬ (j : Int) < (k : Int) := by omega
          clear hy
          have p0 : wr.cell? ⟨g2, o2 + j * 8, none⟩ = some (.int .u64 y.d0) := hw 0 _ rfl
          have p1 : wr.cell? ⟨g2, o2 + j * 8 + 1, none⟩ = some (.int .u64 y.d1) := hw 1 _ rfl
          have p2 : wr.cell? ⟨g2, o2 + j * 8 + 2, none⟩ = some (.int .u64 y.d2) := hw 2 _ rfl
          have p3 : wr.cell? ⟨g2, o2 + j * 8 + 3, none⟩ = some (.int .u64 y.d3) := hw 3 _ rfl
          have p4 : wr.cell? ⟨g2, o2 + j * 8 + 4, none⟩ = some (.int .u64 y.d4) := hw 4 _ rfl
          have p5 : wr.cell? ⟨g2, o2 + j * 8 + 5, none⟩ = some (.int .u64 y.d5) := hw 5 _ rfl
          have p6 : wr.cell? ⟨g2, o2 + j * 8 + 6, none⟩ = some (.int .u64 y.d6) := hw 6 _ rfl
          have p7 : wr.cell? ⟨g2, o2 + j * 8 + 7, none⟩ = some (.int .u64 y.d7) := hw 7 _ rfl
          have hBA : Below w4.heap.size w4 (wr.alloc (.cells #[.int .u64 0, .int .u64 0, .int .u64 0, .int .u64 0, .int .u64 0, .int .u64 0, .int .u64 0, .int .u64 0] 34)) := Below.al HBR.out _
          have hA2 := (own_lines (HO2.out.below' hBA) (by omega) j y HY.out).1
          have hA4 := (own_lines (HO4.out.below' hBA) (by omega) j Ln.zero HY4.out).1
          have q0 : (wr.alloc (.cells #[.int .u64 0, .int .u64 0, .int .u64 0, .int .u64 0, .int .u64 0, .int .u64 0, .int .u64 0, .int .u64 0] 34)).cell? ⟨g2, o2 + j * 8, none⟩ = some (.int .u64 y.d0) := hA2 0 _ rfl
          have q1 : (wr.alloc (.cells #[.int .u64 0, .int .u64 0, .int .u64 0, .int .u64 0, .int .u64 0, .int .u64 0, .int .u64 0, .int .u64 0] 34)).cell? ⟨g2, o2 + j * 8 + 1, none⟩ = some (.int .u64 y.d1) := hA2 1 _ rfl
          have q2 : (wr.alloc (.cells #[.int .u64 0, .int .u64 0, .int .u64 0, .int .u64 0, .int .u64 0, .int .u64 0, .int .u64 0, .int .u64 0] 34)).cell? ⟨g2, o2 + j * 8 + 2, none⟩ = some (.int .u64 y.d2) := hA2 2 _ rfl
          have q3 : (wr.alloc (.cells #[.int .u64 0, .int .u64 0, .int .u64 0, .int .u64 0, .int .u64 0, .int .u64 0, .int .u64 0, .int .u64 0] 34)).cell? ⟨g2, o2 + j * 8 + 3, none⟩ = some (.int .u64 y.d3) := hA2 3 _ rfl
          have q4 : (wr.alloc (.cells #[.int .u64 0, .int .u64 0, .int .u64 0, .int .u64 0, .int .u64 0, .int .u64 0, .int .u64 0, .int .u64 0] 34)).cell? ⟨g2, o2 + j * 8 + 4, none⟩ = some (.int .u64 y.d4) := hA2 4 _ rfl
          have q5 : (wr.alloc (.cells #[.int .u64 0, .int .u64 0, .int .u64 0, .int .u64 0, .int .u64 0, .int .u64 0, .int .u64 0, .int .u64 0] 34)).cell? ⟨g2, o2 + j * 8 + 5, none⟩ = some (.int .u64 y.d5) := hA2 5 _ rfl
          have q6 : (wr.alloc (.cells #[.int .u64 0, .int .u64 0, .int .u64 0, .int .u64 0, .int .u64 0, .int .u64 0, .int .u64 0, .int .u64 0] 34)).cell? ⟨g2, o2 + j * 8 + 6, none⟩ = some (.int .u64 y.d6) := hA2 6 _ rfl
          have q7 : (wr.alloc (.cells #[.int .u64 0, .int .u64 0, .int .u64 0, .int .u64 0, .int .u64 0, .int .u64 0, .int .u64 0, .int .u64 0] 34)).cell? ⟨g2, o2 + j * 8 + 7, none⟩ = some (.int .u64 y.d7) := hA2 7 _ rfl
          have r0 : (wr.alloc (.cells #[.int .u64 0, .int .u64 0, .int .u64 0, .int .u64 0, .int .u64 0, .int .u64 0, .int .u64 0, .int .u64 0] 34)).cell? ⟨g4, o4 + j * 8, none⟩ = some (.int .u64 0) := hA4 0 _ rfl
          have r1 : (wr.alloc (.cells #[.int .u64 0, .int .u64 0, .int .u64 0, .int .u64 0, .int .u64 0, .int .u64 0, .int .u64 0, .int .u64 0] 34)).cell? ⟨g4, o4 + j * 8 + 1, none⟩ = some (.int .u64 0) := hA4 1 _ rfl
          have r2 : (wr.alloc (.cells #[.int .u64 0, .int .u64 0, .int .u64 0, .int .u64 0, .int .u64 0, .int .u64 0, .int .u64 0, .int .u64 0] 34)).cell? ⟨g4, o4 + j * 8 + 2, none⟩ = some (.int .u64 0) := hA4 2 _ rfl
          have r3 : (wr.alloc (.cells #[.int .u64 0, .int .u64 0, .int .u64 0, .int .u64 0, .int .u64 0, .int .u64 0, .int .u64 0, .int .u64 0] 34)).cell? ⟨g4, o4 + j * 8 + 3, none⟩ = some (.int .u64 0) := hA4 3 _ rfl
          have r4 : (wr.alloc (.cells #[.int .u64 0, .int .u64 0, .int .u64 0, .int .u64 0, .int .u64 0, .int .u64 0, .int .u64 0, .int .u64 0] 34)).cell? ⟨g4, o4 + j * 8 + 4, none⟩ = some (.int .u64 0) := hA4 4 _ rfl
          have r5 : (wr.alloc (.cells #[.int .u64 0, .int .u64 0, .int .u64 0, .int .u64 0, .int .u64 0, .int .u64 0, .int .u64 0, .int .u64 0] 34)).cell? ⟨g4, o4 + j * 8 + 5, none⟩ = some (.int .u64 0) := hA4 5 _ rfl
          have r6 : (wr.alloc (.cells #[.int .u64 0, .int .u64 0, .int .u64 0, .int .u64 0, .int .u64 0, .int .u64 0, .int .u64 0, .int .u64 0] 34)).cell? ⟨g4, o4 + j * 8 + 6, none⟩ = some (.int .u64 0) := hA4 6 _ rfl
          have r7 : (wr.alloc (.cells #[.int .u64 0, .int .u64 0, .int .u64 0, .int .u64 0, .int .u64 0, .int .u64 0, .int .u64 0, .int .u64 0] 34)).cell? ⟨g4, o4 + j * 8 + 7, none⟩ = some (.int .u64 0) := hA4 7 _ rfl
          have b0 : (wr.alloc (.cells #[.int .u64 0, .int .u64 0, .int .u64 0, .int .u64 0, .int .u64 0, .int .u64 0, .int .u64 0, .int .u64 0] 34)).cell? ⟨wr.heap.size, 0, none⟩ = some (.int .u64 0) := by rw [cell_of_row _ _ _ _ 34 (0, 0) (heap_alloc_new wr _)]; rfl
          have b1 : (wr.alloc (.cells #[.int .u64 0, .int .u64 0, .int .u64 0, .int .u64 0, .int .u64 0, .int .u64 0, .int .u64 0, .int .u64 0] 34)).cell? ⟨wr.heap.size, 1, none⟩ = some (.int .u64 0) := by rw [cell_of_row _ _ _ _ 34 (0, 0) (heap_alloc_new wr _)]; rfl
          have b2 : (wr.alloc (.cells #[.int .u64 0, .int .u64 0, .int .u64 0, .int .u64 0, .int .u64 0, .int .u64 0, .int .u64 0, .int .u64 0] 34)).cell? ⟨wr.heap.size, 2, none⟩ = some (.int .u64 0) := by rw [cell_of_row _ _ _ _ 34 (0, 0) (heap_alloc_new wr _)]; rfl
          have b3 : (wr.alloc (.cells #[.int .u64 0, .int .u64 0, .int .u64 0, .int .u64 0, .int .u64 0, .int .u64 0, .int .u64 0, .int .u64 0] 34)).cell? ⟨wr.heap.size, 3, none⟩ = some (.int .u64 0) := by rw [cell_of_row _ _ _ _ 34 (0, 0) (heap_alloc_new wr _)]; rfl
          have b4 : (wr.alloc (.cells #[.int .u64 0, .int .u64 0, .int .u64 0, .int .u64 0, .int .u64 0, .int .u64 0, .int .u64 0, .int .u64 0] 34)).cell? ⟨wr.heap.size, 4, none⟩ = some (.int .u64 0) := by rw [cell_of_row _ _ _ _ 34 (0, 0) (heap_alloc_new wr _)]; rfl
          have b5 : (wr.alloc (.cells #[.int .u64 0, .int .u64 0, .int .u64 0, .int .u64 0, .int .u64 0, .int .u64 0, .int .u64 0, .int .u64 0] 34)).cell? ⟨wr.heap.size, 5, none⟩ = some (.int .u64 0) := by rw [cell_of_row _ _ _ _ 34 (0, 0) (heap_alloc_new wr _)]; rfl
          have b6 : (wr.alloc (.cells #[.int .u64 0, .int .u64 0, .int .u64 0, .int .u64 0, .int .u64 0, .int .u64 0, .int .u64 0, .int .u64 0] 34)).cell? ⟨wr.heap.size, 6, none⟩ = some (.int .u64 0) := by rw [cell_of_row _ _ _ _ 34 (0, 0) (heap_alloc_new wr _)]; rfl
          have b7 : (wr.alloc (.cells #[.int .u64 0, .int .u64 0, .int .u64 0, .int .u64 0, .int .u64 0, .int .u64 0, .int .u64 0, .int .u64 0] 34)).cell? ⟨wr.heap.size, 7, none⟩ = some (.int .u64 0) := by rw [cell_of_row _ _ _ _ 34 (0, 0) (heap_alloc_new wr _)]; rfl
          have hq := run_neq_Ln
          have hz := run_neq_zero
          have hz2 := fun w => run_neq_same w y
          have hyy : eqLn y y = true := by rw [eqLn_decide]; simp
          clear hA2 hA4 hw hBA
          go_wp2_with fail
          go_quiet (fail)
          go_wp2
          go_roundw
          case rel => exact ⟨j + 1, by omega, by go_num, below_drewN (Below.al HBR.out _) _⟩
          case measure => simp [intOf]; omega

      · have hj2 : ¬ (j : Int) < (M : Int) := by omega
        have HY4 := Lib.hid ((failed_hi ls M j h2).trans hy)
        by_cases h3 : j < k
        · have hj3 : (j : Int) < (k : Int) := by omega
          obtain ⟨b, o, hbo, hbl, _⟩ := R5.out (by omega)
          subst hbo
          obtain ⟨y1, hx⟩ : ∃ y1, xs[j]? = some y1 := ⟨_, List.getElem?_eq_getElem (by rw [HK.out]; exact h3)⟩
          obtain rfl : y = y1 := Option.some.inj (by rw [← hy]; exact HGET.out j y1 h1 hx)
          have HX := Lib.hid hx
          clear hx hy
          have hbw : ¬ b = wr.heap.size := by have := HBR.out.size; omega
          have p0 : wr.cell? ⟨g2, o2 + j * 8, none⟩ = some (.int .u64 y.d0) := hw 0 _ rfl
          have p1 : wr.cell? ⟨g2, o2 + j * 8 + 1, none⟩ = some (.int .u64 y.d1) := hw 1 _ rfl
          have p2 : wr.cell? ⟨g2, o2 + j * 8 + 2, none⟩ = some (.int .u64 y.d2) := hw 2 _ rfl
          have p3 : wr.cell? ⟨g2, o2 + j * 8 + 3, none⟩ = some (.int .u64 y.d3) := hw 3 _ rfl
          have p4 : wr.cell? ⟨g2, o2 + j * 8 + 4, none⟩ = some (.int .u64 y.d4) := hw 4 _ rfl
          have p5 : wr.cell? ⟨g2, o2 + j * 8 + 5, none⟩ = some (.int .u64 y.d5) := hw 5 _ rfl
          have p6 : wr.cell? ⟨g2, o2 + j * 8 + 6, none⟩ = some (.int .u64 y.d6) := hw 6 _ rfl
          have p7 : wr.cell? ⟨g2, o2 + j * 8 + 7, none⟩ = some (.int .u64 y.d7) := hw 7 _ rfl
          have hBA : Below w4.heap.size w4 (wr.alloc (.cells #[.int .u64 y.d0, .int .u64 y.d1, .int .u64 y.d2, .int .u64 y.d3, .int .u64 y.d4, .int .u64 y.d5, .int .u64 y.d6, .int .u64 y.d7] 34)) := Below.al HBR.out _
          have hA2 := (own_lines (HO2.out.below' hBA) (by omega) j y HY.out).1
          have hA4 := (own_lines (HO4.out.below' hBA) (by omega) j y HY4.out).1
          have hA0 := lines_cells (HR.out.below ((HB4.out).then_ hBA hsw)) (by rw [HK.out]; omega) j y HX.out
          have q0 : (wr.alloc (.cells #[.int .u64 y.d0, .int .u64 y.d1, .int .u64 y.d2, .int .u64 y.d3, .int .u64 y.d4, .int .u64 y.d5, .int .u64 y.d6, .int .u64 y.d7] 34)).cell? ⟨g2, o2 + j * 8, none⟩ = some (.int .u64 y.d0) := hA2 0 _ rfl
          have q1 : (wr.alloc (.cells #[.int .u64 y.d0, .int .u64 y.d1, .int .u64 y.d2, .int .u64 y.d3, .int .u64 y.d4, .int .u64 y.d5, .int .u64 y.d6, .int .u64 y.d7] 34)).cell? ⟨g2, o2 + j * 8 + 1, none⟩ = some (.int .u64 y.d1) := hA2 1 _ rfl
          have q2 : (wr.alloc (.cells #[.int .u64 y.d0, .int .u64 y.d1, .int .u64 y.d2, .int .u64 y.d3, .int .u64 y.d4, .int .u64 y.d5, .int .u64 y.d6, .int .u64 y.d7] 34)).cell? ⟨g2, o2 + j * 8 + 2, none⟩ = some (.int .u64 y.d2) := hA2 2 _ rfl
          have q3 : (wr.alloc (.cells #[.int .u64 y.d0, .int .u64 y.d1, .int .u64 y.d2, .int .u64 y.d3, .int .u64 y.d4, .int .u64 y.d5, .int .u64 y.d6, .int .u64 y.d7] 34)).cell? ⟨g2, o2 + j * 8 + 3, none⟩ = some (.int .u64 y.d3) := hA2 3 _ rfl
          have q4 : (wr.alloc (.cells #[.int .u64 y.d0, .int .u64 y.d1, .int .u64 y.d2, .int .u64 y.d3, .int .u64 y.d4, .int .u64 y.d5, .int .u64 y.d6, .int .u64 y.d7] 34)).cell? ⟨g2, o2 + j * 8 + 4, none⟩ = some (.int .u64 y.d4) := hA2 4 _ rfl
          have q5 : (wr.alloc (.cells #[.int .u64 y.d0, .int .u64 y.d1, .int .u64 y.d2, .int .u64 y.d3, .int .u64 y.d4, .int .u64 y.d5, .int .u64 y.d6, .int .u64 y.d7] 34)).cell? ⟨g2, o2 + j * 8 + 5, none⟩ = some (.int .u64 y.d5) := hA2 5 _ rfl
          have q6 : (wr.alloc (.cells #[.int .u64 y.d0, .int .u64 y.d1, .int .u64 y.d2, .int .u64 y.d3, .int .u64 y.d4, .int .u64 y.d5, .int .u64 y.d6, .int .u64 y.d7] 34)).cell? ⟨g2, o2 + j * 8 + 6, none⟩ = some (.int .u64 y.d6) := hA2 6 _ rfl
          have q7 : (wr.alloc (.cells #[.int .u64 y.d0, .int .u64 y.d1, .int .u64 y.d2, .int .u64 y.d3, .int .u64 y.d4, .int .u64 y.d5, .int .u64 y.d6, .int .u64 y.d7] 34)).cell? ⟨g2, o2 + j * 8 + 7, none⟩ = some (.int .u64 y.d7) := hA2 7 _ rfl
          have r0 : (wr.alloc (.cells #[.int .u64 y.d0, .int .u64 y.d1, .int .u64 y.d2, .int .u64 y.d3, .int .u64 y.d4, .int .u64 y.d5, .int .u64 y.d6, .int .u64 y.d7] 34)).cell? ⟨g4, o4 + j * 8, none⟩ = some (.int .u64 y.d0) := hA4 0 _ rfl
          have r1 : (wr.alloc (.cells #[.int .u64 y.d0, .int .u64 y.d1, .int .u64 y.d2, .int .u64 y.d3, .int .u64 y.d4, .int .u64 y.d5, .int .u64 y.d6, .int .u64 y.d7] 34)).cell? ⟨g4, o4 + j * 8 + 1, none⟩ = some (.int .u64 y.d1) := hA4 1 _ rfl
          have r2 : (wr.alloc (.cells #[.int .u64 y.d0, .int .u64 y.d1, .int .u64 y.d2, .int .u64 y.d3, .int .u64 y.d4, .int .u64 y.d5, .int .u64 y.d6, .int .u64 y.d7] 34)).cell? ⟨g4, o4 + j * 8 + 2, none⟩ = some (.int .u64 y.d2) := hA4 2 _ rfl
          have r3 : (wr.alloc (.cells #[.int .u64 y.d0, .int .u64 y.d1, .int .u64 y.d2, .int .u64 y.d3, .int .u64 y.d4, .int .u64 y.d5, .int .u64 y.d6, .int .u64 y.d7] 34)).cell? ⟨g4, o4 + j * 8 + 3, none⟩ = some (.int .u64 y.d3) := hA4 3 _ rfl
          have r4 : (wr.alloc (.cells #[.int .u64 y.d0, .int .u64 y.d1, .int .u64 y.d2, .int .u64 y.d3, .int .u64 y.d4, .int .u64 y.d5, .int .u64 y.d6, .int .u64 y.d7] 34)).cell? ⟨g4, o4 + j * 8 + 4, none⟩ = some (.int .u64 y.d4) := hA4 4 _ rfl
          have r5 : (wr.alloc (.cells #[.int .u64 y.d0, .int .u64 y.d1, .int .u64 y.d2, .int .u64 y.d3, .int .u64 y.d4, .int .u64 y.d5, .int .u64 y.d6, .int .u64 y.d7] 34)).cell? ⟨g4, o4 + j * 8 + 5, none⟩ = some (.int .u64 y.d5) := hA4 5 _ rfl
          have r6 : (wr.alloc (.cells #[.int .u64 y.d0, .int .u64 y.d1, .int .u64 y.d2, .int .u64 y.d3, .int .u64 y.d4, .int .u64 y.d5, .int .u64 y.d6, .int .u64 y.d7] 34)).cell? ⟨g4, o4 + j * 8 + 6, none⟩ = some (.int .u64 y.d6) := hA4 6 _ rfl
          have r7 : (wr.alloc (.cells #[.int .u64 y.d0, .int .u64 y.d1, .int .u64 y.d2, .int .u64 y.d3, .int .u64 y.d4, .int .u64 y.d5, .int .u64 y.d6, .int .u64 y.d7] 34)).cell? ⟨g4, o4 + j * 8 + 7, none⟩ = some (.int .u64 y.d7) := hA4 7 _ rfl
          have t0 : (wr.alloc (.cells #[.int .u64 y.d0, .int .u64 y.d1, .int .u64 y.d2, .int .u64 y.d3, .int .u64 y.d4, .int .u64 y.d5, .int .u64 y.d6, .int .u64 y.d7] 34)).cell? ⟨b, o + j * 8, none⟩ = some (.int .u64 y.d0) := hA0 0 _ rfl
          have t1 : (wr.alloc (.cells #[.int .u64 y.d0, .int .u64 y.d1, .int .u64 y.d2, .int .u64 y.d3, .int .u64 y.d4, .int .u64 y.d5, .int .u64 y.d6, .int .u64 y.d7] 34)).cell? ⟨b, o + j * 8 + 1, none⟩ = some (.int .u64 y.d1) := hA0 1 _ rfl
          have t2 : (wr.alloc (.cells #[.int .u64 y.d0, .int .u64 y.d1, .int .u64 y.d2, .int .u64 y.d3, .int .u64 y.d4, .int .u64 y.d5, .int .u64 y.d6, .int .u64 y.d7] 34)).cell? ⟨b, o + j * 8 + 2, none⟩ = some (.int .u64 y.d2) := hA0 2 _ rfl
          have t3 : (wr.alloc (.cells #[.int .u64 y.d0, .int .u64 y.d1, .int .u64 y.d2, .int .u64 y.d3, .int .u64 y.d4, .int .u64 y.d5, .int .u64 y.d6, .int .u64 y.d7] 34)).cell? ⟨b, o + j * 8 + 3, none⟩ = some (.int .u64 y.d3) := hA0 3 _ rfl
          have t4 : (wr.alloc (.cells #[.int .u64 y.d0, .int .u64 y.d1, .int .u64 y.d2, .int .u64 y.d3, .int .u64 y.d4, .int .u64 y.d5, .int .u64 y.d6, .int .u64 y.d7] 34)).cell? ⟨b, o + j * 8 + 4, none⟩ = some (.int .u64 y.d4) := hA0 4 _ rfl
          have t5 : (wr.alloc (.cells #[.int .u64 y.d0, .int .u64 y.d1, .int .u64 y.d2, .int .u64 y.d3, .int .u64 y.d4, .int .u64 y.d5, .int .u64 y.d6, .int .u64 y.d7] 34)).cell? ⟨b, o + j * 8 + 5, none⟩ = some (.int .u64 y.d5) := hA0 5 _ rfl
          have t6 : (wr.alloc (.cells #[.int .u64 y.d0, .int .u64 y.d1, .int .u64 y.d2, .int .u64 y.d3, .int .u64 y.d4, .int .u64 y.d5, .int .u64 y.d6, .int .u64 y.d7] 34)).cell? ⟨b, o + j * 8 + 6, none⟩ = some (.int .u64 y.d6) := hA0 6 _ rfl
          have t7 : (wr.alloc (.cells #[.int .u64 y.d0, .int .u64 y.d1, .int .u64 y.d2, .int .u64 y.d3, .int .u64 y.d4, .int .u64 y.d5, .int .u64 y.d6, .int .u64 y.d7] 34)).cell? ⟨b, o + j * 8 + 7, none⟩ = some (.int .u64 y.d7) := hA0 7 _ rfl
          have b0 : (wr.alloc (.cells #[.int .u64 y.d0, .int .u64 y.d1, .int .u64 y.d2, .int .u64 y.d3, .int .u64 y.d4, .int .u64 y.d5, .int .u64 y.d6, .int .u64 y.d7] 34)).cell? ⟨wr.heap.size, 0, none⟩ = some (.int .u64 y.d0) := by rw [cell_of_row _ _ _ _ 34 (0, 0) (heap_alloc_new wr _)]; rfl
          have b1 : (wr.alloc (.cells #[.int .u64 y.d0, .int .u64 y.d1, .int .u64 y.d2, .int .u64 y.d3, .int .u64 y.d4, .int .u64 y.d5, .int .u64 y.d6, .int .u64 y.d7] 34)).cell? ⟨wr.heap.size, 1, none⟩ = some (.int .u64 y.d1) := by rw [cell_of_row _ _ _ _ 34 (0, 0) (heap_alloc_new wr _)]; rfl
          have b2 : (wr.alloc (.cells #[.int .u64 y.d0, .int .u64 y.d1, .int .u64 y.d2, .int .u64 y.d3, .int .u64 y.d4, .int .u64 y.d5, .int .u64 y.d6, .int .u64 y.d7] 34)).cell? ⟨wr.heap.size, 2, none⟩ = some (.int .u64 y.d2) := by rw [cell_of_row _ _ _ _ 34 (0, 0) (heap_alloc_new wr _)]; rfl
          have b3 : (wr.alloc (.cells #[.int .u64 y.d0, .int .u64 y.d1, .int .u64 y.d2, .int .u64 y.d3, .int .u64 y.d4, .int .u64 y.d5, .int .u64 y.d6, .int .u64 y.d7] 34)).cell? ⟨wr.heap.size, 3, none⟩ = some (.int .u64 y.d3) := by rw [cell_of_row _ _ _ _ 34 (0, 0) (heap_alloc_new wr _)]; rfl
          have b4 : (wr.alloc (.cells #[.int .u64 y.d0, .int .u64 y.d1, .int .u64 y.d2, .int .u64 y.d3, .int .u64 y.d4, .int .u64 y.d5, .int .u64 y.d6, .int .u64 y.d7] 34)).cell? ⟨wr.heap.size, 4, none⟩ = some (.int .u64 y.d4) := by rw [cell_of_row _ _ _ _ 34 (0, 0) (heap_alloc_new wr _)]; rfl
          have b5 : (wr.alloc (.cells #[.int .u64 y.d0, .int .u64 y.d1, .int .u64 y.d2, .int .u64 y.d3, .int .u64 y.d4, .int .u64 y.d5, .int .u64 y.d6, .int .u64 y.d7] 34)).cell? ⟨wr.heap.size, 5, none⟩ = some (.int .u64 y.d5) := by rw [cell_of_row _ _ _ _ 34 (0, 0) (heap_alloc_new wr _)]; rfl
          have b6 : (wr.alloc (.cells #[.int .u64 y.d0, .int .u64 y.d1, .int .u64 y.d2, .int .u64 y.d3, .int .u64 y.d4, .int .u64 y.d5, .int .u64 y.d6, .int .u64 y.d7] 34)).cell? ⟨wr.heap.size, 6, none⟩ = some (.int .u64 y.d6) := by rw [cell_of_row _ _ _ _ 34 (0, 0) (heap_alloc_new wr _)]; rfl
          have b7 : (wr.alloc (.cells #[.int .u64 y.d0, .int .u64 y.d1, .int .u64 y.d2, .int .u64 y.d3, .int .u64 y.d4, .int .u64 y.d5, .int .u64 y.d6, .int .u64 y.d7] 34)).cell? ⟨wr.heap.size, 7, none⟩ = some (.int .u64 y.d7) := by rw [cell_of_row _ _ _ _ 34 (0, 0) (heap_alloc_new wr _)]; rfl
          have hq := run_neq_Ln
          have hz2 := fun w => run_neq_same w y
          have hyy : eqLn y y = true := by rw [eqLn_decide]; simp
          clear hA2 hA4 hA0 hw hBA
          go_wp2_with fail
          go_quiet (fail)
          go_wp2
          go_roundw
          case rel => exact ⟨j + 1, by omega, by go_num, below_drewN (Below.al HBR.out _) _⟩
          case measure => simp [intOf]; omega

        · have hj3 : ¬ (j : Int) < (k : Int) := by omega
          clear hy
          have p0 : wr.cell? ⟨g2, o2 + j * 8, none⟩ = some (.int .u64 y.d0) := hw 0 _ rfl
          have p1 : wr.cell? ⟨g2, o2 + j * 8 + 1, none⟩ = some (.int .u64 y.d1) := hw 1 _ rfl
          have p2 : wr.cell? ⟨g2, o2 + j * 8 + 2, none⟩ = some (.int .u64 y.d2) := hw 2 _ rfl
          have p3 : wr.cell? ⟨g2, o2 + j * 8 + 3, none⟩ = some (.int .u64 y.d3) := hw 3 _ rfl
          have p4 : wr.cell? ⟨g2, o2 + j * 8 + 4, none⟩ = some (.int .u64 y.d4) := hw 4 _ rfl
          have p5 : wr.cell? ⟨g2, o2 + j * 8 + 5, none⟩ = some (.int .u64 y.d5) := hw 5 _ rfl
          have p6 : wr.cell? ⟨g2, o2 + j * 8 + 6, none⟩ = some (.int .u64 y.d6) := hw 6 _ rfl
          have p7 : wr.cell? ⟨g2, o2 + j * 8 + 7, none⟩ = some (.int .u64 y.d7) := hw 7 _ rfl
          have hBA : Below w4.heap.size w4 (wr.alloc (.cells #[.int .u64 y.d0, .int .u64 y.d1, .int .u64 y.d2, .int .u64 y.d3, .int .u64 y.d4, .int .u64 y.d5, .int .u64 y.d6, .int .u64 y.d7] 34)) := Below.al HBR.out _
          have hA2 := (own_lines (HO2.out.below' hBA) (by omega) j y HY.out).1
          have hA4 := (own_lines (HO4.out.below' hBA) (by omega) j y HY4.out).1
          have q0 : (wr.alloc (.cells #[.int .u64 y.d0, .int .u64 y.d1, .int .u64 y.d2, .int .u64 y.d3, .int .u64 y.d4, .int .u64 y.d5, .int .u64 y.d6, .int .u64 y.d7] 34)).cell? ⟨g2, o2 + j * 8, none⟩ = some (.int .u64 y.d0) := hA2 0 _ rfl
          have q1 : (wr.alloc (.cells #[.int .u64 y.d0, .int .u64 y.d1, .int .u64 y.d2, .int .u64 y.d3, .int .u64 y.d4, .int .u64 y.d5, .int .u64 y.d6, .int .u64 y.d7] 34)).cell? ⟨g2, o2 + j * 8 + 1, none⟩ = some (.int .u64 y.d1) := hA2 1 _ rfl
          have q2 : (wr.alloc (.cells #[.int .u64 y.d0, .int .u64 y.d1, .int .u64 y.d2, .int .u64 y.d3, .int .u64 y.d4, .int .u64 y.d5, .int .u64 y.d6, .int .u64 y.d7] 34)).cell? ⟨g2, o2 + j * 8 + 2, none⟩ = some (.int .u64 y.d2) := hA2 2 _ rfl
          have q3 : (wr.alloc (.cells #[.int .u64 y.d0, .int .u64 y.d1, .int .u64 y.d2, .int .u64 y.d3, .int .u64 y.d4, .int .u64 y.d5, .int .u64 y.d6, .int .u64 y.d7] 34)).cell? ⟨g2, o2 + j * 8 + 3, none⟩ = some (.int .u64 y.d3) := hA2 3 _ rfl
          have q4 : (wr.alloc (.cells #[.int .u64 y.d0, .int .u64 y.d1, .int .u64 y.d2, .int .u64 y.d3, .int .u64 y.d4, .int .u64 y.d5, .int .u64 y.d6, .int .u64 y.d7] 34)).cell? ⟨g2, o2 + j * 8 + 4, none⟩ = some (.int .u64 y.d4) := hA2 4 _ rfl
          have q5 : (wr.alloc (.cells #[.int .u64 y.d0, .int .u64 y.d1, .int .u64 y.d2, .int .u64 y.d3, .int .u64 y.d4, .int .u64 y.d5, .int .u64 y.d6, .int .u64 y.d7] 34)).cell? ⟨g2, o2 + j * 8 + 5, none⟩ = some (.int .u64 y.d5) := hA2 5 _ rfl
          have q6 : (wr.alloc (.cells #[.int .u64 y.d0, .int .u64 y.d1, .int .u64 y.d2, .int .u64 y.d3, .int .u64 y.d4, .int .u64 y.d5, .int .u64 y.d6, .int .u64 y.d7] 34)).cell? ⟨g2, o2 + j * 8 + 6, none⟩ = some (.int .u64 y.d6) := hA2 6 _ rfl
          have q7 : (wr.alloc (.cells #[.int .u64 y.d0, .int .u64 y.d1, .int .u64 y.d2, .int .u64 y.d3, .int .u64 y.d4, .int .u64 y.d5, .int .u64 y.d6, .int .u64 y.d7] 34)).cell? ⟨g2, o2 + j * 8 + 7, none⟩ = some (.int .u64 y.d7) := hA2 7 _ rfl
          have r0 : (wr.alloc (.cells #[.int .u64 y.d0, .int .u64 y.d1, .int .u64 y.d2, .int .u64 y.d3, .int .u64 y.d4, .int .u64 y.d5, .int .u64 y.d6, .int .u64 y.d7] 34)).cell? ⟨g4, o4 + j * 8, none⟩ = some (.int .u64 y.d0) := hA4 0 _ rfl
          have r1 : (wr.alloc (.cells #[.int .u64 y.d0, .int .u64 y.d1, .int .u64 y.d2, .int .u64 y.d3, .int .u64 y.d4, .int .u64 y.d5, .int .u64 y.d6, .int .u64 y.d7] 34)).cell? ⟨g4, o4 + j * 8 + 1, none⟩ = some (.int .u64 y.d1) := hA4 1 _ rfl
          have r2 : (wr.alloc (.cells #[.int .u64 y.d0, .int .u64 y.d1, .int .u64 y.d2, .int .u64 y.d3, .int .u64 y.d4, .int .u64 y.d5, .int .u64 y.d6, .int .u64 y.d7] 34)).cell? ⟨g4, o4 + j * 8 + 2, none⟩ = some (.int .u64 y.d2) := hA4 2 _ rfl
          have r3 : (wr.alloc (.cells #[.int .u64 y.d0, .int .u64 y.d1, .int .u64 y.d2, .int .u64 y.d3, .int .u64 y.d4, .int .u64 y.d5, .int .u64 y.d6, .int .u64 y.d7] 34)).cell? ⟨g4, o4 + j * 8 + 3, none⟩ = some (.int .u64 y.d3) := hA4 3 _ rfl
          have r4 : (wr.alloc (.cells #[.int .u64 y.d0, .int .u64 y.d1, .int .u64 y.d2, .int .u64 y.d3, .int .u64 y.d4, .int .u64 y.d5, .int .u64 y.d6, .int .u64 y.d7] 34)).cell? ⟨g4, o4 + j * 8 + 4, none⟩ = some (.int .u64 y.d4) := hA4 4 _ rfl
          have r5 : (wr.alloc (.cells #[.int .u64 y.d0, .int .u64 y.d1, .int .u64 y.d2, .int .u64 y.d3, .int .u64 y.d4, .int .u64 y.d5, .int .u64 y.d6, .int .u64 y.d7] 34)).cell? ⟨g4, o4 + j * 8 + 5, none⟩ = some (.int .u64 y.d5) := hA4 5 _ rfl
          have r6 : (wr.alloc (.cells #[.int .u64 y.d0, .int .u64 y.d1, .int .u64 y.d2, .int .u64 y.d3, .int .u64 y.d4, .int .u64 y.d5, .int .u64 y.d6, .int .u64 y.d7] 34)).cell? ⟨g4, o4 + j * 8 + 6, none⟩ = some (.int .u64 y.d6) := hA4 6 _ rfl
          have r7 : (wr.alloc (.cells #[.int .u64 y.d0, .int .u64 y.d1, .int .u64 y.d2, .int .u64 y.d3, .int .u64 y.d4, .int .u64 y.d5, .int .u64 y.d6, .int .u64 y.d7] 34)).cell? ⟨g4, o4 + j * 8 + 7, none⟩ = some (.int .u64 y.d7) := hA4 7 _ rfl
          have b0 : (wr.alloc (.cells #[.int .u64 y.d0, .int .u64 y.d1, .int .u64 y.d2, .int .u64 y.d3, .int .u64 y.d4, .int .u64 y.d5, .int .u64 y.d6, .int .u64 y.d7] 34)).cell? ⟨wr.heap.size, 0, none⟩ = some (.int .u64 y.d0) := by rw [cell_of_row _ _ _ _ 34 (0, 0) (heap_alloc_new wr _)]; rfl
          have b1 : (wr.alloc (.cells #[.int .u64 y.d0, .int .u64 y.d1, .int .u64 y.d2, .int .u64 y.d3, .int .u64 y.d4, .int .u64 y.d5, .int .u64 y.d6, .int .u64 y.d7] 34)).cell? ⟨wr.heap.size, 1, none⟩ = some (.int .u64 y.d1) := by rw [cell_of_row _ _ _ _ 34 (0, 0) (heap_alloc_new wr _)]; rfl
          have b2 : (wr.alloc (.cells #[.int .u64 y.d0, .int .u64 y.d1, .int .u64 y.d2, .int .u64 y.d3, .int .u64 y.d4, .int .u64 y.d5, .int .u64 y.d6, .int .u64 y.d7] 34)).cell? ⟨wr.heap.size, 2, none⟩ = some (.int .u64 y.d2) := by rw [cell_of_row _ _ _ _ 34 (0, 0) (heap_alloc_new wr _)]; rfl
          have b3 : (wr.alloc (.cells #[.int .u64 y.d0, .int .u64 y.d1, .int .u64 y.d2, .int .u64 y.d3, .int .u64 y.d4, .int .u64 y.d5, .int .u64 y.d6, .int .u64 y.d7] 34)).cell? ⟨wr.heap.size, 3, none⟩ = some (.int .u64 y.d3) := by rw [cell_of_row _ _ _ _ 34 (0, 0) (heap_alloc_new wr _)]; rfl
          have b4 : (wr.alloc (.cells #[.int .u64 y.d0, .int .u64 y.d1, .int .u64 y.d2, .int .u64 y.d3, .int .u64 y.d4, .int .u64 y.d5, .int .u64 y.d6, .int .u64 y.d7] 34)).cell? ⟨wr.heap.size, 4, none⟩ = some (.int .u64 y.d4) := by rw [cell_of_row _ _ _ _ 34 (0, 0) (heap_alloc_new wr _)]; rfl
          have b5 : (wr.alloc (.cells #[.int .u64 y.d0, .int .u64 y.d1, .int .u64 y.d2, .int .u64 y.d3, .int .u64 y.d4, .int .u64 y.d5, .int .u64 y.d6, .int .u64 y.d7] 34)).cell? ⟨wr.heap.size, 5, none⟩ = some (.int .u64 y.d5) := by rw [cell_of_row _ _ _ _ 34 (0, 0) (heap_alloc_new wr _)]; rfl
          have b6 : (wr.alloc (.cells #[.int .u64 y.d0, .int .u64 y.d1, .int .u64 y.d2, .int .u64 y.d3, .int .u64 y.d4, .int .u64 y.d5, .int .u64 y.d6, .int .u64 y.d7] 34)).cell? ⟨wr.heap.size, 6, none⟩ = some (.int .u64 y.d6) := by rw [cell_of_row _ _ _ _ 34 (0, 0) (heap_alloc_new wr _)]; rfl
          have b7 : (wr.alloc (.cells #[.int .u64 y.d0, .int .u64 y.d1, .int .u64 y.d2, .int .u64 y.d3, .int .u64 y.d4, .int .u64 y.d5, .int .u64 y.d6, .int .u64 y.d7] 34)).cell? ⟨wr.heap.size, 7, none⟩ = some (.int .u64 y.d7) := by rw [cell_of_row _ _ _ _ 34 (0, 0) (heap_alloc_new wr _)]; rfl
          have hq := run_neq_Ln
          have hz2 := fun w => run_neq_same w y
          have hyy : eqLn y y = true := by rw [eqLn_decide]; simp
          clear hA2 hA4 hw hBA
          go_wp2_with fail
          go_quiet (fail)
          go_wp2
          go_roundw
          case rel => exact ⟨j + 1, by omega, by go_num, below_drewN (Below.al HBR.out _) _⟩
          case measure => simp [intOf]; omega

    · obtain rfl : j = L := by omega
      have hj1 : ¬ (j : Int) < (j : Int) := by omega
      have HBR' := Lib.hid (HB4.out.then_ HBR.out hsw)
      go_wp2_with fail
      refine (restore_any d g w.heap.size _ ls M _ (by rw [failed_len ls M (by rw [HLEN.out]; omega)]) (by rw [failed_len ls M (by rw [HLEN.out]; omega), HLEN.out]; omega) _ (HD4.out.below HBR.out) (by rw [HLEN.out]; exact (HO2.out.below' HBR.out).rds)).mono ?_
      rintro e w6 ⟨rfl, hD6, ho6⟩
      have HB6 := Lib.hid (((HD4.out.below HBR.out)).stays HBR'.out ho6 (fun k hk => Or.inr hk))
      have HO6 := Lib.hid ((HO2.out.below' HBR.out).only ho6 (fun k hk (h : k = g) => by
        have h' : g2 = k := Option.some.inj hk
        omega))
      have HD6 := Lib.hid hD6
      clear hD6 ho6 HD4 HBR HBR' HO2 HO4
      go_wp2_with fail
      refine (image_any d g w.heap.size ls M w6 HD6.out).mono ?_
      rintro e w7 ⟨v7, rfl, ho7, hb7⟩
      have HB7 := Lib.hid (Below.then HB6.out hb7)
      have HO7 := Lib.hid ho7
      have HO2 := Lib.hid (HO6.out.below' hb7)
      clear ho7 hb7 HD6 HB6 HO6
      go_wp2_with fail
      refine (lines_any _ _ ls ls _ HO7.out.rds (by rw [HLEN.out]; exact HO2.out.rds)).mono ?_
      rintro e w8 ⟨rfl, hb8⟩
      rw [decide_eq_true (rfl : ls = ls)]
      have HB8 := Lib.hid (Below.then HB7.out hb8)
      clear hb8
      go_wp2_with fail
      refine (wakes_any _).mono ?_
      rintro e w9 ⟨rfl, hb9⟩
      have HB9 := Lib.hid (Below.then HB8.out hb9)
      clear hb9
      go_wp2
      go_ret
      exact ⟨rfl, HB9.out⟩
  · have h100' : (100 : Int) < (k : Int) := by omega
    go_wp2_with fail
    refine (wakes_any _).mono ?_
    rintro e w5 ⟨rfl, hb5⟩
    have HB5 := Lib.hid (Below.then HB1.out hb5)
    clear hb5
    go_wp2
    go_ret
    exact ⟨rfl, HB5.out⟩
section
variable {H : Type} {enc : TypeId × Value → H}
theorem fails_walk {base : Nat} (W : World) (v0 v1 v2 : Value) (a0 : Arg enc Try.prog W base 5 v0) (a1 : Arg enc Try.prog W base 5 v1) (a2 : Arg enc Try.prog W base 35 v2) :
    Calls Try.prog 4 #[v0, v1, v2] W fun e w' => e = .returned (.bool true) ∧ Below W.heap.size W w' := by
  obtain ⟨xs, hxs⟩ := open_imgs a2
  obtain ⟨n, rfl, hn⟩ := a0.int Try.underlying5
  obtain ⟨hn0, hn1⟩ := wf_u8 hn
  obtain ⟨m, rfl, hm⟩ := a1.int Try.underlying5
  obtain ⟨hm0, hm1⟩ := wf_u8 hm
  exact fails_law v2 xs n m W hn0 hn1 hm0 hm1 hxs
end
end Go.Proofs.Ytkkeilbaieflmaa
