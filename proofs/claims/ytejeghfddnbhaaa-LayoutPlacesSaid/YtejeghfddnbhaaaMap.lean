/-
  Map: the words of lines.
-/
import Derived.Test.YtejeghfddnbhaaaRimage
namespace Go.Proofs.Ytejeghfddnbhaaa
open Go.RowKit
attribute [local go_sem ↓] Go.wp_at_zero Go.wp_at_succ
section
variable (a b c d e f g p q : Int)
set_option maxRecDepth 100000 in
set_option maxHeartbeats 8000000 in
theorem map_yes (nb F qn : Nat) (gl ol capl : Nat) (ls : List Ln) (w : World) (hG : goodH a b c d e f g p q = true) (hnb : b = nb) (hF : c + 1 + p = F) (hq : q = qn) (hl : ls.length = nb) (hcap : ls.length ≤ capl) (hgl : gl < w.heap.size)
    (hcl : ∀ j u, (encLns ls)[j]? = some u → w.cell? ⟨gl, ol + j, none⟩ = some u) :
    Calls Try.prog 24 #[.agg #[.int .i64 a, .int .i64 b, .int .i64 c, .int .i64 d, .int .i64 e, .int .i64 f, .int .i64 g, .int .i64 p, .int .i64 q], .slice (some ⟨gl, ol, none⟩) nb capl] w fun E w' => ∃ v, E = .returned v ∧ Own w' w.heap.size 27 1 v (8 * qn) (encU (mapA F ls qn)) ∧ Below w.heap.size w w' := by
  have hof := fun w => of_any a b c d e f g p q w
  obtain ⟨t1, t2, t3, t4, t5, t6, t7, t8, t9⟩ := goodH_b hG
  simp only [hG] at hof
  have HOF := Lib.hid hof; have HCL := Lib.hid hcl; have HLS := Lib.hid hl
  obtain ⟨i0, hi0, hz0, hz1, hz2⟩ := info_parts info27
  have HI0 := Lib.hid hi0; have HZ0 := Lib.hid hz0; have HZ1 := Lib.hid hz1; have HZ2 := Lib.hid hz2
  rw [hl] at hcap
  subst hnb
  subst hq
  clear hof hG hcl hl hi0 hz0 hz1 hz2
  go_enter Try.func24, Try.ntmps24
  go_wp2_with fail
  refine (HOF.out _).mono ?_
  rintro e' w1 ⟨B, rfl, hb, x1, x2, x3, hx, hr⟩
  obtain ⟨rfl, rfl, rfl⟩ := hx rfl
  obtain ⟨hbx, hold⟩ := past_box hb
  have HB1 := Lib.hid (Below.then (Below.al (Below.refl _ _) _) hb)
  have q1 : w1.cell? ⟨w.heap.size, 1, none⟩ = some (.int .i64 nb) := by rw [cell_of_row _ _ _ _ 25 (0, 0) hbx]; rfl
  have r3 : w1.cell? ⟨B, 3, none⟩ = some (.bool true) := by rw [cell_of_row _ _ _ _ 62 (0, 0) hr]; rfl
  have r5 : w1.cell? ⟨B, 5, none⟩ = some (.int .i64 F) := by rw [cell_of_row _ _ _ _ 62 (0, 0) hr, ← hF]; rfl
  have r6 : w1.cell? ⟨B, 6, none⟩ = some (.int .i64 qn) := by rw [cell_of_row _ _ _ _ 62 (0, 0) hr]; rfl
  have hFq : F + qn ≤ nb := by omega
  have hw0 : IntKind.i64.wrap ((F : Int) + (qn : Int)) = (F : Int) + (qn : Int) := IntWalk.i64_in _ (by omega)
  have hw1 : (0 : Int) ≤ (F : Int) + (qn : Int) := by omega
  have hw2 : ((F : Int) + (qn : Int)).toNat = F + qn := by omega
  have hw3 : (F : Int) ≤ (F : Int) + (qn : Int) := by omega
  have hw4 : (F : Int) + (qn : Int) ≤ (capl : Int) := by omega
  clear HOF hb hx hbx hold hr hF t9
  go_wp2_with fail
  go_quiet (fail)
  go_wp2_with fail
  clear r3 r5 r6 q1 hw0 hw1 hw2 hw3 hw4
  go_loopw [6, 40] (fun l i w' => ∃ j : Nat, j ≤ qn ∧ i = .int .i64 j ∧ Own w' w.heap.size 27 1 l (8 * j) (encU (mapA F ls j)) ∧ Below w.heap.size w w') (fun l i _ => qn - (intOf i).toNat)
  case atStart => exact ⟨0, by omega, rfl, Own.nil _ _ _ _, below_drewN HB1.out _⟩
  case round =>
  obtain ⟨j, hj, rfl, hO, hB⟩ := hrel
  obtain ⟨va, vc, rfl, hv1, hv2⟩ := hO.any
  have HSZ : w.heap.size ≤ wr.heap.size := hB.size
  by_cases hlt : j < qn
  · obtain ⟨x, hxs⟩ : ∃ x, ls[F + j]? = some x := ⟨_, List.getElem?_eq_getElem (by rw [HLS.out]; omega)⟩
    have hxd : ls.getD (F + j) Ln.zero = x := by rw [List.getD_eq_getElem?_getD, hxs]; rfl
    have hstep : mapA F ls (j + 1) = mapA F ls j ++ lnWords x := by rw [mapA, hxd]
    have hx : ∀ i u, i < 8 → (encLn x)[i]? = some u → wr.cell? ⟨gl, ol + F * 8 + j * 8 + i, none⟩ = some u := fun i u hi hu => by
      rw [hB.cell (p := ⟨gl, ol + F * 8 + j * 8 + i, none⟩) hgl]
      have := HCL.out ((F + j) * 8 + i) u ((encLns_get ls _ x hxs i hi).trans hu)
      rw [← this]
      congr 2
      omega
    have x0 : wr.cell? ⟨gl, ol + F * 8 + j * 8, none⟩ = some (.int .u64 x.d0) := hx 0 _ (by omega) rfl
    have x1 : wr.cell? ⟨gl, ol + F * 8 + j * 8 + 1, none⟩ = some (.int .u64 x.d1) := hx 1 _ (by omega) rfl
    have x2 : wr.cell? ⟨gl, ol + F * 8 + j * 8 + 2, none⟩ = some (.int .u64 x.d2) := hx 2 _ (by omega) rfl
    have x3 : wr.cell? ⟨gl, ol + F * 8 + j * 8 + 3, none⟩ = some (.int .u64 x.d3) := hx 3 _ (by omega) rfl
    have x4 : wr.cell? ⟨gl, ol + F * 8 + j * 8 + 4, none⟩ = some (.int .u64 x.d4) := hx 4 _ (by omega) rfl
    have x5 : wr.cell? ⟨gl, ol + F * 8 + j * 8 + 5, none⟩ = some (.int .u64 x.d5) := hx 5 _ (by omega) rfl
    have x6 : wr.cell? ⟨gl, ol + F * 8 + j * 8 + 6, none⟩ = some (.int .u64 x.d6) := hx 6 _ (by omega) rfl
    have x7 : wr.cell? ⟨gl, ol + F * 8 + j * 8 + 7, none⟩ = some (.int .u64 x.d7) := hx 7 _ (by omega) rfl
    have HST := Lib.hid hstep
    have HO := Lib.hid hO; have HB := Lib.hid hB
    have hj0 : (0 : Int) ≤ (j : Int) := by omega
    have hj1 : (j : Int) < (qn : Int) := by omega
    clear hx hxd hxs hstep hO hB
    go_wp2_with (at_builtin; refine wpList_append_Own _ rfl _ _ 34 rfl w.heap.size 27 i0 _ 1 8 Try.underlying34 HI0.out HZ0.out HZ1.out HZ2.out rfl (.slice va (8 * j) vc) (8 * j) (encU (mapA F ls j)) rfl (HO.out.below' (Below.al (Below.refl _ _) _)) ⟨wr.heap.size, 0, none⟩ 8 8 (encLn x) rfl rfl (World.news_of_block (cs := (encLn x).toArray) (t := 68) (fr := (0, 0)) (heap_alloc_new wr _)) (by simp [encLn, Value.oneCell']) (by omega) (by unfold maxLen; omega) (by omega) (by simp; omega) ?_; intro g' o' cap' w3 hown3 honly3 hat3 hlt3)
    have HO3 := Lib.hid hown3
    have hB3 : Below w.heap.size w w3 := (Below.al HB.out _).trans (honly3.below (by simp; omega) (fun k hk => (HO.out.lt k hk).1))
    have HB3 := Lib.hid hB3
    clear hown3 honly3 hat3 hB3
    go_wp2
    go_roundw
    case rel => exact ⟨j + 1, by omega, by go_num, by rw [HST.out, encU_app]; exact HO3.out, HB3.out⟩
    case measure => simp [intOf]; omega
  · obtain rfl : j = qn := by omega
    go_wp2
    go_ret
    exact ⟨_, rfl, hO, hB⟩
set_option maxRecDepth 100000 in
set_option maxHeartbeats 8000000 in
theorem map_no (va : Option Addr) (n vc : Nat) (w : World) (h : ¬ (goodH a b c d e f g p q = true ∧ (n : Int) = b)) : Calls Try.prog 24 #[.agg #[.int .i64 a, .int .i64 b, .int .i64 c, .int .i64 d, .int .i64 e, .int .i64 f, .int .i64 g, .int .i64 p, .int .i64 q], .slice va n vc] w fun E w' => E = .returned (.slice none 0 0) ∧ Below w.heap.size w w' := by
  have hof := fun w => of_any a b c d e f g p q w
  obtain ⟨G, hG⟩ : ∃ G, goodH a b c d e f g p q = G := ⟨_, rfl⟩
  simp only [hG] at hof h
  clear hG
  have HOF := Lib.hid hof
  cases G with
  | false =>
    clear hof h
    go_enter Try.func24, Try.ntmps24
    go_wp2_with fail
    refine (HOF.out _).mono ?_
    rintro e' w1 ⟨B, rfl, hb, x1, x2, x3, hx, hr⟩
    have HB1 := Lib.hid (Below.then (Below.al (Below.refl _ _) _) hb)
    have r3 : w1.cell? ⟨B, 3, none⟩ = some (.bool false) := by rw [cell_of_row _ _ _ _ 62 (0, 0) hr]; rfl
    clear HOF hb hx hr
    go_wp2
    go_ret
    exact ⟨rfl, HB1.out⟩
  | true =>
    have hne : ((n : Int) != b) = true := by simpa using h
    clear hof h
    go_enter Try.func24, Try.ntmps24
    go_wp2_with fail
    refine (HOF.out _).mono ?_
    rintro e' w1 ⟨B, rfl, hb, x1, x2, x3, hx, hr⟩
    obtain ⟨hbx, hold⟩ := past_box hb
    have HB1 := Lib.hid (Below.then (Below.al (Below.refl _ _) _) hb)
    have q1 : w1.cell? ⟨w.heap.size, 1, none⟩ = some (.int .i64 b) := by rw [cell_of_row _ _ _ _ 25 (0, 0) hbx]; rfl
    have r3 : w1.cell? ⟨B, 3, none⟩ = some (.bool true) := by rw [cell_of_row _ _ _ _ 62 (0, 0) hr]; rfl
    clear HOF hb hx hr hbx hold
    go_wp2
    go_ret
    exact ⟨rfl, HB1.out⟩
set_option maxRecDepth 100000 in
set_option maxHeartbeats 8000000 in
theorem rmap_no (va : Option Addr) (n vc : Nat) (w : World) (h : ¬ (goodH a b c d e f g p q = true ∧ (n : Int) = b)) : Calls Try.prog 25 #[.agg #[.int .i64 a, .int .i64 b, .int .i64 c, .int .i64 d, .int .i64 e, .int .i64 f, .int .i64 g, .int .i64 p, .int .i64 q], .slice va n vc] w fun E w' => E = .returned (.slice none 0 0) ∧ Below w.heap.size w w' := by
  have hof := fun w => rgood_any a b c d e f g p q w
  obtain ⟨G, hG⟩ : ∃ G, goodH a b c d e f g p q = G := ⟨_, rfl⟩
  simp only [hG] at hof h
  clear hG
  have HOF := Lib.hid hof
  cases G with
  | false =>
    clear hof h
    go_enter Try.func25, Try.ntmps25
    go_wp2_with fail
    refine (HOF.out _).mono ?_
    rintro e' w1 ⟨rfl, hb⟩
    have HB1 := Lib.hid (Below.then (Below.al (Below.refl _ _) _) hb)
    clear HOF hb
    go_wp2
    go_ret
    exact ⟨rfl, HB1.out⟩
  | true =>
    have hne : ((n : Int) != b) = true := by simpa using h
    clear hof h
    go_enter Try.func25, Try.ntmps25
    go_wp2_with fail
    refine (HOF.out _).mono ?_
    rintro e' w1 ⟨rfl, hb⟩
    obtain ⟨hbx, hold⟩ := past_box hb
    have HB1 := Lib.hid (Below.then (Below.al (Below.refl _ _) _) hb)
    have q1 : w1.cell? ⟨w.heap.size, 1, none⟩ = some (.int .i64 b) := by rw [cell_of_row _ _ _ _ 25 (0, 0) hbx]; rfl
    clear HOF hb hbx hold
    go_wp2
    go_ret
    exact ⟨rfl, HB1.out⟩
set_option maxRecDepth 100000 in
set_option maxHeartbeats 8000000 in
theorem rmap_yes (nb F qn : Nat) (gl ol capl : Nat) (ls : List Ln) (w : World) (hG : goodH a b c d e f g p q = true) (hnb : b = nb) (hF : c + 1 + p = F) (hq : q = qn) (hl : ls.length = nb) (hcap : ls.length ≤ capl) (hgl : gl < w.heap.size)
    (hcl : ∀ j u, (encLns ls)[j]? = some u → w.cell? ⟨gl, ol + j, none⟩ = some u) :
    Calls Try.prog 25 #[.agg #[.int .i64 a, .int .i64 b, .int .i64 c, .int .i64 d, .int .i64 e, .int .i64 f, .int .i64 g, .int .i64 p, .int .i64 q], .slice (some ⟨gl, ol, none⟩) nb capl] w fun E w' => ∃ v, E = .returned v ∧ Own w' w.heap.size 27 1 v (8 * qn) (encU (mapB F ls (8 * qn))) ∧ Below w.heap.size w w' := by
  have hof := fun w => rgood_any a b c d e f g p q w
  have hwd := fun w => rwords_any a b c d e f g p q w
  obtain ⟨t1, t2, t3, t4, t5, t6, t7, t8, t9⟩ := goodH_b hG
  have e8 : wordsI true q = 8 * q := rfl
  simp only [hG, e8] at hof hwd
  have HOF := Lib.hid hof; have HCL := Lib.hid hcl; have HLS := Lib.hid hl
  obtain ⟨i0, hi0, hz0, hz1, hz2⟩ := info_parts info27
  have HI0 := Lib.hid hi0; have HZ0 := Lib.hid hz0; have HZ1 := Lib.hid hz1; have HZ2 := Lib.hid hz2
  rw [hl] at hcap
  subst hnb
  subst hq
  have HWD := Lib.hid hwd
  have HFX := Lib.hid (fun w => first_any a nb c d e f g p qn w t3 (by omega) t5 t6)
  clear hof hwd hG hcl hl hi0 hz0 hz1 hz2 e8
  go_enter Try.func25, Try.ntmps25
  go_wp2_with fail
  refine (HOF.out _).mono ?_
  rintro e' w1 ⟨rfl, hb⟩
  obtain ⟨hbx, hold⟩ := past_box hb
  have HB1 := Lib.hid (Below.then (Below.al (Below.refl _ _) _) hb)
  have HBX := Lib.hid hbx
  have q1 : w1.cell? ⟨w.heap.size, 1, none⟩ = some (.int .i64 nb) := by rw [cell_of_row _ _ _ _ 25 (0, 0) hbx]; rfl
  have hFq : F + qn ≤ nb := by omega
  clear HOF hb hbx hold t9
  go_wp2_with fail
  clear q1
  go_loopw [5, 6] (fun l i w' => ∃ j : Nat, j ≤ 8 * qn ∧ i = .int .i64 j ∧ Own w' w.heap.size 27 1 l j (encU (mapB F ls j)) ∧ Below w.heap.size w w' ∧ w'.heap[w.heap.size]? = some (.cells #[.int .i64 a, .int .i64 nb, .int .i64 c, .int .i64 d, .int .i64 e, .int .i64 f, .int .i64 g, .int .i64 p, .int .i64 qn] 25 (0, 0)) ∧ (∀ k, l.ownBlock = some k → w.heap.size < k)) (fun l i _ => 8 * qn - (intOf i).toNat)
  case atStart => exact ⟨0, by omega, rfl, Own.nil _ _ _ _, HB1.out, HBX.out, fun k hk => by cases hk⟩
  case round =>
  obtain ⟨j, hj, rfl, hO, hB, hbx, hov⟩ := hrel
  obtain ⟨va, vc, rfl, hv1, hv2⟩ := hO.any
  have HSZ : w.heap.size < wr.heap.size := (Array.getElem?_eq_some_iff.1 hbx).1
  have q0 : wr.cell? ⟨w.heap.size, 0, none⟩ = some (.int .i64 a) := by rw [cell_of_row _ _ _ _ 25 (0, 0) hbx]; rfl
  have q1 : wr.cell? ⟨w.heap.size, 1, none⟩ = some (.int .i64 nb) := by rw [cell_of_row _ _ _ _ 25 (0, 0) hbx]; rfl
  have q2 : wr.cell? ⟨w.heap.size, 2, none⟩ = some (.int .i64 c) := by rw [cell_of_row _ _ _ _ 25 (0, 0) hbx]; rfl
  have q3 : wr.cell? ⟨w.heap.size, 3, none⟩ = some (.int .i64 d) := by rw [cell_of_row _ _ _ _ 25 (0, 0) hbx]; rfl
  have q4 : wr.cell? ⟨w.heap.size, 4, none⟩ = some (.int .i64 e) := by rw [cell_of_row _ _ _ _ 25 (0, 0) hbx]; rfl
  have q5 : wr.cell? ⟨w.heap.size, 5, none⟩ = some (.int .i64 f) := by rw [cell_of_row _ _ _ _ 25 (0, 0) hbx]; rfl
  have q6 : wr.cell? ⟨w.heap.size, 6, none⟩ = some (.int .i64 g) := by rw [cell_of_row _ _ _ _ 25 (0, 0) hbx]; rfl
  have q7 : wr.cell? ⟨w.heap.size, 7, none⟩ = some (.int .i64 p) := by rw [cell_of_row _ _ _ _ 25 (0, 0) hbx]; rfl
  have q8 : wr.cell? ⟨w.heap.size, 8, none⟩ = some (.int .i64 qn) := by rw [cell_of_row _ _ _ _ 25 (0, 0) hbx]; rfl
  have HO := Lib.hid hO; have HB := Lib.hid hB; have HBX := Lib.hid hbx; have HOV := Lib.hid hov
  clear hO hB hbx hov HB1
  go_wp2_with fail
  refine (HWD.out _).mono ?_
  rintro e' w2 ⟨rfl, hb2⟩
  have hbx2 := below_row HBX.out hb2
  have HBX2 := Lib.hid hbx2
  have HB2 := Lib.hid (Below.then HB.out hb2)
  have HO2 := Lib.hid (HO.out.below' hb2)
  clear q0 q1 q2 q3 q4 q5 q6 q7 q8
  have q0 : w2.cell? ⟨w.heap.size, 0, none⟩ = some (.int .i64 a) := by rw [cell_of_row _ _ _ _ 25 (0, 0) hbx2]; rfl
  have q1 : w2.cell? ⟨w.heap.size, 1, none⟩ = some (.int .i64 nb) := by rw [cell_of_row _ _ _ _ 25 (0, 0) hbx2]; rfl
  have q2 : w2.cell? ⟨w.heap.size, 2, none⟩ = some (.int .i64 c) := by rw [cell_of_row _ _ _ _ 25 (0, 0) hbx2]; rfl
  have q3 : w2.cell? ⟨w.heap.size, 3, none⟩ = some (.int .i64 d) := by rw [cell_of_row _ _ _ _ 25 (0, 0) hbx2]; rfl
  have q4 : w2.cell? ⟨w.heap.size, 4, none⟩ = some (.int .i64 e) := by rw [cell_of_row _ _ _ _ 25 (0, 0) hbx2]; rfl
  have q5 : w2.cell? ⟨w.heap.size, 5, none⟩ = some (.int .i64 f) := by rw [cell_of_row _ _ _ _ 25 (0, 0) hbx2]; rfl
  have q6 : w2.cell? ⟨w.heap.size, 6, none⟩ = some (.int .i64 g) := by rw [cell_of_row _ _ _ _ 25 (0, 0) hbx2]; rfl
  have q7 : w2.cell? ⟨w.heap.size, 7, none⟩ = some (.int .i64 p) := by rw [cell_of_row _ _ _ _ 25 (0, 0) hbx2]; rfl
  have q8 : w2.cell? ⟨w.heap.size, 8, none⟩ = some (.int .i64 qn) := by rw [cell_of_row _ _ _ _ 25 (0, 0) hbx2]; rfl
  have HSZ2 : w.heap.size < w2.heap.size := (Array.getElem?_eq_some_iff.1 hbx2).1
  clear hb2 hbx2 HO HB HBX
  by_cases hlt : j < 8 * qn
  · have hj1 : (j : Int) < 8 * (qn : Int) := by omega
    obtain ⟨u, hu⟩ : ∃ u, j / 8 = u := ⟨_, rfl⟩
    obtain ⟨v, hv⟩ : ∃ v, j % 8 = v := ⟨_, rfl⟩
    have hju : F + u < nb := by omega
    have hv8 : v < 8 := by omega
    have d1 : (j : Int).tdiv 8 = (u : Int) := by rw [Int.tdiv_eq_ediv_of_nonneg (by omega)]; omega
    have d2 : (j : Int).tmod 8 = (v : Int) := by rw [Int.tmod_eq_emod_of_nonneg (by omega)]; omega
    obtain ⟨x, hxs⟩ : ∃ x, ls[F + u]? = some x := ⟨_, List.getElem?_eq_getElem (by rw [HLS.out]; omega)⟩
    have hxd : ls.getD (F + u) Ln.zero = x := by rw [List.getD_eq_getElem?_getD, hxs]; rfl
    have hstep : mapB F ls (j + 1) = mapB F ls j ++ [x.get v] := by rw [mapB, hu, hv, hxd]
    have hx : w.cell? ⟨gl, ol + (F + u) * 8 + v, none⟩ = some (.int .u64 (x.get v)) := by
      rw [Nat.add_assoc]
      exact HCL.out _ _ ((encLns_get ls _ x hxs v hv8).trans (encLn_get x v hv8))
    have hj0 : (0 : Int) ≤ (j : Int) := by omega
    have hu1 : (F : Int) + (u : Int) < (nb : Int) := by omega
    have hv1 : (v : Int) < 8 := by omega
    have HST := Lib.hid hstep; have HX := Lib.hid hx
    clear hstep hx hxd hxs hu hv
    go_wp2_with fail
    refine (HFX.out _).mono ?_
    rintro e' w3 ⟨rfl, hb3⟩
    have HBX3 := Lib.hid (below_row HBX2.out hb3)
    have HB3 := Lib.hid (Below.then HB2.out hb3)
    have HO3 := Lib.hid (HO2.out.below' hb3)
    have HSZ3 : w.heap.size < w3.heap.size := by have := hb3.size; omega
    have y0 : w3.cell? ⟨gl, ol + (F + u) * 8 + v, none⟩ = some (.int .u64 (x.get v)) := (HB3.out.cell (p := ⟨gl, ol + (F + u) * 8 + v, none⟩) hgl).trans HX.out
    clear q0 q1 q2 q3 q4 q5 q6 q7 q8 hb3 HO2 HB2 HBX2
    rw [hF]
    go_wp2_with (at_builtin; refine wpList_append_Own _ rfl _ _ 34 rfl w.heap.size 27 i0 _ 1 8 Try.underlying34 HI0.out HZ0.out HZ1.out HZ2.out rfl (.slice va j vc) j (encU (mapB F ls j)) rfl (HO3.out.below' (Below.al (Below.refl _ _) _)) ⟨w3.heap.size, 0, none⟩ 1 1 [.int .u64 (x.get v)] rfl rfl (World.news_of_block (cs := #[.int .u64 (x.get v)]) (t := 27) (fr := (0, 0)) (heap_alloc_new w3 _)) (by simp [Value.oneCell']) (by omega) (by unfold maxLen; omega) (by omega) (by simp; omega) ?_; intro g' o' cap' w4 hown4 honly4 hat4 hlt4)
    have hB4 : Below w.heap.size w w4 := (Below.al HB3.out _).trans (honly4.below (by simp; omega) (fun k hk => (HO3.out.lt k hk).1))
    have hbx4 := (honly4.block w.heap.size (by simp; omega) (fun h => Nat.lt_irrefl _ (HOV.out _ h))).trans (below_row HBX3.out (Below.al (Below.refl _ _) _))
    have hov4 : ∀ k, (Value.slice (some ⟨g', o', none⟩) (j + 1) cap').ownBlock = some k → w.heap.size < k := fun k hk => by
      have hk' : g' = k := by simpa [Value.ownBlock] using hk
      rcases hat4 with h | h
      · exact hk' ▸ HOV.out _ h
      · simp at h
        omega
    have HB4 := Lib.hid hB4; have HO4 := Lib.hid hown4; have HBX4 := Lib.hid hbx4; have HOV4 := Lib.hid hov4
    clear hB4 hown4 hbx4 hov4 honly4 hat4 hlt4 y0 HO3 HB3 HBX3
    go_wp2
    go_roundw
    case rel => exact ⟨j + 1, by omega, by go_num, by rw [HST.out, encU_app]; exact HO4.out, HB4.out, HBX4.out, HOV4.out⟩
    case measure => simp [intOf]; omega
  · obtain rfl : j = 8 * qn := by omega
    have hnl : ¬ ((8 * qn : Nat) : Int) < 8 * (qn : Int) := by omega
    go_wp2
    go_ret
    exact ⟨_, rfl, HO2.out, HB2.out⟩
end
end Go.Proofs.Ytejeghfddnbhaaa
