/-
  The reference's Image.
-/
import Derived.Test.YtejeghfddnbhaaaImage
import Derived.Deep.RegionLaw
namespace Go.Proofs.Ytejeghfddnbhaaa
open Go.RowKit
attribute [local go_sem ↓] Go.wp_at_zero Go.wp_at_succ
section
variable (a b c d e f g p q : Int)
set_option maxRecDepth 100000 in
set_option maxHeartbeats 8000000 in
theorem first_exact (F : Nat) (w : World) (hF : c + 1 + p = F) (t1 : 1 ≤ c) (t2 : c ≤ 64) (t3 : 1 ≤ p) (t4 : p ≤ 16) : Calls Try.prog 33 #[.agg #[.int .i64 a, .int .i64 b, .int .i64 c, .int .i64 d, .int .i64 e, .int .i64 f, .int .i64 g, .int .i64 p, .int .i64 q]] w fun E w' => E = .returned (.int .i64 F) ∧ w' = w.alloc (.cells #[.int .i64 a, .int .i64 b, .int .i64 c, .int .i64 d, .int .i64 e, .int .i64 f, .int .i64 g, .int .i64 p, .int .i64 q] 25) := by
  go_enter Try.func33, Try.ntmps33
  go_wp2
  go_ret
  exact ⟨rfl, rfl⟩
set_option maxRecDepth 100000 in
set_option maxHeartbeats 8000000 in
theorem rimage_yes (nb F : Nat) (gm om capm : Nat) (ms : List Int) (w : World) (hG : goodH a b c d e f g p q = true) (hnb : b = nb) (hF : c + 1 + p = F) (hl : (ms.length : Int) = 8 * q) (hcap : ms.length ≤ capm) (hgm : gm < w.heap.size)
    (hcm : ∀ j u, (encU ms)[j]? = some u → w.cell? ⟨gm, om + j, none⟩ = some u) :
    Calls Try.prog 22 #[.agg #[.int .i64 a, .int .i64 b, .int .i64 c, .int .i64 d, .int .i64 e, .int .i64 f, .int .i64 g, .int .i64 p, .int .i64 q], .slice (some ⟨gm, om, none⟩) ms.length capm] w fun E w' => ∃ v, E = .returned (.tuple #[v, .int .i64 0]) ∧ Own w' w.heap.size 68 8 v nb (encLns (imgN F nb ms ms.length)) ∧ Below w.heap.size w w' := by
  have hof := fun w => rgood_any a b c d e f g p q w
  have hwd := fun w => rwords_any a b c d e f g p q w
  obtain ⟨t1, t2, t3, t4, t5, t6, t7, t8, t9⟩ := goodH_b hG
  have e8 : wordsI true q = 8 * q := rfl
  simp only [hG, e8] at hof hwd
  have HOF := Lib.hid hof; have HWD := Lib.hid hwd; have HCM := Lib.hid hcm
  obtain ⟨i0, hi0, hz0, hz1, hz2⟩ := info_parts info68
  have hmk : ∀ w, (Instr.makeSlice 33 (.int .i64 nb) (.int .i64 nb)).run Try.prog w = .ok (.slice (some ⟨w.heap.size, 0, none⟩) nb nb) (w.alloc (.cells (encLns (List.replicate nb Ln.zero)).toArray 68)) := fun w => by
    have := run_make (P := Try.prog) w 33 68 i0 _ Try.underlying33 hi0 hz0 .i64 .i64 nb nb (by omega) (Int.le_refl _) (by rw [hz2]; omega) (by omega)
    rw [this, hz1, Int.toNat_natCast]
    show Result.ok _ (w.alloc (.cells (madeCells #[.int .u64 0, .int .u64 0, .int .u64 0, .int .u64 0, .int .u64 0, .int .u64 0, .int .u64 0, .int .u64 0] (nb * 8)) 68)) = _
    rw [made_lines]
  subst hnb
  clear hof hwd hG e8 hcm hi0 hz0 hz1 hz2
  obtain ⟨n, hn⟩ : ∃ n, ms.length = n := ⟨_, rfl⟩
  have HN := Lib.hid hn
  rw [hn] at hl hcap ⊢
  clear hn
  go_enter Try.func22, Try.ntmps22
  go_wp2_with fail
  refine (HOF.out _).mono ?_
  rintro e' w1 ⟨rfl, hb⟩
  obtain ⟨hbx, hold⟩ := past_box hb
  have HB1 := Lib.hid (Below.then (Below.al (Below.refl _ _) _) hb)
  have HBX := Lib.hid hbx
  have q0 : w1.cell? ⟨w.heap.size, 0, none⟩ = some (.int .i64 a) := by rw [cell_of_row _ _ _ _ 25 (0, 0) hbx]; rfl
  have q1 : w1.cell? ⟨w.heap.size, 1, none⟩ = some (.int .i64 nb) := by rw [cell_of_row _ _ _ _ 25 (0, 0) hbx]; rfl
  have q2 : w1.cell? ⟨w.heap.size, 2, none⟩ = some (.int .i64 c) := by rw [cell_of_row _ _ _ _ 25 (0, 0) hbx]; rfl
  have q3 : w1.cell? ⟨w.heap.size, 3, none⟩ = some (.int .i64 d) := by rw [cell_of_row _ _ _ _ 25 (0, 0) hbx]; rfl
  have q4 : w1.cell? ⟨w.heap.size, 4, none⟩ = some (.int .i64 e) := by rw [cell_of_row _ _ _ _ 25 (0, 0) hbx]; rfl
  have q5 : w1.cell? ⟨w.heap.size, 5, none⟩ = some (.int .i64 f) := by rw [cell_of_row _ _ _ _ 25 (0, 0) hbx]; rfl
  have q6 : w1.cell? ⟨w.heap.size, 6, none⟩ = some (.int .i64 g) := by rw [cell_of_row _ _ _ _ 25 (0, 0) hbx]; rfl
  have q7 : w1.cell? ⟨w.heap.size, 7, none⟩ = some (.int .i64 p) := by rw [cell_of_row _ _ _ _ 25 (0, 0) hbx]; rfl
  have q8 : w1.cell? ⟨w.heap.size, 8, none⟩ = some (.int .i64 q) := by rw [cell_of_row _ _ _ _ 25 (0, 0) hbx]; rfl
  clear HOF hb hbx hold
  go_wp2_with fail
  refine (HWD.out _).mono ?_
  rintro e' w2 ⟨rfl, hb2⟩
  clear q0 q1 q2 q3 q4 q5 q6 q7 q8
  have hbx := below_row HBX.out hb2
  have q1 : w2.cell? ⟨w.heap.size, 1, none⟩ = some (.int .i64 nb) := by rw [cell_of_row _ _ _ _ 25 (0, 0) hbx]; rfl
  have HB2 := Lib.hid (Below.then HB1.out hb2)
  have HR2 := Lib.hid hbx
  have hne : ((n : Int) != 8 * q) = false := by simpa using hl
  have hnb0 : n ≤ 128 := by omega
  have HL := Lib.hid hl
  have hBlt : w.heap.size < w2.heap.size := (Array.getElem?_eq_some_iff.1 hbx).1
  clear hbx hb2 HWD HBX HB1 hl
  go_wp2_with fail
  obtain ⟨g0, hg0⟩ : ∃ g0, w2.heap.size = g0 := ⟨_, rfl⟩
  obtain ⟨W0, hW0⟩ : ∃ W0, w2.alloc (.cells (encLns (List.replicate nb Ln.zero)).toArray 68) = W0 := ⟨_, rfl⟩
  have hrow : W0.heap[g0]? = some (.cells (encLns (imgN F nb ms 0)).toArray 68 (0, 0)) := by rw [← hW0, ← hg0]; exact heap_alloc_new w2 _
  have hgm0 : gm < g0 := by have := HB2.out.size; omega
  have hold : ∀ k o, k < g0 → W0.cell? ⟨k, o, none⟩ = w2.cell? ⟨k, o, none⟩ := fun k o hk => by rw [← hW0]; exact World.cell?_alloc_old _ _ ⟨k, o, none⟩ (by show k ≠ _; rw [hg0]; omega)
  have hcm : ∀ j u, (encU ms)[j]? = some u → W0.cell? ⟨gm, om + j, none⟩ = some u := fun j u hu => by
    rw [hold _ _ hgm0, HB2.out.cell (p := ⟨gm, om + j, none⟩) hgm]
    exact HCM.out j u hu
  have hbx : W0.heap[w.heap.size]? = some (.cells #[.int .i64 a, .int .i64 nb, .int .i64 c, .int .i64 d, .int .i64 e, .int .i64 f, .int .i64 g, .int .i64 p, .int .i64 q] 25 (0, 0)) := by rw [← hW0]; exact below_row HR2.out (Below.al (Below.refl _ _) _)
  have hB0 : Below w.heap.size w W0 := by rw [← hW0]; exact Below.al HB2.out _
  have hW0s : W0.heap.size = g0 + 1 := by rw [← hW0, ← hg0]; simp
  have hwg : w.heap.size ≤ g0 := by have := HB2.out.size; omega
  have HB := Lib.hid hB0; have HROW := Lib.hid hrow; have HCM0 := Lib.hid hcm; have HBX := Lib.hid hbx; have HS := Lib.hid hW0s
  rw [hW0, hg0]
  rw [hg0] at hBlt
  have hFq : (F : Int) + q ≤ nb := by omega
  clear HB2 HR2 HCM hB0 hrow hcm hbx hold hW0 hg0 hW0s hmk q1 hne t9
  go_loopw [7] (fun i w' => ∃ j : Nat, j ≤ n ∧ i = .int .i64 j ∧ w'.heap[g0]? = some (.cells (encLns (imgN F nb ms j)).toArray 68 (0, 0)) ∧ Only (fun k => k = g0) W0 w') (fun i _ => n - (intOf i).toNat)
  case atStart => exact ⟨0, by omega, rfl, HROW.out, Only.refl _ _⟩
  case round =>
  obtain ⟨j, hj, rfl, hrow, hO⟩ := hrel
  by_cases hlt : j < n
  · obtain ⟨x, hx⟩ : ∃ x, ms[j]? = some x := ⟨_, List.getElem?_eq_getElem (by rw [HN.out]; exact hlt)⟩
    have hxd : ms.getD j 0 = x := by rw [List.getD_eq_getElem?_getD, hx]; rfl
    have y0 : wr.cell? ⟨gm, om + j, none⟩ = some (.int .u64 x) := (hO.cell (p := ⟨gm, om + j, none⟩) (by rw [HS.out]; simp; omega) (by simp; omega)).trans (HCM0.out j _ (encU_get hx))
    have hbx : wr.heap[w.heap.size]? = some (.cells #[.int .i64 a, .int .i64 nb, .int .i64 c, .int .i64 d, .int .i64 e, .int .i64 f, .int .i64 g, .int .i64 p, .int .i64 q] 25 (0, 0)) := (hO.block w.heap.size (by rw [HS.out]; omega) (by omega)).trans HBX.out
    have q0 : wr.cell? ⟨w.heap.size, 0, none⟩ = some (.int .i64 a) := by rw [cell_of_row _ _ _ _ 25 (0, 0) hbx]; rfl
    have q1 : wr.cell? ⟨w.heap.size, 1, none⟩ = some (.int .i64 nb) := by rw [cell_of_row _ _ _ _ 25 (0, 0) hbx]; rfl
    have q2 : wr.cell? ⟨w.heap.size, 2, none⟩ = some (.int .i64 c) := by rw [cell_of_row _ _ _ _ 25 (0, 0) hbx]; rfl
    have q3 : wr.cell? ⟨w.heap.size, 3, none⟩ = some (.int .i64 d) := by rw [cell_of_row _ _ _ _ 25 (0, 0) hbx]; rfl
    have q4 : wr.cell? ⟨w.heap.size, 4, none⟩ = some (.int .i64 e) := by rw [cell_of_row _ _ _ _ 25 (0, 0) hbx]; rfl
    have q5 : wr.cell? ⟨w.heap.size, 5, none⟩ = some (.int .i64 f) := by rw [cell_of_row _ _ _ _ 25 (0, 0) hbx]; rfl
    have q6 : wr.cell? ⟨w.heap.size, 6, none⟩ = some (.int .i64 g) := by rw [cell_of_row _ _ _ _ 25 (0, 0) hbx]; rfl
    have q7 : wr.cell? ⟨w.heap.size, 7, none⟩ = some (.int .i64 p) := by rw [cell_of_row _ _ _ _ 25 (0, 0) hbx]; rfl
    have q8 : wr.cell? ⟨w.heap.size, 8, none⟩ = some (.int .i64 q) := by rw [cell_of_row _ _ _ _ 25 (0, 0) hbx]; rfl
    have hs0 : w.heap.size < wr.heap.size := (Array.getElem?_eq_some_iff.1 hbx).1
    have hsg : g0 < wr.heap.size := (Array.getElem?_eq_some_iff.1 hrow).1
    have hsm : gm < wr.heap.size := by omega
    have hfx := fun w => first_exact a nb c d e f g p q F w hF t3 (by omega) t5 t6
    have HFX := Lib.hid hfx
    clear hfx
    have hl8 : (n : Int) = 8 * q := HL.out
    obtain ⟨u, hu⟩ : ∃ u, j / 8 = u := ⟨_, rfl⟩
    obtain ⟨v, hv⟩ : ∃ v, j % 8 = v := ⟨_, rfl⟩
    have hju : F + u < nb := by omega
    have hv8 : v < 8 := by omega
    have d1 : (j : Int).tdiv 8 = (u : Int) := by rw [Int.tdiv_eq_ediv_of_nonneg (by omega)]; omega
    have d2 : (j : Int).tmod 8 = (v : Int) := by rw [Int.tmod_eq_emod_of_nonneg (by omega)]; omega
    have hlen : (encLns (imgN F nb ms j)).length = nb * 8 := by rw [encLns_len, imgN_len]
    have hr1 : (wr.setCell ⟨g0, (F + u) * 8 + v, none⟩ (.int .u64 x)).heap[g0]? = some (.cells (encLns (imgN F nb ms (j + 1))).toArray 68 (0, 0)) := by
      have := row_setCells g0 68 [.int .u64 x] ((F + u) * 8 + v) wr _ hrow (by rw [List.size_toArray, hlen]; simp; omega)
      refine this.trans ?_
      rw [imgN, hu, hv, hxd, ← putL_enc _ _ _ _ (by rw [imgN_len]; exact hju) hv8]
      rfl
    have hO1 : Only (fun k => k = g0) W0 (wr.setCell ⟨g0, (F + u) * 8 + v, none⟩ (.int .u64 x)) := hO.set _ _ (Or.inl rfl)
    have hz : (wr.cell? ⟨g0, (F + u) * 8 + v, none⟩).isSome = true := by
      rw [cell_of_row _ _ _ _ 68 (0, 0) hrow]
      simp [hlen]
      omega
    have hfz : wr.frozen? ⟨g0, (F + u) * 8 + v, none⟩ = false := frozen_of_row wr g0 _ _ 68 hrow
    obtain ⟨y, hy⟩ := Option.isSome_iff_exists.1 hz
    have HR1 := Lib.hid hr1; have HO1 := Lib.hid hO1
    have hj0 : (0 : Int) ≤ (j : Int) := by omega
    have hj1 : (j : Int) < (n : Int) := by omega
    have hu1 : (F : Int) + (u : Int) < (nb : Int) := by omega
    have hv1 : (v : Int) < 8 := by omega
    clear hr1 hO1 hO hrow hz hxd hx hu hv hl8 hlen
    have hn1 : ¬ gm = wr.heap.size := by omega
    have hn2 : ¬ g0 = wr.heap.size := by omega
    have hw1 : IntKind.i64.wrap ((F : Int) + (u : Int)) = (F : Int) + (u : Int) := IntWalk.i64_in _ (by omega)
    have hw2 : IntKind.i64.wrap (u : Int) = (u : Int) := IntWalk.i64_in _ (by omega)
    have hw3 : IntKind.i64.wrap (v : Int) = (v : Int) := IntWalk.i64_in _ (by omega)
    have hw4 : ((F : Int) + (u : Int)).toNat = F + u := by omega
    have hw5 : (0 : Int) ≤ (F : Int) + (u : Int) := by omega
    go_wp2_with fail
    go_region_law ((go_simp; go_at_call 33; refine (HFX.out _).mono ?_; rintro e' w9 ⟨rfl, rfl⟩))
    all_goals
      go_wp2
      go_roundw
      case rel => exact ⟨j + 1, by omega, by go_num, (below_row HR1.out (Below.al (Below.refl _ _) _) : _), (HO1.out.al _).drew⟩
      case measure => simp [intOf]; omega
  · obtain rfl : j = n := by omega
    have hlen : (imgN F nb ms j).length = nb := imgN_len _ _ _ _
    have hown : Own wr w.heap.size 68 8 (.slice (some ⟨g0, 0, none⟩) nb nb) nb (encLns (imgN F nb ms j)) := ⟨by rw [encLns_len, hlen], .inr ⟨g0, 0, nb, _, rfl, hwg, hrow, Nat.le_refl _, by unfold maxLen; omega, by rw [List.size_toArray, encLns_len, hlen]; omega, by rw [List.drop_zero, List.take_of_length_le (by rw [encLns_len, hlen]; omega)]⟩⟩
    have HO := Lib.hid hown
    have HBB := Lib.hid (HB.out.trans (hO.below (by rw [HS.out]; omega) (fun k hk => by omega)))
    clear hown hrow hO hlen
    go_wp2
    exact bodyPost_ret (v := .tuple #[.slice (some ⟨g0, 0, none⟩) nb nb, .int .i64 0]) (by simp [results, Try.results22, go_sem]) rfl ⟨_, rfl, HO.out, HBB.out⟩
set_option maxRecDepth 100000 in
set_option maxHeartbeats 8000000 in
theorem rimage_no (va : Option Addr) (n vc : Nat) (w : World) (h : ¬ (goodH a b c d e f g p q = true ∧ (n : Int) = 8 * q)) : Calls Try.prog 22 #[.agg #[.int .i64 a, .int .i64 b, .int .i64 c, .int .i64 d, .int .i64 e, .int .i64 f, .int .i64 g, .int .i64 p, .int .i64 q], .slice va n vc] w fun E w' => E = .returned (.tuple #[.slice none 0 0, .int .i64 1]) ∧ Below w.heap.size w w' := by
  have hof := fun w => rgood_any a b c d e f g p q w
  have hwd := fun w => rwords_any a b c d e f g p q w
  obtain ⟨G, hG⟩ : ∃ G, goodH a b c d e f g p q = G := ⟨_, rfl⟩
  simp only [hG] at hof hwd h
  clear hG
  cases G with
  | false =>
    have HOF := Lib.hid hof
    clear hof hwd h
    go_enter Try.func22, Try.ntmps22
    go_wp2_with fail
    refine (HOF.out _).mono ?_
    rintro e' w1 ⟨rfl, hb⟩
    have HB1 := Lib.hid (Below.then (Below.al (Below.refl _ _) _) hb)
    clear HOF hb
    go_wp2
    exact bodyPost_ret (v := .tuple #[.slice none 0 0, .int .i64 1]) (by simp [results, Try.results22, go_sem]) rfl ⟨rfl, HB1.out⟩
  | true =>
    have e8 : wordsI true q = 8 * q := rfl
    simp only [e8] at hwd
    have HOF := Lib.hid hof; have HWD := Lib.hid hwd
    have hne : ((n : Int) != 8 * q) = true := by simpa using h
    clear hof hwd h e8
    go_enter Try.func22, Try.ntmps22
    go_wp2_with fail
    refine (HOF.out _).mono ?_
    rintro e' w1 ⟨rfl, hb⟩
    obtain ⟨hbx, hold⟩ := past_box hb
    have HB1 := Lib.hid (Below.then (Below.al (Below.refl _ _) _) hb)
    have q0 : w1.cell? ⟨w.heap.size, 0, none⟩ = some (.int .i64 a) := by rw [cell_of_row _ _ _ _ 25 (0, 0) hbx]; rfl
    have q1 : w1.cell? ⟨w.heap.size, 1, none⟩ = some (.int .i64 b) := by rw [cell_of_row _ _ _ _ 25 (0, 0) hbx]; rfl
    have q2 : w1.cell? ⟨w.heap.size, 2, none⟩ = some (.int .i64 c) := by rw [cell_of_row _ _ _ _ 25 (0, 0) hbx]; rfl
    have q3 : w1.cell? ⟨w.heap.size, 3, none⟩ = some (.int .i64 d) := by rw [cell_of_row _ _ _ _ 25 (0, 0) hbx]; rfl
    have q4 : w1.cell? ⟨w.heap.size, 4, none⟩ = some (.int .i64 e) := by rw [cell_of_row _ _ _ _ 25 (0, 0) hbx]; rfl
    have q5 : w1.cell? ⟨w.heap.size, 5, none⟩ = some (.int .i64 f) := by rw [cell_of_row _ _ _ _ 25 (0, 0) hbx]; rfl
    have q6 : w1.cell? ⟨w.heap.size, 6, none⟩ = some (.int .i64 g) := by rw [cell_of_row _ _ _ _ 25 (0, 0) hbx]; rfl
    have q7 : w1.cell? ⟨w.heap.size, 7, none⟩ = some (.int .i64 p) := by rw [cell_of_row _ _ _ _ 25 (0, 0) hbx]; rfl
    have q8 : w1.cell? ⟨w.heap.size, 8, none⟩ = some (.int .i64 q) := by rw [cell_of_row _ _ _ _ 25 (0, 0) hbx]; rfl
    clear HOF hb hbx hold
    go_wp2_with fail
    refine (HWD.out _).mono ?_
    rintro e' w2 ⟨rfl, hb2⟩
    have HB2 := Lib.hid (Below.then HB1.out hb2)
    clear hb2
    go_wp2
    exact bodyPost_ret (v := .tuple #[.slice none 0 0, .int .i64 1]) (by simp [results, Try.results22, go_sem]) rfl ⟨rfl, HB2.out⟩
end
end Go.Proofs.Ytejeghfddnbhaaa
