/-
  ModelBack, walked.
-/
import Derived.Test.YtigbhlkafmpgmaaTwice
import Derived.Test.YtigbhlkafmpgmaaRuns
import Derived.Deep.CutBlock
import Derived.Deep.DeepCutAuto
namespace Go.Proofs.Ytigbhlkafmpgmaa
open Go.RowKit Go.Maps
attribute [local go_sem ↓] Go.wp_at_zero Go.wp_at_succ
set_option maxRecDepth 100000 in
set_option maxHeartbeats 8000000 in
set_option linter.unusedVariables false in
theorem back_long (va : Option Addr) (vc : Nat) (ab : Bool) (ops : List Op) (am : Option Addr) (cm : Nat) (m : List Int) (room : Int) (w : World) (hr : Rds w 3 (.slice va ops.length vc) ops.length (encOs ops)) (hm : Rds w 1 (.slice am m.length cm) m.length (encU m)) (hok : ∀ o ∈ ops, (Lit.int .u64 o.v).wf = true) (hl : 1000 < m.length ∨ room < 0 ∨ 1000 < room ∨ 16 < ops.length) :
    Calls Try.prog 4 #[.slice am m.length cm, .int .i64 room, .agg #[.slice va ops.length vc, .bool ab]] w fun e w' => e = .returned (.bool true) ∧ Below w.heap.size w w' := by
  by_cases h1 : (1000 : Int) < (m.length : Int)
  · clear hl hok
    go_enter Try.func4, Try.ntmps4
    go_wp2_with (go_at_call 8; refine (wakes_any _).mono ?_; rintro e w1 ⟨rfl, hb⟩)
    go_ret
    exact ⟨rfl, Below.then (Below.al (Below.refl _ _) _) hb⟩
  · by_cases h2 : room < 0
    · clear hl hok
      go_enter Try.func4, Try.ntmps4
      go_wp2_with (go_at_call 8; refine (wakes_any _).mono ?_; rintro e w1 ⟨rfl, hb⟩)
      go_ret
      exact ⟨rfl, Below.then (Below.al (Below.refl _ _) _) hb⟩
    · by_cases h3 : 1000 < room
      · clear hl hok
        go_enter Try.func4, Try.ntmps4
        go_wp2_with (go_at_call 8; refine (wakes_any _).mono ?_; rintro e w1 ⟨rfl, hb⟩)
        go_ret
        exact ⟨rfl, Below.then (Below.al (Below.refl _ _) _) hb⟩
      · have h4 : (16 : Int) < (ops.length : Int) := by omega
        clear hl hok
        go_enter Try.func4, Try.ntmps4
        go_wp2_with (go_at_call 8; refine (wakes_any _).mono ?_; rintro e w1 ⟨rfl, hb⟩)
        go_ret
        exact ⟨rfl, Below.then (Below.al (Below.refl _ _) _) hb⟩
set_option maxRecDepth 100000 in
set_option maxHeartbeats 8000000 in
theorem back_short (va : Option Addr) (vc : Nat) (ab : Bool) (ops : List Op) (am : Option Addr) (cm : Nat) (m : List Int) (room : Int) (w : World) (hr : Rds w 3 (.slice va ops.length vc) ops.length (encOs ops)) (hm : Rds w 1 (.slice am m.length cm) m.length (encU m)) (hok : ∀ o ∈ ops, (Lit.int .u64 o.v).wf = true) (h1 : m.length ≤ 1000) (h2 : 0 ≤ room) (h3 : room ≤ 1000) (h4 : ops.length ≤ 16) :
    Calls Try.prog 4 #[.slice am m.length cm, .int .i64 room, .agg #[.slice va ops.length vc, .bool ab]] w fun e w' => e = .returned (.bool true) ∧ Below w.heap.size w w' := by
  obtain ⟨i0, hi0, hz0, hz1, hz2⟩ := info_parts info37
  have h1' : ¬ (1000 : Int) < (m.length : Int) := by omega
  have h4' : ¬ (16 : Int) < (ops.length : Int) := by omega
  obtain ⟨n0, hn0⟩ : ∃ n0, w.heap.size = n0 := ⟨_, rfl⟩
  obtain ⟨W1, hW1⟩ : ∃ W1, w.alloc (.cells #[.slice va ops.length vc, .bool ab] 25) = W1 := ⟨_, rfl⟩
  have g1 : W1.heap[n0]? = some (.cells #[.slice va ops.length vc, .bool ab] 25 (0, 0)) := by rw [← hW1, ← hn0]; exact heap_alloc_new w _
  have hB1 : Below w.heap.size w W1 := by rw [← hW1]; exact Below.al (Below.refl _ _) _
  have HR := Lib.hid hr; have HM := Lib.hid hm; have HOK := Lib.hid hok; have HB1 := Lib.hid hB1; have G1 := Lib.hid g1
  have q00 : W1.cell? ⟨n0, 0, none⟩ = some (.slice va ops.length vc) := by rw [cell_of_row _ _ _ _ 25 (0, 0) g1]; rfl
  have q01 : W1.cell? ⟨n0, 1, none⟩ = some (.bool ab) := by rw [cell_of_row _ _ _ _ 25 (0, 0) g1]; rfl
  have hn1 : n0 < W1.heap.size := (Array.getElem?_eq_some_iff.1 g1).1
  have hn2 : ¬ n0 = W1.heap.size := by omega
  have HMD := Lib.hid (show Rds W1.drew 1 (.slice am m.length cm) m.length (encU m) from (hm.below hB1).below (Below.drew (Below.refl _ _)))
  clear hr hm hok hB1 g1
  obtain ⟨X, hX⟩ : ∃ X, allS m room ops ab = X := ⟨_, rfl⟩
  have HX := Lib.hid hX
  clear hX
  obtain ⟨x1, x2, x3⟩ := X
  go_enter Try.func4, Try.ntmps4
  go_wp2_with fail
  go_cut [7, 8, 9] (fun s7 s8 s9 wx => ∃ a8 c8 a9 c9, s7 = .slice a8 x1.length c8 ∧ s8 = .slice a9 x2.length c9 ∧ s9 = .int .i64 x3 ∧ Own wx w.heap.size 37 1 (.slice a8 x1.length c8) x1.length (encU x1) ∧ Own wx w.heap.size 37 1 (.slice a9 x2.length c9) x2.length (encU x2) ∧ Below w.heap.size w wx ∧ wx.heap[n0]? = some (.cells #[.slice va ops.length vc, .bool ab] 25 (0, 0)))
  case first =>
    go_region_law (first | (refine step_copy_new (P := Try.prog) (by rfl) _ _ 22 (by rfl) 37 i0 _ 1 8 Try.underlying22 hi0 hz0 hz1 hz2 rfl (World.drew W1) (by rfl) (.slice am m.length cm) m.length (encU m) (by rfl) HMD.out (encU_one m) (by unfold maxLen; omega) (by omega) ?_; intro v2 w2 hown2 hb2; obtain ⟨a2, c2, rfl, _, _⟩ := hown2.any; have g2 := below_row G1.out ((Below.drew (Below.refl W1.heap.size W1)).trans (show Below W1.heap.size W1.drew w2 from hb2)); have z0 : w2.cell? ⟨n0, 0, none⟩ = some (.slice va ops.length vc) := (by rw [cell_of_row _ _ _ _ 25 (0, 0) g2]; rfl); have z1 : w2.cell? ⟨n0, 1, none⟩ = some (.bool ab) := (by rw [cell_of_row _ _ _ _ 25 (0, 0) g2]; rfl); have HO2 := Lib.hid hown2; have G2 := Lib.hid g2; have HB2 := Lib.hid (Below.then HB1.out ((Below.drew (Below.refl W1.heap.size W1)).trans (show Below W1.heap.size W1.drew w2 from hb2))); clear hown2 hb2 g2) | (go_simp; go_at_call 9; refine (run_all va vc ab ops a2 c2 m room _ (HR.out.below HB2.out) HO2.out.rds HOK.out).mono ?_; rintro e w3 ⟨v1, v2, rfl, hO1, hO2, hb3⟩; rw [HX.out] at hO1 hO2; rw [HX.out]; obtain ⟨a8, c8, rfl, _, _⟩ := hO1.any; obtain ⟨a9, c9, rfl, _, _⟩ := hO2.any; have HP1 := Lib.hid (hO1.low HB2.out.size); have HP2 := Lib.hid (hO2.low HB2.out.size); have HB3 := Lib.hid (Below.then HB2.out hb3); have G3 := Lib.hid (below_row G2.out hb3); clear hO1 hO2 hb3))
    all_goals
      go_wp2
      go_meet
      exact ⟨a8, c8, a9, c9, rfl, rfl, rfl, HP1.out, HP2.out, HB3.out, G3.out⟩
  case rest =>
  obtain ⟨a8, c8, a9, c9, rfl, rfl, rfl, hO1, hO2, hB, hg⟩ := hcut
  have HO1 := Lib.hid hO1; have HO2 := Lib.hid hO2; have HB := Lib.hid hB; have HG := Lib.hid hg
  have q0 : wc.cell? ⟨n0, 0, none⟩ = some (.slice va ops.length vc) := by rw [cell_of_row _ _ _ _ 25 (0, 0) hg]; rfl
  have q1 : wc.cell? ⟨n0, 1, none⟩ = some (.bool ab) := by rw [cell_of_row _ _ _ _ 25 (0, 0) hg]; rfl
  clear hO1 hO2 hB hg hW1 q00 q01 hn1 hn2 HMD HB1 G1
  by_cases hgt : goodT ops = true
  · have hX := HX.out
    unfold allS at hX
    rw [if_pos hgt, if_neg (by omega)] at hX
    obtain ⟨hc1, hc2, hc3⟩ := ranS_code m room ops ab
    have hl1 := ranS_len m room ops ab
    obtain ⟨ht1, t, ht2⟩ := ranS_tells m room ops ab
    have HBK := Lib.hid (ranS_back m room ops ab)
    have HTW := Lib.hid (fun hp => ranS_twice m room ops ab hp)
    obtain ⟨code, hcode⟩ : ∃ c, (ranS m room ops ab).1 = c := ⟨_, rfl⟩
    injection hX with e1 hX
    injection hX with e2 e3
    rw [e1] at hl1 HBK HTW
    rw [e2] at ht1 ht2
    rw [hcode] at hc1 hc2 hc3 ht2 HBK HTW
    subst e3
    obtain ⟨k, hk⟩ : ∃ k, t.length = k := ⟨_, rfl⟩
    have hx2 : x2.length = k + 1 := by rw [ht2, List.length_append, hk]; rfl
    have hcell : (encU x2)[k]? = some (.int .u64 code) := encU_get (by rw [ht2, List.getElem?_append_right (by omega), hk]; simp)
    have hP2 := HO2.out
    rw [hx2] at hP2 ht1
    have HL1 := Lib.hid hl1
    rw [hl1]
    have hP1 := HO1.out
    rw [hl1] at hP1
    obtain ⟨g9, o9, cap9, hv9, _, _, _, hgl9, hc9, -⟩ := hP2.form (by omega)
    injection hv9 with hv9 _ hv9'
    subst hv9; subst hv9'
    have z9 : wc.cell? ⟨g9, o9 + k, none⟩ = some (.int .u64 code) := hc9 k _ hcell
    have HP1 := Lib.hid hP1; have HP2 := Lib.hid hP2
    have HC3 := Lib.hid hc3
    rw [hx2]
    have hk1 : ¬ ((k : Int) + 1) < 1 := by omega
    have hk2 : ¬ (ops.length : Int) + 1 < (k : Int) + 1 := by omega
    clear hcell hP1 hP2 hc9 ht2 hx2 hl1 ht1 hc3 hcode HO1 HO2 HX e1 e2 hk
    by_cases h101 : code = 101
    · subst h101
      obtain rfl := HC3.out rfl
      have C9 := Lib.hid (show ∀ (a2 : Option Addr) (c2 : Nat) (u : World), Rds u 3 (.slice va ops.length vc) ops.length (encOs ops) → Rds u 1 (.slice a2 m.length c2) m.length (encU x1) → Calls Try.prog 9 #[.slice a2 m.length c2, .int .i64 room, .agg #[.slice va ops.length vc, .bool false]] u fun e w' => ∃ v1 v2, e = .returned (.tuple #[v1, v2, .int .i64 0]) ∧ Own w' u.heap.size 37 1 v1 m.length (encU (ranS x1 room ops false).2.1) ∧ Own w' u.heap.size 37 1 v2 (ranS x1 room ops false).2.2.length (encU (ranS x1 room ops false).2.2) ∧ Below u.heap.size u w' from fun a2 c2 u hr hm => by
        have := run_any va vc false ops a2 c2 x1 room u hr hgt h2 h3 (by rw [HL1.out]; exact h1) (by rw [HL1.out]; exact hm) HOK.out
        rw [HL1.out] at this
        exact this)
      obtain ⟨Y, hY⟩ : ∃ Y, ranS x1 room ops false = Y := ⟨_, rfl⟩
      have HTW' := Lib.hid (show plainT ops = true → Y.2.1 = x1 from fun hp => by rw [← hY]; exact HTW.out hp rfl)
      rw [hY] at C9
      obtain ⟨yc, y1, y2⟩ := Y
      clear hY HBK HTW HC3
      obtain ⟨_, va', cv', e0, p2, p3, p4, p5⟩ := HR.out
      injection e0 with e1 e2 e3
      subst e1; subst e3
      have P5 := Lib.hid p5
      clear p4 p5
      have R1 := Lib.hid HP1.out.rds
      have HMD := Lib.hid (show Rds wc.drew 1 (.slice a8 m.length c8) m.length (encU x1) from HP1.out.rds.below (Below.drew (Below.refl _ _)))
      have hn1 : n0 < wc.heap.size := (Array.getElem?_eq_some_iff.1 HG.out).1
      have hn2 : ¬ n0 = wc.heap.size := by omega
      go_wp2_with fail
      go_loopw [11, 12] (fun pl i w' => ∃ j : Nat, j ≤ ops.length ∧ i = .int .i64 j ∧ pl = .bool (plainT (ops.take j)) ∧ w' = wc) (fun _ i _ => ops.length - (intOf i).toNat)
      case atStart => exact ⟨0, by omega, rfl, rfl, rfl⟩
      case round =>
      obtain ⟨j, hj, rfl, rfl, hw⟩ := hrel
      have hw2 : wc = wr := hw.symm
      clear hw
      subst hw2
      by_cases hlt : j < ops.length
      · obtain ⟨⟨ok, ow, ov⟩, ho⟩ : ∃ o, ops[j]? = some o := ⟨_, List.getElem?_eq_getElem hlt⟩
        obtain ⟨g, of, rfl, ga1, ca⟩ := P5.out (by omega)
        have x0 : wc.cell? ⟨g, of + j * 3, none⟩ = some (.int .i64 ok) := (HB.out.cell (p := ⟨g, of + j * 3, none⟩) ga1).trans (by have := ca (j * 3 + 0) _ ((encOs_get ops j _ ho 0 (by omega)).trans rfl); simpa using this)
        have hj0 : (0 : Int) ≤ (j : Int) := by omega
        have hj1 : (j : Int) < (ops.length : Int) := by omega
        have hpl : plainT (ops.take (j + 1)) = (plainT (ops.take j) && decide (ok = 1 ∨ ok = 2)) := by unfold plainT; rw [List.take_add_one, ho, List.all_append]; simp
        have HPL := Lib.hid hpl
        obtain ⟨pj, hpj⟩ : ∃ b, plainT (ops.take j) = b := ⟨_, rfl⟩
        have HPJ := Lib.hid hpj
        rw [hpj]
        clear hpl hpj ca ho
        cases pj with
        | false =>
          have HPN := Lib.hid (show plainT (ops.take (j + 1)) = false by rw [HPL.out, HPJ.out]; rfl)
          go_wp2
          go_roundw
          case rel => exact ⟨j + 1, by omega, by go_num, by rw [HPN.out], by first | rfl | trivial⟩
          case measure => simp [intOf]; omega
        | true =>
          by_cases k1 : ok = 1
          · subst k1
            have HPN := Lib.hid (show plainT (ops.take (j + 1)) = true by rw [HPL.out, HPJ.out]; rfl)
            go_wp2
            go_roundw
            case rel => exact ⟨j + 1, by omega, by go_num, by rw [HPN.out], by first | rfl | trivial⟩
            case measure => simp [intOf]; omega
          · have k1' : (ok == 1) = false := by simpa using k1
            by_cases k2 : ok = 2
            · subst k2
              have HPN := Lib.hid (show plainT (ops.take (j + 1)) = true by rw [HPL.out, HPJ.out]; rfl)
              go_wp2
              go_roundw
              case rel => exact ⟨j + 1, by omega, by go_num, by rw [HPN.out], by first | rfl | trivial⟩
              case measure => simp [intOf]; omega
            · have k2' : (ok == 2) = false := by simpa using k2
              have HPN := Lib.hid (show plainT (ops.take (j + 1)) = false by rw [HPL.out, HPJ.out, decide_eq_false (by omega)]; rfl)
              go_wp2
              go_roundw
              case rel => exact ⟨j + 1, by omega, by go_num, by rw [HPN.out], by first | rfl | trivial⟩
              case measure => simp [intOf]; omega
      · obtain rfl : j = ops.length := by omega
        rw [List.take_length]
        clear P5
        go_wp2_with fail
        go_cut [13, 14, 15] (fun s13 s14 s15 wx => ∃ a13 c13, s13 = .slice a13 m.length c13 ∧ s15 = .int .i64 0 ∧ Rds wx 1 (.slice a13 m.length c13) m.length (encU y1) ∧ Below wc.heap.size wc wx)
        case first =>
          go_region_law (first | (refine step_copy_new (P := Try.prog) (by rfl) _ _ 22 (by rfl) 37 i0 _ 1 8 Try.underlying22 hi0 hz0 hz1 hz2 rfl (World.drew wc) (by rfl) (.slice a8 m.length c8) m.length (encU x1) (by rfl) HMD.out (encU_one x1) (by unfold maxLen; omega) (by omega) ?_; intro v2 w2 hown2 hb2; obtain ⟨a2, c2, rfl, _, _⟩ := hown2.any; have g2 := below_row HG.out ((Below.drew (Below.refl wc.heap.size wc)).trans (show Below wc.heap.size wc.drew w2 from hb2)); have z0 : w2.cell? ⟨n0, 0, none⟩ = some (.slice va ops.length vc) := (by rw [cell_of_row _ _ _ _ 25 (0, 0) g2]; rfl); have z1 : w2.cell? ⟨n0, 1, none⟩ = some (.bool false) := (by rw [cell_of_row _ _ _ _ 25 (0, 0) g2]; rfl); have HO2 := Lib.hid hown2; have HB2 := Lib.hid ((Below.drew (Below.refl wc.heap.size wc)).trans (show Below wc.heap.size wc.drew w2 from hb2)); clear hown2 hb2 g2) | (go_simp; go_at_call 9; refine (C9.out a2 c2 _ ((HR.out.below HB.out).below HB2.out) HO2.out.rds).mono ?_; rintro e w3 ⟨v1, v2, rfl, hO1, hO2, hb3⟩; obtain ⟨a13, c13, rfl, _, _⟩ := hO1.any; obtain ⟨a14, c14, rfl, _, _⟩ := hO2.any; have HQ1 := Lib.hid hO1.rds; have HB3 := Lib.hid (Below.then HB2.out hb3); clear hO1 hO2 hb3))
          all_goals
            simp only [Act.put, List.setIfInBounds_toArray, List.set_cons_succ, List.set_cons_zero, List.getElem_toArray, List.getElem_cons_zero, List.getElem_cons_succ]
            go_wp2
            go_meet
            exact ⟨a13, c13, rfl, rfl, HQ1.out, HB3.out⟩
        case rest =>
        obtain ⟨a13, c13, rfl, rfl, hQ1, hB3⟩ := hcut
        have HQ1 := Lib.hid hQ1; have HB3 := Lib.hid (Below.then HB.out hB3); have R1 := Lib.hid (R1.out.below hB3)
        clear hQ1 hB3
        cases hp : plainT ops with
        | true =>
          obtain rfl : y1 = x1 := HTW'.out hp
          have hly := HL1.out
          have hr1 := HQ1.out
          have hr2 := R1.out
          rw [← hly] at hr1 hr2
          have ws := words_same _ _ y1 y1 _ hr1 hr2
          rw [hly, decide_eq_true (rfl : y1 = y1)] at ws
          have WS := Lib.hid ws
          clear hp hly hr1 hr2 ws
          go_wp2_with fail
          refine WS.out.mono ?_
          rintro e w4 ⟨rfl, hb4⟩
          have HB4 := Lib.hid (Below.then HB3.out hb4)
          clear hb4
          go_wp2_with fail
          refine (wakes_any _).mono ?_
          rintro e w5 ⟨rfl, hb5⟩
          have HB5 := Lib.hid (Below.then HB4.out hb5)
          clear hb5
          go_wp2
          go_ret
          exact ⟨rfl, HB5.out⟩
        | false =>
          clear hp
          go_wp2_with fail
          refine (wakes_any _).mono ?_
          rintro e w5 ⟨rfl, hb5⟩
          have HB5 := Lib.hid (Below.then HB3.out hb5)
          clear hb5
          go_wp2
          go_ret
          exact ⟨rfl, HB5.out⟩
    · obtain rfl := HBK.out h101
      have hne : (code != 101) = true := by simpa using h101
      have heq : (code == 101) = false := by simpa using h101
      have hlo : ¬ code < 101 := by omega
      have hhi : ¬ 104 < code := by omega
      have RM := Lib.hid (HM.out.below HB.out)
      have R1 := Lib.hid HP1.out.rds
      go_wp2_with fail
      refine (words_same _ _ x1 x1 _ R1.out RM.out).mono ?_
      rintro e w4 ⟨rfl, hb4⟩
      rw [decide_eq_true (rfl : x1 = x1)]
      have HB4 := Lib.hid (Below.then HB.out hb4)
      clear hb4
      go_wp2_with fail
      refine (wakes_any _).mono ?_
      rintro e w5 ⟨rfl, hb5⟩
      have HB5 := Lib.hid (Below.then HB4.out hb5)
      clear hb5
      go_wp2
      go_ret
      exact ⟨rfl, HB5.out⟩
  · have hX := HX.out
    unfold allS at hX
    rw [if_neg hgt] at hX
    injection hX with e1 hX
    injection hX with e2 e3
    subst e1; subst e2; subst e3
    clear HX
    go_wp2_with fail
    refine (wakes_any _).mono ?_
    rintro e w5 ⟨rfl, hb5⟩
    have HB5 := Lib.hid (Below.then HB.out hb5)
    clear hb5
    go_wp2
    go_ret
    exact ⟨rfl, HB5.out⟩
section
variable {H : Type} {enc : TypeId × Value → H}
theorem back_walk {base : Nat} (W : World) (v0 v1 v2 : Value) (a0 : Arg enc Try.prog W base 22 v0) (a1 : Arg enc Try.prog W base 3 v1) (a2 : Arg enc Try.prog W base 25 v2) :
    Calls Try.prog 4 #[v0, v1, v2] W fun e w' => e = .returned (.bool true) ∧ Below W.heap.size W w' := by
  obtain ⟨m, am, cm, rfl, hm⟩ := arg_words a0
  obtain ⟨room, rfl, _⟩ := a1.int Try.underlying3
  obtain ⟨va, vc, ab, ops, rfl, hr, hok⟩ := arg_tx a2
  by_cases h : 1000 < m.length ∨ room < 0 ∨ 1000 < room ∨ 16 < ops.length
  · exact back_long va vc ab ops am cm m room W hr hm hok h
  · exact back_short va vc ab ops am cm m room W hr hm hok (by omega) (by omega) (by omega) (by omega)
end
end Go.Proofs.Ytigbhlkafmpgmaa
