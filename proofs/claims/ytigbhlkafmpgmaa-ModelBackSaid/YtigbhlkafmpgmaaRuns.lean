/-
  ModelRuns, walked.
-/
import Derived.Test.YtigbhlkafmpgmaaAlls
namespace Go.Proofs.Ytigbhlkafmpgmaa
open Go.RowKit Go.Maps
attribute [local go_sem ↓] Go.wp_at_zero Go.wp_at_succ
set_option maxRecDepth 100000 in
set_option maxHeartbeats 8000000 in
set_option linter.unusedVariables false in
theorem runs_long (va : Option Addr) (vc : Nat) (ab : Bool) (ops : List Op) (am : Option Addr) (cm : Nat) (m : List Int) (room : Int) (w : World) (hr : Rds w 3 (.slice va ops.length vc) ops.length (encOs ops)) (hm : Rds w 1 (.slice am m.length cm) m.length (encU m)) (hok : ∀ o ∈ ops, (Lit.int .u64 o.v).wf = true) (hl : 1500 < m.length ∨ 30 < ops.length) :
    Calls Try.prog 3 #[.slice am m.length cm, .int .i64 room, .agg #[.slice va ops.length vc, .bool ab]] w fun e w' => e = .returned (.bool true) ∧ Below w.heap.size w w' := by
  by_cases h1 : 1500 < m.length
  · have h1' : (1500 : Int) < (m.length : Int) := by omega
    clear hl hok
    go_enter Try.func3, Try.ntmps3
    go_wp2_with (go_at_call 8; refine (wakes_any _).mono ?_; rintro e w1 ⟨rfl, hb⟩)
    go_ret
    exact ⟨rfl, Below.then (Below.al (Below.refl _ _) _) hb⟩
  · have h1' : ¬ (1500 : Int) < (m.length : Int) := by omega
    have h2' : (30 : Int) < (ops.length : Int) := by omega
    clear hl hok
    go_enter Try.func3, Try.ntmps3
    go_wp2_with (go_at_call 8; refine (wakes_any _).mono ?_; rintro e w1 ⟨rfl, hb⟩)
    go_ret
    exact ⟨rfl, Below.then (Below.al (Below.refl _ _) _) hb⟩
set_option maxRecDepth 100000 in
set_option maxHeartbeats 8000000 in
theorem runs_short (va : Option Addr) (vc : Nat) (ab : Bool) (ops : List Op) (am : Option Addr) (cm : Nat) (m : List Int) (room : Int) (w : World) (hr : Rds w 3 (.slice va ops.length vc) ops.length (encOs ops)) (hm : Rds w 1 (.slice am m.length cm) m.length (encU m)) (hok : ∀ o ∈ ops, (Lit.int .u64 o.v).wf = true) (h1 : m.length ≤ 1500) (h2 : ops.length ≤ 30) :
    Calls Try.prog 3 #[.slice am m.length cm, .int .i64 room, .agg #[.slice va ops.length vc, .bool ab]] w fun e w' => e = .returned (.bool true) ∧ Below w.heap.size w w' := by
  obtain ⟨i0, hi0, hz0, hz1, hz2⟩ := info_parts info37
  have h1' : ¬ (1500 : Int) < (m.length : Int) := by omega
  have h2' : ¬ (30 : Int) < (ops.length : Int) := by omega
  obtain ⟨n0, hn0⟩ : ∃ n0, w.heap.size = n0 := ⟨_, rfl⟩
  obtain ⟨W1, hW1⟩ : ∃ W1, w.alloc (.cells #[.slice va ops.length vc, .bool ab] 25) = W1 := ⟨_, rfl⟩
  have g1 : W1.heap[n0]? = some (.cells #[.slice va ops.length vc, .bool ab] 25 (0, 0)) := by rw [← hW1, ← hn0]; exact heap_alloc_new w _
  have hB1 : Below w.heap.size w W1 := by rw [← hW1]; exact Below.al (Below.refl _ _) _
  have HR := Lib.hid hr; have HM := Lib.hid hm; have HOK := Lib.hid hok; have HB1 := Lib.hid hB1; have G1 := Lib.hid g1
  have q00 : W1.cell? ⟨n0, 0, none⟩ = some (.slice va ops.length vc) := by rw [cell_of_row _ _ _ _ 25 (0, 0) g1]; rfl
  clear hr hm hok hB1 g1
  go_enter Try.func3, Try.ntmps3
  go_wp2_with (at_builtin; refine wpList_copy_new rfl _ _ 22 rfl 37 i0 _ 1 8 Try.underlying22 hi0 hz0 hz1 hz2 rfl W1 rfl (.slice am m.length cm) m.length (encU m) rfl (HM.out.below HB1.out) (encU_one m) (by unfold maxLen; omega) (by omega) ?_; intro v7 w2 hown2 hb2; obtain ⟨a7, c7, rfl, _, _⟩ := hown2.any; have g2 := below_row G1.out hb2; have q0 : w2.cell? ⟨n0, 0, none⟩ = some (.slice va ops.length vc) := (by rw [cell_of_row _ _ _ _ 25 (0, 0) g2]; rfl); have q1 : w2.cell? ⟨n0, 1, none⟩ = some (.bool ab) := (by rw [cell_of_row _ _ _ _ 25 (0, 0) g2]; rfl); have HO2 := Lib.hid hown2; have HB2 := Lib.hid (Below.then HB1.out hb2); have G2 := Lib.hid g2; clear hown2 hb2 g2 HB1 G1)
  have hth : Rds (w2.alloc (.cells #[.slice va ops.length vc, .bool ab] 25)) 2 (.slice (some ⟨w2.heap.size, 0, none⟩) 1 1) 1 (encTs [⟨va, vc, ops, ab⟩]) := rds_block (heap_alloc_new w2 (.cells #[.slice va ops.length vc, .bool ab] 25)) rfl (by omega)
  have hop : OpsAt (w2.alloc (.cells #[.slice va ops.length vc, .bool ab] 25)) [⟨va, vc, ops, ab⟩] := fun t ht => by
    simp at ht
    subst ht
    exact (HR.out.below HB2.out).below (Below.al (Below.refl _ _) _)
  have c10 := copied_any _ [⟨va, vc, ops, ab⟩] _ hth hop (by simp) (fun t ht => by simp at ht; subst ht; show ops.length ≤ 1000; omega)
  have C10 := Lib.hid c10
  have HB3 := Lib.hid (Below.then HB2.out (Below.al (Below.refl w2.heap.size w2) (.cells #[.slice va ops.length vc, .bool ab] 25)))
  have HBA := Lib.hid (Below.al (Below.refl w2.heap.size w2) (.cells #[.slice va ops.length vc, .bool ab] 25))
  clear c10 hth hop q0 q1 hW1
  refine C10.out.mono ?_
  rintro e w3 ⟨v', hs', rfl, hO3, hmap, hOA, hb3⟩
  have hl1 : hs'.length = 1 := by have := congrArg List.length hmap; simpa using this
  match hs', hl1 with
  | [⟨ta, tc, ops', ab'⟩], _ =>
  have hoe : ops' = ops ∧ ab' = ab := by simpa using hmap
  obtain ⟨rfl, rfl⟩ := hoe
  obtain ⟨g, o, cap, rfl, hcap, _, hgb, hgl, hcl, -⟩ := hO3.form (by simp)
  have y0 : w3.cell? ⟨g, o, none⟩ = some (.slice ta ops'.length tc) := hcl 0 _ rfl
  have y1 : w3.cell? ⟨g, o + 1, none⟩ = some (.bool ab') := hcl 1 _ rfl
  have hrt : Rds w3 3 (.slice ta ops'.length tc) ops'.length (encOs ops') := hOA ⟨ta, tc, ops', ab'⟩ (by simp)
  have HBA3 := Lib.hid (HBA.out.trans (hb3.mono (by have := HBA.out.size; exact this)))
  have HB4 := Lib.hid (HB2.out.trans (HBA3.out.mono HB2.out.size))
  have hO7 := HO2.out.below' HBA3.out
  have c9 := run_all ta tc ab' ops' a7 c7 m room w3 hrt hO7.rds HOK.out
  have C9 := Lib.hid c9; have HO7 := Lib.hid hO7
  have G3 := Lib.hid (below_row G2.out HBA3.out)
  clear hmap hOA hb3 hO3 hcl hrt c9 hO7 C10 HO2 G2 HB3 HBA
  go_wp2_with fail
  refine C9.out.mono ?_
  rintro e w4 ⟨v8, v9, rfl, hO8, hO9, hb4⟩
  have hg4 := below_row G3.out hb4
  have q0 : w4.cell? ⟨n0, 0, none⟩ = some (.slice va ops'.length vc) := by rw [cell_of_row _ _ _ _ 25 (0, 0) hg4]; rfl
  have q1 : w4.cell? ⟨n0, 1, none⟩ = some (.bool ab') := by rw [cell_of_row _ _ _ _ 25 (0, 0) hg4]; rfl
  have HB5 := Lib.hid (Below.then HB4.out hb4)
  have HO8 := Lib.hid hO8; have HO9 := Lib.hid hO9; have HO74 := Lib.hid (HO7.out.below' hb4)
  have c11 := rrun_all va vc ab' ops' am cm m room w4 (HR.out.below HB5.out) (HM.out.below HB5.out) HOK.out
  have C11 := Lib.hid c11
  clear hO8 hO9 hb4 hg4 y0 y1 C9 HO7 G3 c11
  go_wp2_with fail
  refine C11.out.mono ?_
  rintro e w5 ⟨v10, v11, rfl, hO10, hO11, hb5⟩
  obtain ⟨a10, c10, rfl, _, _⟩ := hO10.any
  obtain ⟨a11, c11, rfl, _, _⟩ := hO11.any
  have HB6 := Lib.hid (Below.then HB5.out hb5)
  obtain ⟨X, hX⟩ : ∃ X, allS m room ops' ab' = X := ⟨_, rfl⟩
  have h8 := HO8.out; have h9 := HO9.out
  rw [hX] at hO10 hO11 h8 h9
  rw [hX]
  obtain ⟨x1, x2, x3⟩ := X
  obtain ⟨l1, hl1⟩ : ∃ l, x1.length = l := ⟨_, rfl⟩
  obtain ⟨l2, hl2⟩ : ∃ l, x2.length = l := ⟨_, rfl⟩
  obtain ⟨W6, hW6⟩ : ∃ W, w5.alloc (.cells #[.slice a10 x1.length c10, .slice a11 x2.length c11, .int .i64 x3] 33) = W := ⟨_, rfl⟩
  have hb6 : Below w5.heap.size w5 W6 := by rw [← hW6]; exact Below.al (Below.refl _ _) _
  have h56 := hb5.trans (hb6.mono hb5.size)
  have R8 := Lib.hid ((h8.below' h56).rds); have R9 := Lib.hid ((h9.below' h56).rds); have R10 := Lib.hid ((hO10.below' hb6).rds); have R11 := Lib.hid ((hO11.below' hb6).rds)
  have R7 := Lib.hid ((HO74.out.below' h56).rds)
  have HB7 := Lib.hid (Below.then HB6.out hb6)
  have RM := Lib.hid (HM.out.below HB7.out)
  have r33 : W6.heap[w5.heap.size]? = some (.cells #[.slice a10 x1.length c10, .slice a11 x2.length c11, .int .i64 x3] 33 (0, 0)) := by rw [← hW6]; exact heap_alloc_new w5 _
  have R33 := Lib.hid r33
  clear hO10 hO11 h8 h9 hX hb5 hb6 h56 HO8 HO9 HO74 C11 q0 q1 HB6 HB5 HB4 HB2 HBA3 r33
  dsimp only at R8 R9 R10 R11 ⊢
  obtain ⟨s5, hs5⟩ : ∃ s, w5.heap.size = s := ⟨_, rfl⟩
  rw [hs5] at R33
  have r0 : W6.cell? ⟨s5, 0, none⟩ = some (.slice a10 x1.length c10) := by rw [cell_of_row _ _ _ _ 33 (0, 0) R33.out]; rfl
  have r1 : W6.cell? ⟨s5, 1, none⟩ = some (.slice a11 x2.length c11) := by rw [cell_of_row _ _ _ _ 33 (0, 0) R33.out]; rfl
  have r2 : W6.cell? ⟨s5, 2, none⟩ = some (.int .i64 x3) := by rw [cell_of_row _ _ _ _ 33 (0, 0) R33.out]; rfl
  have hx3 : (x3 == x3) = true := by simp
  clear hl1 hl2
  go_wp2_with fail
  refine (words_same _ _ x1 x1 _ R8.out R10.out).mono ?_
  rintro e w7 ⟨rfl, hb7⟩
  rw [decide_eq_true (rfl : x1 = x1)]
  have HB8 := Lib.hid (Below.then HB7.out hb7)
  have hr7 := below_row R33.out hb7
  have R33 := Lib.hid hr7
  have R9 := Lib.hid (R9.out.below hb7); have R11 := Lib.hid (R11.out.below hb7); have R7 := Lib.hid (R7.out.below hb7); have RM := Lib.hid (RM.out.below hb7)
  clear hb7 r0 r1 r2
  have r1 : w7.cell? ⟨s5, 1, none⟩ = some (.slice a11 x2.length c11) := by rw [cell_of_row _ _ _ _ 33 (0, 0) hr7]; rfl
  clear hr7
  go_wp2_with fail
  refine (words_same _ _ x2 x2 _ R9.out R11.out).mono ?_
  rintro e w8 ⟨rfl, hb8⟩
  rw [decide_eq_true (rfl : x2 = x2)]
  have HB9 := Lib.hid (Below.then HB8.out hb8)
  have hr8 := below_row R33.out hb8
  have R7 := Lib.hid (R7.out.below hb8); have RM := Lib.hid (RM.out.below hb8)
  clear hb8 r1
  have r2 : w8.cell? ⟨s5, 2, none⟩ = some (.int .i64 x3) := by rw [cell_of_row _ _ _ _ 33 (0, 0) hr8]; rfl
  clear hr8
  go_wp2_with fail
  refine (words_same _ _ m m _ R7.out RM.out).mono ?_
  rintro e w9 ⟨rfl, hb9⟩
  rw [decide_eq_true (rfl : m = m)]
  have HB10 := Lib.hid (Below.then HB9.out hb9)
  clear hb9
  go_wp2_with fail
  refine (wakes_any _).mono ?_
  rintro e w10 ⟨rfl, hb10⟩
  have HB11 := Lib.hid (Below.then HB10.out hb10)
  clear hb10
  go_wp2
  go_ret
  exact ⟨rfl, HB11.out⟩
theorem wf_ops {l : List Op} (h : ∀ o ∈ l, 0 ≤ o.v ∧ o.v ≤ 18446744073709551615) : ∀ o ∈ l, (Lit.int .u64 o.v).wf = true := fun o ho => WalkArith.wf_u64 (h o ho)
theorem encL_words : ∀ m : List Int, encL (fun x => [Value.int .u64 x]) m = encU m
  | [] => rfl
  | x :: r => by
    have ih := encL_words r
    simp only [encU] at ih ⊢
    simp only [encL, ih, List.map_cons, List.singleton_append]
section
variable {H : Type} {enc : TypeId × Value → H}
/-- A slice of words, read. -/
theorem arg_words {W : World} {base : Nat} {v : Value} (a : Arg enc Try.prog W base 22 v) : ∃ (m : List Int) (am : Option Addr) (cm : Nat), v = .slice am m.length cm ∧ Rds W 1 v m.length (encU m) := by
  obtain ⟨m, _, hr⟩ := Arg.list (α := Int) (en := fun x => [.int .u64 x]) (ok := fun _ => True) (ts := [37]) Try.underlying22 (by kernel_rfl : flat Try.prog 10 37 = some [37]) (by kernel_rfl : Try.prog.cellsOf 37 = 1) (by omega) (fun _ => rfl) (fun cs hc => by
    obtain ⟨c0, _, rfl, r0, h'⟩ := hc.cons
    obtain rfl := h'.nil
    obtain ⟨x, rfl, _⟩ := r0.int Try.underlying37
    exact ⟨x, rfl, trivial⟩) a
  rw [encL_words] at hr
  obtain ⟨h1, am, cm, h2, h3⟩ := id hr
  exact ⟨m, am, cm, h2, hr⟩
/-- A transaction, read. -/
theorem arg_tx {W : World} {base : Nat} {v : Value} (a : Arg enc Try.prog W base 25 v) : ∃ (va : Option Addr) (vc : Nat) (ab : Bool) (ops : List Op), v = .agg #[.slice va ops.length vc, .bool ab] ∧ Rds W 3 (.slice va ops.length vc) ops.length (encOs ops) ∧ ∀ o ∈ ops, (Lit.int .u64 o.v).wf = true := by
  obtain ⟨cs, rfl, h'⟩ := Arg.agg Try.underlying25 rfl (by kernel_rfl : flat Try.prog 10 25 = some [23, 4]) a
  obtain ⟨c0, _, rfl, r0, h'⟩ := h'.cons
  obtain ⟨c1, _, rfl, r1, h'⟩ := h'.cons
  obtain rfl := h'.nil
  obtain ⟨ab, rfl⟩ := r1.bool Try.underlying4
  obtain ⟨ops, hok, hr⟩ := Rd.list (α := Op) (en := encO) (ok := fun o => (Lit.int .u64 o.v).wf = true) (ts := [3, 3, 37]) Try.underlying23 (by kernel_rfl : flat Try.prog 10 39 = some [3, 3, 37]) (by kernel_rfl : Try.prog.cellsOf 39 = 3) (by omega) encO_len (fun cs hc => by
    obtain ⟨c0, _, rfl, r0, h'⟩ := hc.cons
    obtain ⟨c1, _, rfl, r1, h'⟩ := h'.cons
    obtain ⟨c2, _, rfl, r2, h'⟩ := h'.cons
    obtain rfl := h'.nil
    obtain ⟨x, rfl, _⟩ := r0.int Try.underlying3
    obtain ⟨y, rfl, _⟩ := r1.int Try.underlying3
    obtain ⟨z, rfl, hz⟩ := r2.int Try.underlying37
    exact ⟨⟨x, y, z⟩, rfl, hz⟩) r0
  obtain ⟨h1, va, vc, h2, h3⟩ := id hr
  subst h2
  exact ⟨va, vc, ab, ops, rfl, hr, hok⟩
theorem runs_walk {base : Nat} (W : World) (v0 v1 v2 : Value) (a0 : Arg enc Try.prog W base 22 v0) (a1 : Arg enc Try.prog W base 3 v1) (a2 : Arg enc Try.prog W base 25 v2) :
    Calls Try.prog 3 #[v0, v1, v2] W fun e w' => e = .returned (.bool true) ∧ Below W.heap.size W w' := by
  obtain ⟨m, am, cm, rfl, hm⟩ := arg_words a0
  obtain ⟨room, rfl, _⟩ := a1.int Try.underlying3
  obtain ⟨va, vc, ab, ops, rfl, hr, hok⟩ := arg_tx a2
  by_cases h : 1500 < m.length ∨ 30 < ops.length
  · exact runs_long va vc ab ops am cm m room W hr hm hok h
  · exact runs_short va vc ab ops am cm m room W hr hm hok (by omega) (by omega)
end
end Go.Proofs.Ytigbhlkafmpgmaa
