/-
  A transaction on a map: Run.
-/
import Derived.Test.YtigbhlkafmpgmaaEnd
import Derived.Maps.RangeWalk
import Derived.Test.YtigbhlkafmpgmaaKitF
import Derived.Lib.SliceRun
namespace Go.Proofs.Ytigbhlkafmpgmaa
open Go.RowKit Go.Maps
attribute [local go_sem ↓] Go.wp_at_zero Go.wp_at_succ
set_option maxHeartbeats 4000000 in
theorem clone_any (v : Value) (n : Nat) (xs : List Value) (w : World) (hr : Rds w 1 v n xs) (h1 : ∀ u ∈ xs, u.oneCell' = true) (hby : n * 8 ≤ 140737488355328) :
    Calls Try.prog 20 #[v] w fun e w' => ∃ v', e = .returned v' ∧ Own w' w.heap.size 37 1 v' n xs ∧ Below w.heap.size w w' := by
  obtain ⟨hl, a, cap, rfl, h2, h3, h4, h5⟩ := hr
  obtain ⟨i0, hi0, hz0, hz1, hz2⟩ := info_parts info37
  have hnil := fun (a : Option Addr) (l c : Nat) (w : World) => Lib.run_eql_slice_nil (P := Try.prog) w 22 37 a l c 0 0 Try.underlying22
  cases a with
  | none =>
    obtain ⟨rfl, rfl⟩ := h4 rfl
    have hx : xs = [] := List.eq_nil_of_length_eq_zero (by simpa using hl)
    subst hx
    go_enter Try.func20, Try.ntmps20
    go_wp2
    go_ret
    exact ⟨_, rfl, Own.nil _ _ _ _, Below.refl _ _⟩
  | some ad =>
    have hown : Own (w.alloc (.cells #[] 37)) w.heap.size 37 1 (.slice (some ⟨w.heap.size, 0, none⟩) 0 0) 0 [] :=
      ⟨by simp, .inr ⟨w.heap.size, 0, 0, #[], rfl, Nat.le_refl _, heap_alloc_new w _, Nat.le_refl _, Nat.zero_le _, by simp, by simp⟩⟩
    rcases Nat.eq_zero_or_pos n with h0 | h0
    · subst h0
      have hx : xs = [] := List.eq_nil_of_length_eq_zero (by simpa using hl)
      subst hx
      have hown' := Lib.hid hown
      clear hown
      have hrun : ∀ ty, (Builtin.append_ #[22, 22] ty #[.slice (some ⟨w.heap.size, 0, none⟩) 0 0, .slice (some ad) 0 cap]).run Try.prog (w.alloc (.cells #[] 37)) = .ok (.slice (some ⟨w.heap.size, 0, none⟩) 0 0) (w.alloc (.cells #[] 37)) := fun ty => by
        simp [Builtin.append_, run_underlying Try.underlying22, sizeOf, typeInfo, hi0, Builtin.lenOf, Builtin.firstCells, loadCells, loadCellsFrom, storeCells]
      go_enter Try.func20, Try.ntmps20
      go_wp2
      go_ret
      exact ⟨_, rfl, hown'.out, Below.al (Below.refl _ _) _⟩
    · obtain ⟨g, o, e, hg, hc⟩ := h5 h0
      injection e with e
      subst e
      have hnews : ∀ j u, xs[j]? = some u → (w.alloc (.cells #[] 37)).cell? ((⟨g, o, none⟩ : Addr).add j) = some u := fun j u hu => by
        have hadd : (⟨g, o, none⟩ : Addr).add j = ⟨g, o + j, none⟩ := by unfold Addr.add; split <;> simp_all
        rw [hadd, World.cell?_alloc_old _ _ _ (by simp; omega)]
        exact hc j u hu
      have hl' : xs.length = n * 1 := hl
      have HL := Lib.hid hl'
      clear hl hl' h4 h5
      go_enter Try.func20, Try.ntmps20
      go_wp2_with (at_builtin; refine wpList_append_Own _ rfl _ _ 22 rfl w.heap.size 37 i0 _ 1 8 Try.underlying22 hi0 hz0 hz1 hz2 rfl (.slice (some ⟨w.heap.size, 0, none⟩) 0 0) 0 [] rfl hown ⟨g, o, none⟩ n cap xs rfl HL.out hnews h1 h0 (by omega) (by omega) (by simp) ?_; intro g' o' cap' w2 hown2 honly2 hat2 hlt2)
      simp only [Nat.zero_add, List.nil_append] at hown2
      go_wp2
      go_ret
      exact ⟨_, by simp, hown2, Only.below (S := fun k => k = w.heap.size) (Only.trans (Only.al (Only.refl _ _) _) (honly2.mono (fun k _ h => (Option.some.inj h).symm))) (Nat.le_refl _) (fun k hk => by omega)⟩
def outS (c : Int) (ab : Bool) (m cur : List Int) : List Int := if endC c ab = 101 then cur else m
def ranS (m : List Int) (room : Int) (ops : List Op) (ab : Bool) : Int × List Int × List Int :=
  (endC (runS room m.length ops m 0 []).1 ab, outS (runS room m.length ops m 0 []).1 ab m (runS room m.length ops m 0 []).2.1, (runS room m.length ops m 0 []).2.2 ++ [endC (runS room m.length ops m 0 []).1 ab])
theorem WAt.start {w w1 : World} (hb : Below w.heap.size w w1) (b1 : Nat) (ob : Obj) (hbx : w1.heap[b1]? = some ob) (vm : Value) (m : List Int) (room : Int) :
    WAt w b1 ob (w1.heap.size + 1) w1.heap.size vm m room ((w1.alloc (.map #[] 0)).alloc (.cells #[vm, .int .i64 room, .map (some w1.heap.size), .int .i64 0, .slice none 0 0] 56)) m 0 (.slice none 0 0) [] 0 (.map []) := by
  have hlt : b1 < w1.heap.size := (Array.getElem?_eq_some_iff.1 hbx).1
  have e1 : (w1.alloc (.map #[] 0)).heap.size = w1.heap.size + 1 := by simp
  have hsz := hb.size
  refine ⟨by rw [← e1]; exact heap_alloc_new _ _, Own.nil _ _ _ _, (World.ownsMap_made w1 _ _ _).alloc _, Chg.start m, Below.al (Below.al hb _) _, by omega, hsz, by omega, fun k hk => (by cases hk), ?_, by omega, by omega⟩
  exact below_row (below_row hbx (Below.al (Below.refl _ _) _)) (Below.al (Below.refl _ _) _)
/-- The words while the changes are laid in: those that are still to come are as they were. -/
def Mid (D : DataW Unit) (left : Lit → Bool) (m cur xs : List Int) : Prop := xs.length = m.length ∧ ∀ (i : Nat) x, xs[i]? = some x → if (Maps.has D (.int .i64 (i : Int)) && !left (.int .i64 (i : Int))) = true then cur[i]? = some x else m[i]? = some x
theorem Mid.start (D : DataW Unit) (m cur : List Int) : Mid D (Maps.has D) m cur m := ⟨rfl, fun i x hx => by
  rw [if_neg (by cases Maps.has D (.int .i64 (i : Int)) <;> simp)]
  exact hx⟩
theorem Mid.step {D : DataW Unit} {left : Lit → Bool} {m cur xs : List Int} (h : Mid D left m cur xs) (i : Nat) (c : Int) (hi : i < m.length) (hh : Maps.has D (.int .i64 (i : Int)) = true) (hc : cur[i]? = some c) :
    Mid D (fun z => left z && !z.sameKey (.int .i64 (i : Int))) m cur (xs.set i c) := by
  have hlx := h.1
  refine ⟨by rw [List.length_set]; exact hlx, fun j x hx => ?_⟩
  by_cases e : j = i
  · subst e
    rw [List.getElem?_set_self (by omega)] at hx
    injection hx with hx
    subst hx
    have hs : (Lit.int .i64 (j : Int)).sameKey (.int .i64 (j : Int)) = true := by simp [Lit.sameKey]
    simp [hh, hs, hc]
  · rw [List.getElem?_set_ne (fun e' => e e'.symm)] at hx
    have hs : (Lit.int .i64 (j : Int)).sameKey (.int .i64 (i : Int)) = false := sameKey_ne (fun e' => by injection e' with _ e'; exact e (by omega))
    have := h.2 j x hx
    simpa [hs] using this
theorem Mid.fin {D : DataW Unit} {left : Lit → Bool} {m cur xs : List Int} (h : Mid D left m cur xs) (hl : ∀ k, left k = false) (hC : Chg D m cur) : xs = cur := by
  refine List.ext_getElem? fun i => ?_
  rcases Nat.lt_or_ge i m.length with hi | hi
  · obtain ⟨x, hx⟩ : ∃ x, xs[i]? = some x := ⟨_, List.getElem?_eq_getElem (by rw [h.1]; exact hi)⟩
    obtain ⟨c, hc⟩ : ∃ x, cur[i]? = some x := ⟨_, List.getElem?_eq_getElem (by rw [hC.len]; exact hi)⟩
    have := h.2 i x hx
    rw [hl] at this
    rw [hx, hc]
    cases hh : Maps.has D (.int .i64 (i : Int)) with
    | true =>
      rw [hh] at this
      simp at this
      rw [← this, hc]
    | false =>
      rw [hh] at this
      simp at this
      rw [← this, hC.miss i c hc hh]
  · rw [List.getElem?_eq_none (by rw [h.1]; exact hi), List.getElem?_eq_none (by rw [hC.len]; exact hi)]
theorem goodT_ops {ops : List Op} (h : goodT ops = true) (hok : ∀ o ∈ ops, (Lit.int .u64 o.v).wf = true) : ops.length ≤ 16 ∧ ∀ o ∈ ops, (1 ≤ o.k ∧ o.k ≤ 4) ∧ (Lit.int .u64 o.v).wf = true := by
  unfold goodT at h
  obtain ⟨h1, h2⟩ := Bool.and_eq_true_iff.1 h
  refine ⟨of_decide_eq_true h2, fun o ho => ⟨?_, hok o ho⟩⟩
  have := of_decide_eq_true (List.all_eq_true.1 h1 o ho)
  exact ⟨this.1, this.2.1⟩
set_option maxRecDepth 100000 in
set_option maxHeartbeats 8000000 in
theorem run_noform (va : Option Addr) (vc : Nat) (ab : Bool) (ops : List Op) (vm : Value) (room : Int) (w : World) (hr : Rds w 3 (.slice va ops.length vc) ops.length (encOs ops)) (hg : goodT ops = false) :
    Calls Try.prog 9 #[vm, .int .i64 room, .agg #[.slice va ops.length vc, .bool ab]] w fun e w' => e = .returned (.tuple #[.slice none 0 0, .slice none 0 0, .int .i64 11]) ∧ Below w.heap.size w w' := by
  have hA : Rds (w.alloc (.cells #[.slice va ops.length vc, .bool ab] 25)) 3 (.slice va ops.length vc) ops.length (encOs ops) := hr.below (Below.al (Below.refl _ _) _)
  have HA := Lib.hid hA
  clear hr hA
  go_enter Try.func9, Try.ntmps9
  go_wp2_with fail
  refine (tgood_any va vc ab ops _ HA.out).mono ?_
  rintro e w1 ⟨rfl, hb1⟩
  rw [hg]
  have HB := Lib.hid (Below.then (Below.al (Below.refl _ _) _) hb1)
  clear hb1
  go_wp2
  exact bodyPost_ret (v := .tuple #[.slice none 0 0, .slice none 0 0, .int .i64 11]) (by simp [results, Try.results9, go_sem]) rfl ⟨rfl, HB.out⟩
set_option maxRecDepth 100000 in
set_option maxHeartbeats 8000000 in
theorem run_low (va : Option Addr) (vc : Nat) (ab : Bool) (ops : List Op) (am : Option Addr) (n cm : Nat) (room : Int) (w : World) (hr : Rds w 3 (.slice va ops.length vc) ops.length (encOs ops)) (hg : goodT ops = true) (h0 : room < 0) :
    Calls Try.prog 9 #[.slice am n cm, .int .i64 room, .agg #[.slice va ops.length vc, .bool ab]] w fun e w' => e = .returned (.tuple #[.slice none 0 0, .slice none 0 0, .int .i64 1]) ∧ Below w.heap.size w w' := by
  have hA : Rds (w.alloc (.cells #[.slice va ops.length vc, .bool ab] 25)) 3 (.slice va ops.length vc) ops.length (encOs ops) := hr.below (Below.al (Below.refl _ _) _)
  have HA := Lib.hid hA
  clear hr hA
  go_enter Try.func9, Try.ntmps9
  go_wp2_with fail
  refine (tgood_any va vc ab ops _ HA.out).mono ?_
  rintro e w1 ⟨rfl, hb1⟩
  rw [hg]
  have HB := Lib.hid (Below.then (Below.al (Below.refl _ _) _) hb1)
  clear hb1
  go_wp2
  exact bodyPost_ret (v := .tuple #[.slice none 0 0, .slice none 0 0, .int .i64 1]) (by simp [results, Try.results9, go_sem]) rfl ⟨rfl, HB.out⟩
set_option maxRecDepth 100000 in
set_option maxHeartbeats 8000000 in
theorem run_high (va : Option Addr) (vc : Nat) (ab : Bool) (ops : List Op) (am : Option Addr) (n cm : Nat) (room : Int) (w : World) (hr : Rds w 3 (.slice va ops.length vc) ops.length (encOs ops)) (hg : goodT ops = true) (h0 : ¬ room < 0) (h1 : 1000 < room) :
    Calls Try.prog 9 #[.slice am n cm, .int .i64 room, .agg #[.slice va ops.length vc, .bool ab]] w fun e w' => e = .returned (.tuple #[.slice none 0 0, .slice none 0 0, .int .i64 1]) ∧ Below w.heap.size w w' := by
  have hA : Rds (w.alloc (.cells #[.slice va ops.length vc, .bool ab] 25)) 3 (.slice va ops.length vc) ops.length (encOs ops) := hr.below (Below.al (Below.refl _ _) _)
  have HA := Lib.hid hA
  clear hr hA
  go_enter Try.func9, Try.ntmps9
  go_wp2_with fail
  refine (tgood_any va vc ab ops _ HA.out).mono ?_
  rintro e w1 ⟨rfl, hb1⟩
  rw [hg]
  have HB := Lib.hid (Below.then (Below.al (Below.refl _ _) _) hb1)
  clear hb1
  go_wp2
  exact bodyPost_ret (v := .tuple #[.slice none 0 0, .slice none 0 0, .int .i64 1]) (by simp [results, Try.results9, go_sem]) rfl ⟨rfl, HB.out⟩
set_option maxRecDepth 100000 in
set_option maxHeartbeats 8000000 in
theorem run_many (va : Option Addr) (vc : Nat) (ab : Bool) (ops : List Op) (am : Option Addr) (n cm : Nat) (room : Int) (w : World) (hr : Rds w 3 (.slice va ops.length vc) ops.length (encOs ops)) (hg : goodT ops = true) (h0 : ¬ room < 0) (h1 : ¬ 1000 < room) (h2 : 1000 < n) :
    Calls Try.prog 9 #[.slice am n cm, .int .i64 room, .agg #[.slice va ops.length vc, .bool ab]] w fun e w' => e = .returned (.tuple #[.slice none 0 0, .slice none 0 0, .int .i64 1]) ∧ Below w.heap.size w w' := by
  have hA : Rds (w.alloc (.cells #[.slice va ops.length vc, .bool ab] 25)) 3 (.slice va ops.length vc) ops.length (encOs ops) := hr.below (Below.al (Below.refl _ _) _)
  have HA := Lib.hid hA
  clear hr hA
  go_enter Try.func9, Try.ntmps9
  go_wp2_with fail
  refine (tgood_any va vc ab ops _ HA.out).mono ?_
  rintro e w1 ⟨rfl, hb1⟩
  rw [hg]
  have HB := Lib.hid (Below.then (Below.al (Below.refl _ _) _) hb1)
  clear hb1
  go_wp2
  exact bodyPost_ret (v := .tuple #[.slice none 0 0, .slice none 0 0, .int .i64 1]) (by simp [results, Try.results9, go_sem]) rfl ⟨rfl, HB.out⟩
set_option maxRecDepth 100000 in
set_option maxHeartbeats 8000000 in
theorem run_any (va : Option Addr) (vc : Nat) (ab : Bool) (ops : List Op) (am : Option Addr) (cm : Nat) (m : List Int) (room : Int) (w : World) (hr : Rds w 3 (.slice va ops.length vc) ops.length (encOs ops)) (hg : goodT ops = true)
    (h0 : 0 ≤ room) (h1 : room ≤ 1000) (h2 : m.length ≤ 1000) (hm : Rds w 1 (.slice am m.length cm) m.length (encU m)) (hok : ∀ o ∈ ops, (Lit.int .u64 o.v).wf = true) :
    Calls Try.prog 9 #[.slice am m.length cm, .int .i64 room, .agg #[.slice va ops.length vc, .bool ab]] w fun e w' => ∃ v1 v2, e = .returned (.tuple #[v1, v2, .int .i64 0]) ∧ Own w' w.heap.size 37 1 v1 m.length (encU (ranS m room ops ab).2.1) ∧ Own w' w.heap.size 37 1 v2 (ranS m room ops ab).2.2.length (encU (ranS m room ops ab).2.2) ∧ Below w.heap.size w w' := by
  have hA : Rds (w.alloc (.cells #[.slice va ops.length vc, .bool ab] 25)) 3 (.slice va ops.length vc) ops.length (encOs ops) := hr.below (Below.al (Below.refl _ _) _)
  have HA := Lib.hid hA
  have HR := Lib.hid hr; have HM := Lib.hid hm
  obtain ⟨c, hc⟩ : ∃ c, (runS room m.length ops m 0 []).1 = c := ⟨_, rfl⟩
  obtain ⟨cur, hcur⟩ : ∃ c, (runS room m.length ops m 0 []).2.1 = c := ⟨_, rfl⟩
  obtain ⟨tells, htells⟩ : ∃ c, (runS room m.length ops m 0 []).2.2 = c := ⟨_, rfl⟩
  have hres1 : (ranS m room ops ab).2.1 = outS c ab m cur := by unfold ranS; rw [hc, hcur]
  have hres2 : (ranS m room ops ab).2.2 = tells ++ [endC c ab] := by unfold ranS; rw [htells, hc]
  rw [hres1, hres2]
  have HC := Lib.hid hc; have HCUR := Lib.hid hcur; have HTL := Lib.hid htells
  clear hc hcur htells hres1 hres2
  have hmm := @run_makeMap Try.prog
  obtain ⟨_, am', cm', e0, m2, m3, m4, m5⟩ := hm
  injection e0 with e1 _ e3
  subst e1; subst e3
  have hlen : (m.length : Int) ≤ 1000 := by omega
  clear hr hA m4 m5
  go_enter Try.func9, Try.ntmps9
  go_wp2_with fail
  refine (tgood_any va vc ab ops _ HA.out).mono ?_
  rintro e w1 ⟨rfl, hb1⟩
  rw [hg]
  have hbx := below_row (heap_alloc_new w (.cells #[.slice va ops.length vc, .bool ab] 25)) hb1
  have HB := Lib.hid (Below.then (Below.al (Below.refl _ _) _) hb1)
  have q0 : w1.cell? ⟨w.heap.size, 0, none⟩ = some (.slice va ops.length vc) := by rw [cell_of_row _ _ _ _ 25 (0, 0) hbx]; rfl
  have q1 : w1.cell? ⟨w.heap.size, 1, none⟩ = some (.bool ab) := by rw [cell_of_row _ _ _ _ 25 (0, 0) hbx]; rfl
  have HBX := Lib.hid hbx
  have hsz : w.heap.size < w1.heap.size := (Array.getElem?_eq_some_iff.1 hbx).1
  clear hb1 hbx HA
  go_wp2_with fail
  have hS := WAt.start HB.out w.heap.size _ HBX.out (.slice am m.length cm) m room
  have HS := Lib.hid hS
  obtain ⟨p, hp⟩ : ∃ p, w1.heap.size + 1 = p := ⟨_, rfl⟩
  obtain ⟨q, hq⟩ : ∃ q, w1.heap.size = q := ⟨_, rfl⟩
  obtain ⟨W3, hW3⟩ : ∃ W3, (w1.alloc (.map #[] 0)).alloc (.cells #[.slice am m.length cm, .int .i64 room, .map (some w1.heap.size), .int .i64 0, .slice none 0 0] 56) = W3 := ⟨_, rfl⟩
  rw [hW3, hp, hq] at HS
  rw [hW3, hp]
  obtain ⟨hg1, hg2⟩ := goodT_ops hg hok
  have HG2 := Lib.hid hg2
  have HR3 := Lib.hid (HR.out.below HS.out.bel)
  have hend := end_any w w.heap.size _ p q _ m room W3 m 0 (.slice none 0 0) [] 0 (.map []) va vc ab ops h2 h1 HS.out HM.out (by omega) HG2.out HR.out (by simp) (by omega)
  rw [HC.out, HCUR.out, HTL.out] at hend
  have HEND := Lib.hid hend
  clear q0 q1 hS hW3 hp hq hend HC HCUR HTL HS HB HBX hg hok hmm hg2 hsz
  refine HEND.out.mono ?_
  rintro e w4 ⟨rfl, b1', ob', n', vt', nm', D', htl, hW4⟩
  have HW4 := Lib.hid hW4
  simp only [List.length_nil, Nat.zero_add] at htl
  clear hW4 HEND
  go_wp2_with fail
  refine (tell_any w b1' ob' p q _ m room _ cur n' vt' tells nm' D' (endC c ab) HW4.out (by omega)).mono ?_
  rintro e w5 ⟨rfl, vt, hW5⟩
  have HW5 := Lib.hid hW5
  have HM5 := Lib.hid (HM.out.below hW5.bel)
  clear hW5 HW4
  go_wp2_with fail
  refine (clone_any (.slice am m.length cm) m.length (encU m) w5 HM5.out (encU_one m) (by omega)).mono ?_
  rintro e w6 ⟨v1, rfl, hO6, hb6⟩
  obtain ⟨va1, vc1, rfl, hv1, hv2⟩ := hO6.any
  have hW6 := HW5.out.below hb6
  have HO6 := Lib.hid hO6; have HB6 := Lib.hid hb6; have HW6 := Lib.hid hW6
  have c2 := hW6.cell2
  have c4 := hW6.cell4
  obtain ⟨code, hcode⟩ : ∃ code, endC c ab = code := ⟨_, rfl⟩
  have HCODE := Lib.hid hcode
  rw [hcode]
  have hpl := HW5.out.plt
  have hql := HW5.out.qlt
  have hbl := HW5.out.blt
  clear hW6 hO6 hb6 hcode
  by_cases h101 : code = 101
  · subst h101
    have HOUT := Lib.hid (show outS c ab m cur = cur from if_pos HCODE.out)
    go_wp2_with (at_range; refine wpList_range_own (H := Unit) _ rfl _ 54 rfl 3 37 law3 Try.underlying54 _ q nm' D' rfl HW6.out.mp ?_; intro w7 hrg0 hg0 hs0)
    go_frame
    have hG0 : Only (fun _ => False) w6 w7 := ⟨hg0.os, hg0.tape, hg0.output, hg0.size, fun k hk _ => hg0.block k hk (by simp)⟩
    have hB7 : Below w6.heap.size w6 w7 := hG0.below (Nat.le_refl _) (fun k h => h.elim)
    have hW7 := HW6.out.below hB7
    have HW7 := Lib.hid hW7
    have hO7 := HO6.out.below' hB7
    have HO7 := Lib.hid hO7
    have h56 : w5.heap.size ≤ w6.heap.size := HB6.out.size
    obtain ⟨r, hr⟩ : ∃ r, w6.heap.size = r := ⟨_, rfl⟩
    have HVR := Lib.hid (show ∀ k, (Value.slice va1 m.length vc1).ownBlock = some k → k < r from fun k hk => by rw [← hr]; exact (HO6.out.lt k hk).2)
    rw [hr] at hrg0 h56 ⊢
    have HG := Lib.hid hrg0
    clear hG0 hB7 hg0 hs0 hW7 hO7 hrg0 hr c2 c4
    go_loopw [11] (fun _ wr => ∃ (left : Lit → Bool) (cnt : Nat) (xs : List Int), wr.ranges Try.prog 3 (plainElem (H := Unit) Try.prog 37) q r nm' D' left cnt ∧ (∀ kl, left kl = true → Maps.has D' kl = true) ∧ Mid D' left m cur xs ∧ Own wr w5.heap.size 37 1 (.slice va1 m.length vc1) m.length (encU xs) ∧ Only (fun k => k = r ∨ (Value.slice va1 m.length vc1).ownBlock = some k) w7 wr) (fun _ wr => wr.rangeLeft q r)
    case atStart => exact ⟨_, _, m, HG.out, fun _ h => h, Mid.start _ _ _, HO7.out, Only.refl _ _⟩
    case round =>
    obtain ⟨left, cnt, xs, hrg, hlh, hmid, hown, hO⟩ := hrel
    have hlo : ∀ k, (k = r ∨ (Value.slice va1 m.length vc1).ownBlock = some k) → w5.heap.size ≤ k := fun k hk => by
      rcases hk with rfl | hk
      · exact h56
      · exact (HO7.out.lt k hk).1
    have hno : ∀ k, k < w5.heap.size → ¬ (k = r ∨ (Value.slice va1 m.length vc1).ownBlock = some k) := fun k hk h => by have := hlo k h; omega
    have hWr := HW7.out.only hO (hno p hpl) (hno q hql) (hno _ hbl) (fun k hk => hno k (HW5.out.tl.lt k hk).2) (fun k hk => Nat.le_trans HW5.out.bel.size (hlo k hk))
    have c4 := hWr.cell4
    have HWr := Lib.hid hWr; have HRG := Lib.hid hrg; have HLH := Lib.hid hlh; have HMID := Lib.hid hmid; have HOWN := Lib.hid hown; have HOO := Lib.hid hO
    have HLO := Lib.hid hlo
    clear hWr hrg hlh hmid hown hO hlo hno
    go_wp2_with (first | (at_next; refine wpList_next_ranges_ii (H := Unit) _ rfl _ rfl 3 37 .i64 .u64 law3 Try.underlying3 Try.underlying37 q r nm' D' left cnt rfl HRG.out ?_ ?_) | go_in)
    · intro hc0 hl0
      have HXS := Lib.hid (HMID.out.fin hl0 HW6.out.rel)
      clear hl0
      go_wp2_with fail
      go_quiet (fail)
      go_wp2
      exact bodyPost_ret (v := .tuple #[.slice va1 m.length vc1, vt, .int .i64 0]) (by simp [results, Try.results9, go_sem]) rfl ⟨_, vt, rfl, by rw [HOUT.out, ← HXS.out]; exact (HOWN.out.low HW5.out.bel.size).below' (below_drewN (Below.refl _ _) _), by have := HWr.out.tl; rw [HCODE.out] at this ⊢; exact this.below' (below_drewN (Below.refl _ _) _), below_drewN HWr.out.bel _⟩
    · intro x c1 w8 cnt1 hwx hwc hlx hat hrg1 hltc hg1 hs1 hen
      have hhas := HLH.out _ hlx
      obtain ⟨i, hi, hxi⟩ := HW6.out.rel.keys _ hhas
      obtain rfl : x = (i : Int) := by injection hxi
      obtain ⟨c2, hc2⟩ : ∃ x, cur[i]? = some x := ⟨_, List.getElem?_eq_getElem (by rw [HW6.out.rel.len]; exact hi)⟩
      obtain rfl : c1 = c2 := by
        have e1 := hat (.lit (.int .u64 0))
        have e2 := HW6.out.rel.hit i c2 hc2 hhas (.lit (.int .u64 0))
        have e3 := e1.symm.trans e2
        injection e3 with e3
        injection e3
      have hmid2 := HMID.out.step i c1 hi hhas hc2
      have hG1 : Only (fun k => k = r) wr w8 := Only.of_grown hg1
      have hown8 := HOWN.out.only hG1 (fun k hk e => by have h2 := HVR.out k hk; omega)
      obtain ⟨g, o, cap, hv, hcap2, hcm2, hgb, hglt, hgc, hgf⟩ := hown8.form (by omega)
      injection hv with hv1' _ hv2'
      subst hv1'; subst hv2'
      have hxs : xs.length = m.length := HMID.out.1
      have hput := hown8.put i [.int .u64 c1] (by simp; omega)
      rw [show [Value.int .u64 c1].length = 1 from rfl, encU_set xs i c1 (by omega)] at hput
      have hput' : Own (w8.setCell ⟨g, o + i, none⟩ (.int .u64 c1)) w5.heap.size 37 1 (.slice (some ⟨g, o, none⟩) m.length vc1) m.length (encU (xs.set i c1)) := hput
      have hO8 : Only (fun k => k = r ∨ (Value.slice (some ⟨g, o, none⟩) m.length vc1).ownBlock = some k) w7 (w8.setCell ⟨g, o + i, none⟩ (.int .u64 c1)) := (HOO.out.trans (hG1.mono (fun k _ h => Or.inl h))).set _ _ (Or.inl (Or.inr rfl))
      have hgr : ¬ g = r := by have := HVR.out g rfl; omega
      have hgq : ¬ g = q := by have := (HO6.out.lt g rfl).1; omega
      have hrg8 : (w8.setCell ⟨g, o + i, none⟩ (.int .u64 c1)).ranges Try.prog 3 (plainElem (H := Unit) Try.prog 37) q r nm' D' (fun z => left z && !z.sameKey (.int .i64 (i : Int))) cnt1 := by
        have hOg : Only (fun k => k = g) w8 (w8.setCell ⟨g, o + i, none⟩ (.int .u64 c1)) := (Only.refl _ _).set _ _ (Or.inl rfl)
        exact hrg1.kept (row := some g) ⟨hOg.os, hOg.tape, hOg.output, hOg.size, fun k hk hne => hOg.block k hk (fun e => hne (by rw [e]))⟩ (fun e => hgq (Option.some.inj e).symm) (fun e => hgr (Option.some.inj e).symm)
      obtain ⟨y, hy⟩ : ∃ y, w8.cell? ⟨g, o + i, none⟩ = some y := by
        obtain ⟨y, hy⟩ : ∃ y, (encU xs)[i]? = some y := ⟨_, List.getElem?_eq_getElem (by rw [encU_len]; omega)⟩
        exact ⟨y, hgc i y hy⟩
      have hfz := hgf (o + i)
      have hi0 : (0 : Int) ≤ (i : Int) := by omega
      have hi1 : (i : Int) < (m.length : Int) := by omega
      have HP := Lib.hid hput'; have HO8 := Lib.hid hO8; have HR8 := Lib.hid hrg8; have HM2 := Lib.hid hmid2
      have HLT := Lib.hid hltc
      clear hput hput' hO8 hrg8 hmid2 hgc hgf hown8 hG1 hrg1 hg1 hs1 hlx hhas hat hc2 hltc hxi
      go_wp2
      go_roundw
      case rel => exact ⟨_, cnt1, _, HR8.out, fun kl h => HLH.out kl (by simp at h; exact h.1), HM2.out, HP.out, HO8.out⟩
      case measure => rw [HR8.out.left_eq, HRG.out.left_eq]; exact HLT.out
  · have HOUT := Lib.hid (show outS c ab m cur = m from if_neg (by rw [HCODE.out]; exact h101))
    have hne : (code == 101) = false := by simpa using h101
    go_wp2_with fail
    go_quiet (fail)
    go_wp2
    exact bodyPost_ret (v := .tuple #[.slice va1 m.length vc1, vt, .int .i64 0]) (by simp [results, Try.results9, go_sem]) rfl ⟨_, vt, rfl, by rw [HOUT.out]; exact (HO6.out.low HW5.out.bel.size).below' (below_drewN (Below.refl _ _) _), by have := HW6.out.tl; rw [HCODE.out] at this ⊢; exact this.below' (below_drewN (Below.refl _ _) _), below_drewN HW6.out.bel _⟩
end Go.Proofs.Ytigbhlkafmpgmaa
