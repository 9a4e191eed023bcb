/-
  The reference's Run, all its Ops.
-/
import Derived.Test.YtigbhlkafmpgmaaRrun0
import Derived.Deep.RegionLaw
import Derived.Deep.CutBlock
import Derived.Deep.DeepCutAuto
namespace Go.Proofs.Ytigbhlkafmpgmaa
open Go.RowKit Go.Maps
attribute [local go_sem ↓] Go.wp_at_zero Go.wp_at_succ
theorem four {k : Int} (h : 1 ≤ k ∧ k ≤ 4) : k = 1 ∨ k = 2 ∨ k = 3 ∨ k = 4 := by omega
theorem RAt.start {w w1 w2 : World} {n0 : Nat} {tx : Array Value} {oa : Option Addr} {oc : Nat} {m : List Int} (hn0 : w.heap.size = n0) (hb : Below n0 w w1) (h5 : w1.heap[n0]? = some (.cells tx 25 (0, 0))) (h6 : w1.heap[n0 + 1]? = some (.cells #[.slice none 0 0, .slice none 0 0, .int .i64 0] 33 (0, 0)))
    (ho : Own w2 w1.heap.size 37 1 (.slice oa m.length oc) m.length (encU m)) (hb2 : Below w1.heap.size w1 w2) :
    RAt w n0 (n0 + 1) w2.heap.size tx oa m.length oc (w2.alloc (.cells #[.slice oa m.length oc, .slice none 0 0, .int .i64 0] 33)) m none 0 [] := by
  subst hn0
  have l6 : w.heap.size + 1 < w1.heap.size := (Array.getElem?_eq_some_iff.1 h6).1
  have hs := hb2.size
  have ba : Below w2.heap.size w2 (w2.alloc (.cells #[.slice oa m.length oc, .slice none 0 0, .int .i64 0] 33)) := Below.al (Below.refl _ _) _
  refine ⟨heap_alloc_new w2 _, below_row (below_row h6 hb2) ba, below_row (below_row h5 hb2) ba, (ho.low (by omega)).below' ba, Own.nil _ _ _ _, rfl, Below.then (Below.then hb hb2) ba, by omega, ⟨by omega, by omega, by omega⟩, fun k hk => ?_, fun k hk => (by cases hk)⟩
  have := ho.lt k hk
  omega
set_option maxRecDepth 100000 in
set_option maxHeartbeats 8000000 in
theorem rrun_any (va : Option Addr) (vc : Nat) (ab : Bool) (ops : List Op) (am : Option Addr) (cm : Nat) (m : List Int) (room : Int) (w : World) (hr : Rds w 3 (.slice va ops.length vc) ops.length (encOs ops)) (hg : goodT ops = true)
    (h0 : 0 ≤ room) (h1 : room ≤ 1000) (h2 : m.length ≤ 1000) (hm : Rds w 1 (.slice am m.length cm) m.length (encU m)) (hok : ∀ o ∈ ops, (Lit.int .u64 o.v).wf = true) :
    Calls Try.prog 11 #[.slice am m.length cm, .int .i64 room, .agg #[.slice va ops.length vc, .bool ab]] w fun e w' => ∃ v1 v2, e = .returned (.agg #[v1, v2, .int .i64 0]) ∧ Own w' w.heap.size 37 1 v1 m.length (encU (ranS m room ops ab).2.1) ∧ Own w' w.heap.size 37 1 v2 (ranS m room ops ab).2.2.length (encU (ranS m room ops ab).2.2) ∧ Below w.heap.size w w' := by
  obtain ⟨i0, hi0, hz0, hz1, hz2⟩ := info_parts info37
  obtain ⟨hg1, hg2⟩ := goodT_ops hg hok
  have HOK := Lib.hid hg2
  have HM := Lib.hid hm
  have HR0 := Lib.hid hr
  have hlen : (m.length : Int) ≤ 1000 := by omega
  clear hok hg2 hm
  obtain ⟨n0, hn0⟩ : ∃ n0, w.heap.size = n0 := ⟨_, rfl⟩
  obtain ⟨W1, hW1⟩ : ∃ W1, w.alloc (.cells #[.slice va ops.length vc, .bool ab] 25) = W1 := ⟨_, rfl⟩
  obtain ⟨W2, hW2⟩ : ∃ W2, W1.alloc (.cells #[.slice none 0 0, .slice none 0 0, .int .i64 0] 33) = W2 := ⟨_, rfl⟩
  have e1 : W1.heap.size = n0 + 1 := by rw [← hW1, ← hn0]; simp
  have g1 : W1.heap[n0]? = some (.cells #[.slice va ops.length vc, .bool ab] 25 (0, 0)) := by rw [← hW1, ← hn0]; exact heap_alloc_new w _
  have b2 : Below W1.heap.size W1 W2 := by rw [← hW2]; exact Below.al (Below.refl _ _) _
  have g2 := below_row g1 b2
  have k2 : W2.heap[n0 + 1]? = some (.cells #[.slice none 0 0, .slice none 0 0, .int .i64 0] 33 (0, 0)) := by rw [← hW2, ← e1]; exact heap_alloc_new W1 _
  have hB2 : Below w.heap.size w W2 := Below.then (by rw [← hW1]; exact Below.al (Below.refl _ _) _) b2
  have hA : Rds W2 3 (.slice va ops.length vc) ops.length (encOs ops) := hr.below hB2
  have HA := Lib.hid hA; have HB2 := Lib.hid hB2; have G2 := Lib.hid g2; have K2 := Lib.hid k2
  have q0 : W2.cell? ⟨n0, 0, none⟩ = some (.slice va ops.length vc) := by rw [cell_of_row _ _ _ _ 25 (0, 0) g2]; rfl
  have q1 : W2.cell? ⟨n0, 1, none⟩ = some (.bool ab) := by rw [cell_of_row _ _ _ _ 25 (0, 0) g2]; rfl
  clear hr hA hB2 g1 g2 k2 b2
  go_enter Try.func11, Try.ntmps11
  go_wp2_with fail
  refine (rgood_any va vc ab ops _ HA.out).mono ?_
  rintro e w1 ⟨rfl, hb1⟩
  rw [hg]
  have HB := Lib.hid (Below.then HB2.out hb1)
  have hk := below_row K2.out hb1
  have hg1 := below_row G2.out hb1
  have HK := Lib.hid hk; have HG1 := Lib.hid hg1
  have d0 : w1.cell? ⟨n0 + 1, 0, none⟩ = some (.slice none 0 0) := by rw [cell_of_row _ _ _ _ 33 (0, 0) hk]; rfl
  have d1 : w1.cell? ⟨n0 + 1, 1, none⟩ = some (.slice none 0 0) := by rw [cell_of_row _ _ _ _ 33 (0, 0) hk]; rfl
  have d2 : w1.cell? ⟨n0 + 1, 2, none⟩ = some (.int .i64 0) := by rw [cell_of_row _ _ _ _ 33 (0, 0) hk]; rfl
  have f6 : ∀ o, w1.frozen? ⟨n0 + 1, o, none⟩ = false := fun o => frozen_of_row _ _ _ _ 33 hk
  clear hb1 hk hg1 G2 K2 HB2 q0 q1
  go_wp2_with (at_builtin; refine wpList_copy_new rfl _ _ 22 rfl 37 i0 _ 1 8 Try.underlying22 hi0 hz0 hz1 hz2 rfl w1 rfl (.slice am m.length cm) m.length (encU m) rfl (HM.out.below HB.out) (encU_one m) (by unfold maxLen; omega) (by omega) ?_; intro v2 w2 hown2 hb2; obtain ⟨oa, oc, rfl, _, _⟩ := hown2.any; have HO2 := Lib.hid hown2; have HB2 := Lib.hid hb2; clear hown2 hb2)
  have hS := RAt.start hn0 (by rw [← hn0]; exact HB.out) HG1.out HK.out HO2.out HB2.out
  obtain ⟨b7, hb7⟩ : ∃ b, w2.heap.size = b := ⟨_, rfl⟩
  obtain ⟨W0, hW0⟩ : ∃ W, w2.alloc (.cells #[.slice oa m.length oc, .slice none 0 0, .int .i64 0] 33) = W := ⟨_, rfl⟩
  rw [hb7, hW0] at hS
  have HS0 := Lib.hid hS
  clear hS hW1 hW2 e1 d0 d1 d2 f6 HO2 HB2 HB HK HG1 HA
  rw [hb7, hW0]
  clear hb7 hW0
  go_loopw [8, 9] (fun nn i w' => ∃ j k : Nat, j ≤ ops.length ∧ i = .int .i64 j ∧ nn = .int .i64 k ∧ ∃ cur ta tc tells, runS room m.length ops m 0 [] = runS room m.length (ops.drop j) cur k tells ∧ tells.length ≤ j ∧ k ≤ j ∧ RAt w n0 (n0 + 1) b7 #[.slice va ops.length vc, .bool ab] oa m.length oc w' cur ta tc tells) (fun _ i _ => ops.length - (intOf i).toNat)
  case atStart => exact ⟨0, 0, by omega, rfl, rfl, m, none, 0, [], rfl, by simp, by omega, HS0.out⟩
  case round =>
  obtain ⟨j, k, hj, rfl, rfl, cur, ta, tc, tells, hrun, htl, hk, hR⟩ := hrel
  have HRUN := Lib.hid hrun
  have q0 : wr.cell? ⟨n0, 0, none⟩ = some (.slice va ops.length vc) := by rw [cell_of_row _ _ _ _ 25 (0, 0) hR.row5]; rfl
  have q1 : wr.cell? ⟨n0, 1, none⟩ = some (.bool ab) := by rw [cell_of_row _ _ _ _ 25 (0, 0) hR.row5]; rfl
  clear hrun HS0
  by_cases hlt : j < ops.length
  · obtain ⟨⟨ok, ow, ov⟩, ho⟩ : ∃ o, ops[j]? = some o := ⟨_, List.getElem?_eq_getElem hlt⟩
    have hdrop : ops.drop j = ⟨ok, ow, ov⟩ :: ops.drop (j + 1) := by
      rw [List.drop_eq_getElem_cons hlt]
      congr 1
      rw [List.getElem?_eq_getElem hlt] at ho
      injection ho
    obtain ⟨ok1, ok2⟩ := HOK.out _ (List.mem_of_getElem? ho)
    obtain ⟨_, a5, cap5, e0, p2, p3, p4, p5⟩ := HR0.out
    injection e0 with e1 e2 e3
    subst e1; subst e3
    obtain ⟨g5, of, rfl, ga1, ca⟩ := p5 (by omega)
    have hx : ∀ i u, i < 3 → (encO ⟨ok, ow, ov⟩)[i]? = some u → wr.cell? ⟨g5, of + j * 3 + i, none⟩ = some u := fun i u hi hu => by
      rw [hR.bel.cell (p := ⟨g5, of + j * 3 + i, none⟩) ga1, Nat.add_assoc]
      exact ca _ u ((encOs_get ops j _ ho i hi).trans hu)
    have x0 : wr.cell? ⟨g5, of + j * 3, none⟩ = some (.int .i64 ok) := hx 0 _ (by omega) rfl
    have x1 : wr.cell? ⟨g5, of + j * 3 + 1, none⟩ = some (.int .i64 ow) := hx 1 _ (by omega) rfl
    have x2 : wr.cell? ⟨g5, of + j * 3 + 2, none⟩ = some (.int .u64 ov) := hx 2 _ (by omega) rfl
    have hj0 : (0 : Int) ≤ (j : Int) := by omega
    have hj1 : (j : Int) < (ops.length : Int) := by omega
    have HD := Lib.hid hdrop
    obtain ⟨W2, hW2e⟩ : ∃ W2, wr.alloc (.cells #[.int .i64 ok, .int .i64 ow, .int .u64 ov] 39) = W2 := ⟨_, rfl⟩
    have hR2 := hR.below (Below.al (Below.refl _ wr) (.cells #[.int .i64 ok, .int .i64 ow, .int .u64 ov] 39))
    have hbox : W2.heap[wr.heap.size]? = some (.cells #[.int .i64 ok, .int .i64 ow, .int .u64 ov] 39 (0, 0)) := by rw [← hW2e]; exact heap_alloc_new wr _
    rw [hW2e] at hR2
    obtain ⟨s0, hs0⟩ : ∃ s0, wr.heap.size = s0 := ⟨_, rfl⟩
    rw [hs0] at hbox
    have y0 : W2.cell? ⟨s0, 0, none⟩ = some (.int .i64 ok) := by rw [cell_of_row _ _ _ _ 39 (0, 0) hbox]; rfl
    have y1 : W2.cell? ⟨s0, 1, none⟩ = some (.int .i64 ow) := by rw [cell_of_row _ _ _ _ 39 (0, 0) hbox]; rfl
    have y2 : W2.cell? ⟨s0, 2, none⟩ = some (.int .u64 ov) := by rw [cell_of_row _ _ _ _ 39 (0, 0) hbox]; rfl
    have HBX2 := Lib.hid hbox
    have HR2 := Lib.hid hR2
    have HRG := Lib.hid hR
    have c0 := hR2.c0
    have c1 := hR2.c1
    have c2 := hR2.c2
    clear hx ho hdrop ca hR hR2 hbox p2 p3 p4 p5
    by_cases hw0 : 0 ≤ ow
    · by_cases hw1 : ow < m.length
      · skip
        obtain ⟨i, rfl⟩ : ∃ i : Nat, ow = (i : Int) := ⟨ow.toNat, by omega⟩
        have hi : i < m.length := by omega
        obtain ⟨c, hc⟩ : ∃ c, cur[i]? = some c := ⟨_, List.getElem?_eq_getElem (by rw [HR2.out.cl]; exact hi)⟩
        have hcd : cur.getD i 0 = c := by rw [List.getD_eq_getElem?_getD, hc]; rfl
        obtain ⟨g, o, e9, z0, zf, hgl, hil⟩ := HR2.out.word hc
        subst e9
        have hs2 : s0 < W2.heap.size := (Array.getElem?_eq_some_iff.1 HBX2.out).1
        have h72 := HR2.out.lt7
        have NG := Lib.hid (show ¬ s0 = g from by have := (HRG.out.ho.lt g rfl).2; omega)
        have n1 : ¬ g = W2.heap.size := by omega
        have n2 : ¬ s0 = W2.heap.size := by omega
        have n3 : ¬ b7 = W2.heap.size := by omega
        have n4 : ¬ n0 = W2.heap.size := by have := HR2.out.lt5; omega
        clear hc
        rcases four ok1 with rfl | rfl | rfl | rfl
        · skip
          have HNX := Lib.hid (show runS room m.length (⟨1, (i : Int), ov⟩ :: ops.drop (j + 1)) cur k tells = runS room m.length (ops.drop (j + 1)) cur k (tells ++ [c]) from by
            have hs : stepS room cur k tells ⟨1, (i : Int), ov⟩ = (true, cur, k, tells ++ [c]) := by simp only [stepS, Int.toNat_natCast, hcd]; simp [*]
            rw [runS_step room m.length _ _ cur k tells (by show ¬ ((i : Int) < 0 ∨ (m.length : Int) ≤ (i : Int)); omega) (by rw [hs]), hs])
          clear hcd
          go_wp2_with fail
          go_region_law ((refine step_append_Own _ rfl _ _ 22 (by rfl) w.heap.size 37 i0 _ 1 8 Try.underlying22 hi0 hz0 hz1 hz2 rfl (.slice ta tells.length tc) tells.length (encU tells) (by rfl) (by exact Own.below' HR2.out.ht (Below.al (Below.drew (Below.refl _ _)) _)) ⟨W2.heap.size, 0, none⟩ 1 1 [.int .u64 c] (by rfl) (by rfl) (World.news_of_block (cs := #[.int .u64 c]) (t := 37) (fr := (0, 0)) (heap_alloc_new _ _)) (by simp [Value.oneCell']) (by omega) (by unfold maxLen; omega) (by omega) (by simp; have := HR2.out.bel.size; omega) ?_; intro g' o' cap' w3 hown3 honly3 hat3 hlt3; obtain ⟨c13, f13⟩ := HR2.out.tell1 (Below.al (Below.drew (Below.refl _ _)) _) honly3; have HT9 := Lib.hid (HR2.out.told (Below.al (Below.drew (Below.refl _ _)) _) hown3 honly3 hat3); clear hown3 honly3 hat3 hlt3))
          all_goals
            go_wp2
            go_roundw
            case rel => exact ⟨j + 1, k, by omega, by go_num, by go_num, _, _, _, _, by rw [HRUN.out, HD.out, HNX.out], (by simp; omega), by omega, HT9.out⟩
            case measure => simp [intOf]; omega
        · skip
          by_cases hrk : room ≤ k
          · skip
            have HRES := Lib.hid (show ranS m room ops ab = (102, if (102 : Int) = 101 then cur else m, tells ++ [102]) by
              have hs : stepS room cur k tells ⟨2, (i : Int), ov⟩ = (false, cur, k, tells) := by simp only [stepS, Int.toNat_natCast, hcd]; simp [*]
              unfold ranS outS
              rw [HRUN.out, HD.out, runS_full room m.length _ _ cur k tells (by show ¬ ((i : Int) < 0 ∨ (m.length : Int) ≤ (i : Int)); omega) (by rw [hs]), hs]
              rfl)
            clear hcd z0 zf
            obtain ⟨L9, hL9⟩ : ∃ L, (tells ++ [102]).length = L := ⟨_, rfl⟩
            go_wp2_with fail
            refine (rend_at HR2.out (by omega) HM.out (by omega) h2 102).mono ?_
            rintro e w5 ⟨o9, oc9, t9, c9, rfl, hF⟩
            have d0 := hF.d0
            have d1 := hF.d1
            have d2 := hF.d2
            have f6 := hF.f6
            have hS := hF.stored
            rw [hL9] at hS
            have HS := Lib.hid hS
            have HL9 := Lib.hid hL9
            rw [hL9]
            clear hF hS hL9 HR2
            go_wp2
            refine bodyPost_ret (v := .agg #[.slice o9 m.length oc9, .slice t9 L9 c9, .int .i64 0]) (results_cell1 (fn := Try.f11) (p := 6) _ rfl _ (n0 + 1) [.slice o9 m.length oc9, .slice t9 L9 c9, .int .i64 0] _ rfl (fun j u hj => by rw [cell_of_row _ _ _ _ 33 (0, 0) HS.out.1]; simpa using hj) Try.underlying33 rfl info33s) rfl ⟨_, _, rfl, ?_, ?_, HS.out.2.2.2⟩
            · rw [HRES.out]; exact HS.out.2.1
            · rw [HRES.out]
              show Own _ _ _ _ _ (tells ++ [102]).length _
              rw [HL9.out]
              exact HS.out.2.2.1
          · skip
            have HNX := Lib.hid (show runS room m.length (⟨2, (i : Int), ov⟩ :: ops.drop (j + 1)) cur k tells = runS room m.length (ops.drop (j + 1)) (cur.set i ov) (k + 1) tells from by
              have hs : stepS room cur k tells ⟨2, (i : Int), ov⟩ = (true, cur.set i ov, k + 1, tells) := by simp only [stepS, Int.toNat_natCast, hcd]; simp [*]
              rw [runS_step room m.length _ _ cur k tells (by show ¬ ((i : Int) < 0 ∨ (m.length : Int) ≤ (i : Int)); omega) (by rw [hs]), hs])
            have HW := Lib.hid (HR2.out.wrote i ov hil)
            clear hcd
            go_wp2
            go_roundw
            case rel => exact ⟨j + 1, k + 1, by omega, by go_num, by go_num, _, _, _, _, by rw [HRUN.out, HD.out, HNX.out], by omega, by omega, HW.out⟩
            case measure => simp [intOf]; omega
        · skip
          by_cases hrk : room ≤ k
          · skip
            have HRES := Lib.hid (show ranS m room ops ab = (102, if (102 : Int) = 101 then cur else m, tells ++ [102]) by
              have hs : stepS room cur k tells ⟨3, (i : Int), ov⟩ = (false, cur, k, tells) := by simp only [stepS, Int.toNat_natCast, hcd]; simp [*]
              unfold ranS outS
              rw [HRUN.out, HD.out, runS_full room m.length _ _ cur k tells (by show ¬ ((i : Int) < 0 ∨ (m.length : Int) ≤ (i : Int)); omega) (by rw [hs]), hs]
              rfl)
            clear hcd z0 zf
            obtain ⟨L9, hL9⟩ : ∃ L, (tells ++ [102]).length = L := ⟨_, rfl⟩
            go_wp2_with fail
            refine (rend_at HR2.out (by omega) HM.out (by omega) h2 102).mono ?_
            rintro e w5 ⟨o9, oc9, t9, c9, rfl, hF⟩
            have d0 := hF.d0
            have d1 := hF.d1
            have d2 := hF.d2
            have f6 := hF.f6
            have hS := hF.stored
            rw [hL9] at hS
            have HS := Lib.hid hS
            have HL9 := Lib.hid hL9
            rw [hL9]
            clear hF hS hL9 HR2
            go_wp2
            refine bodyPost_ret (v := .agg #[.slice o9 m.length oc9, .slice t9 L9 c9, .int .i64 0]) (results_cell1 (fn := Try.f11) (p := 6) _ rfl _ (n0 + 1) [.slice o9 m.length oc9, .slice t9 L9 c9, .int .i64 0] _ rfl (fun j u hj => by rw [cell_of_row _ _ _ _ 33 (0, 0) HS.out.1]; simpa using hj) Try.underlying33 rfl info33s) rfl ⟨_, _, rfl, ?_, ?_, HS.out.2.2.2⟩
            · rw [HRES.out]; exact HS.out.2.1
            · rw [HRES.out]
              show Own _ _ _ _ _ (tells ++ [102]).length _
              rw [HL9.out]
              exact HS.out.2.2.1
          · skip
            have HNX := Lib.hid (show runS room m.length (⟨3, (i : Int), ov⟩ :: ops.drop (j + 1)) cur k tells = runS room m.length (ops.drop (j + 1)) (cur.set i (IntKind.u64.wrap (ov + c))) (k + 1) (tells ++ [IntKind.u64.wrap (ov + c)]) from by
              have hs : stepS room cur k tells ⟨3, (i : Int), ov⟩ = (true, cur.set i (IntKind.u64.wrap (ov + c)), k + 1, tells ++ [IntKind.u64.wrap (ov + c)]) := by simp only [stepS, Int.toNat_natCast, hcd]; simp [*]
              rw [runS_step room m.length _ _ cur k tells (by show ¬ ((i : Int) < 0 ∨ (m.length : Int) ≤ (i : Int)); omega) (by rw [hs]), hs])
            obtain ⟨x, hx⟩ : ∃ x, IntKind.u64.wrap (ov + c) = x := ⟨_, rfl⟩
            have hx' : IntKind.u64.wrap (c + ov) = x := by rw [Int.add_comm]; exact hx
            rw [hx] at HNX
            have hW3 := (HR2.out.wrote i x hil).below (Below.drew (Below.refl _ _))
            have hbox3 := ((((Only.refl (fun k => k = g) W2).set ⟨g, o + i, none⟩ (.int .u64 x) (Or.inl rfl)).drew).block s0 hs2 NG.out).trans HBX2.out
            have hz3 := hW3.word (i := i) (c := x) (by rw [List.getElem?_set_self (by rw [HR2.out.cl]; exact hi)])
            obtain ⟨W3, hW3e⟩ : ∃ W3, (W2.setCell ⟨g, o + i, none⟩ (.int .u64 x)).drew = W3 := ⟨_, rfl⟩
            rw [hW3e] at hW3 hbox3 hz3
            obtain ⟨_, _, e8, z3, _, _, _⟩ := hz3
            injection e8 with e8
            injection e8 with e8 e7
            subst e8
            subst e7
            have HR3 := Lib.hid hW3; have HBX3 := Lib.hid hbox3
            have HZ3 := Lib.hid z3
            have HE3 := Lib.hid hW3e
            have HS3 := Lib.hid (show W3.heap.size = W2.heap.size by rw [← hW3e]; simp)
            clear hcd hx hW3 hbox3 z3 hW3e
            go_wp2_with fail
            go_cut [] (fun wx => wx = W3)
            case first =>
              go_region_law (fail)
              all_goals
                go_wp2
                go_meet
                exact HE3.out
            case rest =>
              obtain rfl := hcut.symm
              clear y0 y1 y2 c0 c1 c2 z0 zf q0 q1 x0 x1 x2
              have y0 : W3.cell? ⟨s0, 0, none⟩ = some (.int .i64 3) := by rw [cell_of_row _ _ _ _ 39 (0, 0) HBX3.out]; rfl
              have y1 : W3.cell? ⟨s0, 1, none⟩ = some (.int .i64 i) := by rw [cell_of_row _ _ _ _ 39 (0, 0) HBX3.out]; rfl
              have z3 := HZ3.out
              have c0 := HR3.out.c0
              have c1 := HR3.out.c1
              have hs3 := HS3.out
              have n1' : ¬ g = W3.heap.size := by omega
              have n2' : ¬ s0 = W3.heap.size := by omega
              have n3' : ¬ b7 = W3.heap.size := by omega
              have l1' : g < W3.heap.size := by omega
              have l2' : s0 < W3.heap.size := by omega
              have l3' : b7 < W3.heap.size := by omega
              clear hs3 n1 n2 n3 n4 hs2 h72 hgl
              go_wp2_with fail
              go_region_law ((refine step_append_Own _ rfl _ _ 22 (by rfl) w.heap.size 37 i0 _ 1 8 Try.underlying22 hi0 hz0 hz1 hz2 rfl (.slice ta tells.length tc) tells.length (encU tells) (by rfl) (by exact Own.below' HR3.out.ht (Below.al (Below.drew (Below.refl _ _)) _)) ⟨W3.heap.size, 0, none⟩ 1 1 [.int .u64 x] (by rfl) (by rfl) (World.news_of_block (cs := #[.int .u64 x]) (t := 37) (fr := (0, 0)) (heap_alloc_new _ _)) (by simp [Value.oneCell']) (by omega) (by unfold maxLen; omega) (by omega) (by simp; have := HR3.out.bel.size; omega) ?_; intro g' o' cap' w3 hown3 honly3 hat3 hlt3; obtain ⟨c13, f13⟩ := HR3.out.tell1 (Below.al (Below.drew (Below.refl _ _)) _) honly3; have HT9 := Lib.hid (HR3.out.told (Below.al (Below.drew (Below.refl _ _)) _) hown3 honly3 hat3); clear hown3 honly3 hat3 hlt3))
              all_goals
                go_wp2
                go_roundw
                case rel => exact ⟨j + 1, k + 1, by omega, by go_num, by go_num, _, _, _, _, by rw [HRUN.out, HD.out, HNX.out], (by simp; omega), by omega, HT9.out⟩
                case measure => simp [intOf]; omega
        · skip
          by_cases h0c : c = 0
          · subst h0c
            by_cases hrk : room ≤ k
            · skip
              have HRES := Lib.hid (show ranS m room ops ab = (102, if (102 : Int) = 101 then cur else m, tells ++ [102]) by
                have hs : stepS room cur k tells ⟨4, (i : Int), ov⟩ = (false, cur, k, tells) := by simp only [stepS, Int.toNat_natCast, hcd]; simp [*]
                unfold ranS outS
                rw [HRUN.out, HD.out, runS_full room m.length _ _ cur k tells (by show ¬ ((i : Int) < 0 ∨ (m.length : Int) ≤ (i : Int)); omega) (by rw [hs]), hs]
                rfl)
              clear hcd
              obtain ⟨L9, hL9⟩ : ∃ L, (tells ++ [102]).length = L := ⟨_, rfl⟩
              go_wp2_with fail
              refine (rend_at HR2.out (by omega) HM.out (by omega) h2 102).mono ?_
              rintro e w5 ⟨o9, oc9, t9, c9, rfl, hF⟩
              have d0 := hF.d0
              have d1 := hF.d1
              have d2 := hF.d2
              have f6 := hF.f6
              have hS := hF.stored
              rw [hL9] at hS
              have HS := Lib.hid hS
              have HL9 := Lib.hid hL9
              rw [hL9]
              clear hF hS hL9 HR2
              go_wp2
              refine bodyPost_ret (v := .agg #[.slice o9 m.length oc9, .slice t9 L9 c9, .int .i64 0]) (results_cell1 (fn := Try.f11) (p := 6) _ rfl _ (n0 + 1) [.slice o9 m.length oc9, .slice t9 L9 c9, .int .i64 0] _ rfl (fun j u hj => by rw [cell_of_row _ _ _ _ 33 (0, 0) HS.out.1]; simpa using hj) Try.underlying33 rfl info33s) rfl ⟨_, _, rfl, ?_, ?_, HS.out.2.2.2⟩
              · rw [HRES.out]; exact HS.out.2.1
              · rw [HRES.out]
                show Own _ _ _ _ _ (tells ++ [102]).length _
                rw [HL9.out]
                exact HS.out.2.2.1
            · skip
              have HNX := Lib.hid (show runS room m.length (⟨4, (i : Int), ov⟩ :: ops.drop (j + 1)) cur k tells = runS room m.length (ops.drop (j + 1)) (cur.set i ov) (k + 1) (tells ++ [1]) from by
                have hs : stepS room cur k tells ⟨4, (i : Int), ov⟩ = (true, cur.set i ov, k + 1, tells ++ [1]) := by simp only [stepS, Int.toNat_natCast, hcd]; simp [*]
                rw [runS_step room m.length _ _ cur k tells (by show ¬ ((i : Int) < 0 ∨ (m.length : Int) ≤ (i : Int)); omega) (by rw [hs]), hs])
              have hW3 := HR2.out.wrote i ov hil
              obtain ⟨W3, hW3e⟩ : ∃ W3, W2.setCell ⟨g, o + i, none⟩ (.int .u64 ov) = W3 := ⟨_, rfl⟩
              rw [hW3e] at hW3
              have hs3 : W3.heap.size = W2.heap.size := by rw [← hW3e]; simp
              have HR3 := Lib.hid hW3
              have c1' := hW3.c1
              have l1' : g < W3.heap.size := by omega
              have l2' : s0 < W3.heap.size := by omega
              have l3' : b7 < W3.heap.size := by omega
              have n3' : ¬ b7 = W3.heap.size := by omega
              have hnz : ((0 : Int) != 0) = false := rfl
              clear hcd hW3 hs3
              go_wp2_with (at_builtin; refine wpList_append_Own _ rfl _ _ 22 rfl w.heap.size 37 i0 _ 1 8 Try.underlying22 hi0 hz0 hz1 hz2 rfl (.slice ta tells.length tc) tells.length (encU tells) rfl (by exact Own.below' HR3.out.ht (Below.al (Below.refl _ _) _)) ⟨W3.heap.size, 0, none⟩ 1 1 [.int .u64 1] rfl rfl (World.news_of_block (cs := #[.int .u64 1]) (t := 37) (fr := (0, 0)) (heap_alloc_new _ _)) (by simp [Value.oneCell']) (by omega) (by unfold maxLen; omega) (by omega) (by simp; have := HR3.out.bel.size; omega) ?_; intro g' o' cap' w3 hown3 honly3 hat3 hlt3; obtain ⟨c13, f13⟩ := HR3.out.tell1 (Below.al (Below.refl _ _) _) honly3; have HT9 := Lib.hid (HR3.out.told (Below.al (Below.refl _ _) _) hown3 honly3 hat3); clear hown3 honly3 hat3 hlt3)
              go_roundw
              case rel => exact ⟨j + 1, k + 1, by omega, by go_num, by go_num, _, _, _, _, by rw [HRUN.out, HD.out, HNX.out], (by simp; omega), by omega, HT9.out⟩
              case measure => simp [intOf]; omega
          · skip
            have HNX := Lib.hid (show runS room m.length (⟨4, (i : Int), ov⟩ :: ops.drop (j + 1)) cur k tells = runS room m.length (ops.drop (j + 1)) cur k (tells ++ [0]) from by
              have hs : stepS room cur k tells ⟨4, (i : Int), ov⟩ = (true, cur, k, tells ++ [0]) := by simp only [stepS, Int.toNat_natCast, hcd]; simp [*]
              rw [runS_step room m.length _ _ cur k tells (by show ¬ ((i : Int) < 0 ∨ (m.length : Int) ≤ (i : Int)); omega) (by rw [hs]), hs])
            have hnz : (c != 0) = true := by simpa using h0c
            clear hcd
            go_wp2_with (at_builtin; refine wpList_append_Own _ rfl _ _ 22 rfl w.heap.size 37 i0 _ 1 8 Try.underlying22 hi0 hz0 hz1 hz2 rfl (.slice ta tells.length tc) tells.length (encU tells) rfl (by exact Own.below' HR2.out.ht (Below.al (Below.refl _ _) _)) ⟨W2.heap.size, 0, none⟩ 1 1 [.int .u64 0] rfl rfl (World.news_of_block (cs := #[.int .u64 0]) (t := 37) (fr := (0, 0)) (heap_alloc_new _ _)) (by simp [Value.oneCell']) (by omega) (by unfold maxLen; omega) (by omega) (by simp; have := HR2.out.bel.size; omega) ?_; intro g' o' cap' w3 hown3 honly3 hat3 hlt3; obtain ⟨c13, f13⟩ := HR2.out.tell1 (Below.al (Below.refl _ _) _) honly3; have HT9 := Lib.hid (HR2.out.told (Below.al (Below.refl _ _) _) hown3 honly3 hat3); clear hown3 honly3 hat3 hlt3)
            go_roundw
            case rel => exact ⟨j + 1, k, by omega, by go_num, by go_num, _, _, _, _, by rw [HRUN.out, HD.out, HNX.out], (by simp; omega), by omega, HT9.out⟩
            case measure => simp [intOf]; omega
      · have HRES := Lib.hid (show ranS m room ops ab = (103, if (103 : Int) = 101 then cur else m, tells ++ [103]) by unfold ranS outS; rw [HRUN.out, HD.out, runS, if_pos (Or.inr (by show (m.length : Int) ≤ ow; omega))]; rfl)
        obtain ⟨L9, hL9⟩ : ∃ L, (tells ++ [103]).length = L := ⟨_, rfl⟩
        go_wp2_with fail
        refine (rend_at HR2.out (by omega) HM.out (by omega) h2 103).mono ?_
        rintro e w5 ⟨o9, oc9, t9, c9, rfl, hF⟩
        have d0 := hF.d0
        have d1 := hF.d1
        have d2 := hF.d2
        have f6 := hF.f6
        have hS := hF.stored
        rw [hL9] at hS
        have HS := Lib.hid hS
        have HL9 := Lib.hid hL9
        rw [hL9]
        clear hF hS hL9 HR2
        go_wp2
        refine bodyPost_ret (v := .agg #[.slice o9 m.length oc9, .slice t9 L9 c9, .int .i64 0]) (results_cell1 (fn := Try.f11) (p := 6) _ rfl _ (n0 + 1) [.slice o9 m.length oc9, .slice t9 L9 c9, .int .i64 0] _ rfl (fun j u hj => by rw [cell_of_row _ _ _ _ 33 (0, 0) HS.out.1]; simpa using hj) Try.underlying33 rfl info33s) rfl ⟨_, _, rfl, ?_, ?_, HS.out.2.2.2⟩
        · rw [HRES.out]; exact HS.out.2.1
        · rw [HRES.out]
          show Own _ _ _ _ _ (tells ++ [103]).length _
          rw [HL9.out]
          exact HS.out.2.2.1
    · have HRES := Lib.hid (show ranS m room ops ab = (103, if (103 : Int) = 101 then cur else m, tells ++ [103]) by unfold ranS outS; rw [HRUN.out, HD.out, runS, if_pos (Or.inl (by show ow < 0; omega))]; rfl)
      obtain ⟨L9, hL9⟩ : ∃ L, (tells ++ [103]).length = L := ⟨_, rfl⟩
      go_wp2_with fail
      refine (rend_at HR2.out (by omega) HM.out (by omega) h2 103).mono ?_
      rintro e w5 ⟨o9, oc9, t9, c9, rfl, hF⟩
      have d0 := hF.d0
      have d1 := hF.d1
      have d2 := hF.d2
      have f6 := hF.f6
      have hS := hF.stored
      rw [hL9] at hS
      have HS := Lib.hid hS
      have HL9 := Lib.hid hL9
      rw [hL9]
      clear hF hS hL9 HR2
      go_wp2
      refine bodyPost_ret (v := .agg #[.slice o9 m.length oc9, .slice t9 L9 c9, .int .i64 0]) (results_cell1 (fn := Try.f11) (p := 6) _ rfl _ (n0 + 1) [.slice o9 m.length oc9, .slice t9 L9 c9, .int .i64 0] _ rfl (fun j u hj => by rw [cell_of_row _ _ _ _ 33 (0, 0) HS.out.1]; simpa using hj) Try.underlying33 rfl info33s) rfl ⟨_, _, rfl, ?_, ?_, HS.out.2.2.2⟩
      · rw [HRES.out]; exact HS.out.2.1
      · rw [HRES.out]
        show Own _ _ _ _ _ (tells ++ [103]).length _
        rw [HL9.out]
        exact HS.out.2.2.1
  · obtain rfl : j = ops.length := by omega
    have HRES0 := Lib.hid (show runS room m.length ops m 0 [] = (0, cur, tells) by rw [HRUN.out, List.drop_of_length_le (Nat.le_refl _)]; rfl)
    have c0 := hR.c0
    have c1 := hR.c1
    have c2 := hR.c2
    have HR2 := Lib.hid hR
    clear hR
    cases ab with
    | true =>
      have HRES := Lib.hid (show ranS m room ops true = (104, if (104 : Int) = 101 then cur else m, tells ++ [104]) by unfold ranS outS; rw [HRES0.out]; rfl)
      obtain ⟨L9, hL9⟩ : ∃ L, (tells ++ [104]).length = L := ⟨_, rfl⟩
      go_wp2_with fail
      refine (rend_at HR2.out (by omega) HM.out (by omega) h2 104).mono ?_
      rintro e w5 ⟨o9, oc9, t9, c9, rfl, hF⟩
      have d0 := hF.d0
      have d1 := hF.d1
      have d2 := hF.d2
      have f6 := hF.f6
      have hS := hF.stored
      rw [hL9] at hS
      have HS := Lib.hid hS
      have HL9 := Lib.hid hL9
      rw [hL9]
      clear hF hS hL9 HR2
      go_wp2
      refine bodyPost_ret (v := .agg #[.slice o9 m.length oc9, .slice t9 L9 c9, .int .i64 0]) (results_cell1 (fn := Try.f11) (p := 6) _ rfl _ (n0 + 1) [.slice o9 m.length oc9, .slice t9 L9 c9, .int .i64 0] _ rfl (fun j u hj => by rw [cell_of_row _ _ _ _ 33 (0, 0) HS.out.1]; simpa using hj) Try.underlying33 rfl info33s) rfl ⟨_, _, rfl, ?_, ?_, HS.out.2.2.2⟩
      · rw [HRES.out]; exact HS.out.2.1
      · rw [HRES.out]
        show Own _ _ _ _ _ (tells ++ [104]).length _
        rw [HL9.out]
        exact HS.out.2.2.1
    | false =>
      have HRES := Lib.hid (show ranS m room ops false = (101, if (101 : Int) = 101 then cur else m, tells ++ [101]) by unfold ranS outS; rw [HRES0.out]; rfl)
      obtain ⟨L9, hL9⟩ : ∃ L, (tells ++ [101]).length = L := ⟨_, rfl⟩
      go_wp2_with fail
      refine (rend_at HR2.out (by omega) HM.out (by omega) h2 101).mono ?_
      rintro e w5 ⟨o9, oc9, t9, c9, rfl, hF⟩
      have d0 := hF.d0
      have d1 := hF.d1
      have d2 := hF.d2
      have f6 := hF.f6
      have hS := hF.stored
      rw [hL9] at hS
      have HS := Lib.hid hS
      have HL9 := Lib.hid hL9
      rw [hL9]
      clear hF hS hL9 HR2
      go_wp2
      refine bodyPost_ret (v := .agg #[.slice o9 m.length oc9, .slice t9 L9 c9, .int .i64 0]) (results_cell1 (fn := Try.f11) (p := 6) _ rfl _ (n0 + 1) [.slice o9 m.length oc9, .slice t9 L9 c9, .int .i64 0] _ rfl (fun j u hj => by rw [cell_of_row _ _ _ _ 33 (0, 0) HS.out.1]; simpa using hj) Try.underlying33 rfl info33s) rfl ⟨_, _, rfl, ?_, ?_, HS.out.2.2.2⟩
      · rw [HRES.out]; exact HS.out.2.1
      · rw [HRES.out]
        show Own _ _ _ _ _ (tells ++ [101]).length _
        rw [HL9.out]
        exact HS.out.2.2.1
end Go.Proofs.Ytigbhlkafmpgmaa
