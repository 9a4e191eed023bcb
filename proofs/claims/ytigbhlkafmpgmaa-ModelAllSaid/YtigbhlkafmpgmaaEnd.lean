/-
  All Ops of a transaction on the map's world: end.
-/
import Derived.Test.YtigbhlkafmpgmaaOp
namespace Go.Proofs.Ytigbhlkafmpgmaa
open Go.RowKit Go.Maps
attribute [local go_sem ↓] Go.wp_at_zero Go.wp_at_succ
/-- The world, with another block to be kept. -/
theorem WAt.keep {w0 : World} {b1 : Nat} {ob : Obj} {p q : Nat} {vm : Value} {m : List Int} {room : Int} {w : World} {cur : List Int} {n : Nat} {vt : Value} {tells : List Int} {nm : Nat} {D : DataW Unit} (h : WAt w0 b1 ob p q vm m room w cur n vt tells nm D)
    (cs : Array Value) (t : TypeId) : WAt w0 w.heap.size (.cells cs t) p q vm m room (w.alloc (.cells cs t)) cur n vt tells nm D := by
  have h' := h.below (Below.al (Below.refl _ w) (.cells cs t))
  exact ⟨h'.row, h'.tl, h'.mp, h'.rel, h'.bel, h'.pB, h'.qB, h'.pq, fun k hk => ⟨(h'.tp k hk).1, (h'.tp k hk).2.1, fun e => by have := (h.tl.lt k hk).2; omega⟩, heap_alloc_new w _, fun e => by have := h.plt; omega, fun e => by have := h.qlt; omega⟩
set_option maxRecDepth 100000 in
set_option maxHeartbeats 8000000 in
theorem end_any (w0 : World) (b1 : Nat) (ob : Obj) (p q : Nat) (vm : Value) (m : List Int) (room : Int) (w : World) (cur0 : List Int) (n0 : Nat) (vt : Value) (tells0 : List Int) (nm0 : Nat) (D : DataW Unit) (va : Option Addr) (vc : Nat) (ab : Bool) (ops : List Op)
    (h1000 : m.length ≤ 1000) (hroom : room ≤ 1000) (h : WAt w0 b1 ob p q vm m room w cur0 n0 vt tells0 nm0 D) (hm : Rds w0 1 vm m.length (encU m)) (hops : ops.length ≤ 100) (hok : ∀ o ∈ ops, (1 ≤ o.k ∧ o.k ≤ 4) ∧ (Lit.int .u64 o.v).wf = true)
    (hr : Rds w0 3 (.slice va ops.length vc) ops.length (encOs ops)) (hl0 : tells0.length ≤ 700) (hm0 : nm0 ≤ 700) :
    Calls Try.prog 18 #[.pointer (some ⟨p, 0, none⟩), .agg #[.slice va ops.length vc, .bool ab]] w fun e w' => e = .returned (.int .u64 (endC (runS room m.length ops cur0 n0 tells0).1 ab)) ∧ ∃ b1' ob' n' vt' nm' D', (runS room m.length ops cur0 n0 tells0).2.2.length ≤ tells0.length + ops.length ∧ WAt w0 b1' ob' p q vm m room w' (runS room m.length ops cur0 n0 tells0).2.1 n' vt' (runS room m.length ops cur0 n0 tells0).2.2 nm' D' := by
  obtain ⟨_, a, cap, e0, p2, p3, p4, p5⟩ := hr
  injection e0 with e1 e2 e3
  subst e1; subst e3
  obtain ⟨n, hn⟩ : ∃ n, ops.length = n := ⟨_, rfl⟩
  have HN := Lib.hid hn
  rw [hn] at p2 p4 p5 hops ⊢
  have P5 := Lib.hid p5
  have hK := h.keep #[.slice va n vc, .bool ab] 25
  have HK := Lib.hid hK
  have HM := Lib.hid hm; have HOK := Lib.hid hok
  obtain ⟨_, am, capm, hvm, m2, m3, m4, m5⟩ := hm
  subst hvm
  obtain ⟨len, hlen⟩ : ∃ len, m.length = len := ⟨_, rfl⟩
  have HLEN := Lib.hid hlen
  clear hn p4 p5 h hK hok m4 m5
  obtain ⟨bx, hbx⟩ : ∃ bx, w.heap.size = bx := ⟨_, rfl⟩
  rw [hbx] at HK
  go_enter Try.func18, Try.ntmps18
  go_wp2_with fail
  go_loopw [10] (fun i w' => ∃ j : Nat, j ≤ n ∧ i = .int .i64 j ∧ ∃ cur k vt tells nm D, runS room m.length ops cur0 n0 tells0 = runS room m.length (ops.drop j) cur k tells ∧ nm ≤ nm0 + j ∧ tells.length ≤ tells0.length + j ∧ WAt w0 bx (.cells #[.slice va n vc, .bool ab] 25) p q (.slice am m.length capm) m room w' cur k vt tells nm D) (fun i _ => n - (intOf i).toNat)
  case atStart => exact ⟨0, by omega, rfl, cur0, n0, vt, tells0, nm0, D, rfl, by omega, by omega, HK.out⟩
  case round =>
  obtain ⟨j, hj, rfl, cur, k, vt, tells, nm, D, hrun, hnm, htl, hW⟩ := hrel
  have HRUN := Lib.hid hrun; have HW := Lib.hid hW
  clear hrun HK
  by_cases hlt : j < n
  · obtain ⟨o, ho⟩ : ∃ o, ops[j]? = some o := ⟨_, List.getElem?_eq_getElem (by rw [HN.out]; exact hlt)⟩
    have hdrop : ops.drop j = o :: ops.drop (j + 1) := by
      rw [List.drop_eq_getElem_cons (by rw [HN.out]; exact hlt)]
      congr 1
      rw [List.getElem?_eq_getElem (by rw [HN.out]; exact hlt)] at ho
      injection ho
    obtain ⟨ok1, ok2⟩ := HOK.out o (List.mem_of_getElem? ho)
    obtain ⟨g, of, rfl, ga1, ca⟩ := P5.out (by omega)
    have hx : ∀ i u, i < 3 → (encO o)[i]? = some u → wr.cell? ⟨g, of + j * 3 + i, none⟩ = some u := fun i u hi hu => by
      rw [hW.bel.cell (p := ⟨g, of + j * 3 + i, none⟩) ga1, Nat.add_assoc]
      exact ca _ u ((encOs_get ops j o ho i hi).trans hu)
    obtain ⟨ok, ow, ov⟩ := o
    have x0 : wr.cell? ⟨g, of + j * 3, none⟩ = some (.int .i64 ok) := hx 0 _ (by omega) rfl
    have x1 : wr.cell? ⟨g, of + j * 3 + 1, none⟩ = some (.int .i64 ow) := hx 1 _ (by omega) rfl
    have x2 : wr.cell? ⟨g, of + j * 3 + 2, none⟩ = some (.int .u64 ov) := hx 2 _ (by omega) rfl
    have hj0 : (0 : Int) ≤ (j : Int) := by omega
    have hj1 : (j : Int) < (n : Int) := by omega
    have HD := Lib.hid hdrop
    have hW2 := hW.below (Below.al (Below.refl _ wr) (.cells #[.int .i64 ok, .int .i64 ow, .int .u64 ov] 39))
    have c0 := hW2.cell0
    rw [hlen] at c0
    have HW2 := Lib.hid hW2
    have hpn : ¬ p = wr.heap.size := by have := hW.plt; omega
    obtain ⟨W2, hW2e⟩ : ∃ W2, wr.alloc (.cells #[.int .i64 ok, .int .i64 ow, .int .u64 ov] 39) = W2 := ⟨_, rfl⟩
    have hbox : W2.heap[wr.heap.size]? = some (.cells #[.int .i64 ok, .int .i64 ow, .int .u64 ov] 39 (0, 0)) := by rw [← hW2e]; exact heap_alloc_new wr _
    rw [hW2e] at c0 HW2
    obtain ⟨s0, hs0⟩ : ∃ s0, wr.heap.size = s0 := ⟨_, rfl⟩
    rw [hs0] at hbox
    have y0 : W2.cell? ⟨s0, 0, none⟩ = some (.int .i64 ok) := by rw [cell_of_row _ _ _ _ 39 (0, 0) hbox]; rfl
    have y1 : W2.cell? ⟨s0, 1, none⟩ = some (.int .i64 ow) := by rw [cell_of_row _ _ _ _ 39 (0, 0) hbox]; rfl
    have y2 : W2.cell? ⟨s0, 2, none⟩ = some (.int .u64 ov) := by rw [cell_of_row _ _ _ _ 39 (0, 0) hbox]; rfl
    have HBX2 := Lib.hid hbox
    clear hx ho hdrop ca hW hW2 hbox
    by_cases hw0 : 0 ≤ ow
    · by_cases hw1 : ow < len
      · obtain ⟨i, rfl⟩ : ∃ i : Nat, ow = (i : Int) := ⟨ow.toNat, by omega⟩
        have hi : i < m.length := by omega
        have HX := Lib.hid (runS_step room m.length ⟨ok, (i : Int), ov⟩ (ops.drop (j + 1)) cur k tells (by rw [hlen]; show ¬ ((i : Int) < 0 ∨ (len : Int) ≤ (i : Int)); omega))
        have HF := Lib.hid (runS_full room m.length ⟨ok, (i : Int), ov⟩ (ops.drop (j + 1)) cur k tells (by rw [hlen]; show ¬ ((i : Int) < 0 ∨ (len : Int) ≤ (i : Int)); omega))
        have HLN := Lib.hid (stepS_len room cur k tells ⟨ok, (i : Int), ov⟩)
        go_wp2_with fail
        go_quiet (fail)
        obtain ⟨W3, hW3⟩ : ∃ W3, W2.drewN nq = W3 := ⟨_, rfl⟩
        have hb3 : Below W2.heap.size W2 W3 := by rw [← hW3]; exact below_drewN (Below.refl _ W2) nq
        rw [hW3]
        have HW3 := Lib.hid (HW2.out.below hb3)
        have hbox := below_row HBX2.out hb3
        have y0 : W3.cell? ⟨s0, 0, none⟩ = some (.int .i64 ok) := by rw [cell_of_row _ _ _ _ 39 (0, 0) hbox]; rfl
        have y1 : W3.cell? ⟨s0, 1, none⟩ = some (.int .i64 i) := by rw [cell_of_row _ _ _ _ 39 (0, 0) hbox]; rfl
        have y2 : W3.cell? ⟨s0, 2, none⟩ = some (.int .u64 ov) := by rw [cell_of_row _ _ _ _ 39 (0, 0) hbox]; rfl
        clear hb3 hbox hW3 HBX2 hW2e x0 x1 x2 c0 HW2 HW
        go_wp2_with fail
        refine (op_any w0 bx _ p q _ m room _ cur k vt tells nm D i ok ov hi h1000 hroom ok1 ok2 HW3.out HM.out (by omega) (by omega)).mono ?_
        rintro e w4 ⟨rfl, vt', nm', D', hnm', hW4⟩
        have HW4 := Lib.hid hW4
        clear hW4 y0 y1 y2 HW3
        cases hok : (stepS room cur k tells ⟨ok, (i : Int), ov⟩).1 with
        | true =>
          have HX2 := Lib.hid (HX.out hok)
          clear hok HX HF
          go_wp2
          go_roundw
          case rel => exact ⟨j + 1, by omega, by go_num, _, _, _, _, _, _, by rw [HRUN.out, HD.out, HX2.out], by omega, by have := HLN.out; omega, HW4.out⟩
          case measure => simp [intOf]; omega
        | false =>
          have HX2 := Lib.hid (HF.out hok)
          clear hok HX HF
          go_wp2
          go_ret
          refine ⟨?_, bx, .cells #[.slice (some ⟨g, of, none⟩) n vc, .bool ab] 25, (stepS room cur k tells ⟨ok, (i : Int), ov⟩).2.2.1, vt', nm', D', ?_, ?_⟩
          · rw [HRUN.out, HD.out, HX2.out]; rfl
          · rw [HRUN.out, HD.out, HX2.out]; have := HLN.out; show (stepS room cur k tells ⟨ok, (i : Int), ov⟩).2.2.2.length ≤ _; omega
          · rw [HRUN.out, HD.out, HX2.out]; exact HW4.out
      · have hbad : runS room m.length (⟨ok, ow, ov⟩ :: ops.drop (j + 1)) cur k tells = (103, cur, tells) := by rw [runS, if_pos (by rw [hlen]; show ow < 0 ∨ (len : Int) ≤ ow; omega)]
        have HX := Lib.hid hbad
        clear hbad
        go_wp2_with fail
        go_quiet (fail)
        go_wp2
        go_ret
        refine ⟨?_, bx, .cells #[.slice (some ⟨g, of, none⟩) n vc, .bool ab] 25, k, vt, nm, D, ?_, ?_⟩
        · rw [HRUN.out, HD.out, HX.out]; rfl
        · rw [HRUN.out, HD.out, HX.out]; show tells.length ≤ _; omega
        · rw [HRUN.out, HD.out, HX.out]; exact HW2.out.below (below_drewN (Below.refl _ _) _)
    · have hbad : runS room m.length (⟨ok, ow, ov⟩ :: ops.drop (j + 1)) cur k tells = (103, cur, tells) := by rw [runS, if_pos (by show ow < 0 ∨ _; omega)]
      have HX := Lib.hid hbad
      clear hbad
      go_wp2_with fail
      go_quiet (fail)
      go_wp2
      go_ret
      refine ⟨?_, bx, .cells #[.slice (some ⟨g, of, none⟩) n vc, .bool ab] 25, k, vt, nm, D, ?_, ?_⟩
      · rw [HRUN.out, HD.out, HX.out]; rfl
      · rw [HRUN.out, HD.out, HX.out]; show tells.length ≤ _; omega
      · rw [HRUN.out, HD.out, HX.out]; exact HW2.out.below (below_drewN (Below.refl _ _) _)
  · obtain rfl : j = n := by omega
    have hfin : runS room m.length (ops.drop j) cur k tells = (0, cur, tells) := by rw [List.drop_of_length_le (by rw [HN.out]; omega)]; rfl
    have HX := Lib.hid hfin
    have q1 : wr.cell? ⟨bx, 1, none⟩ = some (.bool ab) := by rw [cell_of_row _ _ _ _ 25 (0, 0) hW.kb]; rfl
    clear hfin hW
    cases ab with
    | true =>
      go_wp2
      go_ret
      refine ⟨?_, bx, .cells #[.slice va j vc, .bool true] 25, k, vt, nm, D, ?_, ?_⟩
      · rw [HRUN.out, HX.out]; rfl
      · rw [HRUN.out, HX.out]; show tells.length ≤ _; omega
      · rw [HRUN.out, HX.out]; exact HW.out
    | false =>
      go_wp2
      go_ret
      refine ⟨?_, bx, .cells #[.slice va j vc, .bool false] 25, k, vt, nm, D, ?_, ?_⟩
      · rw [HRUN.out, HX.out]; rfl
      · rw [HRUN.out, HX.out]; show tells.length ≤ _; omega
      · rw [HRUN.out, HX.out]; exact HW.out
end Go.Proofs.Ytigbhlkafmpgmaa
