/-
  NvmPlays, walked.
-/
import Derived.Test.YtkkeilbaieflmaaPair
import Derived.Deep.CutBlock
import Derived.Deep.DeepCutAuto
import Derived.Deep.RegionHeld3
namespace Go.Proofs.Ytkkeilbaieflmaa
open Go.RowKit
attribute [local go_sem ↓] Go.wp_at_zero Go.wp_at_succ

theorem fair_all {ss : List Stp} (h : fairB ss = true) : ∀ s ∈ ss, imgLen s.img ≤ 100 := fun s hs => by
  rw [fairB, Bool.and_eq_true, List.all_eq_true] at h
  exact of_decide_eq_true (h.1 s hs)
theorem fair_len {ss : List Stp} (h : fairB ss = true) : ss.length ≤ 200 := by
  rw [fairB, Bool.and_eq_true] at h
  exact of_decide_eq_true h.2
structure KAt (w0 w : World) (d g q X B M : Nat) (v : Value) (cs : List Value) (ls lr : List Ln) (I : Nat) (vi : Value) (ys : List Ln) : Prop where
  p : PAt w0 w d g q X B M v cs ls lr
  o : Own w I 34 8 vi ys.length (encLns ys)
  qI : q < I
  XI : X < I
  vI : ∀ k, vi.ownBlock = some k → v.ownBlock ≠ some k
section
variable {w0 w w' : World} {d g q X B M I : Nat} {v v' vi : Value} {cs : List Value} {ls lr ls' lr' ys : List Ln} {S : Nat → Prop}
theorem KAt.drew (h : KAt w0 w d g q X B M v cs ls lr I vi ys) : KAt w0 w.drew d g q X B M v cs ls lr I vi ys := ⟨h.p.drew, h.o.below' ((Below.refl _ _).drew), h.qI, h.XI, h.vI⟩
theorem k_restore (hl0 : 0 < ls.length) (h : KAt w0 w d g q X B M v cs ls lr I vi ys) :
    Calls Try.prog 17 #[.pointer (some ⟨d, 0, none⟩), vi] w fun e w' => e = .returned (.int .i64 (rsE ls ys)) ∧ KAt w0 w' d g q X B M v cs (rs1 ls ys) lr I vi ys := by
  refine (p_restore hl0 ys vi h.o.rds h.p).mono ?_
  rintro e w1 ⟨rfl, hp, ho⟩
  exact ⟨rfl, hp, h.o.only ho (fun k hk (hS : k = g) => by have := (h.o.lt k hk).1; have := h.p.b.gB; have := h.p.b.R.lo; have := h.qI; omega), h.qI, h.XI, h.vI⟩
theorem k_rrestore (xs : List Ln) (vx : Value) (hr : Rds w 8 vx xs.length (encLns xs)) (h : KAt w0 w d g q X B M v cs ls lr I vi ys) :
    Calls Try.prog 18 #[.pointer (some ⟨q, 0, none⟩), vx] w fun e w' => e = .returned (.int .i64 (rsE lr xs)) ∧ ∃ v', KAt w0 w' d g q X B M v' cs ls (rs1 lr xs) I vi ys := by
  refine (p_rrestore xs vx hr h.p).mono ?_
  rintro e w1 ⟨rfl, v', hp, ho, hv⟩
  refine ⟨rfl, v', hp, h.o.only ho (fun k hk (hS : k = q) => by have := (h.o.lt k hk).1; have := h.qI; omega), h.qI, h.XI, fun k hk hk' => ?_⟩
  rcases hv with rfl | hv
  · exact h.vI k hk hk'
  · have := hv k hk'; have := (h.o.lt k hk).2; omega
theorem KAt.put {gi oi ci : Nat} (h : KAt w0 w d g q X B M v cs ls lr I (.slice (some ⟨gi, oi, none⟩) ys.length ci) ys) (i : Nat) (z : Ln) (hi : i < ys.length) :
    KAt w0 (w.setCells gi (oi + i * 8) (encLn z)) d g q X B M v cs ls lr I (.slice (some ⟨gi, oi, none⟩) ys.length ci) (ys.set i z) := by
  have hp := h.o.put (i * 8) (encLn z) (by rw [encLn_len]; omega)
  have hl : (ys.set i z).length = ys.length := List.length_set
  rw [encLn_len, encLns_set ys i z hi] at hp
  have hg := h.o.lt gi rfl
  have hd : d < I := by have := h.p.b.dB; have := h.p.b.R.lo; have := h.qI; omega
  have hgI : g < I := by have := h.p.b.gB; have := h.p.b.R.lo; have := h.qI; omega
  have hX := h.XI; have hq := h.qI; have hxl := h.p.xlt
  have hon : Only (fun k => k = gi) w (w.setCells gi (oi + i * 8) (encLn z)) := Only.setCells gi (encLn z) (oi + i * 8) w
  exact ⟨⟨⟨h.p.b.D.only hon (fun (e : d = gi) => by omega) (fun (e : g = gi) => by omega), h.p.b.R.only hon (fun (e : q = gi) => by omega) (fun k hk (e : k = gi) => h.vI gi rfl (by rw [← e]; exact hk)), h.p.b.dB, h.p.b.gB, h.p.b.wB, h.p.b.bel.trans (hon.below h.p.b.bel.size (fun k (e : k = gi) => by have := h.p.b.wB; have := h.p.b.R.lo; omega))⟩,
    fun o => (hon.cell (p := ⟨X, o, none⟩) hxl (fun (e : X = gi) => by omega)).trans (h.p.xc o), Nat.lt_of_lt_of_le hxl hon.size, h.p.xlo, h.p.xq, h.p.xv⟩, by rw [hl]; exact hp, h.qI, h.XI, h.vI⟩
end
set_option maxRecDepth 100000 in
set_option maxHeartbeats 4000000 in
theorem plays_law (a b : Int) (v : Value) (ss : List Stp) (w : World) (hR : Rds w 11 v ss.length (encL encStp ss)) (hok : ∀ s ∈ ss, okStp w s) :
    Calls Try.prog 3 #[.int .i64 a, .int .i64 b, v] w fun e w' => e = .returned (.bool true) ∧ Below w.heap.size w w' := by
  obtain ⟨i0, hi0, hz0, hz1, hz2⟩ := info_parts info34
  obtain ⟨N, hN⟩ : ∃ N, ss.length = N := ⟨_, rfl⟩
  have HF := Lib.hid (fair_any v ss w hR hok)
  obtain ⟨_, ad, cap, hv, r2, r3, r4, r5⟩ := id hR
  rw [hN] at hv r2 r4 r5
  subst hv
  have HN := Lib.hid hN
  have R5 := Lib.hid r5; have HR := Lib.hid hR; have HOK := Lib.hid hok
  clear r4 r5 hR hN hok
  go_enter Try.func3, Try.ntmps3
  go_wp2_with fail
  refine HF.out.mono ?_
  rintro e w1 ⟨rfl, rfl⟩
  clear HF
  obtain ⟨bb, hbb⟩ : ∃ b, fairB ss = b := ⟨_, rfl⟩
  rw [hbb]
  have HBB := Lib.hid hbb
  clear hbb
  cases bb with
  | false =>
    go_wp2_with fail
    refine (wakes_any _).mono ?_
    rintro e w5 ⟨rfl, hb5⟩
    have HB5 := Lib.hid hb5
    clear hb5
    go_wp2
    go_ret
    exact ⟨rfl, HB5.out⟩
  | true =>
    have HFA := Lib.hid (fair_all HBB.out)
    have hN200 : N ≤ 200 := by rw [← HN.out]; exact fair_len HBB.out
    clear HBB
    by_cases hab : okN a b
    · obtain ⟨p1, p2, p3, p4⟩ := hab
      obtain ⟨L, rfl⟩ : ∃ L : Nat, a = L := ⟨a.toNat, by omega⟩
      obtain ⟨M, rfl⟩ : ∃ M : Nat, b = M := ⟨b.toNat, by omega⟩
      have hM : 0 < M := by omega
      go_wp2_with fail
      refine (new_any L M (by omega) (by omega) (by omega) (by omega) w).mono ?_
      rintro e w1 ⟨d, g, rfl, hD1, hB1⟩
      have HD1 := Lib.hid hD1; have HB1 := Lib.hid hB1
      clear hD1 hB1
      go_wp2_with fail
      refine (rnew_any L M (by omega) (by omega) (by omega) (by omega) w1).mono ?_
      rintro e w2 ⟨q, v0, rfl, hR2, hB2⟩
      have hB0 : Bs w w2 d g q w1.heap.size M v0 (List.replicate L Ln.zero) (List.replicate L Ln.zero) := ⟨HD1.out.below hB2, hR2, HD1.out.dlt, HD1.out.glt, HB1.out.size, HB1.out.trans (hB2.mono HB1.out.size)⟩
      have HB0 := Lib.hid hB0
      obtain ⟨B, hBe⟩ : ∃ B, w1.heap.size = B := ⟨_, rfl⟩
      rw [hBe] at HB0
      clear hR2 hB2 hB0 HD1 HB1 p1 p2 p3 p4 hBe
      go_wp2_with fail
      go_loopw [11] (fun i w' => ∃ j : Nat, j ≤ N ∧ i = .int .i64 j ∧ ∃ v ls, Bs w w' d g q B M v ls ls) (fun i _ => N - (intOf i).toNat)
      case atStart => exact ⟨0, by omega, rfl, _, _, HB0.out⟩
      case round =>
      obtain ⟨j, hj, rfl, v, ls, hBs⟩ := hrel
      clear HB0
      by_cases h1 : j < N
      · obtain ⟨⟨kd, ln, x, img⟩, hs⟩ : ∃ s, ss[j]? = some s := ⟨_, List.getElem?_eq_getElem (by rw [HN.out]; exact h1)⟩
        obtain ⟨xs, hxs⟩ := HOK.out _ (List.mem_of_getElem? hs)
        have hfa := HFA.out _ (List.mem_of_getElem? hs)
        obtain ⟨k, hk⟩ : ∃ k, xs.length = k := ⟨_, rfl⟩
        obtain ⟨_, ai, ci, him, _⟩ := id hxs
        dsimp only at him hxs hfa
        subst him
        rw [hk] at hxs hs hfa
        have hk100 : k ≤ 100 := hfa
        obtain ⟨b0, o0, had, hb0, hc0⟩ := R5.out (by omega)
        subst had
        have hc : ∀ i u, (encStp ⟨kd, ln, x, .slice ai k ci⟩)[i]? = some u → wr.cell? ⟨b0, o0 + j * 11 + i, none⟩ = some u := fun i u hu => by
          rw [Nat.add_assoc, hBs.bel.cell (p := ⟨b0, o0 + (j * 11 + i), none⟩) hb0]
          exact hc0 _ _ ((encL_get encStp_len ss j _ hs i (List.getElem?_eq_some_iff.1 hu).1).trans hu)
        have y0 : wr.cell? ⟨b0, o0 + j * 11, none⟩ = some (.int .i64 kd) := hc 0 _ rfl
        have y1 : wr.cell? ⟨b0, o0 + j * 11 + 1, none⟩ = some (.int .i64 ln) := hc 1 _ rfl
        have y2 : wr.cell? ⟨b0, o0 + j * 11 + 2, none⟩ = some (.int .u64 x.d0) := hc 2 _ rfl
        have y3 : wr.cell? ⟨b0, o0 + j * 11 + 3, none⟩ = some (.int .u64 x.d1) := hc 3 _ rfl
        have y4 : wr.cell? ⟨b0, o0 + j * 11 + 4, none⟩ = some (.int .u64 x.d2) := hc 4 _ rfl
        have y5 : wr.cell? ⟨b0, o0 + j * 11 + 5, none⟩ = some (.int .u64 x.d3) := hc 5 _ rfl
        have y6 : wr.cell? ⟨b0, o0 + j * 11 + 6, none⟩ = some (.int .u64 x.d4) := hc 6 _ rfl
        have y7 : wr.cell? ⟨b0, o0 + j * 11 + 7, none⟩ = some (.int .u64 x.d5) := hc 7 _ rfl
        have y8 : wr.cell? ⟨b0, o0 + j * 11 + 8, none⟩ = some (.int .u64 x.d6) := hc 8 _ rfl
        have y9 : wr.cell? ⟨b0, o0 + j * 11 + 9, none⟩ = some (.int .u64 x.d7) := hc 9 _ rfl
        have y10 : wr.cell? ⟨b0, o0 + j * 11 + 10, none⟩ = some (.slice ai k ci) := hc 10 _ rfl
        have HXS := Lib.hid hxs; have HBS := Lib.hid hBs; have HK := Lib.hid hk
        have hj0 : (0 : Int) ≤ (j : Int) := by omega
        have hj1 : (j : Int) < (N : Int) := by omega
        clear hc hc0 hxs hs hfa hBs hk
        go_upto_block 2 with fail
        obtain ⟨wx, hwx⟩ : ∃ wx, wr.alloc (.cells #[.int .i64 kd, .int .i64 ln, .int .u64 x.d0, .int .u64 x.d1, .int .u64 x.d2, .int .u64 x.d3, .int .u64 x.d4, .int .u64 x.d5, .int .u64 x.d6, .int .u64 x.d7, .slice ai k ci] 37) = wx := ⟨_, rfl⟩
        have HP : PAt w (wr.alloc (.cells #[.int .i64 kd, .int .i64 ln, .int .u64 x.d0, .int .u64 x.d1, .int .u64 x.d2, .int .u64 x.d3, .int .u64 x.d4, .int .u64 x.d5, .int .u64 x.d6, .int .u64 x.d7, .slice ai k ci] 37)) d g q wr.heap.size B M v [.int .i64 kd, .int .i64 ln, .int .u64 x.d0, .int .u64 x.d1, .int .u64 x.d2, .int .u64 x.d3, .int .u64 x.d4, .int .u64 x.d5, .int .u64 x.d6, .int .u64 x.d7, .slice ai k ci] ls ls := HBS.out.box _ _
        rw [hwx] at HP
        have HP := Lib.hid HP
        rw [hwx]
        obtain ⟨X, hX⟩ : ∃ X, wr.heap.size = X := ⟨_, rfl⟩
        rw [hX] at HP ⊢
        clear hX hwx y0 y1 y2 y3 y4 y5 y6 y7 y8 y9 y10 HBS
        go_cut [13, 14, 15, 16, 17, 18, 19, 20] (fun s13 s14 s15 s16 s17 s18 s19 s20 wc => ∃ (e : Int) (ls' : List Ln) (v' : Value), s13 = .int .i64 e ∧ s14 = .int .i64 e ∧ PAt w wc d g q X B M v' [.int .i64 kd, .int .i64 ln, .int .u64 x.d0, .int .u64 x.d1, .int .u64 x.d2, .int .u64 x.d3, .int .u64 x.d4, .int .u64 x.d5, .int .u64 x.d6, .int .u64 x.d7, .slice ai k ci] ls' ls')
        case first =>
          have hxc := HP.out.xc
          have x0 : wx.cell? ⟨X, 0, none⟩ = some (.int .i64 kd) := hxc 0
          have x1 : wx.cell? ⟨X, 1, none⟩ = some (.int .i64 ln) := hxc 1
          have x2 : wx.cell? ⟨X, 2, none⟩ = some (.int .u64 x.d0) := hxc 2
          have x3 : wx.cell? ⟨X, 3, none⟩ = some (.int .u64 x.d1) := hxc 3
          have x4 : wx.cell? ⟨X, 4, none⟩ = some (.int .u64 x.d2) := hxc 4
          have x5 : wx.cell? ⟨X, 5, none⟩ = some (.int .u64 x.d3) := hxc 5
          have x6 : wx.cell? ⟨X, 6, none⟩ = some (.int .u64 x.d4) := hxc 6
          have x7 : wx.cell? ⟨X, 7, none⟩ = some (.int .u64 x.d5) := hxc 7
          have x8 : wx.cell? ⟨X, 8, none⟩ = some (.int .u64 x.d6) := hxc 8
          have x9 : wx.cell? ⟨X, 9, none⟩ = some (.int .u64 x.d7) := hxc 9
          have x10 : wx.cell? ⟨X, 10, none⟩ = some (.slice ai k ci) := hxc 10
          have HXC := Lib.hid hxc
          clear hxc
          by_cases k0 : kd = 0
          · subst k0
            have HPd := Lib.hid HP.out.drew
            go_wp2_with fail
            go_region_law (first
              | (go_simp; go_at_call 11; refine (p_write ln x (Hid.out (by assumption))).mono ?_; rintro e w2 ⟨rfl, hP2⟩; have z1 : w2.cell? ⟨X, 1, none⟩ = some (.int .i64 ln) := hP2.xc 1; have z2 : w2.cell? ⟨X, 2, none⟩ = some (.int .u64 x.d0) := hP2.xc 2; have z3 : w2.cell? ⟨X, 3, none⟩ = some (.int .u64 x.d1) := hP2.xc 3; have z4 : w2.cell? ⟨X, 4, none⟩ = some (.int .u64 x.d2) := hP2.xc 4; have z5 : w2.cell? ⟨X, 5, none⟩ = some (.int .u64 x.d3) := hP2.xc 5; have z6 : w2.cell? ⟨X, 6, none⟩ = some (.int .u64 x.d4) := hP2.xc 6; have z7 : w2.cell? ⟨X, 7, none⟩ = some (.int .u64 x.d5) := hP2.xc 7; have z8 : w2.cell? ⟨X, 8, none⟩ = some (.int .u64 x.d6) := hP2.xc 8; have z9 : w2.cell? ⟨X, 9, none⟩ = some (.int .u64 x.d7) := hP2.xc 9; have HP2 := Lib.hid hP2; clear hP2)
              | (go_simp; go_at_call 12; refine (p_rwrite ln x (Hid.out (by assumption))).mono ?_; rintro e w2 ⟨rfl, hP2⟩; have z1 : w2.cell? ⟨X, 1, none⟩ = some (.int .i64 ln) := hP2.xc 1; have z2 : w2.cell? ⟨X, 2, none⟩ = some (.int .u64 x.d0) := hP2.xc 2; have z3 : w2.cell? ⟨X, 3, none⟩ = some (.int .u64 x.d1) := hP2.xc 3; have z4 : w2.cell? ⟨X, 4, none⟩ = some (.int .u64 x.d2) := hP2.xc 4; have z5 : w2.cell? ⟨X, 5, none⟩ = some (.int .u64 x.d3) := hP2.xc 5; have z6 : w2.cell? ⟨X, 6, none⟩ = some (.int .u64 x.d4) := hP2.xc 6; have z7 : w2.cell? ⟨X, 7, none⟩ = some (.int .u64 x.d5) := hP2.xc 7; have z8 : w2.cell? ⟨X, 8, none⟩ = some (.int .u64 x.d6) := hP2.xc 8; have z9 : w2.cell? ⟨X, 9, none⟩ = some (.int .u64 x.d7) := hP2.xc 9; have HP2 := Lib.hid hP2; clear hP2))
            all_goals (go_wp2_with fail; go_meet; exact ⟨_, _, _, rfl, rfl, Hid.out (by assumption)⟩)
          by_cases k1 : kd = 1
          · subst k1
            go_wp2_with fail
            refine (p_read ln HP.out).mono ?_
            rintro e w1 ⟨rfl, hP1⟩
            have HP1 := Lib.hid (hP1.al (.cells #[.int .u64 (rd1 ls ln).d0, .int .u64 (rd1 ls ln).d1, .int .u64 (rd1 ls ln).d2, .int .u64 (rd1 ls ln).d3, .int .u64 (rd1 ls ln).d4, .int .u64 (rd1 ls ln).d5, .int .u64 (rd1 ls ln).d6, .int .u64 (rd1 ls ln).d7] 34))
            have z1 := HP1.out.xc 1
            have z1 : (w1.alloc (.cells #[.int .u64 (rd1 ls ln).d0, .int .u64 (rd1 ls ln).d1, .int .u64 (rd1 ls ln).d2, .int .u64 (rd1 ls ln).d3, .int .u64 (rd1 ls ln).d4, .int .u64 (rd1 ls ln).d5, .int .u64 (rd1 ls ln).d6, .int .u64 (rd1 ls ln).d7] 34)).cell? ⟨X, 1, none⟩ = some (.int .i64 ln) := z1
            have hs1 : wx.heap.size ≤ w1.heap.size ∨ True := Or.inr trivial
            clear hP1 x0 x1 x2 x3 x4 x5 x6 x7 x8 x9 x10
            go_wp2_with fail
            refine (p_rread ln HP1.out).mono ?_
            rintro e w2 ⟨rfl, hP2, hb2⟩
            have HP2 := Lib.hid (hP2.al (.cells #[.int .u64 (rd1 ls ln).d0, .int .u64 (rd1 ls ln).d1, .int .u64 (rd1 ls ln).d2, .int .u64 (rd1 ls ln).d3, .int .u64 (rd1 ls ln).d4, .int .u64 (rd1 ls ln).d5, .int .u64 (rd1 ls ln).d6, .int .u64 (rd1 ls ln).d7] 34))
            have r0 : (w2.alloc (.cells #[.int .u64 (rd1 ls ln).d0, .int .u64 (rd1 ls ln).d1, .int .u64 (rd1 ls ln).d2, .int .u64 (rd1 ls ln).d3, .int .u64 (rd1 ls ln).d4, .int .u64 (rd1 ls ln).d5, .int .u64 (rd1 ls ln).d6, .int .u64 (rd1 ls ln).d7] 34)).cell? ⟨w1.heap.size, 0, none⟩ = some (.int .u64 (rd1 ls ln).d0) := ((Below.al hb2 _).cell (p := ⟨w1.heap.size, 0, none⟩) (by simp)).trans (by rw [cell_of_row _ _ _ _ 34 (0, 0) (heap_alloc_new w1 _)]; rfl)
            have r1 : (w2.alloc (.cells #[.int .u64 (rd1 ls ln).d0, .int .u64 (rd1 ls ln).d1, .int .u64 (rd1 ls ln).d2, .int .u64 (rd1 ls ln).d3, .int .u64 (rd1 ls ln).d4, .int .u64 (rd1 ls ln).d5, .int .u64 (rd1 ls ln).d6, .int .u64 (rd1 ls ln).d7] 34)).cell? ⟨w1.heap.size, 1, none⟩ = some (.int .u64 (rd1 ls ln).d1) := ((Below.al hb2 _).cell (p := ⟨w1.heap.size, 1, none⟩) (by simp)).trans (by rw [cell_of_row _ _ _ _ 34 (0, 0) (heap_alloc_new w1 _)]; rfl)
            have r2 : (w2.alloc (.cells #[.int .u64 (rd1 ls ln).d0, .int .u64 (rd1 ls ln).d1, .int .u64 (rd1 ls ln).d2, .int .u64 (rd1 ls ln).d3, .int .u64 (rd1 ls ln).d4, .int .u64 (rd1 ls ln).d5, .int .u64 (rd1 ls ln).d6, .int .u64 (rd1 ls ln).d7] 34)).cell? ⟨w1.heap.size, 2, none⟩ = some (.int .u64 (rd1 ls ln).d2) := ((Below.al hb2 _).cell (p := ⟨w1.heap.size, 2, none⟩) (by simp)).trans (by rw [cell_of_row _ _ _ _ 34 (0, 0) (heap_alloc_new w1 _)]; rfl)
            have r3 : (w2.alloc (.cells #[.int .u64 (rd1 ls ln).d0, .int .u64 (rd1 ls ln).d1, .int .u64 (rd1 ls ln).d2, .int .u64 (rd1 ls ln).d3, .int .u64 (rd1 ls ln).d4, .int .u64 (rd1 ls ln).d5, .int .u64 (rd1 ls ln).d6, .int .u64 (rd1 ls ln).d7] 34)).cell? ⟨w1.heap.size, 3, none⟩ = some (.int .u64 (rd1 ls ln).d3) := ((Below.al hb2 _).cell (p := ⟨w1.heap.size, 3, none⟩) (by simp)).trans (by rw [cell_of_row _ _ _ _ 34 (0, 0) (heap_alloc_new w1 _)]; rfl)
            have r4 : (w2.alloc (.cells #[.int .u64 (rd1 ls ln).d0, .int .u64 (rd1 ls ln).d1, .int .u64 (rd1 ls ln).d2, .int .u64 (rd1 ls ln).d3, .int .u64 (rd1 ls ln).d4, .int .u64 (rd1 ls ln).d5, .int .u64 (rd1 ls ln).d6, .int .u64 (rd1 ls ln).d7] 34)).cell? ⟨w1.heap.size, 4, none⟩ = some (.int .u64 (rd1 ls ln).d4) := ((Below.al hb2 _).cell (p := ⟨w1.heap.size, 4, none⟩) (by simp)).trans (by rw [cell_of_row _ _ _ _ 34 (0, 0) (heap_alloc_new w1 _)]; rfl)
            have r5 : (w2.alloc (.cells #[.int .u64 (rd1 ls ln).d0, .int .u64 (rd1 ls ln).d1, .int .u64 (rd1 ls ln).d2, .int .u64 (rd1 ls ln).d3, .int .u64 (rd1 ls ln).d4, .int .u64 (rd1 ls ln).d5, .int .u64 (rd1 ls ln).d6, .int .u64 (rd1 ls ln).d7] 34)).cell? ⟨w1.heap.size, 5, none⟩ = some (.int .u64 (rd1 ls ln).d5) := ((Below.al hb2 _).cell (p := ⟨w1.heap.size, 5, none⟩) (by simp)).trans (by rw [cell_of_row _ _ _ _ 34 (0, 0) (heap_alloc_new w1 _)]; rfl)
            have r6 : (w2.alloc (.cells #[.int .u64 (rd1 ls ln).d0, .int .u64 (rd1 ls ln).d1, .int .u64 (rd1 ls ln).d2, .int .u64 (rd1 ls ln).d3, .int .u64 (rd1 ls ln).d4, .int .u64 (rd1 ls ln).d5, .int .u64 (rd1 ls ln).d6, .int .u64 (rd1 ls ln).d7] 34)).cell? ⟨w1.heap.size, 6, none⟩ = some (.int .u64 (rd1 ls ln).d6) := ((Below.al hb2 _).cell (p := ⟨w1.heap.size, 6, none⟩) (by simp)).trans (by rw [cell_of_row _ _ _ _ 34 (0, 0) (heap_alloc_new w1 _)]; rfl)
            have r7 : (w2.alloc (.cells #[.int .u64 (rd1 ls ln).d0, .int .u64 (rd1 ls ln).d1, .int .u64 (rd1 ls ln).d2, .int .u64 (rd1 ls ln).d3, .int .u64 (rd1 ls ln).d4, .int .u64 (rd1 ls ln).d5, .int .u64 (rd1 ls ln).d6, .int .u64 (rd1 ls ln).d7] 34)).cell? ⟨w1.heap.size, 7, none⟩ = some (.int .u64 (rd1 ls ln).d7) := ((Below.al hb2 _).cell (p := ⟨w1.heap.size, 7, none⟩) (by simp)).trans (by rw [cell_of_row _ _ _ _ 34 (0, 0) (heap_alloc_new w1 _)]; rfl)
            have t0 : (w2.alloc (.cells #[.int .u64 (rd1 ls ln).d0, .int .u64 (rd1 ls ln).d1, .int .u64 (rd1 ls ln).d2, .int .u64 (rd1 ls ln).d3, .int .u64 (rd1 ls ln).d4, .int .u64 (rd1 ls ln).d5, .int .u64 (rd1 ls ln).d6, .int .u64 (rd1 ls ln).d7] 34)).cell? ⟨w2.heap.size, 0, none⟩ = some (.int .u64 (rd1 ls ln).d0) := by rw [cell_of_row _ _ _ _ 34 (0, 0) (heap_alloc_new w2 _)]; rfl
            have t1 : (w2.alloc (.cells #[.int .u64 (rd1 ls ln).d0, .int .u64 (rd1 ls ln).d1, .int .u64 (rd1 ls ln).d2, .int .u64 (rd1 ls ln).d3, .int .u64 (rd1 ls ln).d4, .int .u64 (rd1 ls ln).d5, .int .u64 (rd1 ls ln).d6, .int .u64 (rd1 ls ln).d7] 34)).cell? ⟨w2.heap.size, 1, none⟩ = some (.int .u64 (rd1 ls ln).d1) := by rw [cell_of_row _ _ _ _ 34 (0, 0) (heap_alloc_new w2 _)]; rfl
            have t2 : (w2.alloc (.cells #[.int .u64 (rd1 ls ln).d0, .int .u64 (rd1 ls ln).d1, .int .u64 (rd1 ls ln).d2, .int .u64 (rd1 ls ln).d3, .int .u64 (rd1 ls ln).d4, .int .u64 (rd1 ls ln).d5, .int .u64 (rd1 ls ln).d6, .int .u64 (rd1 ls ln).d7] 34)).cell? ⟨w2.heap.size, 2, none⟩ = some (.int .u64 (rd1 ls ln).d2) := by rw [cell_of_row _ _ _ _ 34 (0, 0) (heap_alloc_new w2 _)]; rfl
            have t3 : (w2.alloc (.cells #[.int .u64 (rd1 ls ln).d0, .int .u64 (rd1 ls ln).d1, .int .u64 (rd1 ls ln).d2, .int .u64 (rd1 ls ln).d3, .int .u64 (rd1 ls ln).d4, .int .u64 (rd1 ls ln).d5, .int .u64 (rd1 ls ln).d6, .int .u64 (rd1 ls ln).d7] 34)).cell? ⟨w2.heap.size, 3, none⟩ = some (.int .u64 (rd1 ls ln).d3) := by rw [cell_of_row _ _ _ _ 34 (0, 0) (heap_alloc_new w2 _)]; rfl
            have t4 : (w2.alloc (.cells #[.int .u64 (rd1 ls ln).d0, .int .u64 (rd1 ls ln).d1, .int .u64 (rd1 ls ln).d2, .int .u64 (rd1 ls ln).d3, .int .u64 (rd1 ls ln).d4, .int .u64 (rd1 ls ln).d5, .int .u64 (rd1 ls ln).d6, .int .u64 (rd1 ls ln).d7] 34)).cell? ⟨w2.heap.size, 4, none⟩ = some (.int .u64 (rd1 ls ln).d4) := by rw [cell_of_row _ _ _ _ 34 (0, 0) (heap_alloc_new w2 _)]; rfl
            have t5 : (w2.alloc (.cells #[.int .u64 (rd1 ls ln).d0, .int .u64 (rd1 ls ln).d1, .int .u64 (rd1 ls ln).d2, .int .u64 (rd1 ls ln).d3, .int .u64 (rd1 ls ln).d4, .int .u64 (rd1 ls ln).d5, .int .u64 (rd1 ls ln).d6, .int .u64 (rd1 ls ln).d7] 34)).cell? ⟨w2.heap.size, 5, none⟩ = some (.int .u64 (rd1 ls ln).d5) := by rw [cell_of_row _ _ _ _ 34 (0, 0) (heap_alloc_new w2 _)]; rfl
            have t6 : (w2.alloc (.cells #[.int .u64 (rd1 ls ln).d0, .int .u64 (rd1 ls ln).d1, .int .u64 (rd1 ls ln).d2, .int .u64 (rd1 ls ln).d3, .int .u64 (rd1 ls ln).d4, .int .u64 (rd1 ls ln).d5, .int .u64 (rd1 ls ln).d6, .int .u64 (rd1 ls ln).d7] 34)).cell? ⟨w2.heap.size, 6, none⟩ = some (.int .u64 (rd1 ls ln).d6) := by rw [cell_of_row _ _ _ _ 34 (0, 0) (heap_alloc_new w2 _)]; rfl
            have t7 : (w2.alloc (.cells #[.int .u64 (rd1 ls ln).d0, .int .u64 (rd1 ls ln).d1, .int .u64 (rd1 ls ln).d2, .int .u64 (rd1 ls ln).d3, .int .u64 (rd1 ls ln).d4, .int .u64 (rd1 ls ln).d5, .int .u64 (rd1 ls ln).d6, .int .u64 (rd1 ls ln).d7] 34)).cell? ⟨w2.heap.size, 7, none⟩ = some (.int .u64 (rd1 ls ln).d7) := by rw [cell_of_row _ _ _ _ 34 (0, 0) (heap_alloc_new w2 _)]; rfl
            have hz2 := fun w => run_neq_same w (rd1 ls ln)
            clear hP2 hb2 z1
            go_wp2_with fail
            go_meet
            exact ⟨_, _, _, rfl, rfl, HP2.out⟩
          by_cases k2 : kd = 2
          · subst k2
            go_wp2_with fail
            refine (p_fail hM HP.out).mono ?_
            rintro e w1 ⟨rfl, hP1⟩
            have HP1 := Lib.hid hP1
            clear hP1 x0 x1 x2 x3 x4 x5 x6 x7 x8 x9 x10
            go_wp2_with fail
            refine (p_rfail HP1.out).mono ?_
            rintro e w2 ⟨rfl, hP2⟩
            have HP2 := Lib.hid hP2
            clear hP2
            go_wp2_with fail
            go_meet
            exact ⟨_, _, _, rfl, rfl, HP2.out⟩
          by_cases k3 : kd = 3
          · subst k3
            have HRI := Lib.hid (HXS.out.below ((HP.out.al (.cells #[] 34)).b.bel)) 
            have hv10 : (wx.alloc (.cells #[] 34)).cell? ⟨X, 10, none⟩ = some (.slice ai k ci) := (HP.out.al (.cells #[] 34)).xc 10
            have hrx : Rds wx 8 (.slice ai k ci) k (encLns xs) := by rw [← HK.out]; rw [← HK.out] at HXS; exact HXS.out.below HP.out.b.bel
            have HRX := Lib.hid hrx
            clear hrx HRI x0 x1 x2 x3 x4 x5 x6 x7 x8 x9
            go_wp2_with (at_builtin; refine wpList_copy_new rfl _ _ 35 rfl 34 i0 _ 8 64 Try.underlying35 hi0 hz0 hz1 hz2 rfl wx rfl (.slice ai k ci) k (encLns xs) rfl HRX.out (encLns_one xs) (by unfold maxLen; omega) (by omega) ?_; intro v2 w2 hown2 hbel2)
            obtain ⟨a2, c2, rfl, hc21, hc22⟩ := hown2.any
            have hqx : q < wx.heap.size := HP.out.b.R.lt
            have hK : KAt w w2 d g q X B M v [.int .i64 3, .int .i64 ln, .int .u64 x.d0, .int .u64 x.d1, .int .u64 x.d2, .int .u64 x.d3, .int .u64 x.d4, .int .u64 x.d5, .int .u64 x.d6, .int .u64 x.d7, .slice ai k ci] ls ls wx.heap.size (.slice a2 k c2) xs := ⟨HP.out.below hbel2, by rw [HK.out]; exact hown2, hqx, HP.out.xlt, fun k hk hk' => by have := (hown2.lt k hk).1; have := (HP.out.b.R.own.lt k hk').2; omega⟩
            have HKA := Lib.hid hK
            have hl0 : 0 < ls.length := HP.out.b.R.n0
            clear hown2 hbel2 hK hv10
            have hKd := Lib.hid HKA.out.drew
            have u10 : w2.drew.cell? ⟨X, 10, none⟩ = some (.slice ai k ci) := hKd.out.p.xc 10
            go_region_law (first
              | (go_simp; go_at_call 17; refine (k_restore hl0 (Hid.out (by assumption))).mono ?_; rintro e w3 ⟨rfl, hP3⟩; have u10 : w3.cell? ⟨X, 10, none⟩ = some (.slice ai k ci) := hP3.p.xc 10; have HP3 := Lib.hid hP3; clear hP3)
              | (go_simp; go_at_call 18; refine (k_rrestore xs _ (by rw [HK.out]; exact HXS.out.below (KAt.p (Hid.out (by assumption))).b.bel) (Hid.out (by assumption))).mono ?_; rintro e w3 ⟨rfl, v3, hP3⟩; have u10 : w3.cell? ⟨X, 10, none⟩ = some (.slice ai k ci) := hP3.p.xc 10; have HP3 := Lib.hid hP3; clear hP3))
            all_goals
              go_wp2_with fail
              go_loopw [20] (fun i w' => ∃ t : Nat, t ≤ k ∧ i = .int .i64 t ∧ ∃ ys : List Ln, ys.length = k ∧ KAt w w' d g q X B M v3 [.int .i64 3, .int .i64 ln, .int .u64 x.d0, .int .u64 x.d1, .int .u64 x.d2, .int .u64 x.d3, .int .u64 x.d4, .int .u64 x.d5, .int .u64 x.d6, .int .u64 x.d7, .slice ai k ci] (rs1 ls xs) (rs1 ls xs) wx.heap.size (.slice a2 k c2) ys) (fun i _ => k - (intOf i).toNat)
              case atStart => exact ⟨0, by omega, rfl, xs, HK.out, HP3.out⟩
              case round =>
              obtain ⟨t, ht, rfl, ys, hys, hKA⟩ := hrel
              by_cases ht2 : t < k
              · obtain ⟨y, hy⟩ : ∃ y, ys[t]? = some y := ⟨_, List.getElem?_eq_getElem (by omega)⟩
                obtain ⟨gi, oi, ci', hvi, -⟩ := hKA.o.form (by omega)
                injection hvi with e1 e2 e3
                subst e1
                have ho := hKA.o
                rw [hys] at ho
                obtain ⟨hc, hf⟩ := own_lines ho (by omega) t y hy
                have y0 : wr.cell? ⟨gi, oi + t * 8, none⟩ = some (.int .u64 y.d0) := hc 0 _ rfl
                have y1 : wr.cell? ⟨gi, oi + t * 8 + 1, none⟩ = some (.int .u64 y.d1) := hc 1 _ rfl
                have y2 : wr.cell? ⟨gi, oi + t * 8 + 2, none⟩ = some (.int .u64 y.d2) := hc 2 _ rfl
                have y3 : wr.cell? ⟨gi, oi + t * 8 + 3, none⟩ = some (.int .u64 y.d3) := hc 3 _ rfl
                have y4 : wr.cell? ⟨gi, oi + t * 8 + 4, none⟩ = some (.int .u64 y.d4) := hc 4 _ rfl
                have y5 : wr.cell? ⟨gi, oi + t * 8 + 5, none⟩ = some (.int .u64 y.d5) := hc 5 _ rfl
                have y6 : wr.cell? ⟨gi, oi + t * 8 + 6, none⟩ = some (.int .u64 y.d6) := hc 6 _ rfl
                have y7 : wr.cell? ⟨gi, oi + t * 8 + 7, none⟩ = some (.int .u64 y.d7) := hc 7 _ rfl
                have hp : KAt w (wr.setCells gi (oi + t * 8) (encLn ⟨99, 0, 0, 0, 0, 0, 0, 0⟩)) d g q X B M v3 [.int .i64 3, .int .i64 ln, .int .u64 x.d0, .int .u64 x.d1, .int .u64 x.d2, .int .u64 x.d3, .int .u64 x.d4, .int .u64 x.d5, .int .u64 x.d6, .int .u64 x.d7, .slice ai k ci] (rs1 ls xs) (rs1 ls xs) wx.heap.size (.slice (some ⟨gi, oi, none⟩) k c2) (ys.set t ⟨99, 0, 0, 0, 0, 0, 0, 0⟩) := by
                  have h := KAt.put (ys := ys) (ci := c2) (gi := gi) (oi := oi) (by rw [hys]; exact hKA) t ⟨99, 0, 0, 0, 0, 0, 0, 0⟩ (by omega)
                  rw [hys] at h
                  exact h
                have HPU := Lib.hid hp
                have HLS := Lib.hid (show (ys.set t ⟨99, 0, 0, 0, 0, 0, 0, 0⟩).length = k by rw [List.length_set]; exact hys)
                have ht0 : (0 : Int) ≤ (t : Int) := by omega
                have ht1 : (t : Int) < (k : Int) := by omega
                clear hp hc hy ho hKA hys e2 e3
                go_wp2
                go_roundw
                case rel => exact ⟨t + 1, by omega, by go_num, _, HLS.out, HPU.out⟩
                case measure => simp [intOf]; omega
              · have ht1 : ¬ (t : Int) < (k : Int) := by omega
                have HKP := Lib.hid hKA.p
                clear hKA hys
                go_wp2_with fail
                go_meet
                exact ⟨_, _, _, rfl, rfl, HKP.out⟩
          go_wp2_with fail
          go_meet
          exact ⟨_, _, _, rfl, rfl, HP.out⟩
        case rest =>
        obtain ⟨e1, ls', v', rfl, rfl, hP⟩ := hcut
        obtain ⟨gr, or_, cr, rfl, -⟩ := hP.b.R.form
        have HPd := Lib.hid hP.drew
        have c0 : wc.drew.cell? ⟨q, 0, none⟩ = some (.slice (some ⟨gr, or_, none⟩) ls'.length cr) := HPd.out.b.R.c0
        clear hP
        go_wp2_with fail
        have hee : (e1 != e1) = false := by simp
        have hee2 : (e1 == e1) = true := by simp
        go_region_held3 (fun w' => w'.cell? ⟨q, 0, none⟩ = some (.slice (some ⟨gr, or_, none⟩) ls'.length cr)) (first | exact c0 | assumption)
          (first
            | (go_at_call 20; refine (p_image (Hid.out (by assumption))).mono ?_; rintro e w3 ⟨v3, rfl, hP3, hO3⟩; have c0' : w3.cell? ⟨q, 0, none⟩ = some (.slice (some ⟨gr, or_, none⟩) ls'.length cr) := hP3.b.R.c0; have HO3 := Lib.hid hO3; have HP3 := Lib.hid hP3; clear hP3 hO3)
            | (go_at_call 19; refine (p_lines _ (Own.rds (Hid.out (by assumption))) (Hid.out (by assumption))).mono ?_; rintro e w4 ⟨rfl, hP4⟩; have c0'' : w4.cell? ⟨q, 0, none⟩ = some (.slice (some ⟨gr, or_, none⟩) ls'.length cr) := hP4.b.R.c0; have HP4 := Lib.hid hP4; clear hP4))
        all_goals
          go_wp2
          go_roundw
          case rel => exact ⟨j + 1, by omega, by go_num, _, _, HP4.out.b⟩
          case measure => simp [intOf]; omega
      · have hj1 : ¬ (j : Int) < (N : Int) := by omega
        have HB0 := Lib.hid hBs.bel
        clear hBs
        go_wp2_with fail
        refine (wakes_any _).mono ?_
        rintro e w5 ⟨rfl, hb5⟩
        have HB5 := Lib.hid (Below.then HB0.out hb5)
        clear hb5
        go_wp2
        go_ret
        exact ⟨rfl, HB5.out⟩
    · go_wp2_with fail
      refine (new_bad a b hab w).mono ?_
      rintro e w1 ⟨rfl, rfl⟩
      go_wp2_with fail
      refine (rnew_bad a b hab w).mono ?_
      rintro e w1 ⟨rfl, rfl⟩
      go_wp2_with fail
      go_loopw [11] (fun i w' => i = .int .i64 0 ∧ w' = w) (fun i _ => 0)
      case atStart => exact ⟨rfl, rfl⟩
      case round =>
      obtain ⟨rfl, rfl⟩ := hrel
      by_cases h1 : 0 < N
      · have h1' : (0 : Int) < (N : Int) := by omega
        go_wp2_with fail
        refine (wakes_any _).mono ?_
        rintro e w5 ⟨rfl, hb5⟩
        have HB5 := Lib.hid hb5
        clear hb5
        go_wp2
        go_ret
        exact ⟨rfl, HB5.out⟩
      · have h1' : ¬ (0 : Int) < (N : Int) := by omega
        go_wp2_with fail
        refine (wakes_any _).mono ?_
        rintro e w5 ⟨rfl, hb5⟩
        have HB5 := Lib.hid hb5
        clear hb5
        go_wp2
        go_ret
        exact ⟨rfl, HB5.out⟩
section
variable {H : Type} {enc : TypeId × Value → H}
theorem plays_walk {base : Nat} (W : World) (v0 v1 v2 : Value) (a0 : Arg enc Try.prog W base 3 v0) (a1 : Arg enc Try.prog W base 3 v1) (a2 : Arg enc Try.prog W base 22 v2) :
    Calls Try.prog 3 #[v0, v1, v2] W fun e w' => e = .returned (.bool true) ∧ Below W.heap.size W w' := by
  obtain ⟨ss, hok, hr⟩ := open_steps a2
  obtain ⟨n, rfl, _⟩ := a0.int Try.underlying3
  obtain ⟨m, rfl, _⟩ := a1.int Try.underlying3
  exact plays_law n m v2 ss W hr hok
end
end Go.Proofs.Ytkkeilbaieflmaa
