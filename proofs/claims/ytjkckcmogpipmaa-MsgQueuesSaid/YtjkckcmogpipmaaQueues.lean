/-
  MsgQueues, walked: the loop.
-/
import Derived.Test.YtjkckcmogpipmaaQInv
namespace Go.Proofs.Ytjkckcmogpipmaa
open Go.RowKit
attribute [local go_sem ↓] Go.wp_at_zero Go.wp_at_succ

theorem below_cells {B : Nat} {w w' : World} {g : Nat} (hb : Below B w w') (hg : g < B) (o : Nat) : w'.cell? ⟨g, o, none⟩ = w.cell? ⟨g, o, none⟩ := hb.cell (p := ⟨g, o, none⟩) hg

set_option maxRecDepth 100000 in
set_option maxHeartbeats 8000000 in
theorem queues_law (v : Value) (ss : List St) (w : World) (hr : Rds w 13 v ss.length (encL encSt ss)) :
    Calls Try.prog 6 #[v] w fun e w' => e = .returned (.bool true) ∧ Below w.heap.size w w' := by
  obtain ⟨_, ad, cap, rfl, p2, p3, p4, p5⟩ := hr
  have ma : maxLen = 9223372036854775807 := rfl
  rw [ma] at p3
  clear ma
  obtain ⟨n, hn⟩ : ∃ n, ss.length = n := ⟨_, rfl⟩
  have HN := Lib.hid hn
  rw [hn] at p2 p4 p5
  simp only [hn]
  clear hn
  by_cases hbig : 300 < n
  · have hb' : (300 : Int) < (n : Int) := by omega
    clear p4 p5
    go_enter Try.func6, Try.ntmps6
    go_wp2_with fail
    refine (wakes_any _).mono ?_
    rintro e w5 ⟨rfl, hb5⟩
    have HB5 := Lib.hid hb5
    clear hb5
    go_wp2
    go_ret
    exact ⟨rfl, HB5.out⟩
  · have hb' : ¬ (300 : Int) < (n : Int) := by omega
    go_enter Try.func6, Try.ntmps6
    go_wp2
    have F0 : Inv w.heap.size w (w.alloc (.cells #[.slice none 0 0] 33)) w.heap.size [] (.slice none 0 0) :=
      ⟨rfl, Nat.le_refl _, Below.al (Below.refl _ _) _, _, QAt.new w 33 w.heap.size (Nat.le_refl _), Own.nil _ _ _ _, by simp [Value.ownBlock], by simp [Value.ownBlock]⟩
    have H0 := Lib.hid F0
    have P5 := Lib.hid p5
    clear F0 p5
    go_loopw [4, 5] (fun u i w' => ∃ (j : Nat) (ms : List M), j ≤ n ∧ i = .int .i64 j ∧ ms.length ≤ j ∧ Inv w.heap.size w w' w.heap.size ms u) (fun _ i _ => n - (intOf i).toNat)
    case atStart => exact ⟨0, [], by omega, rfl, by simp, H0.out⟩
    case round =>
    obtain ⟨j, ms, hj, rfl, hms, hI⟩ := hrel
    by_cases hlt : j < n
    · obtain ⟨⟨kd, k, l, a, b, d0, d1, d2, d3, d4, d5, d6, d7⟩, hs⟩ : ∃ s, ss[j]? = some s := ⟨_, List.getElem?_eq_getElem (by rw [HN.out]; exact hlt)⟩
      obtain ⟨g, o, rfl, hg, hc⟩ := P5.out (by omega)
      have f : ∀ i x, i < 13 → (encSt ⟨kd, k, l, a, b, d0, d1, d2, d3, d4, d5, d6, d7⟩)[i]? = some x → wr.cell? ⟨g, o + j * 13 + i, none⟩ = some x := fun i x hi hx => (hI.bel.cell (p := ⟨g, o + j * 13 + i, none⟩) hg).trans (by rw [Nat.add_assoc]; exact hc _ _ ((encL_get encSt_len ss j _ hs i hi).trans hx))
      have x0 : wr.cell? ⟨g, o + j * 13, none⟩ = some (.int .i64 kd) := f 0 _ (by omega) rfl
      have x1 : wr.cell? ⟨g, o + j * 13 + 1, none⟩ = some (.int .i64 k) := f 1 _ (by omega) rfl
      have x2 : wr.cell? ⟨g, o + j * 13 + 2, none⟩ = some (.int .i64 l) := f 2 _ (by omega) rfl
      have x3 : wr.cell? ⟨g, o + j * 13 + 3, none⟩ = some (.bool a) := f 3 _ (by omega) rfl
      have x4 : wr.cell? ⟨g, o + j * 13 + 4, none⟩ = some (.bool b) := f 4 _ (by omega) rfl
      have x5 : wr.cell? ⟨g, o + j * 13 + 5, none⟩ = some (.int .u64 d0) := f 5 _ (by omega) rfl
      have x6 : wr.cell? ⟨g, o + j * 13 + 6, none⟩ = some (.int .u64 d1) := f 6 _ (by omega) rfl
      have x7 : wr.cell? ⟨g, o + j * 13 + 7, none⟩ = some (.int .u64 d2) := f 7 _ (by omega) rfl
      have x8 : wr.cell? ⟨g, o + j * 13 + 8, none⟩ = some (.int .u64 d3) := f 8 _ (by omega) rfl
      have x9 : wr.cell? ⟨g, o + j * 13 + 9, none⟩ = some (.int .u64 d4) := f 9 _ (by omega) rfl
      have x10 : wr.cell? ⟨g, o + j * 13 + 10, none⟩ = some (.int .u64 d5) := f 10 _ (by omega) rfl
      have x11 : wr.cell? ⟨g, o + j * 13 + 11, none⟩ = some (.int .u64 d6) := f 11 _ (by omega) rfl
      have x12 : wr.cell? ⟨g, o + j * 13 + 12, none⟩ = some (.int .u64 d7) := f 12 _ (by omega) rfl
      obtain ⟨ua, uc, rfl, hu1, hu2⟩ := hI.own.any
      have hwl : w.heap.size < wr.heap.size := by obtain ⟨vq, hQq⟩ := hI.queue; exact hQq.lt
      have HI := Lib.hid hI
      clear f hc hI
      have hj1 : (j : Int) < (n : Int) := by omega
      have hj0 : (0 : Int) ≤ (j : Int) := by omega
      obtain ⟨i0, hi0, hz0, hz1, hz2⟩ := info_parts info26
      have hne : ¬ wr.heap.size = w.heap.size := by omega
      by_cases k0 : kd = 0
      · subst k0
        by_cases hg : goodM k l a b (zM d0 d1 d2 d3 d4 d5 d6 d7) = true
        · obtain ⟨v1, hq1, hsep⟩ := HI.out.sep
          have hq2 := hq1.al (.cells #[.int .i64 0, .int .i64 k, .int .i64 l, .bool a, .bool b, .int .u64 d0, .int .u64 d1, .int .u64 d2, .int .u64 d3, .int .u64 d4, .int .u64 d5, .int .u64 d6, .int .u64 d7] 43)
          have hbx : ¬ (wr.heap.size = w.heap.size ∨ v1.ownBlock = some wr.heap.size) := by
            rintro (h | h)
            · exact hne h
            · have := (hq1.own.lt _ h).2; omega
          have HQ2 := Lib.hid hq2; have HG := Lib.hid hg; have HS := Lib.hid hsep; have HX := Lib.hid hbx
          clear hq1 hq2 hg hsep hbx
          go_wp2_with fail
          refine (push_ok w.heap.size w.heap.size v1 ms.length (encMs ms) k l a b d0 d1 d2 d3 d4 d5 d6 d7 _ HQ2.out HG.out (by omega)).mono ?_
          rintro e w1 ⟨rfl, v2, hQ2, ho, hn2⟩
          have HH := Lib.hid (Inv.push (m := ⟨k, l, a, b, d0, d1, d2, d3, d4, d5, d6, d7⟩) (HI.out.below (Below.al (Below.refl _ _) (.cells #[.int .i64 0, .int .i64 k, .int .i64 l, .bool a, .bool b, .int .u64 d0, .int .u64 d1, .int .u64 d2, .int .u64 d3, .int .u64 d4, .int .u64 d5, .int .u64 d6, .int .u64 d7] 43))) HQ2.out HS.out hQ2 ho hn2)
          have hy : ∀ o, w1.cell? ⟨wr.heap.size, o, none⟩ = (#[.int .i64 0, .int .i64 k, .int .i64 l, .bool a, .bool b, .int .u64 d0, .int .u64 d1, .int .u64 d2, .int .u64 d3, .int .u64 d4, .int .u64 d5, .int .u64 d6, .int .u64 d7] : Array Value)[o]? := fun o => (ho.cell (p := ⟨wr.heap.size, o, none⟩) (by simp) HX.out).trans (cell_of_row _ _ _ _ 43 (0, 0) (heap_alloc_new wr _))
          have hl1 : wr.heap.size < w1.heap.size := Nat.lt_of_lt_of_le (by simp) ho.size
          clear hQ2 ho hn2
          go_wp2_with fail
          refine (goodr_any _ _ _ _ _ _ _ _ _ _ _ _ _).mono ?_
          rintro e w2 ⟨rfl, hb2⟩
          rw [HG.out]
          have HH2 := Lib.hid (HH.out.below hb2)
          have hy2 : ∀ o, w2.cell? ⟨wr.heap.size, o, none⟩ = (#[.int .i64 0, .int .i64 k, .int .i64 l, .bool a, .bool b, .int .u64 d0, .int .u64 d1, .int .u64 d2, .int .u64 d3, .int .u64 d4, .int .u64 d5, .int .u64 d6, .int .u64 d7] : Array Value)[o]? := fun o => (hb2.cell (p := ⟨wr.heap.size, o, none⟩) hl1).trans (hy o)
          clear hb2 hy
          go_wp2_with (at_builtin; refine wpList_append_Own _ rfl _ _ 31 rfl w.heap.size 26 i0 _ 12 88 Try.underlying31 hi0 hz0 hz1 hz2 rfl (.slice ua ms.length uc) ms.length (encMs ms) rfl (HH2.out.own.below' (Below.al (Below.refl _ _) _)) ⟨w2.heap.size, 0, none⟩ 1 1 [.int .i64 k, .int .i64 l, .bool a, .bool b, .int .u64 d0, .int .u64 d1, .int .u64 d2, .int .u64 d3, .int .u64 d4, .int .u64 d5, .int .u64 d6, .int .u64 d7] rfl rfl (World.news_of_block (cs := #[.int .i64 k, .int .i64 l, .bool a, .bool b, .int .u64 d0, .int .u64 d1, .int .u64 d2, .int .u64 d3, .int .u64 d4, .int .u64 d5, .int .u64 d6, .int .u64 d7]) (t := 26) (fr := (0, 0)) (heap_alloc_new w2 _)) (by simp [Value.oneCell']) (by omega) (by unfold maxLen; omega) (by omega) (by simp; have := HH2.out.low; omega) ?_; intro g' o' cap' w3 hown3 honly3 hat3 hlt3)
          have HT := Lib.hid (Half.whole (HH2.out.below (Below.al (Below.refl _ _) (.cells #[.int .i64 k, .int .i64 l, .bool a, .bool b, .int .u64 d0, .int .u64 d1, .int .u64 d2, .int .u64 d3, .int .u64 d4, .int .u64 d5, .int .u64 d6, .int .u64 d7] 26))) honly3 hown3 rfl hat3)
          clear hown3 honly3 hat3
          obtain ⟨vq, hQq⟩ := HT.out.queue' (N := ms.length + 1) (by first | rfl | simp)
          have HQq := Lib.hid hQq
          clear hQq
          go_wp2_with fail
          refine (len_any _ _ vq _ _ _ HQq.out).mono ?_
          rintro e wl ⟨rfl, rfl⟩
          obtain ⟨vq2, hQq2⟩ := HT.out.queue
          have HQq2 := Lib.hid hQq2
          clear hQq2
          go_wp2_with fail
          refine (all_any _ _ vq2 _ _ HQq2.out (by first | omega | (simp; done) | (simp; omega))).mono ?_
          rintro e wa ⟨va, rfl, hoa, hba⟩
          have HT2 := Lib.hid (HT.out.below hba)
          have HOA := Lib.hid hoa
          clear hba hoa
          go_wp2_with fail
          refine (msgs_any va _ _ _ _ HOA.out.rds HT2.out.own.rds).mono ?_
          rintro e wm ⟨rfl, hbm⟩
          have HT3 := Lib.hid (HT2.out.below hbm)
          clear hbm
          rw [show decide (ms ++ [⟨k, l, a, b, d0, d1, d2, d3, d4, d5, d6, d7⟩] = ms ++ [⟨k, l, a, b, d0, d1, d2, d3, d4, d5, d6, d7⟩]) = true from decide_eq_true rfl]
          go_wp2
          go_roundw
          case rel => exact ⟨j + 1, ms ++ [⟨k, l, a, b, d0, d1, d2, d3, d4, d5, d6, d7⟩], by omega, by go_num, by first | omega | (simp; done) | (simp; omega), HT3.out⟩
          case measure => simp [intOf]; omega
        · have hg' : goodM k l a b (zM d0 d1 d2 d3 d4 d5 d6 d7) = false := by simpa using hg
          have HG := Lib.hid hg'
          clear hg hg'
          go_wp2_with fail
          refine (push_form w.heap.size k l a b d0 d1 d2 d3 d4 d5 d6 d7 _ HG.out).mono ?_
          rintro e w1 ⟨rfl, hb1⟩
          have HH := Lib.hid ((HI.out.below (Below.al (Below.refl _ _) (.cells #[.int .i64 0, .int .i64 k, .int .i64 l, .bool a, .bool b, .int .u64 d0, .int .u64 d1, .int .u64 d2, .int .u64 d3, .int .u64 d4, .int .u64 d5, .int .u64 d6, .int .u64 d7] 43))).below hb1)
          have hy : ∀ o, w1.cell? ⟨wr.heap.size, o, none⟩ = (#[.int .i64 0, .int .i64 k, .int .i64 l, .bool a, .bool b, .int .u64 d0, .int .u64 d1, .int .u64 d2, .int .u64 d3, .int .u64 d4, .int .u64 d5, .int .u64 d6, .int .u64 d7] : Array Value)[o]? := fun o => (hb1.cell (p := ⟨wr.heap.size, o, none⟩) (by simp)).trans (cell_of_row _ _ _ _ 43 (0, 0) (heap_alloc_new wr _))
          clear hb1
          go_wp2_with fail
          refine (goodr_any _ _ _ _ _ _ _ _ _ _ _ _ _).mono ?_
          rintro e w2 ⟨rfl, hb2⟩
          rw [HG.out]
          have HT := Lib.hid (HH.out.below hb2)
          clear hb2 hy
          obtain ⟨vq, hQq⟩ := HT.out.queue' (N := ms.length) (by first | rfl | simp)
          have HQq := Lib.hid hQq
          clear hQq
          go_wp2_with fail
          refine (len_any _ _ vq _ _ _ HQq.out).mono ?_
          rintro e wl ⟨rfl, rfl⟩
          obtain ⟨vq2, hQq2⟩ := HT.out.queue
          have HQq2 := Lib.hid hQq2
          clear hQq2
          go_wp2_with fail
          refine (all_any _ _ vq2 _ _ HQq2.out (by first | omega | (simp; done) | (simp; omega))).mono ?_
          rintro e wa ⟨va, rfl, hoa, hba⟩
          have HT2 := Lib.hid (HT.out.below hba)
          have HOA := Lib.hid hoa
          clear hba hoa
          go_wp2_with fail
          refine (msgs_any va _ _ _ _ HOA.out.rds HT2.out.own.rds).mono ?_
          rintro e wm ⟨rfl, hbm⟩
          have HT3 := Lib.hid (HT2.out.below hbm)
          clear hbm
          rw [show decide (ms = ms) = true from decide_eq_true rfl]
          go_wp2
          go_roundw
          case rel => exact ⟨j + 1, ms, by omega, by go_num, by first | omega | (simp; done) | (simp; omega), HT3.out⟩
          case measure => simp [intOf]; omega
      · have hk0 : (kd == 0) = false := by simpa using k0
        by_cases k3 : kd = 3
        · subst k3
          obtain ⟨vq, hq⟩ := HI.out.queue
          have HQ := Lib.hid (hq.al (.cells #[.int .i64 3, .int .i64 k, .int .i64 l, .bool a, .bool b, .int .u64 d0, .int .u64 d1, .int .u64 d2, .int .u64 d3, .int .u64 d4, .int .u64 d5, .int .u64 d6, .int .u64 d7] 43))
          clear hq
          go_wp2_with fail
          refine (clear_any w.heap.size w.heap.size vq ms.length (encMs ms) _ HQ.out).mono ?_
          rintro e w1 ⟨rfl, hq1, ho1⟩
          have HT := Lib.hid (Inv.wipe (HI.out.below (Below.al (Below.refl _ _) (.cells #[.int .i64 3, .int .i64 k, .int .i64 l, .bool a, .bool b, .int .u64 d0, .int .u64 d1, .int .u64 d2, .int .u64 d3, .int .u64 d4, .int .u64 d5, .int .u64 d6, .int .u64 d7] 43))) hq1 ho1)
          clear hq1 ho1
          obtain ⟨vq, hQq⟩ := HT.out.queue' (N := 0) (by first | rfl | simp)
          have HQq := Lib.hid hQq
          clear hQq
          go_wp2_with fail
          refine (len_any _ _ vq _ _ _ HQq.out).mono ?_
          rintro e wl ⟨rfl, rfl⟩
          obtain ⟨vq2, hQq2⟩ := HT.out.queue
          have HQq2 := Lib.hid hQq2
          clear hQq2
          go_wp2_with fail
          refine (all_any _ _ vq2 _ _ HQq2.out (by first | omega | (simp; done) | (simp; omega))).mono ?_
          rintro e wa ⟨va, rfl, hoa, hba⟩
          have HT2 := Lib.hid (HT.out.below hba)
          have HOA := Lib.hid hoa
          clear hba hoa
          go_wp2_with fail
          refine (msgs_any va _ _ _ _ HOA.out.rds HT2.out.own.rds).mono ?_
          rintro e wm ⟨rfl, hbm⟩
          have HT3 := Lib.hid (HT2.out.below hbm)
          clear hbm
          rw [show decide (([] : List M) = ([] : List M)) = true from decide_eq_true rfl]
          go_wp2
          go_roundw
          case rel => exact ⟨j + 1, ([] : List M), by omega, by go_num, by first | omega | (simp; done) | (simp; omega), HT3.out⟩
          case measure => simp [intOf]; omega
        · have hk3 : (kd == 3) = false := by simpa using k3
          by_cases k12 : kd = 1 ∨ kd = 2
          · rcases k12 with k1 | k1
            · subst k1
              cases ms with
              | nil =>
                have hI1 := HI.out.below (Below.al (Below.al (Below.refl _ _) (.cells #[.int .i64 1, .int .i64 k, .int .i64 l, .bool a, .bool b, .int .u64 d0, .int .u64 d1, .int .u64 d2, .int .u64 d3, .int .u64 d4, .int .u64 d5, .int .u64 d6, .int .u64 d7] 43)) (.cells #[.int .i64 0, .int .i64 0, .bool false, .bool false, .int .u64 0, .int .u64 0, .int .u64 0, .int .u64 0, .int .u64 0, .int .u64 0, .int .u64 0, .int .u64 0] 26))
                obtain ⟨vq, hq⟩ := hI1.queue
                have HQ := Lib.hid hq
                have hi22 := info22
                simp only [List.length_nil] at HI
                clear hI1 hq hms hu1
                go_wp2_with fail
                refine (pop_no _ _ (head_none w.heap.size w.heap.size vq _ (HQ.out.al _))).mono ?_
                rintro e w1 ⟨rfl, hb⟩
                unfold noM
                have hz : ∀ o, w1.cell? ⟨wr.heap.size + 1, o, none⟩ = (#[.int .i64 0, .int .i64 0, .bool false, .bool false, .int .u64 0, .int .u64 0, .int .u64 0, .int .u64 0, .int .u64 0, .int .u64 0, .int .u64 0, .int .u64 0] : Array Value)[o]? := fun o => (hb.cell (p := ⟨wr.heap.size + 1, o, none⟩) (by simp)).trans (by rw [show wr.heap.size + 1 = (wr.alloc (.cells #[.int .i64 1, .int .i64 k, .int .i64 l, .bool a, .bool b, .int .u64 d0, .int .u64 d1, .int .u64 d2, .int .u64 d3, .int .u64 d4, .int .u64 d5, .int .u64 d6, .int .u64 d7] 43)).heap.size by simp]; exact cell_of_row _ _ _ _ 26 (0, 0) (heap_alloc_new _ _))
                have hzf := fun o' => hb.frozen (p := ⟨wr.heap.size + 1, o', none⟩) (by simp)
                have hy : ∀ o, w1.cell? ⟨wr.heap.size, o, none⟩ = (#[.int .i64 1, .int .i64 k, .int .i64 l, .bool a, .bool b, .int .u64 d0, .int .u64 d1, .int .u64 d2, .int .u64 d3, .int .u64 d4, .int .u64 d5, .int .u64 d6, .int .u64 d7] : Array Value)[o]? := fun o => (hb.cell (p := ⟨wr.heap.size, o, none⟩) (by simp; omega)).trans ((World.cell?_alloc_old _ _ _ (by simp)).trans (cell_of_row _ _ _ _ 43 (0, 0) (heap_alloc_new wr _)))
                obtain ⟨w2, hw2⟩ : ∃ w2, w2 = w1.setCells (wr.heap.size + 1) 0 [.int .i64 0, .int .i64 0, .bool false, .bool false, .int .u64 0, .int .u64 0, .int .u64 0, .int .u64 0, .int .u64 0, .int .u64 0, .int .u64 0, .int .u64 0] := ⟨_, rfl⟩
                have ho2 : Only (fun k => k = wr.heap.size + 1) w1 w2 := by rw [hw2]; exact Only.setCells _ _ _ _
                have hc2 : ∀ o, o < 12 → w2.cell? ⟨wr.heap.size + 1, o, none⟩ = ([.int .i64 0, .int .i64 0, .bool false, .bool false, .int .u64 0, .int .u64 0, .int .u64 0, .int .u64 0, .int .u64 0, .int .u64 0, .int .u64 0, .int .u64 0] : List Value)[o]? := fun o ho => by
                  rw [hw2]
                  exact cells_setCells w1 _ [.int .i64 0, .int .i64 0, .bool false, .bool false, .int .u64 0, .int .u64 0, .int .u64 0, .int .u64 0, .int .u64 0, .int .u64 0, .int .u64 0, .int .u64 0] (fun j hj => by rw [hz]; simp at hj ⊢; omega) o ho
                have HB := (Below.then (Below.al (Below.al (Below.refl _ wr) (.cells #[.int .i64 1, .int .i64 k, .int .i64 l, .bool a, .bool b, .int .u64 d0, .int .u64 d1, .int .u64 d2, .int .u64 d3, .int .u64 d4, .int .u64 d5, .int .u64 d6, .int .u64 d7] 43)) (.cells #[.int .i64 0, .int .i64 0, .bool false, .bool false, .int .u64 0, .int .u64 0, .int .u64 0, .int .u64 0, .int .u64 0, .int .u64 0, .int .u64 0, .int .u64 0] 26)) hb)
                have hs1 : wr.heap.size < w1.heap.size := by have := hb.size; simp at this; omega
                have HT := Lib.hid (HI.out.boxed HB ho2 (by omega))
                have hy2 : ∀ o, w2.cell? ⟨wr.heap.size, o, none⟩ = (#[.int .i64 1, .int .i64 k, .int .i64 l, .bool a, .bool b, .int .u64 d0, .int .u64 d1, .int .u64 d2, .int .u64 d3, .int .u64 d4, .int .u64 d5, .int .u64 d6, .int .u64 d7] : Array Value)[o]? := fun o => (ho2.cell (p := ⟨wr.heap.size, o, none⟩) hs1 (by simp)).trans (hy o)
                have z0 : w2.cell? ⟨wr.heap.size + 1, 0, none⟩ = some (.int .i64 0) := hc2 0 (by omega)
                have z1 : w2.cell? ⟨wr.heap.size + 1, 1, none⟩ = some (.int .i64 0) := hc2 1 (by omega)
                have z2 : w2.cell? ⟨wr.heap.size + 1, 2, none⟩ = some (.bool false) := hc2 2 (by omega)
                have z3 : w2.cell? ⟨wr.heap.size + 1, 3, none⟩ = some (.bool false) := hc2 3 (by omega)
                have z4 : w2.cell? ⟨wr.heap.size + 1, 4, none⟩ = some (.int .u64 0) := hc2 4 (by omega)
                have z5 : w2.cell? ⟨wr.heap.size + 1, 5, none⟩ = some (.int .u64 0) := hc2 5 (by omega)
                have z6 : w2.cell? ⟨wr.heap.size + 1, 6, none⟩ = some (.int .u64 0) := hc2 6 (by omega)
                have z7 : w2.cell? ⟨wr.heap.size + 1, 7, none⟩ = some (.int .u64 0) := hc2 7 (by omega)
                have z8 : w2.cell? ⟨wr.heap.size + 1, 8, none⟩ = some (.int .u64 0) := hc2 8 (by omega)
                have z9 : w2.cell? ⟨wr.heap.size + 1, 9, none⟩ = some (.int .u64 0) := hc2 9 (by omega)
                have z10 : w2.cell? ⟨wr.heap.size + 1, 10, none⟩ = some (.int .u64 0) := hc2 10 (by omega)
                have z11 : w2.cell? ⟨wr.heap.size + 1, 11, none⟩ = some (.int .u64 0) := hc2 11 (by omega)
                have HW2 := Lib.hid hw2
                clear hb HB ho2 hc2 hw2
                go_wp2_with fail
                change Code.wp _ _ _ _ (w1.setCells (wr.heap.size + 1) 0 [.int .i64 0, .int .i64 0, .bool false, .bool false, .int .u64 0, .int .u64 0, .int .u64 0, .int .u64 0, .int .u64 0, .int .u64 0, .int .u64 0, .int .u64 0])
                rw [← HW2.out]
                clear hz hzf hy
                go_quiet (fail)
                have HT1 := Lib.hid (HT.out.below (below_drewN (Below.refl _ _) nq))
                clear HT
                have HT := HT1
                clear HT1
                obtain ⟨vq, hQq⟩ := HT.out.queue' (N := 0) (by first | rfl | simp)
                have HQq := Lib.hid hQq
                clear hQq
                go_wp2_with fail
                refine (len_any _ _ vq _ _ _ HQq.out).mono ?_
                rintro e wl ⟨rfl, rfl⟩
                obtain ⟨vq2, hQq2⟩ := HT.out.queue
                have HQq2 := Lib.hid hQq2
                clear hQq2
                go_wp2_with fail
                refine (all_any _ _ vq2 _ _ HQq2.out (by first | omega | (simp; done) | (simp; omega))).mono ?_
                rintro e wa ⟨va, rfl, hoa, hba⟩
                have HT2 := Lib.hid (HT.out.below hba)
                have HOA := Lib.hid hoa
                clear hba hoa
                go_wp2_with fail
                refine (msgs_any va _ _ _ _ HOA.out.rds HT2.out.own.rds).mono ?_
                rintro e wm ⟨rfl, hbm⟩
                have HT3 := Lib.hid (HT2.out.below hbm)
                clear hbm
                rw [show decide (([] : List M) = ([] : List M)) = true from decide_eq_true rfl]
                go_wp2
                go_roundw
                case rel => exact ⟨j + 1, ([] : List M), by omega, by go_num, by first | omega | (simp; done) | (simp; omega), HT3.out⟩
                case measure => simp [intOf]; omega
              | cons m' ms' =>
                obtain ⟨k', l', a', b', e0, e1, e2, e3, e4, e5, e6, e7⟩ := m'
                obtain ⟨vq, hq, hsep⟩ := HI.out.sep
                obtain ⟨gu, ou, uc2, hv, hv1, hv2, hv3, hv4, hv5, hv6⟩ := HI.out.own.form (by simp)
                injection hv with hv7 _ hv8; subst hv8
                subst hv7
                clear hv5 hv6
                obtain ⟨N, hNN⟩ : ∃ N, ms'.length = N := ⟨_, rfl⟩
                have HNN := Lib.hid hNN
                have hp : (0 : Int) < (N : Int) + 1 := by omega
                have hqs := neq_M_self ⟨k', l', a', b', e0, e1, e2, e3, e4, e5, e6, e7⟩
                dsimp only at hqs
                simp only [List.length_cons, hNN] at hms hu1 hv1 ⊢
                have hq2 : QAt ((wr.alloc (.cells #[.int .i64 1, .int .i64 k, .int .i64 l, .bool a, .bool b, .int .u64 d0, .int .u64 d1, .int .u64 d2, .int .u64 d3, .int .u64 d4, .int .u64 d5, .int .u64 d6, .int .u64 d7] 43)).alloc (.cells #[.int .i64 0, .int .i64 0, .bool false, .bool false, .int .u64 0, .int .u64 0, .int .u64 0, .int .u64 0, .int .u64 0, .int .u64 0, .int .u64 0, .int .u64 0] 26)) w.heap.size w.heap.size vq (N + 1) ([.int .i64 k', .int .i64 l', .bool a', .bool b', .int .u64 e0, .int .u64 e1, .int .u64 e2, .int .u64 e3, .int .u64 e4, .int .u64 e5, .int .u64 e6, .int .u64 e7] ++ encMs ms') := by
                  have := (hq.al (.cells #[.int .i64 1, .int .i64 k, .int .i64 l, .bool a, .bool b, .int .u64 d0, .int .u64 d1, .int .u64 d2, .int .u64 d3, .int .u64 d4, .int .u64 d5, .int .u64 d6, .int .u64 d7] 43)).al (.cells #[.int .i64 0, .int .i64 0, .bool false, .bool false, .int .u64 0, .int .u64 0, .int .u64 0, .int .u64 0, .int .u64 0, .int .u64 0, .int .u64 0, .int .u64 0] 26)
                  rw [List.length_cons, hNN] at this
                  exact this
                have HQ := Lib.hid hq2; have HQ0 := Lib.hid hq; have HSEP := Lib.hid hsep
                clear hq hq2 hsep hNN
                go_wp2_with fail
                refine (pop_some w.heap.size w.heap.size vq N (encMs ms') k' l' a' b' e0 e1 e2 e3 e4 e5 e6 e7 _ HQ.out).mono ?_
                rintro e w1 ⟨rfl, v2, hQ2, hb, hn2⟩
                have hz : ∀ o, w1.cell? ⟨wr.heap.size + 1, o, none⟩ = (#[.int .i64 0, .int .i64 0, .bool false, .bool false, .int .u64 0, .int .u64 0, .int .u64 0, .int .u64 0, .int .u64 0, .int .u64 0, .int .u64 0, .int .u64 0] : Array Value)[o]? := fun o => (hb.cell (p := ⟨wr.heap.size + 1, o, none⟩) (by simp) (by simp; omega)).trans (by rw [show wr.heap.size + 1 = (wr.alloc (.cells #[.int .i64 1, .int .i64 k, .int .i64 l, .bool a, .bool b, .int .u64 d0, .int .u64 d1, .int .u64 d2, .int .u64 d3, .int .u64 d4, .int .u64 d5, .int .u64 d6, .int .u64 d7] 43)).heap.size by simp]; exact cell_of_row _ _ _ _ 26 (0, 0) (heap_alloc_new _ _))
                have hzf := fun o' => hb.frozen (p := ⟨wr.heap.size + 1, o', none⟩) (by simp) (by simp; omega)
                have hy : ∀ o, w1.cell? ⟨wr.heap.size, o, none⟩ = (#[.int .i64 1, .int .i64 k, .int .i64 l, .bool a, .bool b, .int .u64 d0, .int .u64 d1, .int .u64 d2, .int .u64 d3, .int .u64 d4, .int .u64 d5, .int .u64 d6, .int .u64 d7] : Array Value)[o]? := fun o => (hb.cell (p := ⟨wr.heap.size, o, none⟩) (by simp; omega) (by simp; omega)).trans ((World.cell?_alloc_old _ _ _ (by simp)).trans (cell_of_row _ _ _ _ 43 (0, 0) (heap_alloc_new wr _)))
                obtain ⟨w2, hw2⟩ : ∃ w2, w2 = w1.setCells (wr.heap.size + 1) 0 [.int .i64 k', .int .i64 l', .bool a', .bool b', .int .u64 e0, .int .u64 e1, .int .u64 e2, .int .u64 e3, .int .u64 e4, .int .u64 e5, .int .u64 e6, .int .u64 e7] := ⟨_, rfl⟩
                have ho2 : Only (fun k => k = wr.heap.size + 1) w1 w2 := by rw [hw2]; exact Only.setCells _ _ _ _
                have hc2 : ∀ o, o < 12 → w2.cell? ⟨wr.heap.size + 1, o, none⟩ = ([.int .i64 k', .int .i64 l', .bool a', .bool b', .int .u64 e0, .int .u64 e1, .int .u64 e2, .int .u64 e3, .int .u64 e4, .int .u64 e5, .int .u64 e6, .int .u64 e7] : List Value)[o]? := fun o ho => by
                  rw [hw2]
                  exact cells_setCells w1 _ [.int .i64 k', .int .i64 l', .bool a', .bool b', .int .u64 e0, .int .u64 e1, .int .u64 e2, .int .u64 e3, .int .u64 e4, .int .u64 e5, .int .u64 e6, .int .u64 e7] (fun j hj => by rw [hz]; simp at hj ⊢; omega) o ho
                have HB := Below.al (Below.al (Below.refl wr.heap.size wr) (.cells #[.int .i64 1, .int .i64 k, .int .i64 l, .bool a, .bool b, .int .u64 d0, .int .u64 d1, .int .u64 d2, .int .u64 d3, .int .u64 d4, .int .u64 d5, .int .u64 d6, .int .u64 d7] 43)) (.cells #[.int .i64 0, .int .i64 0, .bool false, .bool false, .int .u64 0, .int .u64 0, .int .u64 0, .int .u64 0, .int .u64 0, .int .u64 0, .int .u64 0, .int .u64 0] 26)
                have hs1 : wr.heap.size < w1.heap.size := by have := hb.size; simp at this; omega
                have hy2 : ∀ o, w2.cell? ⟨wr.heap.size, o, none⟩ = (#[.int .i64 1, .int .i64 k, .int .i64 l, .bool a, .bool b, .int .u64 d0, .int .u64 d1, .int .u64 d2, .int .u64 d3, .int .u64 d4, .int .u64 d5, .int .u64 d6, .int .u64 d7] : Array Value)[o]? := fun o => (ho2.cell (p := ⟨wr.heap.size, o, none⟩) hs1 (by simp)).trans (hy o)
                have HT := Lib.hid (Inv.pop (m := ⟨k', l', a', b', e0, e1, e2, e3, e4, e5, e6, e7⟩) HI.out HB HQ0.out HSEP.out (by rw [HNN.out]; exact hQ2) hb hn2 ho2 (by omega))
                clear hQ2 hn2
                have hu := (by have h := HT.out.own; rw [List.length_cons, HNN.out] at h; exact h : Own w2 w.heap.size 26 12 (.slice (some ⟨gu, ou, none⟩) (N + 1) uc) (N + 1) _).cells (by simp)
                have z0 : w2.cell? ⟨wr.heap.size + 1, 0, none⟩ = some (.int .i64 k') := hc2 0 (by omega)
                have v0 : w2.cell? ⟨gu, ou, none⟩ = some (.int .i64 k') := hu 0 _ rfl
                have z1 : w2.cell? ⟨wr.heap.size + 1, 1, none⟩ = some (.int .i64 l') := hc2 1 (by omega)
                have v1 : w2.cell? ⟨gu, ou + 1, none⟩ = some (.int .i64 l') := hu 1 _ rfl
                have z2 : w2.cell? ⟨wr.heap.size + 1, 2, none⟩ = some (.bool a') := hc2 2 (by omega)
                have v2 : w2.cell? ⟨gu, ou + 2, none⟩ = some (.bool a') := hu 2 _ rfl
                have z3 : w2.cell? ⟨wr.heap.size + 1, 3, none⟩ = some (.bool b') := hc2 3 (by omega)
                have v3 : w2.cell? ⟨gu, ou + 3, none⟩ = some (.bool b') := hu 3 _ rfl
                have z4 : w2.cell? ⟨wr.heap.size + 1, 4, none⟩ = some (.int .u64 e0) := hc2 4 (by omega)
                have v4 : w2.cell? ⟨gu, ou + 4, none⟩ = some (.int .u64 e0) := hu 4 _ rfl
                have z5 : w2.cell? ⟨wr.heap.size + 1, 5, none⟩ = some (.int .u64 e1) := hc2 5 (by omega)
                have v5 : w2.cell? ⟨gu, ou + 5, none⟩ = some (.int .u64 e1) := hu 5 _ rfl
                have z6 : w2.cell? ⟨wr.heap.size + 1, 6, none⟩ = some (.int .u64 e2) := hc2 6 (by omega)
                have v6 : w2.cell? ⟨gu, ou + 6, none⟩ = some (.int .u64 e2) := hu 6 _ rfl
                have z7 : w2.cell? ⟨wr.heap.size + 1, 7, none⟩ = some (.int .u64 e3) := hc2 7 (by omega)
                have v7 : w2.cell? ⟨gu, ou + 7, none⟩ = some (.int .u64 e3) := hu 7 _ rfl
                have z8 : w2.cell? ⟨wr.heap.size + 1, 8, none⟩ = some (.int .u64 e4) := hc2 8 (by omega)
                have v8 : w2.cell? ⟨gu, ou + 8, none⟩ = some (.int .u64 e4) := hu 8 _ rfl
                have z9 : w2.cell? ⟨wr.heap.size + 1, 9, none⟩ = some (.int .u64 e5) := hc2 9 (by omega)
                have v9 : w2.cell? ⟨gu, ou + 9, none⟩ = some (.int .u64 e5) := hu 9 _ rfl
                have z10 : w2.cell? ⟨wr.heap.size + 1, 10, none⟩ = some (.int .u64 e6) := hc2 10 (by omega)
                have v10 : w2.cell? ⟨gu, ou + 10, none⟩ = some (.int .u64 e6) := hu 10 _ rfl
                have z11 : w2.cell? ⟨wr.heap.size + 1, 11, none⟩ = some (.int .u64 e7) := hc2 11 (by omega)
                have v11 : w2.cell? ⟨gu, ou + 11, none⟩ = some (.int .u64 e7) := hu 11 _ rfl
                have HW2 := Lib.hid hw2
                clear hb HB ho2 hc2 hw2 hu
                go_wp2_with fail
                change Code.wp _ _ _ _ (w1.setCells (wr.heap.size + 1) 0 [.int .i64 k', .int .i64 l', .bool a', .bool b', .int .u64 e0, .int .u64 e1, .int .u64 e2, .int .u64 e3, .int .u64 e4, .int .u64 e5, .int .u64 e6, .int .u64 e7])
                rw [← HW2.out]
                clear hz hzf hy
                go_quiet (fail)
                have HT1 := Lib.hid (HT.out.below (below_drewN (Below.refl _ _) nq))
                clear HT
                have HT := HT1
                clear HT1
                by_cases hcap : uc = 1
                · subst hcap
                  have hN0 : N = 0 := by omega
                  subst hN0
                  clear hv1 hu1 hp
                  have HT0 := HT.out.cut.1 rfl
                  rw [HNN.out] at HT0
                  clear HT
                  have HT := Lib.hid HT0
                  clear HT0
                  obtain ⟨vq, hQq⟩ := HT.out.queue' (N := 0) HNN.out
                  have HQq := Lib.hid hQq
                  clear hQq
                  go_wp2_with fail
                  refine (len_any _ _ vq _ _ _ HQq.out).mono ?_
                  rintro e wl ⟨rfl, rfl⟩
                  obtain ⟨vq2, hQq2⟩ := HT.out.queue
                  have HQq2 := Lib.hid hQq2
                  clear hQq2
                  go_wp2_with fail
                  refine (all_any _ _ vq2 _ _ HQq2.out (by rw [HNN.out]; omega)).mono ?_
                  rintro e wa ⟨va, rfl, hoa, hba⟩
                  have HT2 := Lib.hid (HT.out.below hba)
                  have HOA := Lib.hid hoa
                  clear hba hoa
                  go_wp2_with fail
                  refine (msgs_any va _ _ _ _ HOA.out.rds HT2.out.own.rds).mono ?_
                  rintro e wm ⟨rfl, hbm⟩
                  have HT3 := Lib.hid (HT2.out.below hbm)
                  clear hbm
                  rw [show decide (ms' = ms') = true from decide_eq_true rfl]
                  go_wp2
                  go_roundw
                  case rel => exact ⟨j + 1, ms', by omega, by go_num, by rw [HNN.out]; omega, HT3.out⟩
                  case measure => simp [intOf]; omega
                · have HT0 := HT.out.cut.2 hcap
                  have hcap2 : ¬ uc - 1 = 0 := by omega
                  rw [HNN.out] at HT0
                  clear HT
                  have HT := Lib.hid HT0
                  clear HT0
                  obtain ⟨vq, hQq⟩ := HT.out.queue' (N := N) HNN.out
                  have HQq := Lib.hid hQq
                  clear hQq
                  go_wp2_with fail
                  refine (len_any _ _ vq _ _ _ HQq.out).mono ?_
                  rintro e wl ⟨rfl, rfl⟩
                  obtain ⟨vq2, hQq2⟩ := HT.out.queue
                  have HQq2 := Lib.hid hQq2
                  clear hQq2
                  go_wp2_with fail
                  refine (all_any _ _ vq2 _ _ HQq2.out (by rw [HNN.out]; omega)).mono ?_
                  rintro e wa ⟨va, rfl, hoa, hba⟩
                  have HT2 := Lib.hid (HT.out.below hba)
                  have HOA := Lib.hid hoa
                  clear hba hoa
                  go_wp2_with fail
                  refine (msgs_any va _ _ _ _ HOA.out.rds HT2.out.own.rds).mono ?_
                  rintro e wm ⟨rfl, hbm⟩
                  have HT3 := Lib.hid (HT2.out.below hbm)
                  clear hbm
                  rw [show decide (ms' = ms') = true from decide_eq_true rfl]
                  go_wp2
                  go_roundw
                  case rel => exact ⟨j + 1, ms', by omega, by go_num, by rw [HNN.out]; omega, HT3.out⟩
                  case measure => simp [intOf]; omega
            · subst k1
              cases ms with
              | nil =>
                have hI1 := HI.out.below (Below.al (Below.al (Below.refl _ _) (.cells #[.int .i64 2, .int .i64 k, .int .i64 l, .bool a, .bool b, .int .u64 d0, .int .u64 d1, .int .u64 d2, .int .u64 d3, .int .u64 d4, .int .u64 d5, .int .u64 d6, .int .u64 d7] 43)) (.cells #[.int .i64 0, .int .i64 0, .bool false, .bool false, .int .u64 0, .int .u64 0, .int .u64 0, .int .u64 0, .int .u64 0, .int .u64 0, .int .u64 0, .int .u64 0] 26))
                obtain ⟨vq, hq⟩ := hI1.queue
                have HQ := Lib.hid hq
                have hi22 := info22
                simp only [List.length_nil] at HI
                clear hI1 hq hms hu1
                go_wp2_with fail
                refine (head_none w.heap.size w.heap.size vq _ HQ.out).mono ?_
                rintro e w1 ⟨rfl, hb⟩
                unfold noM
                have hz : ∀ o, w1.cell? ⟨wr.heap.size + 1, o, none⟩ = (#[.int .i64 0, .int .i64 0, .bool false, .bool false, .int .u64 0, .int .u64 0, .int .u64 0, .int .u64 0, .int .u64 0, .int .u64 0, .int .u64 0, .int .u64 0] : Array Value)[o]? := fun o => (hb.cell (p := ⟨wr.heap.size + 1, o, none⟩) (by simp)).trans (by rw [show wr.heap.size + 1 = (wr.alloc (.cells #[.int .i64 2, .int .i64 k, .int .i64 l, .bool a, .bool b, .int .u64 d0, .int .u64 d1, .int .u64 d2, .int .u64 d3, .int .u64 d4, .int .u64 d5, .int .u64 d6, .int .u64 d7] 43)).heap.size by simp]; exact cell_of_row _ _ _ _ 26 (0, 0) (heap_alloc_new _ _))
                have hzf := fun o' => hb.frozen (p := ⟨wr.heap.size + 1, o', none⟩) (by simp)
                have hy : ∀ o, w1.cell? ⟨wr.heap.size, o, none⟩ = (#[.int .i64 2, .int .i64 k, .int .i64 l, .bool a, .bool b, .int .u64 d0, .int .u64 d1, .int .u64 d2, .int .u64 d3, .int .u64 d4, .int .u64 d5, .int .u64 d6, .int .u64 d7] : Array Value)[o]? := fun o => (hb.cell (p := ⟨wr.heap.size, o, none⟩) (by simp; omega)).trans ((World.cell?_alloc_old _ _ _ (by simp)).trans (cell_of_row _ _ _ _ 43 (0, 0) (heap_alloc_new wr _)))
                obtain ⟨w2, hw2⟩ : ∃ w2, w2 = w1.setCells (wr.heap.size + 1) 0 [.int .i64 0, .int .i64 0, .bool false, .bool false, .int .u64 0, .int .u64 0, .int .u64 0, .int .u64 0, .int .u64 0, .int .u64 0, .int .u64 0, .int .u64 0] := ⟨_, rfl⟩
                have ho2 : Only (fun k => k = wr.heap.size + 1) w1 w2 := by rw [hw2]; exact Only.setCells _ _ _ _
                have hc2 : ∀ o, o < 12 → w2.cell? ⟨wr.heap.size + 1, o, none⟩ = ([.int .i64 0, .int .i64 0, .bool false, .bool false, .int .u64 0, .int .u64 0, .int .u64 0, .int .u64 0, .int .u64 0, .int .u64 0, .int .u64 0, .int .u64 0] : List Value)[o]? := fun o ho => by
                  rw [hw2]
                  exact cells_setCells w1 _ [.int .i64 0, .int .i64 0, .bool false, .bool false, .int .u64 0, .int .u64 0, .int .u64 0, .int .u64 0, .int .u64 0, .int .u64 0, .int .u64 0, .int .u64 0] (fun j hj => by rw [hz]; simp at hj ⊢; omega) o ho
                have HB := (Below.then (Below.al (Below.al (Below.refl _ wr) (.cells #[.int .i64 2, .int .i64 k, .int .i64 l, .bool a, .bool b, .int .u64 d0, .int .u64 d1, .int .u64 d2, .int .u64 d3, .int .u64 d4, .int .u64 d5, .int .u64 d6, .int .u64 d7] 43)) (.cells #[.int .i64 0, .int .i64 0, .bool false, .bool false, .int .u64 0, .int .u64 0, .int .u64 0, .int .u64 0, .int .u64 0, .int .u64 0, .int .u64 0, .int .u64 0] 26)) hb)
                have hs1 : wr.heap.size < w1.heap.size := by have := hb.size; simp at this; omega
                have HT := Lib.hid (HI.out.boxed HB ho2 (by omega))
                have hy2 : ∀ o, w2.cell? ⟨wr.heap.size, o, none⟩ = (#[.int .i64 2, .int .i64 k, .int .i64 l, .bool a, .bool b, .int .u64 d0, .int .u64 d1, .int .u64 d2, .int .u64 d3, .int .u64 d4, .int .u64 d5, .int .u64 d6, .int .u64 d7] : Array Value)[o]? := fun o => (ho2.cell (p := ⟨wr.heap.size, o, none⟩) hs1 (by simp)).trans (hy o)
                have z0 : w2.cell? ⟨wr.heap.size + 1, 0, none⟩ = some (.int .i64 0) := hc2 0 (by omega)
                have z1 : w2.cell? ⟨wr.heap.size + 1, 1, none⟩ = some (.int .i64 0) := hc2 1 (by omega)
                have z2 : w2.cell? ⟨wr.heap.size + 1, 2, none⟩ = some (.bool false) := hc2 2 (by omega)
                have z3 : w2.cell? ⟨wr.heap.size + 1, 3, none⟩ = some (.bool false) := hc2 3 (by omega)
                have z4 : w2.cell? ⟨wr.heap.size + 1, 4, none⟩ = some (.int .u64 0) := hc2 4 (by omega)
                have z5 : w2.cell? ⟨wr.heap.size + 1, 5, none⟩ = some (.int .u64 0) := hc2 5 (by omega)
                have z6 : w2.cell? ⟨wr.heap.size + 1, 6, none⟩ = some (.int .u64 0) := hc2 6 (by omega)
                have z7 : w2.cell? ⟨wr.heap.size + 1, 7, none⟩ = some (.int .u64 0) := hc2 7 (by omega)
                have z8 : w2.cell? ⟨wr.heap.size + 1, 8, none⟩ = some (.int .u64 0) := hc2 8 (by omega)
                have z9 : w2.cell? ⟨wr.heap.size + 1, 9, none⟩ = some (.int .u64 0) := hc2 9 (by omega)
                have z10 : w2.cell? ⟨wr.heap.size + 1, 10, none⟩ = some (.int .u64 0) := hc2 10 (by omega)
                have z11 : w2.cell? ⟨wr.heap.size + 1, 11, none⟩ = some (.int .u64 0) := hc2 11 (by omega)
                have HW2 := Lib.hid hw2
                clear hb HB ho2 hc2 hw2
                go_wp2_with fail
                change Code.wp _ _ _ _ (w1.setCells (wr.heap.size + 1) 0 [.int .i64 0, .int .i64 0, .bool false, .bool false, .int .u64 0, .int .u64 0, .int .u64 0, .int .u64 0, .int .u64 0, .int .u64 0, .int .u64 0, .int .u64 0])
                rw [← HW2.out]
                clear hz hzf hy
                go_quiet (fail)
                have HT1 := Lib.hid (HT.out.below (below_drewN (Below.refl _ _) nq))
                clear HT
                have HT := HT1
                clear HT1
                obtain ⟨vq, hQq⟩ := HT.out.queue' (N := 0) (by first | rfl | simp)
                have HQq := Lib.hid hQq
                clear hQq
                go_wp2_with fail
                refine (len_any _ _ vq _ _ _ HQq.out).mono ?_
                rintro e wl ⟨rfl, rfl⟩
                obtain ⟨vq2, hQq2⟩ := HT.out.queue
                have HQq2 := Lib.hid hQq2
                clear hQq2
                go_wp2_with fail
                refine (all_any _ _ vq2 _ _ HQq2.out (by first | omega | (simp; done) | (simp; omega))).mono ?_
                rintro e wa ⟨va, rfl, hoa, hba⟩
                have HT2 := Lib.hid (HT.out.below hba)
                have HOA := Lib.hid hoa
                clear hba hoa
                go_wp2_with fail
                refine (msgs_any va _ _ _ _ HOA.out.rds HT2.out.own.rds).mono ?_
                rintro e wm ⟨rfl, hbm⟩
                have HT3 := Lib.hid (HT2.out.below hbm)
                clear hbm
                rw [show decide (([] : List M) = ([] : List M)) = true from decide_eq_true rfl]
                go_wp2
                go_roundw
                case rel => exact ⟨j + 1, ([] : List M), by omega, by go_num, by first | omega | (simp; done) | (simp; omega), HT3.out⟩
                case measure => simp [intOf]; omega
              | cons m' ms' =>
                obtain ⟨k', l', a', b', e0, e1, e2, e3, e4, e5, e6, e7⟩ := m'
                obtain ⟨vq, hq, hsep⟩ := HI.out.sep
                obtain ⟨gu, ou, uc2, hv, hv1, hv2, hv3, hv4, hv5, hv6⟩ := HI.out.own.form (by simp)
                injection hv with hv7 _ hv8; subst hv8
                subst hv7
                clear hv5 hv6
                obtain ⟨N, hNN⟩ : ∃ N, ms'.length = N := ⟨_, rfl⟩
                have HNN := Lib.hid hNN
                have hp : (0 : Int) < (N : Int) + 1 := by omega
                have hqs := neq_M_self ⟨k', l', a', b', e0, e1, e2, e3, e4, e5, e6, e7⟩
                dsimp only at hqs
                simp only [List.length_cons, hNN] at hms hu1 hv1 ⊢
                have hq2 : QAt ((wr.alloc (.cells #[.int .i64 2, .int .i64 k, .int .i64 l, .bool a, .bool b, .int .u64 d0, .int .u64 d1, .int .u64 d2, .int .u64 d3, .int .u64 d4, .int .u64 d5, .int .u64 d6, .int .u64 d7] 43)).alloc (.cells #[.int .i64 0, .int .i64 0, .bool false, .bool false, .int .u64 0, .int .u64 0, .int .u64 0, .int .u64 0, .int .u64 0, .int .u64 0, .int .u64 0, .int .u64 0] 26)) w.heap.size w.heap.size vq (N + 1) ([.int .i64 k', .int .i64 l', .bool a', .bool b', .int .u64 e0, .int .u64 e1, .int .u64 e2, .int .u64 e3, .int .u64 e4, .int .u64 e5, .int .u64 e6, .int .u64 e7] ++ encMs ms') := by
                  have := (hq.al (.cells #[.int .i64 2, .int .i64 k, .int .i64 l, .bool a, .bool b, .int .u64 d0, .int .u64 d1, .int .u64 d2, .int .u64 d3, .int .u64 d4, .int .u64 d5, .int .u64 d6, .int .u64 d7] 43)).al (.cells #[.int .i64 0, .int .i64 0, .bool false, .bool false, .int .u64 0, .int .u64 0, .int .u64 0, .int .u64 0, .int .u64 0, .int .u64 0, .int .u64 0, .int .u64 0] 26)
                  rw [List.length_cons, hNN] at this
                  exact this
                have HQ := Lib.hid hq2; have HQ0 := Lib.hid hq; have HSEP := Lib.hid hsep
                clear hq hq2 hsep hNN
                go_wp2_with fail
                refine (head_some w.heap.size w.heap.size vq N (encMs ms') k' l' a' b' e0 e1 e2 e3 e4 e5 e6 e7 _ HQ.out).mono ?_
                rintro e w1 ⟨rfl, hb⟩
                have hz : ∀ o, w1.cell? ⟨wr.heap.size + 1, o, none⟩ = (#[.int .i64 0, .int .i64 0, .bool false, .bool false, .int .u64 0, .int .u64 0, .int .u64 0, .int .u64 0, .int .u64 0, .int .u64 0, .int .u64 0, .int .u64 0] : Array Value)[o]? := fun o => (hb.cell (p := ⟨wr.heap.size + 1, o, none⟩) (by simp)).trans (by rw [show wr.heap.size + 1 = (wr.alloc (.cells #[.int .i64 2, .int .i64 k, .int .i64 l, .bool a, .bool b, .int .u64 d0, .int .u64 d1, .int .u64 d2, .int .u64 d3, .int .u64 d4, .int .u64 d5, .int .u64 d6, .int .u64 d7] 43)).heap.size by simp]; exact cell_of_row _ _ _ _ 26 (0, 0) (heap_alloc_new _ _))
                have hzf := fun o' => hb.frozen (p := ⟨wr.heap.size + 1, o', none⟩) (by simp)
                have hy : ∀ o, w1.cell? ⟨wr.heap.size, o, none⟩ = (#[.int .i64 2, .int .i64 k, .int .i64 l, .bool a, .bool b, .int .u64 d0, .int .u64 d1, .int .u64 d2, .int .u64 d3, .int .u64 d4, .int .u64 d5, .int .u64 d6, .int .u64 d7] : Array Value)[o]? := fun o => (hb.cell (p := ⟨wr.heap.size, o, none⟩) (by simp; omega)).trans ((World.cell?_alloc_old _ _ _ (by simp)).trans (cell_of_row _ _ _ _ 43 (0, 0) (heap_alloc_new wr _)))
                obtain ⟨w2, hw2⟩ : ∃ w2, w2 = w1.setCells (wr.heap.size + 1) 0 [.int .i64 k', .int .i64 l', .bool a', .bool b', .int .u64 e0, .int .u64 e1, .int .u64 e2, .int .u64 e3, .int .u64 e4, .int .u64 e5, .int .u64 e6, .int .u64 e7] := ⟨_, rfl⟩
                have ho2 : Only (fun k => k = wr.heap.size + 1) w1 w2 := by rw [hw2]; exact Only.setCells _ _ _ _
                have hc2 : ∀ o, o < 12 → w2.cell? ⟨wr.heap.size + 1, o, none⟩ = ([.int .i64 k', .int .i64 l', .bool a', .bool b', .int .u64 e0, .int .u64 e1, .int .u64 e2, .int .u64 e3, .int .u64 e4, .int .u64 e5, .int .u64 e6, .int .u64 e7] : List Value)[o]? := fun o ho => by
                  rw [hw2]
                  exact cells_setCells w1 _ [.int .i64 k', .int .i64 l', .bool a', .bool b', .int .u64 e0, .int .u64 e1, .int .u64 e2, .int .u64 e3, .int .u64 e4, .int .u64 e5, .int .u64 e6, .int .u64 e7] (fun j hj => by rw [hz]; simp at hj ⊢; omega) o ho
                have HB := Below.al (Below.al (Below.refl wr.heap.size wr) (.cells #[.int .i64 2, .int .i64 k, .int .i64 l, .bool a, .bool b, .int .u64 d0, .int .u64 d1, .int .u64 d2, .int .u64 d3, .int .u64 d4, .int .u64 d5, .int .u64 d6, .int .u64 d7] 43)) (.cells #[.int .i64 0, .int .i64 0, .bool false, .bool false, .int .u64 0, .int .u64 0, .int .u64 0, .int .u64 0, .int .u64 0, .int .u64 0, .int .u64 0, .int .u64 0] 26)
                have hs1 : wr.heap.size < w1.heap.size := by have := hb.size; simp at this; omega
                have hy2 : ∀ o, w2.cell? ⟨wr.heap.size, o, none⟩ = (#[.int .i64 2, .int .i64 k, .int .i64 l, .bool a, .bool b, .int .u64 d0, .int .u64 d1, .int .u64 d2, .int .u64 d3, .int .u64 d4, .int .u64 d5, .int .u64 d6, .int .u64 d7] : Array Value)[o]? := fun o => (ho2.cell (p := ⟨wr.heap.size, o, none⟩) hs1 (by simp)).trans (hy o)
                have hT := HI.out.boxed (Below.then HB hb) ho2 (by omega)
                rw [List.length_cons, HNN.out] at hT
                have HT := Lib.hid hT
                clear hT
                have hu := (by have h := HT.out.own; rw [List.length_cons, HNN.out] at h; exact h : Own w2 w.heap.size 26 12 (.slice (some ⟨gu, ou, none⟩) (N + 1) uc) (N + 1) _).cells (by simp)
                have z0 : w2.cell? ⟨wr.heap.size + 1, 0, none⟩ = some (.int .i64 k') := hc2 0 (by omega)
                have v0 : w2.cell? ⟨gu, ou, none⟩ = some (.int .i64 k') := hu 0 _ rfl
                have z1 : w2.cell? ⟨wr.heap.size + 1, 1, none⟩ = some (.int .i64 l') := hc2 1 (by omega)
                have v1 : w2.cell? ⟨gu, ou + 1, none⟩ = some (.int .i64 l') := hu 1 _ rfl
                have z2 : w2.cell? ⟨wr.heap.size + 1, 2, none⟩ = some (.bool a') := hc2 2 (by omega)
                have v2 : w2.cell? ⟨gu, ou + 2, none⟩ = some (.bool a') := hu 2 _ rfl
                have z3 : w2.cell? ⟨wr.heap.size + 1, 3, none⟩ = some (.bool b') := hc2 3 (by omega)
                have v3 : w2.cell? ⟨gu, ou + 3, none⟩ = some (.bool b') := hu 3 _ rfl
                have z4 : w2.cell? ⟨wr.heap.size + 1, 4, none⟩ = some (.int .u64 e0) := hc2 4 (by omega)
                have v4 : w2.cell? ⟨gu, ou + 4, none⟩ = some (.int .u64 e0) := hu 4 _ rfl
                have z5 : w2.cell? ⟨wr.heap.size + 1, 5, none⟩ = some (.int .u64 e1) := hc2 5 (by omega)
                have v5 : w2.cell? ⟨gu, ou + 5, none⟩ = some (.int .u64 e1) := hu 5 _ rfl
                have z6 : w2.cell? ⟨wr.heap.size + 1, 6, none⟩ = some (.int .u64 e2) := hc2 6 (by omega)
                have v6 : w2.cell? ⟨gu, ou + 6, none⟩ = some (.int .u64 e2) := hu 6 _ rfl
                have z7 : w2.cell? ⟨wr.heap.size + 1, 7, none⟩ = some (.int .u64 e3) := hc2 7 (by omega)
                have v7 : w2.cell? ⟨gu, ou + 7, none⟩ = some (.int .u64 e3) := hu 7 _ rfl
                have z8 : w2.cell? ⟨wr.heap.size + 1, 8, none⟩ = some (.int .u64 e4) := hc2 8 (by omega)
                have v8 : w2.cell? ⟨gu, ou + 8, none⟩ = some (.int .u64 e4) := hu 8 _ rfl
                have z9 : w2.cell? ⟨wr.heap.size + 1, 9, none⟩ = some (.int .u64 e5) := hc2 9 (by omega)
                have v9 : w2.cell? ⟨gu, ou + 9, none⟩ = some (.int .u64 e5) := hu 9 _ rfl
                have z10 : w2.cell? ⟨wr.heap.size + 1, 10, none⟩ = some (.int .u64 e6) := hc2 10 (by omega)
                have v10 : w2.cell? ⟨gu, ou + 10, none⟩ = some (.int .u64 e6) := hu 10 _ rfl
                have z11 : w2.cell? ⟨wr.heap.size + 1, 11, none⟩ = some (.int .u64 e7) := hc2 11 (by omega)
                have v11 : w2.cell? ⟨gu, ou + 11, none⟩ = some (.int .u64 e7) := hu 11 _ rfl
                have HW2 := Lib.hid hw2
                clear hb HB ho2 hc2 hw2 hu
                go_wp2_with fail
                change Code.wp _ _ _ _ (w1.setCells (wr.heap.size + 1) 0 [.int .i64 k', .int .i64 l', .bool a', .bool b', .int .u64 e0, .int .u64 e1, .int .u64 e2, .int .u64 e3, .int .u64 e4, .int .u64 e5, .int .u64 e6, .int .u64 e7])
                rw [← HW2.out]
                clear hz hzf hy
                go_quiet (fail)
                have HT1 := Lib.hid (HT.out.below (below_drewN (Below.refl _ _) nq))
                clear HT
                have HT := HT1
                clear HT1
                obtain ⟨vq, hQq⟩ := HT.out.queue' (N := N + 1) (by rw [List.length_cons, HNN.out])
                have HQq := Lib.hid hQq
                clear hQq
                go_wp2_with fail
                refine (len_any _ _ vq _ _ _ HQq.out).mono ?_
                rintro e wl ⟨rfl, rfl⟩
                obtain ⟨vq2, hQq2⟩ := HT.out.queue
                have HQq2 := Lib.hid hQq2
                clear hQq2
                go_wp2_with fail
                refine (all_any _ _ vq2 _ _ HQq2.out (by rw [List.length_cons, HNN.out]; omega)).mono ?_
                rintro e wa ⟨va, rfl, hoa, hba⟩
                have HT2 := Lib.hid (HT.out.below hba)
                have HOA := Lib.hid hoa
                clear hba hoa
                go_wp2_with fail
                refine (msgs_any va _ _ _ _ HOA.out.rds HT2.out.own.rds).mono ?_
                rintro e wm ⟨rfl, hbm⟩
                have HT3 := Lib.hid (HT2.out.below hbm)
                clear hbm
                rw [show decide (⟨k', l', a', b', e0, e1, e2, e3, e4, e5, e6, e7⟩ :: ms' = ⟨k', l', a', b', e0, e1, e2, e3, e4, e5, e6, e7⟩ :: ms') = true from decide_eq_true rfl]
                go_wp2
                go_roundw
                case rel => exact ⟨j + 1, ⟨k', l', a', b', e0, e1, e2, e3, e4, e5, e6, e7⟩ :: ms', by omega, by go_num, by rw [List.length_cons, HNN.out]; omega, HT3.out⟩
                case measure => simp [intOf]; omega
          · have hk1 : (kd == 1) = false := by simp; omega
            have hk2 : (kd == 2) = false := by simp; omega
            have HT := Lib.hid (HI.out.below (Below.al (Below.refl _ _) (.cells #[.int .i64 kd, .int .i64 k, .int .i64 l, .bool a, .bool b, .int .u64 d0, .int .u64 d1, .int .u64 d2, .int .u64 d3, .int .u64 d4, .int .u64 d5, .int .u64 d6, .int .u64 d7] 43)))
            obtain ⟨vq, hQq⟩ := HT.out.queue' (N := ms.length) (by first | rfl | simp)
            have HQq := Lib.hid hQq
            clear hQq
            go_wp2_with fail
            refine (len_any _ _ vq _ _ _ HQq.out).mono ?_
            rintro e wl ⟨rfl, rfl⟩
            obtain ⟨vq2, hQq2⟩ := HT.out.queue
            have HQq2 := Lib.hid hQq2
            clear hQq2
            go_wp2_with fail
            refine (all_any _ _ vq2 _ _ HQq2.out (by first | omega | (simp; done) | (simp; omega))).mono ?_
            rintro e wa ⟨va, rfl, hoa, hba⟩
            have HT2 := Lib.hid (HT.out.below hba)
            have HOA := Lib.hid hoa
            clear hba hoa
            go_wp2_with fail
            refine (msgs_any va _ _ _ _ HOA.out.rds HT2.out.own.rds).mono ?_
            rintro e wm ⟨rfl, hbm⟩
            have HT3 := Lib.hid (HT2.out.below hbm)
            clear hbm
            rw [show decide (ms = ms) = true from decide_eq_true rfl]
            go_wp2
            go_roundw
            case rel => exact ⟨j + 1, ms, by omega, by go_num, by first | omega | (simp; done) | (simp; omega), HT3.out⟩
            case measure => simp [intOf]; omega
    · have hjn : ¬ (j : Int) < (n : Int) := by omega
      have HI := Lib.hid hI
      clear hI
      go_wp2_with fail
      refine (wakes_any _).mono ?_
      rintro e w5 ⟨rfl, hb5⟩
      have HB5 := Lib.hid hb5
      clear hb5
      go_wp2
      go_ret
      exact ⟨rfl, Below.then HI.out.bel HB5.out⟩
end Go.Proofs.Ytjkckcmogpipmaa
