/-
  The reference's memory of lines: each call on a device.
-/
import Derived.Test.YtkkeilbaieflmaaNvm3
namespace Go.Proofs.Ytkkeilbaieflmaa
open Go.RowKit
attribute [local go_sem ↓] Go.wp_at_zero Go.wp_at_succ

theorem below_setCells {w w1 : World} (hb : Below w.heap.size w w1) (vs : List Value) : Below w.heap.size w (w1.setCells w.heap.size 0 vs) :=
  hb.trans ((Only.setCells w.heap.size vs 0 w1).below hb.size (fun k hk => by omega))
theorem only_setCells {w w1 : World} {S : Nat → Prop} (hb : Only S w w1) (g o : Nat) (hg : S g) (vs : List Value) : Only S w (w1.setCells g o vs).drew :=
  (hb.trans ((Only.setCells g vs o w1).mono (fun k _ hk => by rw [hk]; exact hg))).drew
/-- The reference's device at block q: its lines ls by the slice v, of which the first vol forget. -/
structure RAt (w : World) (q base : Nat) (v : Value) (ls : List Ln) (vol : Nat) : Prop where
  c0 : w.cell? ⟨q, 0, none⟩ = some v
  c1 : w.cell? ⟨q, 1, none⟩ = some (.int .i64 vol)
  free : ∀ o, w.frozen? ⟨q, o, none⟩ = false
  own : Own w base 34 8 v ls.length (encLns ls)
  ne_ : v.ownBlock ≠ some q
  lt : q < w.heap.size
  lo : base ≤ q
  v1 : vol ≤ ls.length
  n0 : 0 < ls.length
  n1 : ls.length ≤ 64
theorem RAt.low {w : World} {q base : Nat} {v : Value} {ls : List Ln} {vol : Nat} (h : RAt w q base v ls vol) : base ≤ w.heap.size := by have := h.lt; have := h.lo; omega
theorem RAt.only {S : Nat → Prop} {w w' : World} {q base : Nat} {v : Value} {ls : List Ln} {vol : Nat} (h : RAt w q base v ls vol) (ho : Only S w w') (hq : ¬ S q) (hv : ∀ k, v.ownBlock = some k → ¬ S k) : RAt w' q base v ls vol :=
  ⟨(ho.cell (p := ⟨q, 0, none⟩) h.lt hq).trans h.c0, (ho.cell (p := ⟨q, 1, none⟩) h.lt hq).trans h.c1, fun o => (ho.frozen (p := ⟨q, o, none⟩) h.lt hq).trans (h.free o), h.own.only ho hv, h.ne_, Nat.lt_of_lt_of_le h.lt ho.size, h.lo, h.v1, h.n0, h.n1⟩
theorem RAt.below {w w' : World} {q base : Nat} {v : Value} {ls : List Ln} {vol : Nat} (h : RAt w q base v ls vol) (hb : Below w.heap.size w w') : RAt w' q base v ls vol :=
  h.only (S := fun k => w.heap.size ≤ k) ⟨hb.os, hb.tape, hb.output, hb.size, fun k hk _ => hb.block k hk⟩ (by have := h.lt; omega) (fun k hk => by have := (h.own.lt k hk).2; omega)
theorem RAt.drew {w : World} {q base : Nat} {v : Value} {ls : List Ln} {vol : Nat} (h : RAt w q base v ls vol) : RAt w.drew q base v ls vol := h.only (S := fun _ => False) (Only.drew (Only.refl _ _)) id (fun _ _ => id)
theorem RAt.put {w : World} {q base g o cap : Nat} {ls : List Ln} {vol : Nat} (h : RAt w q base (.slice (some ⟨g, o, none⟩) ls.length cap) ls vol) (i : Nat) (x : Ln) (hi : i < ls.length) :
    RAt (w.setCells g (o + i * 8) (encLn x)) q base (.slice (some ⟨g, o, none⟩) ls.length cap) (ls.set i x) vol := by
  have hon : Only (fun k => k = g) w (w.setCells g (o + i * 8) (encLn x)) := Only.setCells g (encLn x) (o + i * 8) w
  have hp := h.own.put (i * 8) (encLn x) (by rw [encLn_len]; omega)
  have hqg : ¬ q = g := fun e => h.ne_ (by rw [e]; rfl)
  have hl : (ls.set i x).length = ls.length := List.length_set
  rw [encLn_len, encLns_set ls i x hi] at hp
  exact ⟨(hon.cell (p := ⟨q, 0, none⟩) h.lt hqg).trans h.c0, (hon.cell (p := ⟨q, 1, none⟩) h.lt hqg).trans h.c1, fun o => (hon.frozen (p := ⟨q, o, none⟩) h.lt hqg).trans (h.free o), by rw [hl]; exact hp, h.ne_, Nat.lt_of_lt_of_le h.lt hon.size, h.lo, by rw [hl]; exact h.v1, by rw [hl]; exact h.n0, by rw [hl]; exact h.n1⟩
theorem RAt.form {w : World} {q base : Nat} {v : Value} {ls : List Ln} {vol : Nat} (h : RAt w q base v ls vol) : ∃ g o cap, v = .slice (some ⟨g, o, none⟩) ls.length cap ∧ ls.length ≤ cap ∧ cap ≤ maxLen ∧ g < w.heap.size ∧ ¬ q = g ∧ (∀ i x, ls[i]? = some x → ∀ j u, (encLn x)[j]? = some u → w.cell? ⟨g, o + i * 8 + j, none⟩ = some u) ∧ (∀ j, w.frozen? ⟨g, j, none⟩ = false) := by
  obtain ⟨g, o, cap, rfl, h1, h2, _, h4, h5, h6⟩ := h.own.form h.n0
  exact ⟨g, o, cap, rfl, h1, h2, h4, fun e => h.ne_ (by rw [e]; rfl), fun i x hx j u hj => by rw [Nat.add_assoc]; exact h5 _ _ ((encLns_get ls i x hx j (List.getElem?_eq_some_iff.1 hj).1).trans hj), h6⟩
set_option maxHeartbeats 400000 in
theorem has_any (q base : Nat) (v : Value) (ls : List Ln) (vol : Nat) (line : Int) (w : World) (h : RAt w q base v ls vol) :
    Calls Try.prog 23 #[.pointer (some ⟨q, 0, none⟩), .int .i64 line] w fun e w' => e = .returned (.bool (mayD ls.length line == 0)) ∧ w = w' := by
  obtain ⟨g, o, cap, rfl, _⟩ := h.form
  have hc := h.c0
  have hn := h.n1
  clear h
  by_cases h0 : 0 ≤ line
  · by_cases h1 : line < ls.length
    · have hm : (mayD ls.length line == 0) = true := by rw [mayD, if_pos ⟨h0, h1⟩]; rfl
      rw [hm]
      clear hm
      go_enter Try.func23, Try.ntmps23
      go_wp2
      go_ret
      exact ⟨rfl, rfl⟩
    · have hm : (mayD ls.length line == 0) = false := by rw [mayD, if_neg (by omega)]; rfl
      rw [hm]
      clear hm
      go_enter Try.func23, Try.ntmps23
      go_wp2
      go_ret
      exact ⟨rfl, rfl⟩
  · have hm : (mayD ls.length line == 0) = false := by rw [mayD, if_neg (by omega)]; rfl
    rw [hm]
    clear hm
    go_enter Try.func23, Try.ntmps23
    go_wp2
    go_ret
    exact ⟨rfl, rfl⟩
set_option maxHeartbeats 400000 in
theorem rread_out (q base : Nat) (v : Value) (ls : List Ln) (vol : Nat) (line : Int) (hl : ¬ (0 ≤ line ∧ line < ls.length)) (w : World) (h : RAt w q base v ls vol) :
    Calls Try.prog 14 #[.pointer (some ⟨q, 0, none⟩), .int .i64 line] w fun e w' => e = .returned (.tuple #[.agg #[.int .u64 0, .int .u64 0, .int .u64 0, .int .u64 0, .int .u64 0, .int .u64 0, .int .u64 0, .int .u64 0], .int .i64 12]) ∧ Below w.heap.size w w' := by
  have hm : (mayD ls.length line == 0) = false := by rw [mayD, if_neg hl]; rfl
  have H1 := Lib.hid (h.below (Below.al (Below.refl _ _) (.cells #[.int .u64 0, .int .u64 0, .int .u64 0, .int .u64 0, .int .u64 0, .int .u64 0, .int .u64 0, .int .u64 0] 34)))
  clear h hl
  go_enter Try.func14, Try.ntmps14
  go_wp2_with (first | (go_at_call 23; refine (has_any q base v ls vol _ _ H1.out).mono ?_; rintro e w' ⟨rfl, rfl⟩))
  exact bodyPost_ret (v := .tuple #[.agg #[.int .u64 0, .int .u64 0, .int .u64 0, .int .u64 0, .int .u64 0, .int .u64 0, .int .u64 0, .int .u64 0], .int .i64 12]) (by simp [results, Try.results14, go_sem]) rfl ⟨rfl, Below.al (Below.refl _ _) _⟩
theorem rwrite_out (q base : Nat) (v : Value) (ls : List Ln) (vol : Nat) (line : Int) (x : Ln) (hl : ¬ (0 ≤ line ∧ line < ls.length)) (w : World) (h : RAt w q base v ls vol) :
    Calls Try.prog 12 #[.pointer (some ⟨q, 0, none⟩), .int .i64 line, .agg #[.int .u64 x.d0, .int .u64 x.d1, .int .u64 x.d2, .int .u64 x.d3, .int .u64 x.d4, .int .u64 x.d5, .int .u64 x.d6, .int .u64 x.d7]] w fun e w' => e = .returned (.int .i64 12) ∧ Below w.heap.size w w' := by
  have hm : (mayD ls.length line == 0) = false := by rw [mayD, if_neg hl]; rfl
  have H1 := Lib.hid (h.below (Below.al (Below.refl _ _) (.cells #[.int .u64 x.d0, .int .u64 x.d1, .int .u64 x.d2, .int .u64 x.d3, .int .u64 x.d4, .int .u64 x.d5, .int .u64 x.d6, .int .u64 x.d7] 34)))
  clear h hl
  go_enter Try.func12, Try.ntmps12
  go_wp2_with (first | (go_at_call 23; refine (has_any q base v ls vol _ _ H1.out).mono ?_; rintro e w' ⟨rfl, rfl⟩))
  go_ret
  exact ⟨rfl, Below.al (Below.refl _ _) _⟩
set_option maxRecDepth 100000 in
set_option maxHeartbeats 4000000 in
theorem rread_in (q base : Nat) (v : Value) (ls : List Ln) (vol i : Nat) (x : Ln) (hx : ls[i]? = some x) (w : World) (h : RAt w q base v ls vol) :
    Calls Try.prog 14 #[.pointer (some ⟨q, 0, none⟩), .int .i64 i] w fun e w' => e = .returned (.tuple #[.agg #[.int .u64 x.d0, .int .u64 x.d1, .int .u64 x.d2, .int .u64 x.d3, .int .u64 x.d4, .int .u64 x.d5, .int .u64 x.d6, .int .u64 x.d7], .int .i64 0]) ∧ Below w.heap.size w w' := by
  have hi : i < ls.length := (List.getElem?_eq_some_iff.1 hx).1
  have hm : (mayD ls.length i == 0) = true := by rw [mayD, if_pos (by omega)]; rfl
  have h1 := h.below (Below.al (Below.refl _ _) (.cells #[.int .u64 0, .int .u64 0, .int .u64 0, .int .u64 0, .int .u64 0, .int .u64 0, .int .u64 0, .int .u64 0] 34))
  have H1 := Lib.hid h1
  have hz : ∀ j, j < 8 → ((w.alloc (.cells #[.int .u64 0, .int .u64 0, .int .u64 0, .int .u64 0, .int .u64 0, .int .u64 0, .int .u64 0, .int .u64 0] 34)).cell? ⟨w.heap.size, j, none⟩).isSome = true := fun j hj => by
    rw [cell_of_row _ _ _ _ 34 (0, 0) (heap_alloc_new w _)]; simp; omega
  have hzf : ∀ j, (w.alloc (.cells #[.int .u64 0, .int .u64 0, .int .u64 0, .int .u64 0, .int .u64 0, .int .u64 0, .int .u64 0, .int .u64 0] 34)).frozen? ⟨w.heap.size, j, none⟩ = false := fun j => frozen_of_row _ _ _ _ 34 (heap_alloc_new w _)
  have hz0 : ∀ j, j < 8 → (w.alloc (.cells #[.int .u64 0, .int .u64 0, .int .u64 0, .int .u64 0, .int .u64 0, .int .u64 0, .int .u64 0, .int .u64 0] 34)).cell? ⟨w.heap.size, j, none⟩ = some (.int .u64 0) := fun j hj => by
    rw [cell_of_row _ _ _ _ 34 (0, 0) (heap_alloc_new w _)]
    match j, hj with
    | 0, _ | 1, _ | 2, _ | 3, _ | 4, _ | 5, _ | 6, _ | 7, _ => rfl
  have hB0 : Below w.heap.size w (w.alloc (.cells #[.int .u64 0, .int .u64 0, .int .u64 0, .int .u64 0, .int .u64 0, .int .u64 0, .int .u64 0, .int .u64 0] 34)) := Below.al (Below.refl _ _) _
  obtain ⟨w1, hw1⟩ : ∃ w1, w.alloc (.cells #[.int .u64 0, .int .u64 0, .int .u64 0, .int .u64 0, .int .u64 0, .int .u64 0, .int .u64 0, .int .u64 0] 34) = w1 := ⟨_, rfl⟩
  rw [hw1] at h1 hz hzf hz0 hB0
  have HW1 := Lib.hid hw1
  clear hw1
  obtain ⟨g, o, cap, rfl, k1, k2, k3, k4, k5, k6⟩ := h1.form
  have q0 := h1.c0
  have hx1 := k5 i x hx
  have x0 : w1.cell? ⟨g, o + i * 8, none⟩ = some (.int .u64 x.d0) := hx1 0 _ rfl
  have x1 : w1.cell? ⟨g, o + i * 8 + 1, none⟩ = some (.int .u64 x.d1) := hx1 1 _ rfl
  have x2 : w1.cell? ⟨g, o + i * 8 + 2, none⟩ = some (.int .u64 x.d2) := hx1 2 _ rfl
  have x3 : w1.cell? ⟨g, o + i * 8 + 3, none⟩ = some (.int .u64 x.d3) := hx1 3 _ rfl
  have x4 : w1.cell? ⟨g, o + i * 8 + 4, none⟩ = some (.int .u64 x.d4) := hx1 4 _ rfl
  have x5 : w1.cell? ⟨g, o + i * 8 + 5, none⟩ = some (.int .u64 x.d5) := hx1 5 _ rfl
  have x6 : w1.cell? ⟨g, o + i * 8 + 6, none⟩ = some (.int .u64 x.d6) := hx1 6 _ rfl
  have x7 : w1.cell? ⟨g, o + i * 8 + 7, none⟩ = some (.int .u64 x.d7) := hx1 7 _ rfl
  have hi0 : (0 : Int) ≤ (i : Int) := by omega
  have hi1 : (i : Int) < (ls.length : Int) := by omega
  have hn64 : ls.length ≤ 64 := h.n1
  have hcs := cells_setCells' w1 w.heap.size (encLn x) (fun j hj => hz j hj)
  have hB : Below w.heap.size w (w1.setCells w.heap.size 0 (encLn x)) := below_setCells hB0 (encLn x)
  have HCS := Lib.hid hcs; have HB := Lib.hid hB
  clear hcs hB hx1 k5 hx hz hB0 h h1
  go_enter Try.func14, Try.ntmps14
  go_wp2_with fail
  refine (has_any q base _ ls vol _ _ H1.out).mono ?_
  rintro e w' ⟨rfl, hw'⟩
  obtain rfl : w1 = w' := HW1.out.symm.trans hw'
  clear HW1 hw' H1
  rw [hm]
  go_wp2
  refine bodyPost_ret (v := .tuple #[.agg #[.int .u64 x.d0, .int .u64 x.d1, .int .u64 x.d2, .int .u64 x.d3, .int .u64 x.d4, .int .u64 x.d5, .int .u64 x.d6, .int .u64 x.d7], .int .i64 0]) ?_ rfl ⟨rfl, HB.out⟩
  show Sem.run Try.prog (results Try.f14 _) (w1.setCells w.heap.size 0 (encLn x)) = .ok _ (w1.setCells w.heap.size 0 (encLn x))
  refine results_cell2 (fn := Try.f14) (p := 4) (t := 5) _ rfl _ w.heap.size (encLn x) _ ?_ HCS.out Try.underlying34 rfl (by kernel_rfl)
  rfl
set_option maxRecDepth 100000 in
set_option maxHeartbeats 4000000 in
theorem rwrite_in (q base : Nat) (v : Value) (ls : List Ln) (vol i : Nat) (x : Ln) (hi : i < ls.length) (w : World) (h : RAt w q base v ls vol) :
    Calls Try.prog 12 #[.pointer (some ⟨q, 0, none⟩), .int .i64 i, .agg #[.int .u64 x.d0, .int .u64 x.d1, .int .u64 x.d2, .int .u64 x.d3, .int .u64 x.d4, .int .u64 x.d5, .int .u64 x.d6, .int .u64 x.d7]] w fun e w' => e = .returned (.int .i64 0) ∧ RAt w' q base v (ls.set i x) vol ∧ Only (fun k => v.ownBlock = some k) w w' := by
  have hm : (mayD ls.length i == 0) = true := by rw [mayD, if_pos (by omega)]; rfl
  have h1 := h.below (Below.al (Below.refl _ _) (.cells #[.int .u64 x.d0, .int .u64 x.d1, .int .u64 x.d2, .int .u64 x.d3, .int .u64 x.d4, .int .u64 x.d5, .int .u64 x.d6, .int .u64 x.d7] 34))
  have H1 := Lib.hid h1
  obtain ⟨y, hy⟩ : ∃ y, ls[i]? = some y := ⟨_, List.getElem?_eq_getElem hi⟩
  obtain ⟨g, o, cap, rfl, k1, k2, k3, k4, k5, k6⟩ := h1.form
  have q0 := h1.c0
  have hy1 := k5 i y hy
  have y0 : (w.alloc (.cells #[.int .u64 x.d0, .int .u64 x.d1, .int .u64 x.d2, .int .u64 x.d3, .int .u64 x.d4, .int .u64 x.d5, .int .u64 x.d6, .int .u64 x.d7] 34)).cell? ⟨g, o + i * 8, none⟩ = some (.int .u64 y.d0) := hy1 0 _ rfl
  have y1 : (w.alloc (.cells #[.int .u64 x.d0, .int .u64 x.d1, .int .u64 x.d2, .int .u64 x.d3, .int .u64 x.d4, .int .u64 x.d5, .int .u64 x.d6, .int .u64 x.d7] 34)).cell? ⟨g, o + i * 8 + 1, none⟩ = some (.int .u64 y.d1) := hy1 1 _ rfl
  have y2 : (w.alloc (.cells #[.int .u64 x.d0, .int .u64 x.d1, .int .u64 x.d2, .int .u64 x.d3, .int .u64 x.d4, .int .u64 x.d5, .int .u64 x.d6, .int .u64 x.d7] 34)).cell? ⟨g, o + i * 8 + 2, none⟩ = some (.int .u64 y.d2) := hy1 2 _ rfl
  have y3 : (w.alloc (.cells #[.int .u64 x.d0, .int .u64 x.d1, .int .u64 x.d2, .int .u64 x.d3, .int .u64 x.d4, .int .u64 x.d5, .int .u64 x.d6, .int .u64 x.d7] 34)).cell? ⟨g, o + i * 8 + 3, none⟩ = some (.int .u64 y.d3) := hy1 3 _ rfl
  have y4 : (w.alloc (.cells #[.int .u64 x.d0, .int .u64 x.d1, .int .u64 x.d2, .int .u64 x.d3, .int .u64 x.d4, .int .u64 x.d5, .int .u64 x.d6, .int .u64 x.d7] 34)).cell? ⟨g, o + i * 8 + 4, none⟩ = some (.int .u64 y.d4) := hy1 4 _ rfl
  have y5 : (w.alloc (.cells #[.int .u64 x.d0, .int .u64 x.d1, .int .u64 x.d2, .int .u64 x.d3, .int .u64 x.d4, .int .u64 x.d5, .int .u64 x.d6, .int .u64 x.d7] 34)).cell? ⟨g, o + i * 8 + 5, none⟩ = some (.int .u64 y.d5) := hy1 5 _ rfl
  have y6 : (w.alloc (.cells #[.int .u64 x.d0, .int .u64 x.d1, .int .u64 x.d2, .int .u64 x.d3, .int .u64 x.d4, .int .u64 x.d5, .int .u64 x.d6, .int .u64 x.d7] 34)).cell? ⟨g, o + i * 8 + 6, none⟩ = some (.int .u64 y.d6) := hy1 6 _ rfl
  have y7 : (w.alloc (.cells #[.int .u64 x.d0, .int .u64 x.d1, .int .u64 x.d2, .int .u64 x.d3, .int .u64 x.d4, .int .u64 x.d5, .int .u64 x.d6, .int .u64 x.d7] 34)).cell? ⟨g, o + i * 8 + 7, none⟩ = some (.int .u64 y.d7) := hy1 7 _ rfl
  have hi0 : (0 : Int) ≤ (i : Int) := by omega
  have hi1 : (i : Int) < (ls.length : Int) := by omega
  have hn64 : ls.length ≤ 64 := h.n1
  have hgw : ¬ g = w.heap.size := by have := (h.own.lt g rfl).2; omega
  have hD := (h1.put i x hi).drew
  have hO : Only (fun k => (Value.slice (some ⟨g, o, none⟩) ls.length cap).ownBlock = some k) w ((w.alloc (.cells #[.int .u64 x.d0, .int .u64 x.d1, .int .u64 x.d2, .int .u64 x.d3, .int .u64 x.d4, .int .u64 x.d5, .int .u64 x.d6, .int .u64 x.d7] 34)).setCells g (o + i * 8) (encLn x)).drew := only_setCells (S := fun k => (Value.slice (some ⟨g, o, none⟩) ls.length cap).ownBlock = some k) (Only.al (Only.refl _ w) _) g (o + i * 8) rfl (encLn x)
  have HD := Lib.hid hD; have HO := Lib.hid hO
  clear hD hO hy1 k5 hy h h1
  go_enter Try.func12, Try.ntmps12
  go_wp2_with (first | (go_at_call 23; refine (has_any q base _ ls vol _ _ H1.out).mono ?_; rintro e w' ⟨rfl, rfl⟩))
  go_region_law (fail)
  all_goals
    go_wp2
    go_ret
    exact ⟨rfl, HD.out, HO.out⟩
end Go.Proofs.Ytkkeilbaieflmaa
