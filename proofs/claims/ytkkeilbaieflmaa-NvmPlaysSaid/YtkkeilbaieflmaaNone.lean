/-
  NvmNone, walked; a step, opened.
-/
import Derived.Test.YtkkeilbaieflmaaFair
namespace Go.Proofs.Ytkkeilbaieflmaa
open Go.RowKit
attribute [local go_sem ↓] Go.wp_at_zero Go.wp_at_succ

theorem okStp.below {w w' : World} {s : Stp} (h : okStp w s) (hb : Below w.heap.size w w') : okStp w' s := by
  obtain ⟨xs, h⟩ := h
  exact ⟨xs, h.below hb⟩
theorem okStp.img {w : World} {s : Stp} (h : okStp w s) : ∃ a n c, s.img = .slice a n c := by
  obtain ⟨xs, _, a, c, h, _⟩ := h
  exact ⟨a, _, c, h⟩
theorem one_step (w : World) (s : Stp) (b : Nat) (h : w.heap[b]? = some (.cells (encStp s).toArray 37 (0, 0))) : Rds w 11 (.slice (some ⟨b, 0, none⟩) 1 1) [s].length (encL encStp [s]) :=
  ⟨by rw [encL_len encStp_len], _, _, rfl, Nat.le_refl _, by simp [maxLen], fun h => (by cases h), fun _ => ⟨b, 0, rfl, (Array.getElem?_eq_some_iff.1 h).1, fun j u hj => by
    rw [Nat.zero_add, cell_of_row w b j _ 37 (0, 0) h]
    simpa [encL] using hj⟩⟩
set_option maxRecDepth 100000 in
set_option maxHeartbeats 4000000 in
theorem none_law (kd ln d0 d1 d2 d3 d4 d5 d6 d7 : Int) (img : Value) (w : World) (hok : okStp w ⟨kd, ln, ⟨d0, d1, d2, d3, d4, d5, d6, d7⟩, img⟩) :
    Calls Try.prog 5 #[.agg #[.int .i64 kd, .int .i64 ln, .int .u64 d0, .int .u64 d1, .int .u64 d2, .int .u64 d3, .int .u64 d4, .int .u64 d5, .int .u64 d6, .int .u64 d7, img]] w fun e w' => e = .returned (.bool true) ∧ Below w.heap.size w w' := by
  obtain ⟨ad, m, c, him⟩ := hok.img
  dsimp only at him
  subst him
  have hi := info22
  have hO : okStp ((w.alloc (.cells #[.int .i64 kd, .int .i64 ln, .int .u64 d0, .int .u64 d1, .int .u64 d2, .int .u64 d3, .int .u64 d4, .int .u64 d5, .int .u64 d6, .int .u64 d7, .slice ad m c] 37)).alloc (.cells #[.int .i64 kd, .int .i64 ln, .int .u64 d0, .int .u64 d1, .int .u64 d2, .int .u64 d3, .int .u64 d4, .int .u64 d5, .int .u64 d6, .int .u64 d7, .slice ad m c] 37)) ⟨kd, ln, ⟨d0, d1, d2, d3, d4, d5, d6, d7⟩, .slice ad m c⟩ := hok.below (Below.al (Below.al (Below.refl _ _) _) _)
  have hR : Rds ((w.alloc (.cells #[.int .i64 kd, .int .i64 ln, .int .u64 d0, .int .u64 d1, .int .u64 d2, .int .u64 d3, .int .u64 d4, .int .u64 d5, .int .u64 d6, .int .u64 d7, .slice ad m c] 37)).alloc (.cells #[.int .i64 kd, .int .i64 ln, .int .u64 d0, .int .u64 d1, .int .u64 d2, .int .u64 d3, .int .u64 d4, .int .u64 d5, .int .u64 d6, .int .u64 d7, .slice ad m c] 37)) 11 (.slice (some ⟨w.heap.size + 1, 0, none⟩) 1 1) [(⟨kd, ln, ⟨d0, d1, d2, d3, d4, d5, d6, d7⟩, .slice ad m c⟩ : Stp)].length (encL encStp [⟨kd, ln, ⟨d0, d1, d2, d3, d4, d5, d6, d7⟩, .slice ad m c⟩]) := by
    refine one_step _ _ _ ?_
    have := heap_alloc_new (w.alloc (.cells #[.int .i64 kd, .int .i64 ln, .int .u64 d0, .int .u64 d1, .int .u64 d2, .int .u64 d3, .int .u64 d4, .int .u64 d5, .int .u64 d6, .int .u64 d7, .slice ad m c] 37)) (.cells #[.int .i64 kd, .int .i64 ln, .int .u64 d0, .int .u64 d1, .int .u64 d2, .int .u64 d3, .int .u64 d4, .int .u64 d5, .int .u64 d6, .int .u64 d7, .slice ad m c] 37)
    simpa [encStp] using this
  have HO := Lib.hid hO; have HR := Lib.hid hR
  clear hO hR hok
  go_enter Try.func5, Try.ntmps5
  go_wp2_with fail
  refine (fair_any _ [⟨kd, ln, ⟨d0, d1, d2, d3, d4, d5, d6, d7⟩, .slice ad m c⟩] _ HR.out (fun s hs => by
    obtain rfl := List.mem_singleton.1 hs
    exact HO.out)).mono ?_
  rintro e w1 ⟨rfl, hw1⟩
  obtain ⟨b, hb⟩ : ∃ b, fairB [(⟨kd, ln, ⟨d0, d1, d2, d3, d4, d5, d6, d7⟩, .slice ad m c⟩ : Stp)] = b := ⟨_, rfl⟩
  rw [hb]
  have hB1 : Below w.heap.size w w1 := by rw [← hw1]; exact Below.al (Below.al (Below.refl _ _) _) _
  have hc1 : ∀ o, w1.cell? ⟨w.heap.size, o, none⟩ = (#[.int .i64 kd, .int .i64 ln, .int .u64 d0, .int .u64 d1, .int .u64 d2, .int .u64 d3, .int .u64 d4, .int .u64 d5, .int .u64 d6, .int .u64 d7, .slice ad m c] : Array Value)[o]? := fun o => by
    rw [← hw1, World.cell?_alloc_old _ _ _ (by simp)]
    exact cell_of_row _ _ _ _ 37 (0, 0) (heap_alloc_new _ _)
  have hs1 : w.heap.size < w1.heap.size := by rw [← hw1]; simp; omega
  have HB1 := Lib.hid hB1
  clear hb HO HR hw1 hB1
  cases b with
  | false =>
    go_wp2_with fail
    refine (wakes_any _).mono ?_
    rintro e w5 ⟨rfl, hb5⟩
    have HB5 := Lib.hid (Below.then HB1.out hb5)
    clear hb5
    go_wp2
    go_ret
    exact ⟨rfl, HB5.out⟩
  | true =>
    go_wp2_with fail
    refine (fail_nil _).mono ?_
    rintro e w2 ⟨rfl, rfl⟩
    go_wp2_with fail
    refine (read_nil _ _).mono ?_
    rintro e w2 ⟨rfl, hb2⟩
    have hc2 : ∀ o, w2.cell? ⟨w.heap.size, o, none⟩ = (#[.int .i64 kd, .int .i64 ln, .int .u64 d0, .int .u64 d1, .int .u64 d2, .int .u64 d3, .int .u64 d4, .int .u64 d5, .int .u64 d6, .int .u64 d7, .slice ad m c] : Array Value)[o]? := fun o => (hb2.cell (p := ⟨w.heap.size, o, none⟩) hs1).trans (hc1 o)
    have hs2 : w.heap.size < w2.heap.size := Nat.lt_of_lt_of_le hs1 hb2.size
    have HB2 := Lib.hid (Below.then HB1.out hb2)
    clear hb2 hc1
    go_wp2_with fail
    refine (write_nil _ ⟨d0, d1, d2, d3, d4, d5, d6, d7⟩ _).mono ?_
    rintro e w3 ⟨rfl, hb3⟩
    have hc3 : ∀ o, w3.cell? ⟨w.heap.size, o, none⟩ = (#[.int .i64 kd, .int .i64 ln, .int .u64 d0, .int .u64 d1, .int .u64 d2, .int .u64 d3, .int .u64 d4, .int .u64 d5, .int .u64 d6, .int .u64 d7, .slice ad m c] : Array Value)[o]? := fun o => (hb3.cell (p := ⟨w.heap.size, o, none⟩) (by simp; omega)).trans ((World.cell?_alloc_old _ _ _ (by simp; omega)).trans (hc2 o))
    have HB3 := Lib.hid (Below.then (Below.al HB2.out _) hb3)
    clear hb3 hc2
    go_wp2_with fail
    refine (image_nil _).mono ?_
    rintro e w4 ⟨rfl, rfl⟩
    go_wp2_with fail
    refine (restore_nil _ _ _ _).mono ?_
    rintro e w4 ⟨rfl, rfl⟩
    go_wp2_with fail
    refine (wakes_any _).mono ?_
    rintro e w5 ⟨rfl, hb5⟩
    have HB5 := Lib.hid (Below.then HB3.out hb5)
    clear hb5
    go_wp2
    go_ret
    exact ⟨rfl, HB5.out⟩

section
variable {H : Type} {enc : TypeId × Value → H}
theorem open_line {W : World} {cs : List Value} (h' : All2 (Rd enc Try.prog W 0 (fun _ => true) true) [32, 32, 32, 32, 32, 32, 32, 32] cs) : ∃ s : Ln, cs = encLn s ∧ True := by
  obtain ⟨x0, _, rfl, r0, h'⟩ := h'.cons
  obtain ⟨x1, _, rfl, r1, h'⟩ := h'.cons
  obtain ⟨x2, _, rfl, r2, h'⟩ := h'.cons
  obtain ⟨x3, _, rfl, r3, h'⟩ := h'.cons
  obtain ⟨x4, _, rfl, r4, h'⟩ := h'.cons
  obtain ⟨x5, _, rfl, r5, h'⟩ := h'.cons
  obtain ⟨x6, _, rfl, r6, h'⟩ := h'.cons
  obtain ⟨x7, _, rfl, r7, h'⟩ := h'.cons
  obtain rfl := h'.nil
  obtain ⟨d0, rfl, _⟩ := r0.int Try.underlying32
  obtain ⟨d1, rfl, _⟩ := r1.int Try.underlying32
  obtain ⟨d2, rfl, _⟩ := r2.int Try.underlying32
  obtain ⟨d3, rfl, _⟩ := r3.int Try.underlying32
  obtain ⟨d4, rfl, _⟩ := r4.int Try.underlying32
  obtain ⟨d5, rfl, _⟩ := r5.int Try.underlying32
  obtain ⟨d6, rfl, _⟩ := r6.int Try.underlying32
  obtain ⟨d7, rfl, _⟩ := r7.int Try.underlying32
  exact ⟨⟨d0, d1, d2, d3, d4, d5, d6, d7⟩, rfl, trivial⟩
theorem open_lines {W : World} {v : Value} (h : Rd enc Try.prog W 0 (fun _ => true) true 35 v) : ∃ xs : List Ln, Rds W 8 v xs.length (encLns xs) := by
  obtain ⟨l, _, hr⟩ := Rd.list (m := 10) (ts := [32, 32, 32, 32, 32, 32, 32, 32]) (en := encLn) (ok := fun _ => True) Try.underlying35 (by kernel_rfl) (by kernel_rfl : Try.prog.cellsOf 34 = 8) (by omega) encLn_len (fun cs h => open_line h) h
  exact ⟨l, by rw [← encL_lns]; exact hr⟩
theorem open_imgs {W : World} {base : Nat} {v : Value} (h : Arg enc Try.prog W base 35 v) : ∃ xs : List Ln, Rds W 8 v xs.length (encLns xs) := by
  obtain ⟨l, _, hr⟩ := Arg.list (m := 10) (ts := [32, 32, 32, 32, 32, 32, 32, 32]) (en := encLn) (ok := fun _ => True) Try.underlying35 (by kernel_rfl) (by kernel_rfl : Try.prog.cellsOf 34 = 8) (by omega) encLn_len (fun cs h => open_line h) h
  exact ⟨l, by rw [← encL_lns]; exact hr⟩
theorem open_step {W : World} {cs : List Value} (h' : All2 (Rd enc Try.prog W 0 (fun _ => true) true) [3, 3, 32, 32, 32, 32, 32, 32, 32, 32, 35] cs) : ∃ s : Stp, cs = encStp s ∧ okStp W s := by
  obtain ⟨y0, _, rfl, q0, h'⟩ := h'.cons
  obtain ⟨y1, _, rfl, q1, h'⟩ := h'.cons
  obtain ⟨x0, _, rfl, r0, h'⟩ := h'.cons
  obtain ⟨x1, _, rfl, r1, h'⟩ := h'.cons
  obtain ⟨x2, _, rfl, r2, h'⟩ := h'.cons
  obtain ⟨x3, _, rfl, r3, h'⟩ := h'.cons
  obtain ⟨x4, _, rfl, r4, h'⟩ := h'.cons
  obtain ⟨x5, _, rfl, r5, h'⟩ := h'.cons
  obtain ⟨x6, _, rfl, r6, h'⟩ := h'.cons
  obtain ⟨x7, _, rfl, r7, h'⟩ := h'.cons
  obtain ⟨y2, _, rfl, q2, h'⟩ := h'.cons
  obtain rfl := h'.nil
  obtain ⟨kd, rfl, _⟩ := q0.int Try.underlying3
  obtain ⟨ln, rfl, _⟩ := q1.int Try.underlying3
  obtain ⟨d0, rfl, _⟩ := r0.int Try.underlying32
  obtain ⟨d1, rfl, _⟩ := r1.int Try.underlying32
  obtain ⟨d2, rfl, _⟩ := r2.int Try.underlying32
  obtain ⟨d3, rfl, _⟩ := r3.int Try.underlying32
  obtain ⟨d4, rfl, _⟩ := r4.int Try.underlying32
  obtain ⟨d5, rfl, _⟩ := r5.int Try.underlying32
  obtain ⟨d6, rfl, _⟩ := r6.int Try.underlying32
  obtain ⟨d7, rfl, _⟩ := r7.int Try.underlying32
  obtain ⟨xs, hr⟩ := open_lines q2
  exact ⟨⟨kd, ln, ⟨d0, d1, d2, d3, d4, d5, d6, d7⟩, y2⟩, rfl, ⟨xs, hr⟩⟩
theorem open_steps {W : World} {base : Nat} {v : Value} (h : Arg enc Try.prog W base 22 v) : ∃ ss : List Stp, (∀ s ∈ ss, okStp W s) ∧ Rds W 11 v ss.length (encL encStp ss) :=
  Arg.list (m := 10) (ts := [3, 3, 32, 32, 32, 32, 32, 32, 32, 32, 35]) (en := encStp) (ok := okStp W) Try.underlying22 (by kernel_rfl) (by kernel_rfl : Try.prog.cellsOf 37 = 11) (by omega) encStp_len (fun cs h => open_step h) h
theorem none_walk {base : Nat} (W : World) (v0 : Value) (a0 : Arg enc Try.prog W base 37 v0) :
    Calls Try.prog 5 #[v0] W fun e w' => e = .returned (.bool true) ∧ Below W.heap.size W w' := by
  obtain ⟨cs, rfl, h'⟩ := Arg.agg Try.underlying37 rfl (by kernel_rfl : flat Try.prog 10 37 = some [3, 3, 32, 32, 32, 32, 32, 32, 32, 32, 35]) a0
  obtain ⟨⟨kd, ln, ⟨d0, d1, d2, d3, d4, d5, d6, d7⟩, img⟩, rfl, hok⟩ := open_step h'
  exact none_law kd ln d0 d1 d2 d3 d4 d5 d6 d7 img W hok
end
end Go.Proofs.Ytkkeilbaieflmaa
