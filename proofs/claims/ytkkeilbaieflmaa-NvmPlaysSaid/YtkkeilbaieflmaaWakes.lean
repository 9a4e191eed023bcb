/-
  The memory of lines: the statements' own wake.
-/
import Derived.Test.YtkkeilbaieflmaaRef2
namespace Go.Proofs.Ytkkeilbaieflmaa
open Go.RowKit
attribute [local go_sem ↓] Go.wp_at_zero Go.wp_at_succ

theorem DAt.stays {w0 w1 w2 : World} {d g base : Nat} {ls : List Ln} {vol : Nat} {S : Nat → Prop} (h : DAt w1 d g base ls vol) (hb : Below base w0 w1) (ho : Only S w1 w2) (hs : ∀ k, S k → k = d ∨ k = g) : Below base w0 w2 :=
  hb.trans (ho.below (by have := h.dlt; have := h.dlo; omega) (fun k hk => by have := h.dlo; have := h.glo; rcases hs k hk with rfl | rfl <;> omega))
set_option maxRecDepth 100000 in
set_option maxHeartbeats 4000000 in
theorem wakes_any (w : World) : Calls Try.prog 8 #[] w fun e w' => e = .returned (.bool true) ∧ Below w.heap.size w w' := by
  have hnew : ∀ w, Calls Try.prog 9 #[.int .i64 4, .int .i64 2] w fun e w' => ∃ d g, e = .returned (.tuple #[.pointer (some ⟨d, 0, none⟩), .int .i64 0]) ∧ DAt w' d g w.heap.size [Ln.zero, Ln.zero, Ln.zero, Ln.zero] 2 ∧ Below w.heap.size w w' := fun w => new_any 4 2 (by omega) (by omega) (by omega) (by omega) w
  go_enter Try.func8, Try.ntmps8
  go_wp2_with fail
  refine (hnew _).mono ?_
  rintro e w1 ⟨d, g, rfl, hD1, hB1⟩
  have HD1 := Lib.hid hD1; have HB1 := Lib.hid hB1
  clear hD1 hB1 hnew
  go_wp2_with fail
  refine (write_in d g w.heap.size [Ln.zero, Ln.zero, Ln.zero, Ln.zero] 2 1 ⟨7, 0, 0, 0, 0, 0, 0, 0⟩ (by decide) _ HD1.out).mono ?_
  rintro e w2 ⟨rfl, hD2, hO2⟩
  have HB2 := Lib.hid (HD1.out.stays HB1.out hO2 (fun k hk => hk))
  have HD2 := Lib.hid (show DAt w2 d g w.heap.size [Ln.zero, ⟨7, 0, 0, 0, 0, 0, 0, 0⟩, Ln.zero, Ln.zero] 2 from hD2)
  clear hD2 hO2
  go_wp2_with fail
  refine (write_in d g w.heap.size [Ln.zero, ⟨7, 0, 0, 0, 0, 0, 0, 0⟩, Ln.zero, Ln.zero] 2 2 ⟨8, 0, 0, 0, 0, 0, 0, 0⟩ (by decide) _ HD2.out).mono ?_
  rintro e w3 ⟨rfl, hD3, hO3⟩
  have HB3 := Lib.hid (HD2.out.stays HB2.out hO3 (fun k hk => hk))
  have HD3 := Lib.hid (show DAt w3 d g w.heap.size [Ln.zero, ⟨7, 0, 0, 0, 0, 0, 0, 0⟩, ⟨8, 0, 0, 0, 0, 0, 0, 0⟩, Ln.zero] 2 from hD3)
  clear hD3 hO3
  go_wp2_with fail
  refine (fail_any d g w.heap.size [Ln.zero, ⟨7, 0, 0, 0, 0, 0, 0, 0⟩, ⟨8, 0, 0, 0, 0, 0, 0, 0⟩, Ln.zero] 2 (by decide) _ HD3.out).mono ?_
  rintro e w4 ⟨rfl, hD4, hO4⟩
  have HB4 := Lib.hid (HD3.out.stays HB3.out hO4 (fun k hk => Or.inr hk))
  have HD4 := Lib.hid (show DAt w4 d g w.heap.size [Ln.zero, Ln.zero, ⟨8, 0, 0, 0, 0, 0, 0, 0⟩, Ln.zero] 2 from hD4)
  clear hD4 hO4
  go_wp2_with fail
  refine (read_in d g w.heap.size [Ln.zero, Ln.zero, ⟨8, 0, 0, 0, 0, 0, 0, 0⟩, Ln.zero] 2 2 ⟨8, 0, 0, 0, 0, 0, 0, 0⟩ rfl _ HD4.out).mono ?_
  rintro e w5 ⟨rfl, hD5, hO5⟩
  have HB5 := Lib.hid (HD4.out.stays HB4.out hO5 (fun k hk => Or.inl hk))
  have HD5 := Lib.hid hD5
  clear hD5 hO5
  go_wp2_with fail
  refine (image_any d g w.heap.size [Ln.zero, Ln.zero, ⟨8, 0, 0, 0, 0, 0, 0, 0⟩, Ln.zero] 2 _ (HD5.out.al (.cells #[.int .u64 8, .int .u64 0, .int .u64 0, .int .u64 0, .int .u64 0, .int .u64 0, .int .u64 0, .int .u64 0] 34))).mono ?_
  rintro e w7 ⟨v7, rfl, hO7, hB7'⟩
  obtain ⟨g7, o7, cap7, rfl, p1, p2, p3, p4, p5, p6⟩ := hO7.form (by decide)
  have hc7 : w7.cell? ⟨w5.heap.size, 0, none⟩ = some (.int .u64 8) := (hB7'.cell (p := ⟨w5.heap.size, 0, none⟩) (by simp)).trans (cell_of_row _ _ _ _ 34 (0, 0) (heap_alloc_new w5 _))
  have HB7 := Lib.hid (Below.then (Below.al HB5.out _) hB7')
  have y0 : w7.cell? ⟨g7, o7 + 8, none⟩ = some (.int .u64 0) := p5 8 _ rfl
  have y1 : w7.cell? ⟨g7, o7 + 8 + 1, none⟩ = some (.int .u64 0) := p5 9 _ rfl
  have y2 : w7.cell? ⟨g7, o7 + 8 + 2, none⟩ = some (.int .u64 0) := p5 10 _ rfl
  have y3 : w7.cell? ⟨g7, o7 + 8 + 3, none⟩ = some (.int .u64 0) := p5 11 _ rfl
  have y4 : w7.cell? ⟨g7, o7 + 8 + 4, none⟩ = some (.int .u64 0) := p5 12 _ rfl
  have y5 : w7.cell? ⟨g7, o7 + 8 + 5, none⟩ = some (.int .u64 0) := p5 13 _ rfl
  have y6 : w7.cell? ⟨g7, o7 + 8 + 6, none⟩ = some (.int .u64 0) := p5 14 _ rfl
  have y7 : w7.cell? ⟨g7, o7 + 8 + 7, none⟩ = some (.int .u64 0) := p5 15 _ rfl
  have z0 : w7.cell? ⟨g7, o7 + 16, none⟩ = some (.int .u64 8) := p5 16 _ rfl
  have hi := info22
  clear p5 p6 hO7 hB7'
  go_wp2
  go_ret
  exact ⟨rfl, HB7.out⟩
end Go.Proofs.Ytkkeilbaieflmaa
