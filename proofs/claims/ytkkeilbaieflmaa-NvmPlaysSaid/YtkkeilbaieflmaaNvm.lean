/-
  The memory of lines: each call on a device.
-/
import Derived.Test.YtkkeilbaieflmaaRows
import Derived.Test.YtkkeilbaieflmaaKitD
import Derived.Deep.QuietTactic
import Derived.BigQuiet
import Derived.WalkSmall
import Derived.Deep.RegionLaw
namespace Go.Proofs.Ytkkeilbaieflmaa
open Go.RowKit
attribute [local go_sem ↓] Go.wp_at_zero Go.wp_at_succ

theorem info22 : (Try.prog.info? 32).map (·.size) = some 1 := by kernel_rfl
theorem info34 : (Try.prog.info? 34).map (fun i => (i.zero, i.size, i.bytes)) = some (some (.agg #[.int .u64 0, .int .u64 0, .int .u64 0, .int .u64 0, .int .u64 0, .int .u64 0, .int .u64 0, .int .u64 0]), 8, 64) := by kernel_rfl

/-- A device at block d, its lines ls in block g, of which the first vol forget. -/
structure DAt (w : World) (d g base : Nat) (ls : List Ln) (vol : Nat) : Prop where
  c0 : w.cell? ⟨d, 0, none⟩ = some (.slice (some ⟨g, 0, none⟩) ls.length ls.length)
  c1 : w.cell? ⟨d, 1, none⟩ = some (.int .i64 vol)
  c2 : ∃ r, w.cell? ⟨d, 2, none⟩ = some (.int .i64 r)
  c3 : ∃ r, w.cell? ⟨d, 3, none⟩ = some (.int .i64 r)
  free : ∀ o, w.frozen? ⟨d, o, none⟩ = false
  row : w.heap[g]? = some (.cells (encLns ls).toArray 34 (0, 0))
  ne_ : ¬ d = g
  dlt : d < w.heap.size
  dlo : base ≤ d
  glo : base ≤ g
  v1 : vol ≤ ls.length
  n1 : ls.length ≤ 64

theorem DAt.glt {w : World} {d g base : Nat} {ls : List Ln} {vol : Nat} (h : DAt w d g base ls vol) : g < w.heap.size := (Array.getElem?_eq_some_iff.1 h.row).1
theorem DAt.gcell {w : World} {d g base : Nat} {ls : List Ln} {vol : Nat} (h : DAt w d g base ls vol) (j : Nat) : w.cell? ⟨g, j, none⟩ = (encLns ls)[j]? := by
  rw [cell_of_row w g j _ 34 (0, 0) h.row]; simp
theorem DAt.gfree {w : World} {d g base : Nat} {ls : List Ln} {vol : Nat} (h : DAt w d g base ls vol) (j : Nat) : w.frozen? ⟨g, j, none⟩ = false := frozen_of_row w g j _ 34 h.row
theorem DAt.only {S : Nat → Prop} {w w' : World} {d g base : Nat} {ls : List Ln} {vol : Nat} (h : DAt w d g base ls vol) (ho : Only S w w') (hd : ¬ S d) (hg : ¬ S g) : DAt w' d g base ls vol := by
  obtain ⟨r2, c2⟩ := h.c2
  obtain ⟨r3, c3⟩ := h.c3
  exact ⟨(ho.cell (p := ⟨d, 0, none⟩) h.dlt hd).trans h.c0, (ho.cell (p := ⟨d, 1, none⟩) h.dlt hd).trans h.c1, ⟨r2, (ho.cell (p := ⟨d, 2, none⟩) h.dlt hd).trans c2⟩, ⟨r3, (ho.cell (p := ⟨d, 3, none⟩) h.dlt hd).trans c3⟩,
    fun o => (ho.frozen (p := ⟨d, o, none⟩) h.dlt hd).trans (h.free o), (ho.block g h.glt hg).trans h.row, h.ne_, Nat.lt_of_lt_of_le h.dlt ho.size, h.dlo, h.glo, h.v1, h.n1⟩
theorem DAt.below {w w' : World} {d g base : Nat} {ls : List Ln} {vol : Nat} (h : DAt w d g base ls vol) (hb : Below w.heap.size w w') : DAt w' d g base ls vol :=
  h.only (S := fun k => w.heap.size ≤ k) ⟨hb.os, hb.tape, hb.output, hb.size, fun k hk _ => hb.block k hk⟩ (by have := h.dlt; omega) (by have := h.glt; omega)
theorem DAt.al {w : World} {d g base : Nat} {ls : List Ln} {vol : Nat} (h : DAt w d g base ls vol) (o : Obj) : DAt (w.alloc o) d g base ls vol := h.below (Below.al (Below.refl _ _) o)
/-- A number in the device's counters. -/
theorem DAt.count {w : World} {d g base : Nat} {ls : List Ln} {vol : Nat} (h : DAt w d g base ls vol) (o : Nat) (m : Int) (ho : o = 2 ∨ o = 3) : DAt (w.setCell ⟨d, o, none⟩ (.int .i64 m)) d g base ls vol := by
  obtain ⟨r2, c2⟩ := h.c2
  obtain ⟨r3, c3⟩ := h.c3
  have hx : ∀ j v, w.cell? ⟨d, j, none⟩ = some v → ∃ u, (w.setCell ⟨d, o, none⟩ (.int .i64 m)).cell? ⟨d, j, none⟩ = some u ∧ (j ≠ o → u = v) ∧ (j = o → u = .int .i64 m) := fun j v hj => by
    by_cases hjo : j = o
    · subst hjo
      exact ⟨_, World.cell?_setCell_same _ _ _ hj, fun hh => absurd rfl hh, fun _ => rfl⟩
    · exact ⟨v, (World.cell?_setCell_other _ _ _ _ (by intro he; injection he; omega)).trans hj, fun _ => rfl, fun hh => absurd hh hjo⟩
  obtain ⟨u0, e0, f0, _⟩ := hx 0 _ h.c0
  obtain ⟨u1, e1, f1, _⟩ := hx 1 _ h.c1
  obtain ⟨u2, e2, f2, g2⟩ := hx 2 _ c2
  obtain ⟨u3, e3, f3, g3⟩ := hx 3 _ c3
  refine ⟨by rw [e0, f0 (by omega)], by rw [e1, f1 (by omega)], ?_, ?_, fun o' => by rw [World.frozen?_setCell]; exact h.free o', (Below.heap_setCell _ _ _ _ (by have := h.ne_; simp; omega)).trans h.row, h.ne_, by simp [World.setCell]; exact h.dlt, h.dlo, h.glo, h.v1, h.n1⟩
  · by_cases h2 : 2 = o
    · exact ⟨m, by rw [e2, g2 h2]⟩
    · exact ⟨r2, by rw [e2, f2 h2]⟩
  · by_cases h3 : 3 = o
    · exact ⟨m, by rw [e3, g3 h3]⟩
    · exact ⟨r3, by rw [e3, f3 h3]⟩

theorem DAt.drew {w : World} {d g base : Nat} {ls : List Ln} {vol : Nat} (h : DAt w d g base ls vol) : DAt w.drew d g base ls vol := ⟨h.c0, h.c1, h.c2, h.c3, h.free, h.row, h.ne_, h.dlt, h.dlo, h.glo, h.v1, h.n1⟩
theorem DAt.rowset {w : World} {d g base : Nat} {ls : List Ln} {vol : Nat} (h : DAt w d g base ls vol) (i : Nat) (x : Ln) (hi : i < ls.length) : (w.setCells g (i * 8) (encLn x)).heap[g]? = some (.cells (encLns (ls.set i x)).toArray 34 (0, 0)) := by
  have hrow := row_setCells g 34 (encLn x) (i * 8) w _ h.row (by rw [List.size_toArray, encLns_len, encLn_len]; omega)
  rw [encLn_len] at hrow
  have e : ((encLns ls).toArray.toList.take (i * 8) ++ encLn x ++ (encLns ls).toArray.toList.drop (i * 8 + 8)) = encLns (ls.set i x) := encLns_set ls i x hi
  rw [e] at hrow
  exact hrow
theorem DAt.put {w : World} {d g base : Nat} {ls : List Ln} {vol : Nat} (h : DAt w d g base ls vol) (i : Nat) (x : Ln) (hi : i < ls.length) : DAt (w.setCells g (i * 8) (encLn x)) d g base (ls.set i x) vol := by
  have hon : Only (fun k => k = g) w (w.setCells g (i * 8) (encLn x)) := Only.setCells g (encLn x) (i * 8) w
  have hrow := h.rowset i x hi
  obtain ⟨r2, c2⟩ := h.c2
  obtain ⟨r3, c3⟩ := h.c3
  have hdn : ¬ d = g := h.ne_
  have hl : (ls.set i x).length = ls.length := List.length_set
  generalize w.setCells g (i * 8) (encLn x) = w' at hon hrow ⊢
  exact ⟨by rw [hl]; exact (hon.cell (p := ⟨d, 0, none⟩) h.dlt hdn).trans h.c0, (hon.cell (p := ⟨d, 1, none⟩) h.dlt hdn).trans h.c1, ⟨r2, (hon.cell (p := ⟨d, 2, none⟩) h.dlt hdn).trans c2⟩, ⟨r3, (hon.cell (p := ⟨d, 3, none⟩) h.dlt hdn).trans c3⟩,
      fun o => (hon.frozen (p := ⟨d, o, none⟩) h.dlt hdn).trans (h.free o), hrow, h.ne_, Nat.lt_of_lt_of_le h.dlt hon.size, h.dlo, h.glo, by rw [hl]; exact h.v1, by rw [hl]; exact h.n1⟩
theorem add_any (b o : Nat) (n k : Int) (w : World) (hc : w.cell? ⟨b, o, none⟩ = some (.int .i64 n)) (hf : w.frozen? ⟨b, o, none⟩ = false) :
    Calls Try.prog 22 #[.pointer (some ⟨b, o, none⟩), .int .i64 k] w fun e w' => ∃ m, e = .returned (.int .i64 m) ∧ w' = w.setCell ⟨b, o, none⟩ (.int .i64 m) := by
  have hadd := run_call_add (P := Try.prog) Try.func25 (by kernel_rfl) (by kernel_rfl) (by kernel_rfl) .i64 (by kernel_rfl) (y := k) (s := IntKind.i64.wrap (n + k)) hc hf (by simp [go_sem])
  go_enter Try.func22, Try.ntmps22
  go_wp2
  go_ret
  exact ⟨_, rfl, rfl⟩
/-- Is a line there? -/
def mayD (n : Nat) (line : Int) : Int := if 0 ≤ line ∧ line < n then 0 else 12
set_option maxHeartbeats 400000 in
theorem may_any (d g base : Nat) (ls : List Ln) (vol : Nat) (line : Int) (w : World) (h : DAt w d g base ls vol) :
    Calls Try.prog 21 #[.pointer (some ⟨d, 0, none⟩), .int .i64 line] w fun e w' => e = .returned (.int .i64 (mayD ls.length line)) ∧ w = w' := by
  have hc := h.c0
  have hn := h.n1
  clear h
  by_cases h0 : 0 ≤ line
  · by_cases h1 : line < ls.length
    · have hm : mayD ls.length line = 0 := if_pos ⟨h0, h1⟩
      rw [hm]
      clear hm
      go_enter Try.func21, Try.ntmps21
      go_wp2
      go_ret
      exact ⟨rfl, rfl⟩
    · have hm : mayD ls.length line = 12 := if_neg (by omega)
      rw [hm]
      clear hm
      go_enter Try.func21, Try.ntmps21
      go_wp2
      go_ret
      exact ⟨rfl, rfl⟩
  · have hm : mayD ls.length line = 12 := if_neg (by omega)
    rw [hm]
    clear hm
    go_enter Try.func21, Try.ntmps21
    go_wp2
    go_ret
    exact ⟨rfl, rfl⟩
theorem may_nil (line : Int) (w : World) : Calls Try.prog 21 #[.pointer none, .int .i64 line] w fun e w' => e = .returned (.int .i64 1) ∧ w = w' := by
  go_enter Try.func21, Try.ntmps21
  go_wp2
  go_ret
  exact ⟨rfl, rfl⟩
set_option maxRecDepth 100000 in
set_option maxHeartbeats 4000000 in
theorem read_in (d g base : Nat) (ls : List Ln) (vol i : Nat) (x : Ln) (hx : ls[i]? = some x) (w : World) (h : DAt w d g base ls vol) :
    Calls Try.prog 13 #[.pointer (some ⟨d, 0, none⟩), .int .i64 i] w fun e w' => e = .returned (.tuple #[.agg #[.int .u64 x.d0, .int .u64 x.d1, .int .u64 x.d2, .int .u64 x.d3, .int .u64 x.d4, .int .u64 x.d5, .int .u64 x.d6, .int .u64 x.d7], .int .i64 0]) ∧ DAt w' d g base ls vol ∧ Only (fun k => k = d) w w' := by
  have hi : i < ls.length := (List.getElem?_eq_some_iff.1 hx).1
  have hm : mayD ls.length i = 0 := if_pos (by omega)
  have h1 := h.al (.cells #[.int .u64 0, .int .u64 0, .int .u64 0, .int .u64 0, .int .u64 0, .int .u64 0, .int .u64 0, .int .u64 0] 34)
  have H1 := Lib.hid h1
  have hlt := h.dlt
  have hglt := h.glt
  go_enter Try.func13, Try.ntmps13
  go_wp2_with (first | (go_at_call 21; refine (may_any d g base ls vol _ _ H1.out).mono ?_; rintro e w' ⟨rfl, rfl⟩))
  obtain ⟨r2, c2⟩ := H1.out.c2
  refine (add_any d 2 r2 1 _ c2 (H1.out.free 2)).mono ?_
  rintro e w1 ⟨m, rfl, hw1⟩
  have h2 := H1.out.count 2 m (Or.inl rfl)
  rw [← hw1] at h2
  have hs1 : w.heap.size < w1.heap.size := by rw [hw1]; simp [World.setCell]
  have ho1 : Only (fun k => k = d) w w1 := by rw [hw1]; exact Only.set (S := fun k => k = d) (Only.al (Only.refl _ w) _) _ _ (Or.inl rfl)
  have hz1 : ∀ j, j < 8 → w1.cell? ⟨w.heap.size, j, none⟩ = some (.int .u64 0) := fun j hj => by
    rw [hw1, World.cell?_setCell_other _ _ _ _ (by intro he; injection he; omega), cell_of_row _ _ _ _ 34 (0, 0) (heap_alloc_new w _)]
    match j, hj with
    | 0, _ | 1, _ | 2, _ | 3, _ | 4, _ | 5, _ | 6, _ | 7, _ => rfl
  have hb1 : ∀ j, j < 8 → (w1.cell? ⟨w.heap.size, j, none⟩).isSome = true := fun j hj => by
    rw [hz1 j hj]; rfl
  have hf1 : ∀ j, w1.frozen? ⟨w.heap.size, j, none⟩ = false := fun j => by
    rw [hw1, World.frozen?_setCell]; exact frozen_of_row _ _ _ _ 34 (heap_alloc_new w _)
  have hx1 : ∀ j u, (encLn x)[j]? = some u → w1.cell? ⟨g, i * 8 + j, none⟩ = some u := fun j u hj => (h2.gcell _).trans ((encLns_get ls i x hx j (List.getElem?_eq_some_iff.1 hj).1).trans hj)
  have x0 : w1.cell? ⟨g, i * 8, none⟩ = some (.int .u64 x.d0) := hx1 0 _ rfl
  have x1 : w1.cell? ⟨g, i * 8 + 1, none⟩ = some (.int .u64 x.d1) := hx1 1 _ rfl
  have x2 : w1.cell? ⟨g, i * 8 + 2, none⟩ = some (.int .u64 x.d2) := hx1 2 _ rfl
  have x3 : w1.cell? ⟨g, i * 8 + 3, none⟩ = some (.int .u64 x.d3) := hx1 3 _ rfl
  have x4 : w1.cell? ⟨g, i * 8 + 4, none⟩ = some (.int .u64 x.d4) := hx1 4 _ rfl
  have x5 : w1.cell? ⟨g, i * 8 + 5, none⟩ = some (.int .u64 x.d5) := hx1 5 _ rfl
  have x6 : w1.cell? ⟨g, i * 8 + 6, none⟩ = some (.int .u64 x.d6) := hx1 6 _ rfl
  have x7 : w1.cell? ⟨g, i * 8 + 7, none⟩ = some (.int .u64 x.d7) := hx1 7 _ rfl
  have hcs := cells_setCells' w1 w.heap.size (encLn x) (fun j hj => hb1 j hj)
  have hon := Only.setCells w.heap.size (encLn x) 0 w1
  have hfin : DAt (w1.setCells w.heap.size 0 (encLn x)) d g base ls vol := h2.only hon (by omega) (by omega)
  have hofin : Only (fun k => k = d) w (w1.setCells w.heap.size 0 (encLn x)) := ho1.out hon (fun k hk => by omega)
  have q0 := h2.c0
  have HCS := Lib.hid hcs; have HF := Lib.hid hfin; have HO := Lib.hid hofin
  have hi0 : (0 : Int) ≤ (i : Int) := by omega
  have hi1 : (i : Int) < (ls.length : Int) := by omega
  have hn64 : ls.length ≤ 64 := h.n1
  clear hb1 hcs hfin hofin hon h1 h2 hw1 ho1 hx1 hm hx h c2
  go_wp2
  refine bodyPost_ret (v := .tuple #[.agg #[.int .u64 x.d0, .int .u64 x.d1, .int .u64 x.d2, .int .u64 x.d3, .int .u64 x.d4, .int .u64 x.d5, .int .u64 x.d6, .int .u64 x.d7], .int .i64 0]) ?_ rfl ⟨rfl, HF.out, HO.out⟩
  show Sem.run Try.prog (results Try.f13 _) (w1.setCells w.heap.size 0 (encLn x)) = .ok _ (w1.setCells w.heap.size 0 (encLn x))
  refine results_cell2 (fn := Try.f13) (p := 4) (t := 5) _ rfl _ w.heap.size (encLn x) _ ?_ HCS.out Try.underlying34 rfl (by kernel_rfl)
  rfl
set_option maxHeartbeats 400000 in
theorem read_out (d g base : Nat) (ls : List Ln) (vol : Nat) (line : Int) (hl : ¬ (0 ≤ line ∧ line < ls.length)) (w : World) (h : DAt w d g base ls vol) :
    Calls Try.prog 13 #[.pointer (some ⟨d, 0, none⟩), .int .i64 line] w fun e w' => e = .returned (.tuple #[.agg #[.int .u64 0, .int .u64 0, .int .u64 0, .int .u64 0, .int .u64 0, .int .u64 0, .int .u64 0, .int .u64 0], .int .i64 12]) ∧ Below w.heap.size w w' := by
  have hm : mayD ls.length line = 12 := if_neg hl
  have H1 := Lib.hid (h.al (.cells #[.int .u64 0, .int .u64 0, .int .u64 0, .int .u64 0, .int .u64 0, .int .u64 0, .int .u64 0, .int .u64 0] 34))
  clear h hl
  go_enter Try.func13, Try.ntmps13
  go_wp2_with (first | (go_at_call 21; refine (may_any d g base ls vol _ _ H1.out).mono ?_; rintro e w' ⟨rfl, rfl⟩))
  exact bodyPost_ret (v := .tuple #[.agg #[.int .u64 0, .int .u64 0, .int .u64 0, .int .u64 0, .int .u64 0, .int .u64 0, .int .u64 0, .int .u64 0], .int .i64 12]) (by simp [results, Try.results13, go_sem]) rfl ⟨rfl, Below.al (Below.refl _ _) _⟩
set_option maxHeartbeats 400000 in
theorem read_nil (line : Int) (w : World) :
    Calls Try.prog 13 #[.pointer none, .int .i64 line] w fun e w' => e = .returned (.tuple #[.agg #[.int .u64 0, .int .u64 0, .int .u64 0, .int .u64 0, .int .u64 0, .int .u64 0, .int .u64 0, .int .u64 0], .int .i64 1]) ∧ Below w.heap.size w w' := by
  go_enter Try.func13, Try.ntmps13
  go_wp2_with (first | (go_at_call 21; refine (may_nil _ _).mono ?_; rintro e w' ⟨rfl, rfl⟩))
  exact bodyPost_ret (v := .tuple #[.agg #[.int .u64 0, .int .u64 0, .int .u64 0, .int .u64 0, .int .u64 0, .int .u64 0, .int .u64 0, .int .u64 0], .int .i64 1]) (by simp [results, Try.results13, go_sem]) rfl ⟨rfl, Below.al (Below.refl _ _) _⟩
theorem write_out (d g base : Nat) (ls : List Ln) (vol : Nat) (line : Int) (x : Ln) (hl : ¬ (0 ≤ line ∧ line < ls.length)) (w : World) (h : DAt w d g base ls vol) :
    Calls Try.prog 11 #[.pointer (some ⟨d, 0, none⟩), .int .i64 line, .agg #[.int .u64 x.d0, .int .u64 x.d1, .int .u64 x.d2, .int .u64 x.d3, .int .u64 x.d4, .int .u64 x.d5, .int .u64 x.d6, .int .u64 x.d7]] w fun e w' => e = .returned (.int .i64 12) ∧ Below w.heap.size w w' := by
  have hm : mayD ls.length line = 12 := if_neg hl
  have H1 := Lib.hid (h.al (.cells #[.int .u64 x.d0, .int .u64 x.d1, .int .u64 x.d2, .int .u64 x.d3, .int .u64 x.d4, .int .u64 x.d5, .int .u64 x.d6, .int .u64 x.d7] 34))
  clear h hl
  go_enter Try.func11, Try.ntmps11
  go_wp2_with (first | (go_at_call 21; refine (may_any d g base ls vol _ _ H1.out).mono ?_; rintro e w' ⟨rfl, rfl⟩))
  go_ret
  exact ⟨rfl, Below.al (Below.refl _ _) _⟩
theorem write_nil (line : Int) (x : Ln) (w : World) :
    Calls Try.prog 11 #[.pointer none, .int .i64 line, .agg #[.int .u64 x.d0, .int .u64 x.d1, .int .u64 x.d2, .int .u64 x.d3, .int .u64 x.d4, .int .u64 x.d5, .int .u64 x.d6, .int .u64 x.d7]] w fun e w' => e = .returned (.int .i64 1) ∧ Below w.heap.size w w' := by
  go_enter Try.func11, Try.ntmps11
  go_wp2_with (first | (go_at_call 21; refine (may_nil _ _).mono ?_; rintro e w' ⟨rfl, rfl⟩))
  go_ret
  exact ⟨rfl, Below.al (Below.refl _ _) _⟩
set_option maxRecDepth 100000 in
set_option maxHeartbeats 4000000 in
theorem write_in (d g base : Nat) (ls : List Ln) (vol i : Nat) (x : Ln) (hi : i < ls.length) (w : World) (h : DAt w d g base ls vol) :
    Calls Try.prog 11 #[.pointer (some ⟨d, 0, none⟩), .int .i64 i, .agg #[.int .u64 x.d0, .int .u64 x.d1, .int .u64 x.d2, .int .u64 x.d3, .int .u64 x.d4, .int .u64 x.d5, .int .u64 x.d6, .int .u64 x.d7]] w fun e w' => e = .returned (.int .i64 0) ∧ DAt w' d g base (ls.set i x) vol ∧ Only (fun k => k = d ∨ k = g) w w' := by
  have hm : mayD ls.length i = 0 := if_pos (by omega)
  have H1 := Lib.hid (h.al (.cells #[.int .u64 x.d0, .int .u64 x.d1, .int .u64 x.d2, .int .u64 x.d3, .int .u64 x.d4, .int .u64 x.d5, .int .u64 x.d6, .int .u64 x.d7] 34))
  have hlt := h.dlt
  have hglt := h.glt
  go_enter Try.func11, Try.ntmps11
  go_wp2_with (first | (go_at_call 21; refine (may_any d g base ls vol _ _ H1.out).mono ?_; rintro e w' ⟨rfl, rfl⟩))
  obtain ⟨r3, c3⟩ := H1.out.c3
  refine (add_any d 3 r3 1 _ c3 (H1.out.free 3)).mono ?_
  rintro e w1 ⟨m, rfl, hw1⟩
  have h2 := H1.out.count 3 m (Or.inr rfl)
  rw [← hw1] at h2
  have hs1 : w.heap.size < w1.heap.size := by rw [hw1]; simp [World.setCell]
  have ho1 : Only (fun k => k = d ∨ k = g) w w1 := by rw [hw1]; exact Only.set (S := fun k => k = d ∨ k = g) (Only.al (Only.refl _ w) _) _ _ (Or.inl (Or.inl rfl))
  have hb1 : ∀ j, w1.cell? ⟨w.heap.size, j, none⟩ = (encLn x)[j]? := fun j => by
    rw [hw1, World.cell?_setCell_other _ _ _ _ (by intro he; injection he; omega), cell_of_row _ _ _ _ 34 (0, 0) (heap_alloc_new w _)]
    simp [encLn]
  have x0 := hb1 0
  have x1 := hb1 1
  have x2 := hb1 2
  have x3 := hb1 3
  have x4 := hb1 4
  have x5 := hb1 5
  have x6 := hb1 6
  have x7 := hb1 7
  simp only [encLn, List.getElem?_cons_zero, List.getElem?_cons_succ] at x0 x1 x2 x3 x4 x5 x6 x7
  have q0 := h2.c0
  have hi0 : (0 : Int) ≤ (i : Int) := by omega
  have hi1 : (i : Int) < (ls.length : Int) := by omega
  obtain ⟨y, hy⟩ : ∃ y, ls[i]? = some y := ⟨_, List.getElem?_eq_getElem hi⟩
  have hy1 : ∀ j u, (encLn y)[j]? = some u → w1.cell? ⟨g, i * 8 + j, none⟩ = some u := fun j u hj => (h2.gcell _).trans ((encLns_get ls i y hy j (List.getElem?_eq_some_iff.1 hj).1).trans hj)
  have y0 : w1.cell? ⟨g, i * 8, none⟩ = some (.int .u64 y.d0) := hy1 0 _ rfl
  have y1 : w1.cell? ⟨g, i * 8 + 1, none⟩ = some (.int .u64 y.d1) := hy1 1 _ rfl
  have y2 : w1.cell? ⟨g, i * 8 + 2, none⟩ = some (.int .u64 y.d2) := hy1 2 _ rfl
  have y3 : w1.cell? ⟨g, i * 8 + 3, none⟩ = some (.int .u64 y.d3) := hy1 3 _ rfl
  have y4 : w1.cell? ⟨g, i * 8 + 4, none⟩ = some (.int .u64 y.d4) := hy1 4 _ rfl
  have y5 : w1.cell? ⟨g, i * 8 + 5, none⟩ = some (.int .u64 y.d5) := hy1 5 _ rfl
  have y6 : w1.cell? ⟨g, i * 8 + 6, none⟩ = some (.int .u64 y.d6) := hy1 6 _ rfl
  have y7 : w1.cell? ⟨g, i * 8 + 7, none⟩ = some (.int .u64 y.d7) := hy1 7 _ rfl
  have hgf := fun j => h2.gfree j
  have hon : Only (fun k => k = g) w1 (w1.setCells g (i * 8) (encLn x)) := Only.setCells g (encLn x) (i * 8) w1
  have hD := (h2.put i x hi).drew
  have hofin : Only (fun k => k = d ∨ k = g) w (w1.setCells g (i * 8) (encLn x)).drew := (ho1.trans (hon.mono (fun k _ hk => Or.inr hk))).drew
  have HD := Lib.hid hD; have HO := Lib.hid hofin
  have hn64 : ls.length ≤ 64 := h.n1
  clear hy1 hb1 hon hD hofin h2 hw1 ho1 hy hm h c3
  go_wp2
  go_region_law (fail)
  all_goals
    go_wp2
    go_ret
    exact ⟨rfl, HD.out, HO.out⟩
end Go.Proofs.Ytkkeilbaieflmaa
