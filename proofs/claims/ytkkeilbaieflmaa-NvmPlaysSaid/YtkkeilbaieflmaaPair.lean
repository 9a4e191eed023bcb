/-
  Both devices side by side: contracts that keep both.
-/
import Derived.Test.YtkkeilbaieflmaaFails
import Derived.Test.YtkkeilbaieflmaaKitG
namespace Go.Proofs.Ytkkeilbaieflmaa
open Go.RowKit

structure Bs (w0 w : World) (d g q B M : Nat) (v : Value) (ls lr : List Ln) : Prop where
  D : DAt w d g w0.heap.size ls M
  R : RAt w q B v lr M
  dB : d < B
  gB : g < B
  wB : w0.heap.size ≤ B
  bel : Below w0.heap.size w0 w
structure PAt (w0 w : World) (d g q X B M : Nat) (v : Value) (cs : List Value) (ls lr : List Ln) : Prop where
  b : Bs w0 w d g q B M v ls lr
  xc : ∀ o, w.cell? ⟨X, o, none⟩ = cs[o]?
  xlt : X < w.heap.size
  xlo : B ≤ X
  xq : ¬ X = q
  xv : v.ownBlock ≠ some X
section
variable {w0 w w' : World} {d g q X B M : Nat} {v v' : Value} {cs : List Value} {ls lr ls' lr' : List Ln} {S : Nat → Prop}
theorem Bs.dev (h : Bs w0 w d g q B M v ls lr) (hD : DAt w' d g w0.heap.size ls' M) (ho : Only S w w') (hs : ∀ k, S k → k = d ∨ k = g) : Bs w0 w' d g q B M v ls' lr :=
  ⟨hD, h.R.only ho (fun k => by have h1 := hs _ k; have := h.dB; have := h.gB; have := h.R.lo; omega) (fun k hk hS => by have h1 := hs _ hS; have := h.dB; have := h.gB; have := (h.R.own.lt k hk).1; omega), h.dB, h.gB, h.wB, h.D.stays h.bel ho hs⟩
theorem Bs.ref (h : Bs w0 w d g q B M v ls lr) (hR : RAt w' q B v' lr' M) (ho : Only S w w') (hs : ∀ k, S k → k = q ∨ v.ownBlock = some k) : Bs w0 w' d g q B M v' ls lr' := by
  have hk : ∀ k, S k → B ≤ k := fun k hk => by
    rcases hs k hk with h1 | h1
    · have := h.R.lo; omega
    · exact (h.R.own.lt k h1).1
  exact ⟨h.D.only ho (fun k => by have := hk _ k; have := h.dB; omega) (fun k => by have := hk _ k; have := h.gB; omega), hR, h.dB, h.gB, h.wB, h.bel.trans (ho.below h.bel.size (fun k hS => Nat.le_trans h.wB (hk k hS)))⟩
theorem Bs.below (h : Bs w0 w d g q B M v ls lr) (hb : Below w.heap.size w w') : Bs w0 w' d g q B M v ls lr :=
  ⟨h.D.below hb, h.R.below hb, h.dB, h.gB, h.wB, h.bel.trans (hb.mono h.bel.size)⟩
theorem Bs.drew (h : Bs w0 w d g q B M v ls lr) : Bs w0 w.drew d g q B M v ls lr := ⟨h.D.drew, h.R.drew, h.dB, h.gB, h.wB, h.bel.drew⟩
theorem PAt.dev (h : PAt w0 w d g q X B M v cs ls lr) (hD : DAt w' d g w0.heap.size ls' M) (ho : Only S w w') (hs : ∀ k, S k → k = d ∨ k = g) : PAt w0 w' d g q X B M v cs ls' lr :=
  ⟨h.b.dev hD ho hs, fun o => (ho.cell (p := ⟨X, o, none⟩) h.xlt (fun (k : S X) => by have h1 := hs _ k; have := h.b.dB; have := h.b.gB; have := h.xlo; omega)).trans (h.xc o), Nat.lt_of_lt_of_le h.xlt ho.size, h.xlo, h.xq, h.xv⟩
theorem PAt.ref (h : PAt w0 w d g q X B M v cs ls lr) (hR : RAt w' q B v' lr' M) (ho : Only S w w') (hs : ∀ k, S k → k = q ∨ v.ownBlock = some k) (hx : v'.ownBlock ≠ some X) : PAt w0 w' d g q X B M v' cs ls lr' :=
  ⟨h.b.ref hR ho hs, fun o => (ho.cell (p := ⟨X, o, none⟩) h.xlt (fun (k : S X) => by
    rcases hs _ k with h1 | h1
    · exact h.xq h1
    · exact h.xv h1)).trans (h.xc o), Nat.lt_of_lt_of_le h.xlt ho.size, h.xlo, h.xq, hx⟩
theorem PAt.below (h : PAt w0 w d g q X B M v cs ls lr) (hb : Below w.heap.size w w') : PAt w0 w' d g q X B M v cs ls lr :=
  ⟨h.b.below hb, fun o => (hb.cell (p := ⟨X, o, none⟩) h.xlt).trans (h.xc o), Nat.lt_of_lt_of_le h.xlt hb.size, h.xlo, h.xq, h.xv⟩
theorem PAt.drew (h : PAt w0 w d g q X B M v cs ls lr) : PAt w0 w.drew d g q X B M v cs ls lr := ⟨h.b.drew, h.xc, h.xlt, h.xlo, h.xq, h.xv⟩
theorem PAt.al (h : PAt w0 w d g q X B M v cs ls lr) (o : Obj) : PAt w0 (w.alloc o) d g q X B M v cs ls lr := h.below (Below.al (Below.refl _ _) o)
theorem Bs.box (h : Bs w0 w d g q B M v ls lr) (a : Array Value) (t : TypeId) : PAt w0 (w.alloc (.cells a t)) d g q w.heap.size B M v a.toList ls lr :=
  ⟨h.below (Below.al (Below.refl _ _) _), fun o => by rw [cell_of_row _ _ _ _ t (0, 0) (heap_alloc_new w _)]; simp, by simp, by have := h.R.lo; have := h.R.lt; omega, by have := h.R.lt; omega, fun hk => by have := (h.R.own.lt _ hk).2; omega⟩

def wr1 (ls : List Ln) (line : Int) (x : Ln) : List Ln := if 0 ≤ line ∧ line < ls.length then ls.set line.toNat x else ls
def rd1 (ls : List Ln) (line : Int) : Ln := if 0 ≤ line ∧ line < ls.length then ls.getD line.toNat Ln.zero else Ln.zero
def rs1 (ls xs : List Ln) : List Ln := if xs.length = ls.length then xs else ls
def rsE (ls xs : List Ln) : Int := if xs.length = ls.length then 0 else 1
theorem p_write (line : Int) (x : Ln) (h : PAt w0 w d g q X B M v cs ls lr) :
    Calls Try.prog 11 #[.pointer (some ⟨d, 0, none⟩), .int .i64 line, .agg #[.int .u64 x.d0, .int .u64 x.d1, .int .u64 x.d2, .int .u64 x.d3, .int .u64 x.d4, .int .u64 x.d5, .int .u64 x.d6, .int .u64 x.d7]] w fun e w' => e = .returned (.int .i64 (mayD ls.length line)) ∧ PAt w0 w' d g q X B M v cs (wr1 ls line x) lr := by
  by_cases hl : 0 ≤ line ∧ line < ls.length
  · rw [mayD, if_pos hl, wr1, if_pos hl]
    obtain ⟨i, rfl⟩ : ∃ i : Nat, line = i := ⟨line.toNat, by omega⟩
    refine (write_in d g _ ls M i x (by omega) w h.b.D).mono ?_
    rintro e w1 ⟨rfl, hD, ho⟩
    exact ⟨rfl, h.dev hD ho (fun k hk => hk)⟩
  · rw [mayD, if_neg hl, wr1, if_neg hl]
    refine (write_out d g _ ls M line x hl w h.b.D).mono ?_
    rintro e w1 ⟨rfl, hb⟩
    exact ⟨rfl, h.below hb⟩
theorem p_rwrite (line : Int) (x : Ln) (h : PAt w0 w d g q X B M v cs ls lr) :
    Calls Try.prog 12 #[.pointer (some ⟨q, 0, none⟩), .int .i64 line, .agg #[.int .u64 x.d0, .int .u64 x.d1, .int .u64 x.d2, .int .u64 x.d3, .int .u64 x.d4, .int .u64 x.d5, .int .u64 x.d6, .int .u64 x.d7]] w fun e w' => e = .returned (.int .i64 (mayD lr.length line)) ∧ PAt w0 w' d g q X B M v cs ls (wr1 lr line x) := by
  by_cases hl : 0 ≤ line ∧ line < lr.length
  · rw [mayD, if_pos hl, wr1, if_pos hl]
    obtain ⟨i, rfl⟩ : ∃ i : Nat, line = i := ⟨line.toNat, by omega⟩
    refine (rwrite_in q B v lr M i x (by omega) w h.b.R).mono ?_
    rintro e w1 ⟨rfl, hD, ho⟩
    exact ⟨rfl, h.ref hD ho (fun k hk => Or.inr hk) h.xv⟩
  · rw [mayD, if_neg hl, wr1, if_neg hl]
    refine (rwrite_out q B v lr M line x hl w h.b.R).mono ?_
    rintro e w1 ⟨rfl, hb⟩
    exact ⟨rfl, h.below hb⟩
theorem p_read (line : Int) (h : PAt w0 w d g q X B M v cs ls lr) :
    Calls Try.prog 13 #[.pointer (some ⟨d, 0, none⟩), .int .i64 line] w fun e w' => e = .returned (.tuple #[.agg #[.int .u64 (rd1 ls line).d0, .int .u64 (rd1 ls line).d1, .int .u64 (rd1 ls line).d2, .int .u64 (rd1 ls line).d3, .int .u64 (rd1 ls line).d4, .int .u64 (rd1 ls line).d5, .int .u64 (rd1 ls line).d6, .int .u64 (rd1 ls line).d7], .int .i64 (mayD ls.length line)]) ∧ PAt w0 w' d g q X B M v cs ls lr := by
  by_cases hl : 0 ≤ line ∧ line < ls.length
  · rw [mayD, if_pos hl, rd1, if_pos hl]
    obtain ⟨i, rfl⟩ : ∃ i : Nat, line = i := ⟨line.toNat, by omega⟩
    have hi : i < ls.length := by omega
    refine (read_in d g _ ls M i (ls.getD i Ln.zero) (by rw [List.getD_eq_getElem?_getD, List.getElem?_eq_getElem hi]; rfl) w h.b.D).mono ?_
    rintro e w1 ⟨rfl, hD, ho⟩
    exact ⟨rfl, h.dev hD ho (fun k hk => Or.inl hk)⟩
  · rw [mayD, if_neg hl, rd1, if_neg hl]
    refine (read_out d g _ ls M line hl w h.b.D).mono ?_
    rintro e w1 ⟨rfl, hb⟩
    exact ⟨rfl, h.below hb⟩
theorem p_rread (line : Int) (h : PAt w0 w d g q X B M v cs ls lr) :
    Calls Try.prog 14 #[.pointer (some ⟨q, 0, none⟩), .int .i64 line] w fun e w' => e = .returned (.tuple #[.agg #[.int .u64 (rd1 lr line).d0, .int .u64 (rd1 lr line).d1, .int .u64 (rd1 lr line).d2, .int .u64 (rd1 lr line).d3, .int .u64 (rd1 lr line).d4, .int .u64 (rd1 lr line).d5, .int .u64 (rd1 lr line).d6, .int .u64 (rd1 lr line).d7], .int .i64 (mayD lr.length line)]) ∧ PAt w0 w' d g q X B M v cs ls lr ∧ Below w.heap.size w w' := by
  by_cases hl : 0 ≤ line ∧ line < lr.length
  · rw [mayD, if_pos hl, rd1, if_pos hl]
    obtain ⟨i, rfl⟩ : ∃ i : Nat, line = i := ⟨line.toNat, by omega⟩
    have hi : i < lr.length := by omega
    refine (rread_in q B v lr M i (lr.getD i Ln.zero) (by rw [List.getD_eq_getElem?_getD, List.getElem?_eq_getElem hi]; rfl) w h.b.R).mono ?_
    rintro e w1 ⟨rfl, hb⟩
    exact ⟨rfl, h.below hb, hb⟩
  · rw [mayD, if_neg hl, rd1, if_neg hl]
    refine (rread_out q B v lr M line hl w h.b.R).mono ?_
    rintro e w1 ⟨rfl, hb⟩
    exact ⟨rfl, h.below hb, hb⟩
theorem p_fail (hM : 0 < M) (h : PAt w0 w d g q X B M v cs ls lr) :
    Calls Try.prog 15 #[.pointer (some ⟨d, 0, none⟩)] w fun e w' => e = .returned (.tuple #[]) ∧ PAt w0 w' d g q X B M v cs (List.replicate M Ln.zero ++ ls.drop M) lr := by
  refine (fail_any d g _ ls M hM w h.b.D).mono ?_
  rintro e w1 ⟨rfl, hD, ho⟩
  exact ⟨rfl, h.dev hD ho (fun k hk => Or.inr hk)⟩
theorem p_rfail (h : PAt w0 w d g q X B M v cs ls lr) :
    Calls Try.prog 16 #[.pointer (some ⟨q, 0, none⟩)] w fun e w' => e = .returned (.tuple #[]) ∧ PAt w0 w' d g q X B M v cs ls (List.replicate M Ln.zero ++ lr.drop M) := by
  refine (rfail_any q B v lr M w h.b.R).mono ?_
  rintro e w1 ⟨rfl, hD, ho⟩
  exact ⟨rfl, h.ref hD ho (fun k hk => Or.inr hk) h.xv⟩
theorem p_restore (hl0 : 0 < ls.length) (xs : List Ln) (vi : Value) (hr : Rds w 8 vi xs.length (encLns xs)) (h : PAt w0 w d g q X B M v cs ls lr) :
    Calls Try.prog 17 #[.pointer (some ⟨d, 0, none⟩), vi] w fun e w' => e = .returned (.int .i64 (rsE ls xs)) ∧ PAt w0 w' d g q X B M v cs (rs1 ls xs) lr ∧ Only (fun k => k = g) w w' := by
  by_cases hl : xs.length = ls.length
  · rw [rsE, if_pos hl, rs1, if_pos hl]
    refine (restore_any d g _ ls xs M vi hl hl0 w h.b.D hr).mono ?_
    rintro e w1 ⟨rfl, hD, ho⟩
    exact ⟨rfl, h.dev hD ho (fun k hk => Or.inr hk), ho⟩
  · rw [rsE, if_neg hl, rs1, if_neg hl]
    obtain ⟨_, a, cap, rfl, _⟩ := hr
    refine (restore_bad d g _ ls M a xs.length cap hl w h.b.D).mono ?_
    rintro e w1 ⟨rfl, rfl⟩
    exact ⟨rfl, h, Only.refl _ _⟩
theorem p_rrestore (xs : List Ln) (vi : Value) (hr : Rds w 8 vi xs.length (encLns xs)) (h : PAt w0 w d g q X B M v cs ls lr) :
    Calls Try.prog 18 #[.pointer (some ⟨q, 0, none⟩), vi] w fun e w' => e = .returned (.int .i64 (rsE lr xs)) ∧ ∃ v', PAt w0 w' d g q X B M v' cs ls (rs1 lr xs) ∧ Only (fun k => k = q) w w' ∧ (v' = v ∨ ∀ k, v'.ownBlock = some k → w.heap.size ≤ k) := by
  by_cases hl : xs.length = lr.length
  · rw [rsE, if_pos hl, rs1, if_pos hl]
    refine (rrestore_any q B v vi lr xs M hl w h.b.R hr).mono ?_
    rintro e w1 ⟨rfl, v', hD, ho, hv⟩
    exact ⟨rfl, v', h.ref hD ho (fun k hk => Or.inl hk) (fun hk => by have := hv X hk; have := h.xlt; omega), ho, Or.inr hv⟩
  · rw [rsE, if_neg hl, rs1, if_neg hl]
    obtain ⟨_, a, cap, rfl, _⟩ := hr
    refine (rrestore_bad q B v lr M a xs.length cap hl w h.b.R).mono ?_
    rintro e w1 ⟨rfl, rfl⟩
    exact ⟨rfl, v, h, Only.refl _ _, Or.inl rfl⟩
theorem p_image (h : PAt w0 w d g q X B M v cs ls lr) :
    Calls Try.prog 20 #[.pointer (some ⟨d, 0, none⟩)] w fun e w' => ∃ v', e = .returned v' ∧ PAt w0 w' d g q X B M v cs ls lr ∧ Own w' w.heap.size 34 8 v' ls.length (encLns ls) := by
  refine (image_any d g _ ls M w h.b.D).mono ?_
  rintro e w1 ⟨v', rfl, ho, hb⟩
  exact ⟨v', rfl, h.below hb, ho⟩
theorem p_lines (vi : Value) (hi : Rds w 8 vi ls.length (encLns ls)) (h : PAt w0 w d g q X B M v cs ls ls) :
    Calls Try.prog 19 #[vi, v] w fun e w' => e = .returned (.bool true) ∧ PAt w0 w' d g q X B M v cs ls ls := by
  refine (lines_any vi v ls ls w hi h.b.R.own.rds).mono ?_
  rintro e w1 ⟨rfl, hb⟩
  exact ⟨by rw [decide_eq_true (rfl : ls = ls)], h.below hb⟩
end
end Go.Proofs.Ytkkeilbaieflmaa
