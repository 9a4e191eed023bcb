/-
  The reference's Run: what stands in memory under way.
-/
import Derived.Test.YtigbhlkafmpgmaaRend
namespace Go.Proofs.Ytigbhlkafmpgmaa
open Go.RowKit Go.Maps

structure RAt (w0 : World) (b5 b6 b7 : Nat) (tx : Array Value) (oa : Option Addr) (lo oc : Nat) (w : World) (cur : List Int) (ta : Option Addr) (tc : Nat) (tells : List Int) : Prop where
  row7 : w.heap[b7]? = some (.cells #[.slice oa lo oc, .slice ta tells.length tc, .int .i64 0] 33 (0, 0))
  row6 : w.heap[b6]? = some (.cells #[.slice none 0 0, .slice none 0 0, .int .i64 0] 33 (0, 0))
  row5 : w.heap[b5]? = some (.cells tx 25 (0, 0))
  ho : Own w w0.heap.size 37 1 (.slice oa lo oc) lo (encU cur)
  ht : Own w w0.heap.size 37 1 (.slice ta tells.length tc) tells.length (encU tells)
  cl : cur.length = lo
  bel : Below w0.heap.size w0 w
  lo7 : w0.heap.size ≤ b7
  ne : ¬ b5 = b6 ∧ ¬ b5 = b7 ∧ ¬ b6 = b7
  od : ∀ k, (Value.slice oa lo oc).ownBlock = some k → ¬ k = b5 ∧ ¬ k = b6 ∧ ¬ k = b7
  td : ∀ k, (Value.slice ta tells.length tc).ownBlock = some k → (¬ k = b5 ∧ ¬ k = b6 ∧ ¬ k = b7) ∧ ¬ (Value.slice oa lo oc).ownBlock = some k
section
variable {w0 : World} {b5 b6 b7 : Nat} {tx : Array Value} {oa : Option Addr} {lo oc : Nat} {w w' : World} {cur : List Int} {ta : Option Addr} {tc : Nat} {tells : List Int}
theorem RAt.lt7 (h : RAt w0 b5 b6 b7 tx oa lo oc w cur ta tc tells) : b7 < w.heap.size := (Array.getElem?_eq_some_iff.1 h.row7).1
theorem RAt.lt6 (h : RAt w0 b5 b6 b7 tx oa lo oc w cur ta tc tells) : b6 < w.heap.size := (Array.getElem?_eq_some_iff.1 h.row6).1
theorem RAt.lt5 (h : RAt w0 b5 b6 b7 tx oa lo oc w cur ta tc tells) : b5 < w.heap.size := (Array.getElem?_eq_some_iff.1 h.row5).1
theorem RAt.below (h : RAt w0 b5 b6 b7 tx oa lo oc w cur ta tc tells) (hb : Below w.heap.size w w') : RAt w0 b5 b6 b7 tx oa lo oc w' cur ta tc tells :=
  ⟨below_row h.row7 hb, below_row h.row6 hb, below_row h.row5 hb, h.ho.below' hb, h.ht.below' hb, h.cl, h.bel.trans (hb.mono h.bel.size), h.lo7, h.ne, h.od, h.td⟩
theorem RAt.c0 (h : RAt w0 b5 b6 b7 tx oa lo oc w cur ta tc tells) : w.cell? ⟨b7, 0, none⟩ = some (.slice oa lo oc) := by rw [cell_of_row _ _ _ _ 33 (0, 0) h.row7]; rfl
theorem RAt.c1 (h : RAt w0 b5 b6 b7 tx oa lo oc w cur ta tc tells) : w.cell? ⟨b7, 1, none⟩ = some (.slice ta tells.length tc) := by rw [cell_of_row _ _ _ _ 33 (0, 0) h.row7]; rfl
theorem RAt.c2 (h : RAt w0 b5 b6 b7 tx oa lo oc w cur ta tc tells) : w.cell? ⟨b7, 2, none⟩ = some (.int .i64 0) := by rw [cell_of_row _ _ _ _ 33 (0, 0) h.row7]; rfl
theorem RAt.f7 (h : RAt w0 b5 b6 b7 tx oa lo oc w cur ta tc tells) (o : Nat) : w.frozen? ⟨b7, o, none⟩ = false := frozen_of_row _ _ _ _ 33 h.row7
/-- A word of the words. -/
theorem RAt.word (h : RAt w0 b5 b6 b7 tx oa lo oc w cur ta tc tells) {i : Nat} {c : Int} (hc : cur[i]? = some c) : ∃ g o, oa = some ⟨g, o, none⟩ ∧ w.cell? ⟨g, o + i, none⟩ = some (.int .u64 c) ∧ w.frozen? ⟨g, o + i, none⟩ = false ∧ g < w.heap.size ∧ i < lo := by
  have hi : i < lo := by rw [← h.cl]; exact (List.getElem?_eq_some_iff.1 hc).1
  obtain ⟨g, o, cap, hv, _, _, _, h2, h3, h4⟩ := h.ho.form (by omega)
  injection hv with e1 _ _
  exact ⟨g, o, e1, h3 i _ (encU_get hc), h4 _, h2, hi⟩
theorem RAt.wrote {g o : Nat} (h : RAt w0 b5 b6 b7 tx (some ⟨g, o, none⟩) lo oc w cur ta tc tells) (i : Nat) (x : Int) (hi : i < lo) : RAt w0 b5 b6 b7 tx (some ⟨g, o, none⟩) lo oc (w.setCell ⟨g, o + i, none⟩ (.int .u64 x)) (cur.set i x) ta tc tells := by
  have hO : Only (fun k => k = g) w (w.setCell ⟨g, o + i, none⟩ (.int .u64 x)) := (Only.refl _ _).set _ _ (Or.inl rfl)
  have hd := h.od g rfl
  have hg := h.ho.lt g rfl
  have hput := h.ho.put i [.int .u64 x] (by simp; omega)
  rw [show [Value.int .u64 x].length = 1 from rfl, encU_set cur i x (by rw [h.cl]; exact hi)] at hput
  exact ⟨(hO.block b7 h.lt7 (fun e => hd.2.2 e.symm)).trans h.row7, (hO.block b6 h.lt6 (fun e => hd.2.1 e.symm)).trans h.row6, (hO.block b5 h.lt5 (fun e => hd.1 e.symm)).trans h.row5, hput, h.ht.only hO (fun k hk e => (h.td k hk).2 (by rw [e]; rfl)), by rw [List.length_set]; exact h.cl, h.bel.trans (hO.below h.bel.size (fun k hk => by rw [hk]; exact hg.1)), h.lo7, h.ne, h.od, h.td⟩
/-- Something was told: the append's answer is laid into the struct. -/
theorem RAt.told {W w3 : World} {g' o' cap' : Nat} {x : Int} (h : RAt w0 b5 b6 b7 tx oa lo oc w cur ta tc tells) (hb : Below w.heap.size w W) (hown : Own w3 w0.heap.size 37 1 (.slice (some ⟨g', o', none⟩) (tells.length + 1) cap') (tells.length + 1) (encU tells ++ [.int .u64 x]))
    (ho3 : Only (fun k => (Value.slice ta tells.length tc).ownBlock = some k) W w3) (hat : (Value.slice ta tells.length tc).ownBlock = some g' ∨ g' = W.heap.size) :
    RAt w0 b5 b6 b7 tx oa lo oc (w3.setCell ⟨b7, 1, none⟩ (.slice (some ⟨g', o', none⟩) (tells.length + 1) cap')) cur (some ⟨g', o', none⟩) cap' (tells ++ [x]) := by
  have hA := h.below hb
  have hO : Only (fun k => k = b7) w3 (w3.setCell ⟨b7, 1, none⟩ (.slice (some ⟨g', o', none⟩) (tells.length + 1) cap')) := (Only.refl _ _).set _ _ (Or.inl rfl)
  have r7 := (ho3.block b7 hA.lt7 (fun e => (h.td _ e).1.2.2 rfl)).trans hA.row7
  have r6 := (ho3.block b6 hA.lt6 (fun e => (h.td _ e).1.2.1 rfl)).trans hA.row6
  have r5 := (ho3.block b5 hA.lt5 (fun e => (h.td _ e).1.1 rfl)).trans hA.row5
  have hrow := row_setCells b7 33 [.slice (some ⟨g', o', none⟩) (tells.length + 1) cap'] 1 w3 _ r7 (by show 1 + 1 ≤ 3; omega)
  have hgd : (¬ g' = b5 ∧ ¬ g' = b6 ∧ ¬ g' = b7) ∧ ¬ (Value.slice oa lo oc).ownBlock = some g' := by
    rcases hat with e | e
    · exact h.td _ e
    · have := hA.lt5; have := hA.lt6; have := hA.lt7
      exact ⟨⟨by omega, by omega, by omega⟩, fun e2 => by have := (hA.ho.lt _ e2).2; omega⟩
  have hlen : (tells ++ [x]).length = tells.length + 1 := by simp
  refine ⟨by rw [hlen]; exact hrow, (hO.block b6 (Nat.lt_of_lt_of_le hA.lt6 ho3.size) h.ne.2.2).trans r6, (hO.block b5 (Nat.lt_of_lt_of_le hA.lt5 ho3.size) h.ne.2.1).trans r5, ?_, ?_, h.cl, ?_, h.lo7, h.ne, h.od, ?_⟩
  · exact (hA.ho.only ho3 (fun k hk e => (h.td k e).2 hk)).only hO (fun k hk e => (h.od k hk).2.2 e)
  · rw [hlen, encU_app]
    exact hown.only hO (fun k hk e => by have hk2 : g' = k := (by simpa [Value.ownBlock] using hk); exact hgd.1.2.2 (by rw [hk2]; exact e))
  · exact (hA.bel.trans (ho3.below hA.bel.size (fun k hk => (hA.ht.lt k hk).1))).trans (hO.below (Nat.le_trans hA.bel.size ho3.size) (fun k hk => by rw [hk]; exact h.lo7))
  · intro k hk
    have hk2 : g' = k := by simpa [Value.ownBlock] using hk
    rw [← hk2]
    exact hgd
theorem RAt.tell1 {W w3 : World} (h : RAt w0 b5 b6 b7 tx oa lo oc w cur ta tc tells) (hb : Below w.heap.size w W) (ho3 : Only (fun k => (Value.slice ta tells.length tc).ownBlock = some k) W w3) :
    w3.cell? ⟨b7, 1, none⟩ = some (.slice ta tells.length tc) ∧ w3.frozen? ⟨b7, 1, none⟩ = false := by
  have hA := h.below hb
  have r7 := (ho3.block b7 hA.lt7 (fun e => (h.td _ e).1.2.2 rfl)).trans hA.row7
  exact ⟨by rw [cell_of_row _ _ _ _ 33 (0, 0) r7]; rfl, frozen_of_row _ _ _ _ 33 r7⟩
/-- What is handed back, ahead of its being laid into the answer's block. -/
structure FinAt (w0 : World) (b6 : Nat) (oa : Option Addr) (lo oc : Nat) (ta : Option Addr) (tc : Nat) (w : World) (out tells : List Int) : Prop where
  row6 : w.heap[b6]? = some (.cells #[.slice none 0 0, .slice none 0 0, .int .i64 0] 33 (0, 0))
  ho : Own w w0.heap.size 37 1 (.slice oa lo oc) lo (encU out)
  ht : Own w w0.heap.size 37 1 (.slice ta tells.length tc) tells.length (encU tells)
  bel : Below w0.heap.size w0 w
  lo6 : w0.heap.size ≤ b6
  od : ∀ k, (Value.slice oa lo oc).ownBlock = some k → ¬ k = b6
  td : ∀ k, (Value.slice ta tells.length tc).ownBlock = some k → ¬ k = b6
theorem FinAt.stored {b6 : Nat} {out : List Int} (h : FinAt w0 b6 oa lo oc ta tc w out tells) :
    (((w.setCell ⟨b6, 0, none⟩ (.slice oa lo oc)).setCell ⟨b6, 1, none⟩ (.slice ta tells.length tc)).setCell ⟨b6, 2, none⟩ (.int .i64 0)).heap[b6]? = some (.cells #[.slice oa lo oc, .slice ta tells.length tc, .int .i64 0] 33 (0, 0)) ∧
    Own (((w.setCell ⟨b6, 0, none⟩ (.slice oa lo oc)).setCell ⟨b6, 1, none⟩ (.slice ta tells.length tc)).setCell ⟨b6, 2, none⟩ (.int .i64 0)) w0.heap.size 37 1 (.slice oa lo oc) lo (encU out) ∧
    Own (((w.setCell ⟨b6, 0, none⟩ (.slice oa lo oc)).setCell ⟨b6, 1, none⟩ (.slice ta tells.length tc)).setCell ⟨b6, 2, none⟩ (.int .i64 0)) w0.heap.size 37 1 (.slice ta tells.length tc) tells.length (encU tells) ∧
    Below w0.heap.size w0 (((w.setCell ⟨b6, 0, none⟩ (.slice oa lo oc)).setCell ⟨b6, 1, none⟩ (.slice ta tells.length tc)).setCell ⟨b6, 2, none⟩ (.int .i64 0)) := by
  have hr : (((w.setCell ⟨b6, 0, none⟩ (.slice oa lo oc)).setCell ⟨b6, 1, none⟩ (.slice ta tells.length tc)).setCell ⟨b6, 2, none⟩ (.int .i64 0)).heap[b6]? = some (.cells #[.slice oa lo oc, .slice ta tells.length tc, .int .i64 0] 33 (0, 0)) := row_setCells b6 33 [.slice oa lo oc, .slice ta tells.length tc, .int .i64 0] 0 w _ h.row6 (by show 0 + 3 ≤ 3; omega)
  have hO : Only (fun k => k = b6) w (((w.setCell ⟨b6, 0, none⟩ (.slice oa lo oc)).setCell ⟨b6, 1, none⟩ (.slice ta tells.length tc)).setCell ⟨b6, 2, none⟩ (.int .i64 0)) := Only.setCells b6 [.slice oa lo oc, .slice ta tells.length tc, .int .i64 0] 0 w
  exact ⟨hr, h.ho.only hO h.od, h.ht.only hO h.td, h.bel.trans (hO.below h.bel.size (fun k hk => by rw [hk]; exact h.lo6))⟩
theorem FinAt.d0 {b6 : Nat} {out : List Int} (h : FinAt w0 b6 oa lo oc ta tc w out tells) : w.cell? ⟨b6, 0, none⟩ = some (.slice none 0 0) := by rw [cell_of_row _ _ _ _ 33 (0, 0) h.row6]; rfl
theorem FinAt.d1 {b6 : Nat} {out : List Int} (h : FinAt w0 b6 oa lo oc ta tc w out tells) : w.cell? ⟨b6, 1, none⟩ = some (.slice none 0 0) := by rw [cell_of_row _ _ _ _ 33 (0, 0) h.row6]; rfl
theorem FinAt.d2 {b6 : Nat} {out : List Int} (h : FinAt w0 b6 oa lo oc ta tc w out tells) : w.cell? ⟨b6, 2, none⟩ = some (.int .i64 0) := by rw [cell_of_row _ _ _ _ 33 (0, 0) h.row6]; rfl
theorem FinAt.f6 {b6 : Nat} {out : List Int} (h : FinAt w0 b6 oa lo oc ta tc w out tells) (o : Nat) : w.frozen? ⟨b6, o, none⟩ = false := frozen_of_row _ _ _ _ 33 h.row6
theorem rend_at {am : Option Addr} {cm : Nat} {m : List Int} (h : RAt w0 b5 b6 b7 tx oa m.length oc w cur ta tc tells) (h6 : w0.heap.size ≤ b6) (hm : Rds w0 1 (.slice am m.length cm) m.length (encU m)) (hl : tells.length ≤ 1000) (hm1 : m.length ≤ 1000) (code : Int) :
    Calls Try.prog 22 #[.agg #[.slice oa m.length oc, .slice ta tells.length tc, .int .i64 0], .slice am m.length cm, .int .u64 code] w fun e w' => ∃ oa' oc' ta' tc', e = .returned (.agg #[.slice oa' m.length oc', .slice ta' (tells ++ [code]).length tc', .int .i64 0]) ∧ FinAt w0 b6 oa' m.length oc' ta' tc' w' (if code = 101 then cur else m) (tells ++ [code]) := by
  have ho := h.ho
  have hcl := h.cl
  rw [← hcl] at ho
  by_cases hc : code = 101
  · rw [if_pos hc]
    refine (rend_ok w0.heap.size oa m.length oc ta tc (.slice am m.length cm) m cur tells code w h.bel.size h.ho h.ht (fun w' hb => hm.below (h.bel.trans hb)) hl hm1 (fun k hk => (h.td k hk).2) hc).mono ?_
    rintro e w' ⟨vt', rfl, hO, hT, hb, hF⟩
    obtain ⟨t9, c9, rfl, _, _⟩ := hT.any
    exact ⟨oa, oc, t9, c9, rfl, (hF.block b6 h.lt6 (fun hk => (h.td _ hk).1.2.1 rfl)).trans h.row6, hO, hT, h.bel.trans (hF.below h.bel.size (fun k hk => (h.ht.lt k hk).1)), h6, fun k hk => (h.od k hk).2.1, fun k hk => by
      rcases hb k hk with h2 | h2
      · exact (h.td k h2).1.2.1
      · have := h.lt6
        omega⟩
  · rw [if_neg hc]
    refine (rend_back w0.heap.size oa m.length oc ta tc (.slice am m.length cm) m cur tells code w h.bel.size h.ho h.ht (fun w' hb => hm.below (h.bel.trans hb)) hl hm1 (fun k hk => (h.td k hk).2) hc).mono ?_
    rintro e w' ⟨vo', vt', rfl, hbo, hO, hT, hb, hF⟩
    obtain ⟨t9, c9, rfl, _, _⟩ := hT.any
    obtain ⟨o9, oc9, rfl, _, _⟩ := hO.any
    exact ⟨o9, oc9, t9, c9, rfl, (hF.block b6 h.lt6 (fun hk => (h.td _ hk).1.2.1 rfl)).trans h.row6, hO, hT, h.bel.trans (hF.below h.bel.size (fun k hk => (h.ht.lt k hk).1)), h6, fun k hk => by
      have := hbo k hk
      have := h.lt6
      omega, fun k hk => by
      rcases hb k hk with h2 | h2
      · exact (h.td k h2).1.2.1
      · have := h.lt6
        omega⟩
end
end Go.Proofs.Ytigbhlkafmpgmaa
