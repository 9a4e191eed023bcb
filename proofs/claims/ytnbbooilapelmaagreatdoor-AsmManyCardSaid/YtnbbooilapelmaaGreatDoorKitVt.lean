/-
  A symbolic run of a function's text: a counter goes up.
-/
import Derived.Test.YtnbbooilapelmaaGreatDoorKitVq
set_option linter.unusedVariables false
set_option linter.unusedSimpArgs false
namespace Go.Proofs.YtnbbooilapelmaaGreatDoor.V
open Go.RowKit Go.Proofs.YtnbbooilapelmaaGreatDoor
/-- Add of a counter, of which nothing is known but that it is a number. -/
def addS (args : List Vl) (st : St) (K : Rs → St → Prop) : Prop :=
  match args with
  | [.one (.ptr id off), .one c] => (match intV c, look st.h id with
    | some (.i64, _), some (.blk cells ty) => (match segs off 1 cells, putSegs off [.nm .i64] cells with
      | some [d], some l => (match nmOk .i64 d with | true => K (.v (.one (.nm .i64))) ⟨st.nx, upd st.h id (.blk l ty)⟩ | false => False)
      | _, _ => False)
    | _, _ => False)
  | _ => False
theorem setCell_row {w : World} {g off : Nat} {vs : List Value} {ty : TypeId} {fz : Nat × Nat} (v : Value) (hg : w.heap[g]? = some (.cells vs.toArray ty fz)) : w.setCell ⟨g, off, none⟩ v = w.setRow g (vs.set off v).toArray := by
  unfold World.setCell World.setRow
  congr 1
  refine Array.ext (by simp) fun i h1 h2 => ?_
  rw [Array.getElem_modify, Array.getElem_modify]
  split
  · rename_i e
    subst e
    obtain ⟨_, this⟩ := Array.getElem?_eq_some_iff.1 hg
    simp [this]
  · rfl
section
variable {P : Program} {B : Base} {β : Nat → Option Value} {F : Nat → Prop} {w : World} {st : St}
theorem nmOk_dn {k : IntKind} {c : CV} (h : nmOk k c = true) {u : Value} (hd : Dn β F w c u) : ∃ z, u = .int k z := by
  unfold nmOk at h
  split at h
  · rw [eqK_eq h]; obtain ⟨z, rfl, _⟩ := hd; exact ⟨z, rfl⟩
  · rw [eqK_eq h]; exact ⟨_, hd.1⟩
  · rw [eqK_eq h]; exact ⟨_, hd.1⟩
  · cases h
theorem nmOk_run {k : IntKind} {c : CV} (h : nmOk k c = true) {l : List Value} (hd : DnC β F w c l) : ∃ u, l = [u] ∧ Dn β F w c u := by
  cases c <;> first | (obtain ⟨u, h1, h2, _⟩ := hd; exact ⟨u, h1, h2⟩) | (simp [nmOk] at h; done)
theorem valid_add {f : FuncId} (hc : CallOk P f) (h : ∀ (b o : Nat) (n k : Int) (w : World), w.cell? ⟨b, o, none⟩ = some (.int .i64 n) → w.frozen? ⟨b, o, none⟩ = false → inR .i64 k →
    Calls P f #[.pointer (some ⟨b, o, none⟩), .int .i64 k] w fun e w' => ∃ m, inR .i64 m ∧ e = .returned (.int .i64 m) ∧ w' = w.setCell ⟨b, o, none⟩ (.int .i64 m)) : Valid P f (.full addS) := by
  refine ⟨hc, fun args st K hS B β F w vs hw hd => ?_⟩
  unfold addS at hS
  split at hS
  case h_2 => exact hS.elim
  rename_i id off c
  obtain ⟨a, b, rfl, ⟨g, hb, rfl⟩, hd⟩ := hd
  obtain ⟨a2, b2, rfl, hc2, hd⟩ := hd
  obtain rfl : b2 = [] := hd
  split at hS
  case h_2 => exact hS.elim
  rename_i z cells ty hz hl
  obtain ⟨rfl, hr⟩ := intV_dn hz hc2
  split at hS
  case h_2 => exact hS.elim
  rename_i d l hsg hp
  split at hS
  case h_2 => exact hS.elim
  rename_i hn
  obtain ⟨g', old, h2, h3, h4⟩ := hw.cks _ (look_mem hl)
  obtain rfl : g = g' := by rw [hb] at h2; cases h2; rfl
  obtain ⟨q1, q2⟩ := segs_dn _ _ _ _ _ hsg h4
  obtain ⟨x, y, e1, e2, e3⟩ := q1
  obtain rfl : y = [] := e3
  obtain ⟨u, rfl, e4⟩ := nmOk_run hn e2
  obtain ⟨n, rfl⟩ := nmOk_dn hn e4
  have hcell : w.cell? ⟨g, off, none⟩ = some (.int .i64 n) := by
    rw [cell_of_row w g off _ ty (0, 0) h3]
    have : ((old.drop off).take 1)[0]? = some (.int .i64 n) := by rw [e1]; rfl
    rw [List.getElem?_take] at this
    simpa using this
  have hfz : w.frozen? ⟨g, off, none⟩ = false := by simp [World.frozen?, h3]
  refine (h g off n z w hcell hfz hr).mono ?_
  rintro e w' ⟨m, hm, rfl, rfl⟩
  obtain ⟨p1, p2⟩ := putSegs_dn _ _ _ _ _ [.int .i64 m] hp h4 ⟨[_], [], rfl, ⟨_, rfl, ⟨m, rfl, hm⟩, rfl⟩, rfl⟩
  rw [setCell_row _ h3]
  have : old.set off (.int .i64 m) = old.take off ++ [.int .i64 m] ++ old.drop (off + [Value.int .i64 m].length) := by
    rw [List.set_eq_take_append_cons_drop, if_pos (show off < old.length from by simp at p2; omega)]
    simp
  rw [this]
  obtain ⟨s1, s2⟩ := hw.store hl hb h3 p1
  exact ⟨_, _, _, β, F, rfl, hS, s1, s2, ⟨m, rfl, hm⟩⟩
end
end Go.Proofs.YtnbbooilapelmaaGreatDoor.V
