/-
  A symbolic run of a function's text: strings that are ranged over, strings put together, elements of several cells of an
  array by value.
-/
import Derived.Test.YtnbbooilapelmaaGreatDoorKitVz
import Derived.Laws.RangeAny
import Derived.Laws.Concat
set_option linter.unusedVariables false
set_option linter.unusedSimpArgs false
namespace Go.Proofs.YtnbbooilapelmaaGreatDoor.V
open Go.RowKit Go.Proofs.YtnbbooilapelmaaGreatDoor
def _root_.Go.World.goObj (w : World) (g : Nat) (o : Obj) : World := { w with heap := w.heap.setIfInBounds g o }
abbrev _root_.Go.World.goIter (w : World) (g : Nat) (s : ByteArray) (pos : Nat) : World := w.goObj g (.stringIter s pos)
theorem goObj_other (w : World) {o : Obj} (g k : Nat) (h : k ≠ g) : (w.goObj g o).heap[k]? = w.heap[k]? := by
  show (w.heap.setIfInBounds g _)[k]? = _
  exact Array.getElem?_setIfInBounds_ne (Ne.symm h)
theorem goObj_heap (w : World) (g : Nat) (o : Obj) (h : g < w.heap.size) : (w.goObj g o).heap[g]? = some o := by
  show (w.heap.setIfInBounds g _)[g]? = _
  simp [h]
@[simp] theorem goObj_size (w : World) (g : Nat) (o : Obj) : (w.goObj g o).heap.size = w.heap.size := by
  show (w.heap.setIfInBounds g _).size = _
  simp
def opRange (T : Tb) (t : TypeId) (x : Option Rs) (st : St) (K : Rs → St → Prop) : Prop :=
  match Its with
  | true => (match T t, x with
    | some ti, some (.v (.one (.val (.string s)))) => (match ti.kd with
      | .str => K (.v (.one (.ptr st.nx 0))) ⟨st.nx + 1, (st.nx, .it s 0) :: st.h⟩
      | _ => False)
    | _, _ => False)
  | false => False
theorem upd_keep {α : Type} : ∀ {l : List (Nat × α)} {n : Nat} {b : α} {p : Nat × α}, p ∈ l → p.1 ≠ n → p ∈ upd l n b
  | (k, a) :: r, n, b, p, h, hn => by
    simp only [upd]
    split
    · rename_i e
      rcases List.mem_cons.1 h with h | h
      · rw [h] at hn; exact absurd e hn
      · exact List.mem_cons_of_mem _ h
    · rcases List.mem_cons.1 h with h | h
      · rw [h]; exact List.mem_cons_self
      · exact List.mem_cons_of_mem _ (upd_keep h hn)
theorem pair_ne {R : Nat → Nat → Prop} : ∀ {h : List (Nat × Ck)}, h.Pairwise (fun a b => R a.1 b.1) → ∀ {p q : Nat × Ck}, p ∈ h → q ∈ h → p ≠ q → R p.1 q.1 ∨ R q.1 p.1
  | x :: r, h, p, q, hp, hq, hne => by
    obtain ⟨h1, h2⟩ := List.pairwise_cons.1 h
    rcases List.mem_cons.1 hp with e | hp' <;> rcases List.mem_cons.1 hq with e' | hq'
    · exact absurd (by rw [e, e']) hne
    · rw [e]; exact .inl (h1 _ hq')
    · rw [e']; exact .inr (h1 _ hp')
    · exact pair_ne h2 hp' hq' hne
def opNext (x : Option Rs) (st : St) (K : Rs → St → Prop) : Prop :=
  match x with
  | some (.v (.one (.ptr id 0))) => (match look st.h id with
    | some (.it s pos) => (pos < s.size → K (.tup [.one (.bl true), .one (.val (.int .i64 pos)), .one (.val (.int .i32 (Utf8.decode s pos).1))]) ⟨st.nx, upd st.h id (.it s (pos + (Utf8.decode s pos).2))⟩) ∧
        (s.size ≤ pos → K (.tup [.one (.bl false)]) st)
    | _ => False)
  | _ => False
section
variable {P : Program} {B : Base} {β : Nat → Option Value} {F : Nat → Prop} {w : World} {st : St}
/-- A new object. -/
theorem Sat.newX (h : Sat B β F st w) {o : Obj} {v : Value} {c : Xk} (hv : bk (some v) = some w.heap.size) (hc0 : XkO F (w.alloc o) c v o) :
    ∃ β', Ext β F w β' F (w.alloc o) ∧ Sat B β' F ⟨st.nx + 1, (st.nx, .xk c) :: st.h⟩ (w.alloc o) ∧ β' st.nx = some v ∧ ∀ k, Gd st β F k → Gd ⟨st.nx + 1, (st.nx, .xk c) :: st.h⟩ β' F k ∧ (w.alloc o).heap[k]? = w.heap[k]? := by
  have hx : Ext β F w (fun id => if id = st.nx then some v else β id) F (w.alloc o) := by
    refine ⟨fun id v' hv' => ?_, fun _ h => h, fun k hk => Below.heap_alloc _ _ _ (h.frz k hk)⟩
    have : id ≠ st.nx := fun e => by rw [h.fresh id (by omega)] at hv'; cases hv'
    simp [this, hv']
  have old : ∀ p ∈ st.h, ∀ k, bk (if p.1 = st.nx then some v else β p.1) = some k → bk (β p.1) = some k := by
    intro p hp k hk
    have : p.1 ≠ st.nx := fun e => by
      have hc := h.cks p hp
      cases hq : p.2 with
      | blk cells ty => rw [hq] at hc; obtain ⟨g, vs, h1, _⟩ := hc; rw [h.fresh _ (by omega)] at h1; cases h1
      | own ty a xs => rw [hq] at hc; obtain ⟨v, vs, h1, _⟩ := hc; rw [h.fresh _ (by omega)] at h1; cases h1
      | xk c => rw [hq] at hc; obtain ⟨v, g, o, h1, _⟩ := hc; rw [h.fresh _ (by omega)] at h1; cases h1
    rwa [if_neg this] at hk
  refine ⟨fun id => if id = st.nx then some v else β id, hx, ?_, by simp, fun k hk => ?_⟩
  · refine ⟨h.only.al _, fun id hid => ?_, fun p hp => ?_, fun p hp k hk => ?_, ?_, ⟨fun k hk => ?_, h.frz.gl.ext hx.f hx.k⟩, h.f1, h.f2, by have := h.anc.1; simp; omega, fun i hi => ?_⟩
    · have : id ≠ st.nx := by simp at hid; omega
      simp only [if_neg this]
      exact h.fresh id (by simp at hid; omega)
    · rcases List.mem_cons.1 hp with rfl | hp
      · exact ⟨v, w.heap.size, o, by simp, hv, heap_alloc_new w _, hc0⟩
      · have hc := h.cks p hp
        cases hq : p.2 with
        | blk cells ty =>
          rw [hq] at hc
          obtain ⟨g, vs', h1, h2, h3⟩ := hc
          exact ⟨g, vs', hx.b _ _ h1, by rw [Below.heap_alloc _ _ _ (Array.getElem?_eq_some_iff.1 h2).1]; exact h2, h3.ext hx⟩
        | own ty a xs =>
          rw [hq] at hc
          obtain ⟨v, vs', h1, h2, h3⟩ := hc
          exact ⟨v, vs', hx.b _ _ h1, h2.kept (fun k hk => Below.heap_alloc _ _ _ (h2.lt k hk).2), h3.mono hx.f hx.k⟩
        | xk c => rw [hq] at hc; exact Xk.keep hx hc fun k hk => Below.heap_alloc _ _ _ (h.own p hp k hk).2.2
    · rcases List.mem_cons.1 hp with rfl | hp
      · have hk : bk (some v) = some k := by simpa using hk
        obtain rfl : w.heap.size = k := Option.some.inj (hv.symm.trans hk)
        exact ⟨.inr h.only.size, fun hf => by have := h.frz _ hf; omega, by simp⟩
      · obtain ⟨h1, h2, h3⟩ := h.own p hp k (old p hp k hk)
        exact ⟨h1, h2, by simp; omega⟩
    · refine List.pairwise_cons.2 ⟨fun q hq k hk hk2 => ?_, ?_⟩
      · have hk : bk (some v) = some k := by simpa using hk
        obtain rfl : w.heap.size = k := Option.some.inj (hv.symm.trans hk)
        have := (h.own q hq _ (old q hq _ hk2)).2.2
        omega
      · refine h.sep.imp_of_mem fun {p q} hp hq hpq k hk hk2 => hpq k (old p hp k hk) (old q hq k hk2)
    · have := h.frz k hk; simp; omega
    · have : i ≠ st.nx := by have := h.anc.1; omega
      simp only [if_neg this]
      exact h.anc.2 i hi
  · rcases hk with hk | ⟨p, hp, h1, h2⟩
    · exact ⟨.inl hk, Below.heap_alloc _ _ _ (h.frz k hk)⟩
    · refine ⟨.inr ⟨p, by simp [hp], h1, ?_⟩, Below.heap_alloc _ _ _ (h.own p hp k h2).2.2⟩
      have hne : p.1 ≠ st.nx := fun e => by rw [h.fresh p.1 (by omega)] at h2; cases h2
      simp only [if_neg hne]
      exact h2
/-- An object that turns. -/
theorem Sat.goX (h : Sat B β F st w) {id g : Nat} {v : Value} {o : Obj} {c c' : Xk} (hl : look st.h id = some (.xk c)) (hb : β id = some v) (hg : bk (some v) = some g) (hc' : XkO F w c' v o) : Ext β F w β F (w.goObj g o) ∧ Sat B β F ⟨st.nx, upd st.h id (.xk c')⟩ (w.goObj g o) ∧
    ∀ k, Gd st β F k → Gd ⟨st.nx, upd st.h id (.xk c')⟩ β F k ∧ (w.goObj g o).heap[k]? = w.heap[k]? := by
  have hbg : bk (β id) = some g := by rw [hb]; exact hg
  obtain ⟨o1, o2, o3⟩ := h.own _ (look_mem hl) g hbg
  have hx : Ext β F w β F (w.goObj g o) := ⟨fun _ _ h => h, fun _ h => h, fun k hk => goObj_other w g k (fun e => o2 (e ▸ hk))⟩
  refine ⟨hx, ⟨?_, h.fresh, fun p hp => ?_, fun p hp k hk => ?_, ?_, ⟨fun k hk => ?_, h.frz.gl.ext hx.f hx.k⟩, h.f1, h.f2, h.anc⟩, fun k hk => ?_⟩
  · exact ⟨h.only.os, h.only.tape, h.only.output, by simpa using h.only.size, fun k hk hs => (goObj_other w g k (fun e => by subst e; rcases o1 with o1 | o1; exact hs o1; omega)).trans (h.only.block k hk hs)⟩
  · rcases upd_other (R := fun a b => ∀ k, bk (β a) = some k → bk (β b) ≠ some k) h.sep hl hp with rfl | ⟨hp, hr⟩
    · exact ⟨v, g, o, hb, hg, goObj_heap w g _ o3, hc'.ext hx⟩
    · have hne : ∀ k, bk (β p.1) = some k → k ≠ g := fun k hk e => by
        subst e
        rcases hr with hr | hr
        · exact hr k hbg hk
        · exact hr k hk hbg
      have hc := h.cks p hp
      cases hq : p.2 with
      | blk cells ty =>
        rw [hq] at hc
        obtain ⟨g', vs', h1, h2, h3⟩ := hc
        exact ⟨g', vs', h1, by rw [goObj_other w g g' (hne g' (by simp [h1, bk]))]; exact h2, h3.ext hx⟩
      | own ty a xs =>
        rw [hq] at hc
        obtain ⟨v, vs', h1, h2, h3⟩ := hc
        refine ⟨v, vs', h1, h2.kept (fun k hk => goObj_other w g k (hne k ?_)), h3.mono hx.f hx.k⟩
        rw [h1]
        cases v <;> simp [Value.ownBlock] at hk
        rename_i a' _ _
        cases a' <;> simp [bk] at hk ⊢
        exact hk
      | xk c => rw [hq] at hc; exact Xk.keep hx hc fun k hk => goObj_other w g k (hne k hk)
  · have : ∃ p' ∈ st.h, p'.1 = p.1 := by
      rcases upd_mem hp with e | hp
      · exact ⟨_, look_mem hl, by rw [e]⟩
      · exact ⟨p, hp, rfl⟩
    obtain ⟨p', hp', e⟩ := this
    rw [← e] at hk
    obtain ⟨h1, h2, h3⟩ := h.own p' hp' k hk
    exact ⟨h1, h2, by simpa using h3⟩
  · have := h.sep
    rw [pairwise_fst (R := fun a b => ∀ k, bk (β a) = some k → bk (β b) ≠ some k)] at this ⊢
    rw [upd_fst]
    exact this
  · simpa using h.frz k hk
  · rcases hk with hk | ⟨p, hp1, hp2, hp3⟩
    · exact ⟨.inl hk, goObj_other w g k fun e => o2 (e ▸ hk)⟩
    · have hR : ∀ j, bk (β id) = some j → bk (β p.1) ≠ some j := by
        rcases pair_ne (R := fun a b => ∀ k, bk (β a) = some k → bk (β b) ≠ some k) h.sep hp1 (look_mem hl) (fun e => by rw [e] at hp2; cases hp2) with h4 | h4
        · exact fun j h5 h6 => h4 j h6 h5
        · exact h4
      have hk : k ≠ g := fun e => by subst e; exact hR k hbg hp3
      refine ⟨.inr ⟨p, upd_keep hp1 (fun e => ?_), hp2, hp3⟩, goObj_other w g k hk⟩
      rw [e] at hp3
      exact hk (Option.some.inj (hp3.symm.trans hbg))
end

section
variable {T : Tb} {P : Program} {B : Base} {β : Nat → Option Value} {F : Nat → Prop} {w : World} {st : St}
theorem opRange_ok (hT : ∀ t i, T t = some i → TyOk P t i) {t : TypeId} {x : Option Rs} {K : Rs → St → Prop} (h : opRange T t x st K) (hw : Sat B β F st w) {u : Value} (hx : ∀ r, x = some r → DnR β F w r u) :
    ∃ z w' st' r β', (Instr.range t u).run P w = .ok z w' ∧ K r st' ∧ Ext β F w β' F w' ∧ Sat B β' F st' w' ∧ DnR β' F w' r z ∧ (∀ k, Gd st β F k → Gd st' β' F k ∧ w'.heap[k]? = w.heap[k]?) ∧ w.heap.size ≤ w'.heap.size := by
  unfold opRange at h
  split at h
  · rename_i hI
    split at h
    · rename_i ti s hti
      have hkd := (hT t ti hti).kd
      split at h
      · rename_i hk
        rw [hk] at hkd
        obtain ⟨rfl, hv⟩ := hx _ rfl
        obtain ⟨β', x1, x2, x3, x4⟩ := hw.newX (o := .stringIter s 0) (v := .pointer (some ⟨w.heap.size, 0, none⟩)) (c := .it s 0) rfl ⟨⟨_, rfl⟩, rfl, hv, hI⟩
        exact ⟨_, _, _, _, β', run_range_string w t s hkd, h, x1, x2, ⟨_, x3, rfl⟩, x4, by simp [World.iter]⟩
      · exact h.elim
    · exact h.elim
  · exact h.elim
theorem run_next_at {w : World} {g : Nat} {s : ByteArray} {pos : Nat} (hg : w.heap[g]? = some (.stringIter s pos)) (ty : TypeId) (h : pos < s.size) :
    (Instr.next (.pointer (some ⟨g, 0, none⟩)) true ty).run P w = .ok (.tuple #[.bool true, .int .i64 pos, .int .i32 (Utf8.decode s pos).1]) (w.goIter g s (pos + (Utf8.decode s pos).2)) := by
  simp only [Instr.next, getObj, setObj, Sem.run_bind, Sem.run, hg, Result.andThen, h, if_true]
  simp [goInt, World.goObj]
theorem run_next_over {w : World} {g : Nat} {s : ByteArray} {pos : Nat} (hg : w.heap[g]? = some (.stringIter s pos)) (ty : TypeId) (h : ¬ pos < s.size) :
    (Instr.next (.pointer (some ⟨g, 0, none⟩)) true ty).run P w = .ok (.tuple #[.bool false]) w := by
  simp [Instr.next, getObj, Sem.run, hg, h]
theorem opNext_ok {x : Option Rs} {K : Rs → St → Prop} (h : opNext x st K) (hw : Sat B β F st w) (ty : TypeId) {u : Value} (hx : ∀ r, x = some r → DnR β F w r u) :
    ∃ z w' st' r, (Instr.next u true ty).run P w = .ok z w' ∧ K r st' ∧ Ext β F w β F w' ∧ Sat B β F st' w' ∧ DnR β F w' r z ∧ (∀ k, Gd st β F k → Gd st' β F k ∧ w'.heap[k]? = w.heap[k]?) ∧ w.heap.size ≤ w'.heap.size := by
  unfold opNext at h
  split at h
  · rename_i id
    split at h
    · rename_i s pos hl
      obtain ⟨g, hb, rfl⟩ := hx _ rfl
      obtain ⟨v, g', o, h1, hg, h2, ⟨g'', e1⟩, e2, h3, hI⟩ := hw.cks _ (look_mem hl)
      obtain rfl : v = .pointer (some ⟨g, 0, none⟩) := by rw [hb] at h1; cases h1; rfl
      obtain rfl : g = g' := by simpa [bk] using hg
      subst e2
      by_cases hp : pos < s.size
      · obtain ⟨x1, x2, x3⟩ := hw.goX (o := .stringIter s (pos + (Utf8.decode s pos).2)) (c' := .it s (pos + (Utf8.decode s pos).2)) hl hb hg ⟨⟨_, rfl⟩, rfl, h3, hI⟩
        have hmx : (maxLen : Int) ≤ 9223372036854775807 := by decide
        refine ⟨_, _, _, _, run_next_at h2 ty hp, h.1 hp, x1, x2, ⟨[.bool true, .int .i64 pos, .int .i32 (Utf8.decode s pos).1], rfl, _, _, rfl, rfl, _, _, rfl, ⟨rfl, ?_⟩, _, _, rfl, ⟨rfl, ?_⟩, rfl⟩, x3, by simp⟩
        · simp only [vOk, inR]; omega
        · have := decode_le s pos
          simp only [vOk, inR]; omega
      · exact ⟨_, _, _, _, run_next_over h2 ty hp, h.2 (by omega), Ext.refl _ _ _, hw, ⟨[.bool false], rfl, _, _, rfl, rfl, rfl⟩, fun k hk => ⟨hk, rfl⟩, Nat.le_refl _⟩
    · exact h.elim
  · exact h.elim
end
end Go.Proofs.YtnbbooilapelmaaGreatDoor.V
