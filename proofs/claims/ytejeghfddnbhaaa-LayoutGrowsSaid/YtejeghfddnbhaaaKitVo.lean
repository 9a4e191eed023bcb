/-
  A symbolic run of a function's text: the rounds of a range over a function.
-/
import Derived.Test.YtejeghfddnbhaaaKitVt
import Derived.RangeFuncFrom
import Derived.RangeFuncLeaves
import Derived.RangeFuncBox
import Derived.RangeFuncNested
set_option linter.unusedVariables false
set_option linter.unusedSimpArgs false
namespace Go.Proofs.Ytejeghfddnbhaaa.V
open Go.RowKit Go.Proofs.Ytejeghfddnbhaaa
def isDefer (o : Oper) : Bool := match o.op with | .defer _ => true | _ => false
section
variable {P : Program} {n r : Nat}
theorem oper_in {o : Oper} (hd : isDefer o = false) {a : Act} {w : World} {K : Act → World → Prop} {Q : Exit → Act → World → Prop} (h : o.wp P a w K Q) : o.wpIn (Fence.wide.inRound r) n P a w K Q := by
  unfold Oper.wpIn
  refine ⟨fun _ _ => trivial, ?_⟩
  have e : o.semAt (Fence.wide.inRound r).round a.eval = execOp a.eval o := by
    unfold Oper.semAt
    split
    · rename_i l c h1 h2
      simp [isDefer, h2] at hd
    · rfl
  rw [e]
  unfold Oper.wp at h
  revert h
  generalize (execOp a.eval o).run P w = res
  intro h
  unfold Oper.upon at h
  unfold Oper.uponIn
  split at h
  · exact h
  · exact h
  · exact h
  · exact ⟨fun e => by simp [Fence.wide] at e, callsIn_wide.2 h⟩
  · exact ⟨fun e => by simp [Fence.wide] at e, fun c cs _ => let ⟨v, w2, q, s⟩ := h c cs; ⟨v, w2, q, stepsIn_wide.2 s⟩⟩
  · exact h
  · exact h.elim
theorem list_in {ops : Array Oper} {Q : Exit → Act → World → Prop} (hQ : ¬ LetsOut Q) : ∀ {l : List Oper} {a : Act} {w : World}, l.all (fun o => !(isDefer o)) = true → wpList P ops Q l a w → wpListIn (Fence.wide.inRound r) n P ops Q l a w
  | [], a, w, _, h => h
  | o :: rest, a, w, hd, h => by
    simp only [List.all_cons, Bool.and_eq_true, Bool.not_eq_true'] at hd
    simp only [wpList] at h
    simp only [wpListIn]
    split at h
    · rename_i hw
      rw [if_pos hw]
      rcases h with h | h
      · exact oper_in hd.1 (Oper.wp_mono (fun a w h => list_in hQ hd.2 h) h)
      · exact absurd h.2 hQ
    · rename_i hw
      rw [if_neg hw]
      exact ⟨fun _ _ => trivial, list_in hQ hd.2 h⟩
end
/-! ### One block that is no cells is turned; others are added -/
def Turns (n0 : Nat) (w w' : World) : Prop := ∃ row, w.grownBy w' row ∧ ∀ r, row = some r → n0 ≤ r ∧ ∃ o : Obj, w.heap[r]? = some o ∧ o.isCells = false
section
variable {n0 : Nat} {w w' : World} {β : Nat → Option Value} {F : Nat → Prop} {st : St} {B : Base}
theorem Turns.cell (h : Turns n0 w w') {a : Addr} {u : Value} (hc : w.cell? a = some u) : w'.cell? a = some u := by
  obtain ⟨row, hg, hr⟩ := h
  exact cell_kept hc hg fun r e => (hr r e).2
theorem Turns.blk (h : Turns n0 w w') {k : Nat} {vs : Array Value} {ty : TypeId} {fz : Nat × Nat} (hc : w.heap[k]? = some (.cells vs ty fz)) : w'.heap[k]? = some (.cells vs ty fz) := by
  obtain ⟨row, hg, hr⟩ := h
  refine (hg.block k (Array.getElem?_eq_some_iff.1 hc).1 fun e => ?_).trans hc
  obtain ⟨_, o, h1, h2⟩ := hr k e.symm
  rw [hc] at h1; cases h1; cases h2
theorem RdC.turn (h : Turns n0 w w') : ∀ {a : Sh} {x : a.T} {l : List Value}, RdC w F a x l → RdC w' F a x l
  | .int k, x, l, d => d
  | .bool, x, l, d => d
  | .str, x, l, d => d
  | .unit, x, l, d => d
  | .pair a b, x, l, d => by obtain ⟨l1, l2, e, h1, h2⟩ := d; exact ⟨l1, l2, e, RdC.turn h h1, RdC.turn h h2⟩
  | .arr n k, x, l, d => d
  | .sl a, x, l, d => by
    obtain ⟨ad, cap, e, h1, h2, h3, h4⟩ := d
    refine ⟨ad, cap, e, h1, h2, h3, fun h0 => ?_⟩
    obtain ⟨g, o, ha, hg, hc⟩ := h4 h0
    refine ⟨g, o, ha, hg, fun i y hy => ?_⟩
    obtain ⟨cs, c1, c2⟩ := hc i y hy
    exact ⟨cs, RdC.turn h c1, fun j u hu => h.cell (c2 j u hu)⟩
theorem RdL.turn (h : Turns n0 w w') {a : Sh} : ∀ {xs : List a.T} {l : List Value}, RdL w F a xs l → RdL w' F a xs l
  | [], l, d => d
  | x :: xs, l, d => by obtain ⟨c, r, e, h1, h2⟩ := d; exact ⟨c, r, e, h1.turn h, RdL.turn h h2⟩
theorem Dn.turn (h : Turns n0 w w') : ∀ {c : CV} {u : Value}, Dn β F w c u → Dn β F w' c u
  | .val v, u, d => d
  | .il k z, u, d => d
  | .bl b, u, d => d
  | .ptr id off, u, d => d
  | .sl id, u, d => d
  | .rd a y, u, d => RdC.turn h d
  | .rp a y c, u, d => by
    obtain ⟨g, o, cs, h1, h2, h3, h4⟩ := d
    exact ⟨g, o, cs, h1, h2, RdC.turn h h3, fun j u hu => h.cell (h4 j u hu)⟩
  | .ep id sz i c, u, d => d
  | .run .., _, d => d
  | .any, u, d => d
  | .sv id sz lo n, u, d => d
  | .pa id off n j, u, d => d
  | .ea id sz i c n j, u, d => d
  | .ra a y c n j, u, d => by
    obtain ⟨h0, g, o, cs, h1, h2, h3, h4⟩ := d
    exact ⟨h0, g, o, cs, h1, h2, RdC.turn h h3, fun j u hu => h.cell (h4 j u hu)⟩
  | .fn f cap, u, d => d
  | .nm k, u, d => d
theorem DnC.turn (h : Turns n0 w w') {c : CV} {l : List Value} (d : DnC β F w c l) : DnC β F w' c l := by
  cases c <;> first | exact d | (obtain ⟨u, h1, h2, h3⟩ := d; exact ⟨u, h1, Dn.turn h h2, h3⟩)
theorem DnL.turn (h : Turns n0 w w') : ∀ {c : List CV} {l : List Value}, DnL β F w c l → DnL β F w' c l
  | [], l, d => d
  | c :: r, l, d => by obtain ⟨a, b, e, h1, h2⟩ := d; exact ⟨a, b, e, h1.turn h, DnL.turn h h2⟩
theorem DnV.turn (h : Turns n0 w w') {c : Vl} {u : Value} (d : DnV β F w c u) : DnV β F w' c u := by
  cases c with
  | one c => exact Dn.turn h d
  | agg l => obtain ⟨vs, e, d⟩ := d; exact ⟨vs, e, d.turn h⟩
theorem DnVs.turn (h : Turns n0 w w') : ∀ {c : List Vl} {l : List Value}, DnVs β F w c l → DnVs β F w' c l
  | [], l, d => d
  | c :: r, l, d => by obtain ⟨a, b, e, h1, h2⟩ := d; exact ⟨a, b, e, h1.turn h, DnVs.turn h h2⟩
theorem DnR.turn (h : Turns n0 w w') {c : Rs} {u : Value} (d : DnR β F w c u) : DnR β F w' c u := by
  cases c with
  | v c => exact DnV.turn h d
  | tup l => obtain ⟨us, e, d⟩ := d; exact ⟨us, e, d.turn h⟩
theorem CkOk.turn (h : Turns n0 w w') {i : Nat} {c : Ck} (d : CkOk β F w i c) : CkOk β F w' i c := by
  cases c with
  | blk cells ty => obtain ⟨g, vs, h1, h2, h3⟩ := d; exact ⟨g, vs, h1, h.blk h2, h3.turn h⟩
  | own ty a xs =>
    obtain ⟨v, vs, h1, h2, h3⟩ := d
    refine ⟨v, vs, h1, ⟨h2.1, ?_⟩, h3.turn h⟩
    rcases h2.2 with hn | ⟨g, o, cap, cur, e, hb, hg, r⟩
    · exact .inl hn
    · exact .inr ⟨g, o, cap, cur, e, hb, h.blk hg, r⟩
theorem SlOk.turn (h : Turns n0 w w') {ts : Sl} {tmps : Array Value} (d : SlOk β F w ts tmps) : SlOk β F w' ts tmps :=
  ⟨d.size, fun i e hi => by obtain ⟨u, h1, h2, h3⟩ := d.at_ i e hi; exact ⟨u, h1, fun g => (h2 g).turn h, h3⟩, d.use⟩
theorem Turns.size (h : Turns n0 w w') : w.heap.size ≤ w'.heap.size := by obtain ⟨_, hg, _⟩ := h; exact hg.size
theorem Sat.turnW (h : Turns n0 w w') (hn : B.w0.heap.size ≤ n0) (d : Sat B β F st w) : Sat B β F st w' := by
  have hs := h.size
  refine ⟨?_, d.fresh, fun p hp => (d.cks p hp).turn h, fun p hp k hk => ⟨(d.own p hp k hk).1, (d.own p hp k hk).2.1, Nat.lt_of_lt_of_le (d.own p hp k hk).2.2 hs⟩, d.sep, fun k hk => Nat.lt_of_lt_of_le (d.frz k hk) hs, d.f1, d.f2, d.anc⟩
  obtain ⟨row, hg, hr⟩ := h
  refine ⟨hg.os.trans d.only.os, hg.tape.trans d.only.tape, hg.output.trans d.only.output, Nat.le_trans d.only.size hs, fun k hk hO => ?_⟩
  refine (hg.block k (Nat.lt_of_lt_of_le hk d.only.size) fun e => ?_).trans (d.only.block k hk hO)
  have := (hr k e.symm).1
  omega
/-! ### A run within a run -/
/-- From here on. -/
def reB (na : Nat) (β : Nat → Option Value) (F : Nat → Prop) (st : St) (w : World) : Base := ⟨w, fun k => ∃ p ∈ st.h, bk (β p.1) = some k, F, na, β⟩
theorem reSat {na : Nat} (hw : Sat B β F st w) (hn : na ≤ st.nx) : Sat (reB na β F st w) β F st w :=
  ⟨Only.refl _ w, hw.fresh, hw.cks, fun p hp k hk => ⟨.inl ⟨p, hp, hk⟩, (hw.own p hp k hk).2⟩, hw.sep, hw.frz, fun _ h => h, fun _ h => .inl h, hn, fun _ _ => rfl⟩
/-- A part of the regions. -/
theorem Sat.subl {h' : List (Nat × Ck)} (hw : Sat B β F st w) (hs : h'.Sublist st.h) : Sat B β F ⟨st.nx, h'⟩ w :=
  ⟨hw.only, hw.fresh, fun p hp => hw.cks p (hs.subset hp), fun p hp => hw.own p (hs.subset hp), hw.sep.sublist hs, hw.frz, hw.f1, hw.f2, hw.anc⟩
theorem Sat.rs (hw : Sat B β F st w) {p : Nat × Ck} (hp : p ∈ st.h) {k : Nat} (hk : bk (β p.1) = some k) : ∃ cur ty, w.heap[k]? = some (.cells cur ty (0, 0)) := by
  have := hw.cks p hp
  cases hq : p.2 with
  | blk cells ty =>
    rw [hq] at this
    obtain ⟨g, vs, h1, h2, _⟩ := this
    rw [h1] at hk
    simp [bk] at hk
    subst hk
    exact ⟨_, _, h2⟩
  | own ty a xs =>
    rw [hq] at this
    obtain ⟨v, vs, h1, h2, _⟩ := this
    rcases h2.2 with ⟨e, _⟩ | ⟨g, o, cap, cur, e, hb, hg, r⟩
    · rw [h1, e] at hk; simp [bk] at hk
    · rw [h1, e] at hk; simp [bk] at hk; subst hk; exact ⟨_, _, hg⟩
section
variable {β' : Nat → Option Value} {F' : Nat → Prop} {st' : St} {na : Nat}
theorem unF (hw : Sat B β F st w) (S1 : Sat (reB na β F st w) β' F' st' w') : ∀ k, F k → w'.heap[k]? = w.heap[k]? := fun k hk => S1.only.block k (hw.frz k hk) fun ⟨p, hp, hO⟩ => (hw.own p hp k hO).2.1 hk
/-- What is no cells stays. -/
theorem unN (hw : Sat B β F st w) (S1 : Sat (reB na β F st w) β' F' st' w') {k : Nat} {o : Obj} (hk : w.heap[k]? = some o) (ho : o.isCells = false) : w'.heap[k]? = some o := by
  refine (S1.only.block k (Array.getElem?_eq_some_iff.1 hk).1 fun ⟨p, hp, hO⟩ => ?_).trans hk
  obtain ⟨cur, ty, h1⟩ := hw.rs hp hO
  rw [hk] at h1; cases h1; cases ho
theorem unSat (hw : Sat B β F st w) (hn : B.na ≤ na) (S1 : Sat (reB na β F st w) β' F' st' w') : Sat B β' F' st' w' := by
  have hO : ∀ k, ((∃ p ∈ st.h, bk (β p.1) = some k) ∨ w.heap.size ≤ k) → B.O k ∨ B.w0.heap.size ≤ k := fun k h => by
    rcases h with ⟨p, hp, h⟩ | h
    · exact (hw.own p hp k h).1
    · exact .inr (Nat.le_trans hw.only.size h)
  refine ⟨⟨S1.only.os.trans hw.only.os, S1.only.tape.trans hw.only.tape, S1.only.output.trans hw.only.output, Nat.le_trans hw.only.size S1.only.size, fun k hk hn => ?_⟩, S1.fresh, S1.cks, fun p hp k hk => ⟨hO k (S1.own p hp k hk).1, (S1.own p hp k hk).2⟩, S1.sep, S1.frz, fun k h => S1.f1 k (hw.f1 k h), fun k h => ?_, Nat.le_trans hn S1.anc.1, fun i hi => (S1.anc.2 i (Nat.lt_of_lt_of_le hi hn)).trans (hw.anc.2 i hi)⟩
  · refine (S1.only.block k (Nat.lt_of_lt_of_le hk hw.only.size) fun ⟨p, hp, h⟩ => ?_).trans (hw.only.block k hk hn)
    rcases (hw.own p hp k h).1 with h1 | h1
    · exact hn h1
    · omega
  · rcases S1.f2 k h with h | h
    · exact hw.f2 k h
    · exact .inr (hO k h)
theorem unExt (hw : Sat B β F st w) (S1 : Sat (reB st.nx β F st w) β' F' st' w') : Ext β F w β' F' w' :=
  ⟨fun id v hv => by
    have hlt : id < st.nx := by
      rcases Nat.lt_or_ge id st.nx with h | h
      · exact h
      · rw [hw.fresh id h] at hv; cases hv
    exact (S1.anc.2 id hlt).trans hv, S1.f1, unF hw S1⟩
end
/-! ### Regions laid aside -/
def hasN (i : Nat) : List Nat → Bool
  | [] => false
  | j :: r => (match Nat.beq j i with | true => true | false => hasN i r)
def dropH (ks : List Nat) : List (Nat × Ck) → List (Nat × Ck)
  | [] => []
  | (i, c) :: r => (match hasN i ks with | true => dropH ks r | false => (i, c) :: dropH ks r)
def pickH (ks : List Nat) : List (Nat × Ck) → List (Nat × Ck)
  | [] => []
  | (i, c) :: r => (match hasN i ks with | true => (i, c) :: pickH ks r | false => pickH ks r)
theorem dropH_sub (ks : List Nat) : ∀ l, (dropH ks l).Sublist l
  | [] => .slnil
  | (i, c) :: r => by
    unfold dropH
    split
    · exact (dropH_sub ks r).cons _
    · exact (dropH_sub ks r).cons_cons _
theorem pickH_sub (ks : List Nat) : ∀ l, (pickH ks l).Sublist l
  | [] => .slnil
  | (i, c) :: r => by
    unfold pickH
    split
    · exact (pickH_sub ks r).cons_cons _
    · exact (pickH_sub ks r).cons _
theorem dropH_no {ks : List Nat} : ∀ {l : List (Nat × Ck)} {p : Nat × Ck}, p ∈ dropH ks l → hasN p.1 ks = false
  | (i, c) :: r, p, h => by
    unfold dropH at h
    split at h
    · exact dropH_no h
    · rename_i e
      rcases List.mem_cons.1 h with rfl | h
      · simpa using e
      · exact dropH_no h
theorem pickH_yes {ks : List Nat} : ∀ {l : List (Nat × Ck)} {p : Nat × Ck}, p ∈ pickH ks l → hasN p.1 ks = true
  | (i, c) :: r, p, h => by
    unfold pickH at h
    split at h
    · rename_i e
      rcases List.mem_cons.1 h with rfl | h
      · exact e
      · exact pickH_yes h
    · exact pickH_yes h
theorem pick_apart (hw : Sat B β F st w) {ks : List Nat} {p q : Nat × Ck} (hp : p ∈ pickH ks st.h) (hq : q ∈ dropH ks st.h) {k : Nat} (h1 : bk (β p.1) = some k) : bk (β q.1) ≠ some k := by
  have hne : p.1 ≠ q.1 := fun e => by have a := pickH_yes hp; have b := dropH_no hq; rw [e, b] at a; cases a
  exact pairwise_apart (R := fun a b => ∀ k, bk (β a) = some k → bk (β b) ≠ some k) (fun a b h k h1 h2 => h k h2 h1) hw.sep _ ((pickH_sub ks st.h).subset hp) _ ((dropH_sub ks st.h).subset hq) hne k h1
section
variable {β' : Nat → Option Value} {F' : Nat → Prop} {st' : St} {ks : List Nat}
theorem aside_blk (hw : Sat B β F st w) (S1 : Sat (reB st.nx β F ⟨st.nx, dropH ks st.h⟩ w) β' F' st' w') {p : Nat × Ck} (hp : p ∈ pickH ks st.h) {k : Nat} (hk : bk (β p.1) = some k) : w'.heap[k]? = w.heap[k]? :=
  S1.only.block k (hw.own p ((pickH_sub ks st.h).subset hp) k hk).2.2 fun ⟨q, hq, hO⟩ => pick_apart hw hp hq hk hO
theorem cks_lt (hw : Sat B β F st w) {p : Nat × Ck} (hp : p ∈ st.h) : p.1 < st.nx := by
  rcases Nat.lt_or_ge p.1 st.nx with h | h
  · exact h
  · have hc := hw.cks p hp
    have h0 := hw.fresh _ h
    cases hq : p.2 with
    | blk cells ty => rw [hq] at hc; obtain ⟨g, vs, h1, _⟩ := hc; rw [h0] at h1; cases h1
    | own ty a xs => rw [hq] at hc; obtain ⟨v, vs, h1, _⟩ := hc; rw [h0] at h1; cases h1
/-- The regions that were laid aside, back again. -/
theorem aside_back (hw : Sat B β F st w) (S1 : Sat (reB st.nx β F ⟨st.nx, dropH ks st.h⟩ w) β' F' st' w') : Sat B β' F' ⟨st'.nx, app (pickH ks st.h) st'.h⟩ w' := by
  have hw0 : Sat B β F ⟨st.nx, dropH ks st.h⟩ w := hw.subl (dropH_sub ks st.h)
  have S2 := unSat hw0 hw.anc.1 S1
  have x := unExt hw0 S1
  have hb : ∀ p ∈ pickH ks st.h, β' p.1 = β p.1 := fun p hp => S1.anc.2 _ (cks_lt hw ((pickH_sub ks st.h).subset hp))
  have ho : ∀ p ∈ pickH ks st.h, ∀ k, bk (β p.1) = some k → ¬ F' k ∧ ∀ q ∈ st'.h, bk (β' q.1) ≠ some k := fun p hp k hk => by
    obtain ⟨o1, o2, o3⟩ := hw.own p ((pickH_sub ks st.h).subset hp) k hk
    have no : ¬ ∃ q ∈ dropH ks st.h, bk (β q.1) = some k := fun ⟨q, hq, hO⟩ => pick_apart hw hp hq hk hO
    refine ⟨fun hf => ?_, fun q hq hk' => ?_⟩
    · rcases S1.f2 k hf with h | h | h
      · exact o2 h
      · exact no h
      · have : w.heap.size ≤ k := h
        omega
    · rcases (S1.own q hq k hk').1 with h | h
      · exact no h
      · have : w.heap.size ≤ k := h
        omega
  rw [app_eq]
  refine ⟨S2.only, S2.fresh, fun p hp => ?_, fun p hp k hk => ?_, List.pairwise_append.2 ⟨?_, S2.sep, fun p hp q hq k hk hk' => ?_⟩, S2.frz, S2.f1, S2.f2, S2.anc⟩
  · rcases List.mem_append.1 hp with hp | hp
    · have hc := hw.cks p ((pickH_sub ks st.h).subset hp)
      have hk : ∀ k, bk (β p.1) = some k → w'.heap[k]? = w.heap[k]? := fun k hk => aside_blk hw S1 hp hk
      cases hq : p.2 with
      | blk cells ty =>
        rw [hq] at hc
        obtain ⟨g, vs, h1, h2, h3⟩ := hc
        exact ⟨g, vs, x.b _ _ h1, (hk g (by rw [h1]; rfl)).trans h2, h3.ext x⟩
      | own ty a xs =>
        rw [hq] at hc
        obtain ⟨v, vs, h1, h2, h3⟩ := hc
        exact ⟨v, vs, x.b _ _ h1, h2.kept fun k h => hk k (by rw [h1]; exact own_bk h), h3.mono x.f x.k⟩
    · exact S2.cks p hp
  · rcases List.mem_append.1 hp with hp | hp
    · rw [hb p hp] at hk
      obtain ⟨o1, o2, o3⟩ := hw.own p ((pickH_sub ks st.h).subset hp) k hk
      exact ⟨o1, (ho p hp k hk).1, Nat.lt_of_lt_of_le o3 S1.only.size⟩
    · exact S2.own p hp k hk
  · refine (hw.sep.sublist (pickH_sub ks st.h)).imp_of_mem fun {p q} hp hq h k h1 h2 => h k (by rw [← hb p hp]; exact h1) (by rw [← hb q hq]; exact h2)
  · rw [hb p hp] at hk
    exact (ho p hp k hk).2 q hq hk'
end
end
end Go.Proofs.Ytejeghfddnbhaaa.V
