/-
  A region that draws its order: what only reads may come first.
-/
import Derived.Test.YtnbbooilapelmaaGreatDoorKitVf
set_option linter.unusedVariables false
set_option linter.unusedSimpArgs false
namespace Go.Proofs.YtnbbooilapelmaaGreatDoor.V
open Go.RowKit Go.Proofs.YtnbbooilapelmaaGreatDoor
def QN : Exit → Act → World → Prop := fun _ _ _ => False
section
variable {P : Program} {ops : Array Oper} {md : Region.Mode}
def oneOp (P : Program) (ops : Array Oper) (i : Nat) (K : Act → World → Prop) (a : Act) (w : World) : Prop :=
  match ops[i]? with
  | none => K a w
  | some o => if Region.wanted o (yielded ops a.tmps) = true then o.wp P a w K QN else K (a.put o.dst undef) w
theorem QN_out : ¬ LetsOut QN := fun ⟨_, _, h⟩ => h
theorem wp_mono_all {o : Oper} {a : Act} {w : World} {K K' : Act → World → Prop} {Q : Exit → Act → World → Prop} (h : o.wp P a w K QN) (hk : ∀ a w, K a w → K' a w) : o.wp P a w K' Q := by
  unfold Oper.wp at *
  generalize (execOp a.eval o).run P w = r at *
  cases r with
  | ok n w' =>
    cases n <;> simp only [Oper.upon] at h ⊢
    case value v => exact hk _ _ h
    case skip => exact hk _ _ h
    case defer d => exact hk _ _ h
    case enter f args => exact h.mono fun e w'' he => by cases e <;> first | exact hk _ _ he | exact he.elim | exact (QN_out he).elim
    case row row args => exact h.mono fun v w'' he => hk _ _ he
  | halt x w' =>
    cases x <;> simp only [Oper.upon] at h ⊢
    exact h.elim
theorem oneOp_mono {i : Nat} {a : Act} {w : World} {K K' : Act → World → Prop} (h : oneOp P ops i K a w) (hk : ∀ a w, K a w → K' a w) : oneOp P ops i K' a w := by
  unfold oneOp at *
  split
  · rename_i ho; rw [ho] at h; exact hk _ _ h
  · rename_i o ho
    rw [ho] at h
    simp only at h
    split
    · rename_i hw; rw [if_pos hw] at h; exact wp_mono_all h hk
    · rename_i hw; rw [if_neg hw] at h; exact hk _ _ h
theorem oneOp_wpOp {i : Nat} {a : Act} {w : World} {K : Act → World → Prop} {Q : Exit → Act → World → Prop} (h : oneOp P ops i K a w) : wpOp P ops Q i K a w := by
  unfold oneOp at h
  unfold wpOp
  split
  · rename_i ho; rw [ho] at h; exact h
  · rename_i o ho
    rw [ho] at h
    simp only at h
    split
    · rename_i hw; rw [if_pos hw] at h; exact .inl (wp_mono_all h fun _ _ h => h)
    · rename_i hw; rw [if_neg hw] at h; exact h
/-- An operation that is apart from another: whether that one's value lies there makes no difference. -/
theorem oneOp_put {j : Nat} {oi oj : Oper} {v : Value} (hj : ops[j]? = some oj) (hap : oi.apart ops oj = true) (hsj : ∀ cs b, oj.op ≠ .select cs b) {Y : Act → Prop} {K : Act → World → Prop} {a : Act} {w : World}
    (hy : ∀ u a', a'.tmps = (a.put oj.dst u).tmps → Y a') (h : oneOp P ops j K (a.put oi.dst v) w) : oneOp P ops j (fun a' w' => Y a' ∧ K (a'.put oi.dst v) w') a w := by
  obtain ⟨h1, h2, h3⟩ := Oper.apart_spec hap
  unfold oneOp at *
  simp only [hj] at *
  rw [wanted_put oj a oi.dst v h1] at h
  split
  · rename_i hw
    rw [if_pos hw] at h
    unfold Oper.wp at *
    rw [execOp_put oj hsj a oi.dst v h1] at h
    generalize (execOp a.eval oj).run P w = r at *
    cases r with
    | ok n w' =>
      cases n <;> simp only [Oper.upon] at h ⊢
      case value u => exact ⟨hy u _ rfl, by rw [← Act.put_comm a v u h2]; exact h⟩
      case skip => exact ⟨hy undef _ rfl, by rw [← Act.put_comm a v undef h2]; exact h⟩
      case defer d =>
        refine ⟨hy undef _ (by cases oj.dst <;> rfl), ?_⟩
        have : ({ a.put oi.dst v with defers := d :: (a.put oi.dst v).defers } : Act).put oj.dst undef = (({ a with defers := d :: a.defers } : Act).put oj.dst undef).put oi.dst v := by
          have e : ({ a.put oi.dst v with defers := d :: (a.put oi.dst v).defers } : Act) = ({ a with defers := d :: a.defers } : Act).put oi.dst v := by cases oi.dst <;> rfl
          rw [e, Act.put_comm _ v undef h2]
        rw [← this]; exact h
      case enter f args =>
        refine h.mono ?_
        intro e w'' he
        cases e with
        | returned u => exact ⟨hy u _ rfl, by rw [← Act.put_comm a v u h2]; exact he⟩
        | panicked c => exact he.elim
        | outgrown => exact (QN_out he).elim
      case row row args => exact h.mono fun u w'' he => ⟨hy u _ rfl, by rw [← Act.put_comm a v u h2]; exact he⟩
    | halt x w' =>
      cases x <;> simp only [Oper.upon] at h ⊢
      exact h.elim
  · rename_i hw
    rw [if_neg hw] at h
    exact ⟨hy undef _ rfl, by rw [← Act.put_comm a v undef h2]; exact h⟩
/-- It waits for it, by a chain of edges. -/
inductive Rch (md : Region.Mode) (ops : Array Oper) : Nat → Nat → Prop where
  | dir {j i : Nat} {o : Oper} {e : Edge} (ho : ops[j]? = some o) (he : e ∈ o.after) (hb : Region.binds md e = true) (hi : e.on = i) : Rch md ops j i
  | step {j i : Nat} {o : Oper} {e : Edge} (ho : ops[j]? = some o) (he : e ∈ o.after) (hb : Region.binds md e = true) (h : Rch md ops e.on i) : Rch md ops j i
theorem Rch.trans {md : Region.Mode} {ops : Array Oper} {j k i : Nat} (h : Rch md ops j k) (h' : Rch md ops k i) : Rch md ops j i := by
  induction h with
  | dir ho he hb hi => subst hi; exact .step ho he hb h'
  | step ho he hb _ ih => exact .step ho he hb (ih h')
/-- What is listed has what it waits for listed. -/
def Cl (md : Region.Mode) (ops : Array Oper) (listed : Array Bool) : Prop := ∀ (k : Nat) (o : Oper), ops[k]? = some o → listed.getD k false = true → ∀ e ∈ o.after, Region.binds md e = true → listed.getD e.on false = true
theorem getD_ne {listed : Array Bool} {j k : Nat} (hjk : ¬ j = k) : (listed.setIfInBounds j true).getD k false = listed.getD k false := by
  simp only [Array.getD_eq_getD_getElem?]
  rw [Array.getElem?_setIfInBounds_ne hjk]
theorem getD_mono {listed : Array Bool} {j k : Nat} (h : listed.getD k false = true) : (listed.setIfInBounds j true).getD k false = true := by
  by_cases hjk : j = k
  · subst hjk
    have hlt : j < listed.size := by
      rcases Nat.lt_or_ge j listed.size with h' | h'
      · exact h'
      · simp [Array.getElem?_eq_none h'] at h
    simp [hlt]
  · rw [getD_ne hjk]; exact h
theorem Cl.set {listed : Array Bool} (h : Cl md ops listed) {j : Nat} (hj : j ∈ Region.ready md ops listed) : Cl md ops (listed.setIfInBounds j true) := by
  intro k o hk hl e he hb
  by_cases hjk : j = k
  · subst hjk
    obtain ⟨_, oj, hoj, hall⟩ := mem_ready.1 hj
    rw [hoj] at hk; cases hk
    exact getD_mono (hall e he hb)
  · rw [getD_ne hjk] at hl
    exact getD_mono (h k o hk hl e he hb)
theorem Cl.init (n : Nat) : Cl md ops (Array.replicate n false) := by
  intro k o _ hl
  simp only [Array.getD_eq_getD_getElem?, Array.getElem?_replicate] at hl
  split at hl <;> simp at hl
theorem rch_listed {listed : Array Bool} (h : Cl md ops listed) {j i : Nat} (hr : Rch md ops j i) : ∀ {oj : Oper}, ops[j]? = some oj → (∀ e ∈ oj.after, Region.binds md e = true → listed.getD e.on false = true) → listed.getD i false = true := by
  induction hr with
  | dir ho he hb hi =>
    intro oj hoj hall
    rw [ho] at hoj; cases hoj
    rw [← hi]; exact hall _ he hb
  | step ho he hb hh ih =>
    intro oj hoj hall
    rw [ho] at hoj; cases hoj
    have hl := hall _ he hb
    obtain ⟨ok, hk⟩ : ∃ ok, ops[_]? = some ok := by cases hh with | dir ho _ _ _ => exact ⟨_, ho⟩ | step ho _ _ _ => exact ⟨_, ho⟩
    exact ih hk fun e' he' hb' => h _ ok hk hl e' he' hb'
/-- It waits for each of these. -/
def DW (md : Region.Mode) (ops : Array Oper) (rs : List Nat) (j : Nat) : Prop := ∀ i ∈ rs, i = j ∨ Rch md ops j i
def core (P : Program) (md : Region.Mode) (ops : Array Oper) (rs : List Nat) (Q : Act → World → Prop) : Nat → Array Bool → (Nat → Prop) → Act → World → Prop
  | 0, listed, _, a, w => Region.ready md ops listed = [] ∧ Q a w
  | n + 1, listed, G, a, w => (Region.ready md ops listed = [] → Q a w) ∧ ∀ i ∈ Region.ready md ops listed, oneOp P ops i (fun a' w' => ∃ G' : Nat → Prop,
      (DW md ops rs i ∨ ((∀ k, G k → G' k ∧ w'.heap[k]? = w.heap[k]?) ∧ w.heap.size ≤ w'.heap.size)) ∧ (∀ k, G' k → k < w'.heap.size) ∧ ∀ w'', Below w'.heap.size w' w'' → core P md ops rs Q n (listed.setIfInBounds i true) G' a' w'') a w
theorem core_any {rs : List Nat} {Q : Act → World → Prop} {Q' : Exit → Act → World → Prop} (hQ : ∀ a w, Q a w → Q' .normal a w) : ∀ (n : Nat) (listed : Array Bool) (G : Nat → Prop) (a : Act) (w : World), core P md ops rs Q n listed G a w → wpAny P md ops Q' n listed a w
  | 0, _, _, _, _, h => ⟨h.1, hQ _ _ h.2⟩
  | n + 1, _, _, _, _, h => ⟨fun h0 => hQ _ _ (h.1 h0), fun i hi => oneOp_wpOp (oneOp_mono (h.2 i hi) fun a' w' ⟨G', _, _, h3⟩ => core_any hQ n _ G' a' w' (h3 w' (Below.refl _ _)))⟩
/-- It yields v, in whatever world that has what it may read. -/
def YieldsQ (P : Program) (ops : Array Oper) (rs : List Nat) (i : Nat) (o : Oper) (v : Value) (G : Nat → Prop) (a : Act) (w : World) : Prop :=
  (Region.wanted o (yielded ops a.tmps) = true ∧ ∀ w'', (i ∈ rs → (∀ k, G k → w''.heap[k]? = w.heap[k]?) ∧ w.heap.size ≤ w''.heap.size) → o.quietAt P a (Below w''.heap.size w'') w'' v) ∨
  (Region.wanted o (yielded ops a.tmps) = false ∧ v = undef)
theorem quiet_wp {o : Oper} {a : Act} {C : World → Prop} {w : World} {v : Value} {K : Act → World → Prop} {Q : Exit → Act → World → Prop} (h : o.quietAt P a C w v) (hw : C w) (hk : ∀ w', C w' → K (a.put o.dst v) w') : o.wp P a w K Q := by
  unfold Oper.quietAt at h
  unfold Oper.wp
  generalize (execOp a.eval o).run P w = r at *
  cases r with
  | ok n w' =>
    cases n <;> simp only [Oper.quietUpon] at h <;> simp only [Oper.upon]
    case value u => obtain ⟨rfl, rfl⟩ := h; exact hk _ hw
    case skip => obtain ⟨rfl, rfl⟩ := h; exact hk _ hw
    case enter f args => obtain ⟨rfl, hc⟩ := h; exact hc.mono fun e w'' ⟨he, hw''⟩ => by subst he; exact hk _ hw''
  | halt x w' => simp only [Oper.quietUpon] at h
theorem core_first {rs : List Nat} {Q : Act → World → Prop} {i : Nat} {oi : Oper} {v : Value} (hi : ops[i]? = some oi) (hsel : ∀ (j : Nat) (o : Oper) cs b, ops[j]? = some o → o.op ≠ .select cs b) :
    ∀ (n : Nat) (listed : Array Bool) (G : Nat → Prop) (a : Act) (w : World),
      (∀ j oj, ops[j]? = some oj → j ≠ i → listed.getD j true = false → (∀ e ∈ oj.after, Region.binds md e = true → e.on ≠ i) → oi.apart ops oj = true) →
      i ∈ Region.ready md ops listed → Cl md ops listed → (∀ k, G k → k < w.heap.size) → YieldsQ P ops rs i oi v G a w →
      (∀ w', Below w.heap.size w w' → core P md ops rs Q n (listed.setIfInBounds i true) G (a.put oi.dst v) w') → core P md ops rs Q (n + 1) listed G a w := by
  intro n
  have self : ∀ (n : Nat) (listed : Array Bool) (G : Nat → Prop) (a : Act) (w : World), (∀ k, G k → k < w.heap.size) → YieldsQ P ops rs i oi v G a w →
      (∀ w', Below w.heap.size w w' → core P md ops rs Q n (listed.setIfInBounds i true) G (a.put oi.dst v) w') → oneOp P ops i (fun a' w' => ∃ G' : Nat → Prop,
      (DW md ops rs i ∨ ((∀ k, G k → G' k ∧ w'.heap[k]? = w.heap[k]?) ∧ w.heap.size ≤ w'.heap.size)) ∧ (∀ k, G' k → k < w'.heap.size) ∧ ∀ w'', Below w'.heap.size w' w'' → core P md ops rs Q n (listed.setIfInBounds i true) G' a' w'') a w := by
    intro n listed G a w hG hy H
    unfold oneOp
    simp only [hi]
    rcases hy with ⟨hw, hv⟩ | ⟨hw, rfl⟩
    · rw [if_pos hw]
      refine quiet_wp (hv w fun _ => ⟨fun _ _ => rfl, Nat.le_refl _⟩) (Below.refl _ _) fun w' hb => ⟨G, .inr ⟨fun k hk => ⟨hk, hb.block k (hG k hk)⟩, hb.size⟩, fun k hk => Nat.lt_of_lt_of_le (hG k hk) hb.size, fun w'' hb' => H w'' (hb.trans (hb'.mono hb.size))⟩
    · rw [if_neg (by rw [hw]; simp)]
      exact ⟨G, .inr ⟨fun k hk => ⟨hk, by first | rfl | trivial⟩, Nat.le_refl _⟩, hG, fun w'' hb => H w'' hb⟩
  induction n with
  | zero =>
    intro listed G a w hfree hr hcl hG hy H
    refine ⟨fun h => (by rw [h] at hr; cases hr), fun j hj => ?_⟩
    by_cases hji : j = i
    · subst hji; exact self 0 listed G a w hG hy H
    · have := ready_mono hj hji
      rw [(H w (Below.refl _ _)).1] at this
      cases this
  | succ n ih =>
    intro listed G a w hfree hr hcl hG hy H
    refine ⟨fun h => (by rw [h] at hr; cases hr), fun j hj => ?_⟩
    by_cases hji : j = i
    · subst hji; exact self (n + 1) listed G a w hG hy H
    · have h1 := (H w (Below.refl _ _)).2 j (ready_mono hj hji)
      obtain ⟨hjun, oj, hoj, hall⟩ := mem_ready.1 hj
      have hun : listed.getD i false = true → False := fun h1 => by
        have h0 := (mem_ready.1 hr).1
        rcases Nat.lt_or_ge i listed.size with h' | h'
        · simp [h'] at h0 h1; rw [h0] at h1; cases h1
        · simp [Array.getElem?_eq_none h'] at h1
      have hnot : ∀ e ∈ oj.after, Region.binds md e = true → e.on ≠ i := fun e he hb heq => by
        have h1 := hall e he hb
        rw [heq] at h1
        exact hun h1
      have hap := hfree j oj hoj hji hjun hnot
      obtain ⟨p1, p2, p3⟩ := Oper.apart_spec hap
      have h2 := oneOp_put (Y := fun a' => execOp a'.eval oi = execOp a.eval oi ∧ Region.wanted oi (yielded ops a'.tmps) = Region.wanted oi (yielded ops a.tmps)) hoj hap (fun cs b => hsel j oj cs b hoj) (fun u a' e => by
        have e1 : a'.eval = (a.put oj.dst u).eval := by
          funext x
          cases x <;> simp [Act.eval, e]
        exact ⟨by rw [e1]; exact execOp_put oi (fun cs b => hsel i oi cs b hi) a oj.dst u p3, by rw [e]; exact wanted_put oi a oj.dst u p3⟩) h1
      have hfree' : ∀ k ok, ops[k]? = some ok → k ≠ i → (listed.setIfInBounds j true).getD k true = false →
          (∀ e ∈ ok.after, Region.binds md e = true → e.on ≠ i) → oi.apart ops ok = true := fun k ok hk hki hun hno => by
        refine hfree k ok hk hki ?_ hno
        by_cases hjk : j = k
        · subst hjk; exact hjun
        · rw [getD_set_ne true hjk] at hun; exact hun
      refine oneOp_mono h2 fun a' w' ⟨⟨y1, y2⟩, G', q1, q2, q3⟩ => ⟨G', q1, q2, fun w'' hb => ?_⟩
      refine ih (listed.setIfInBounds j true) G' a' w'' hfree' (ready_mono hr (Ne.symm hji)) (hcl.set hj) (fun k hk => Nat.lt_of_lt_of_le (q2 k hk) hb.size) ?_ fun w3 hb3 => ?_
      · rcases hy with ⟨hw, hv⟩ | ⟨hw, e⟩
        · refine .inl ⟨by rw [y2]; exact hw, fun w3 hc => ?_⟩
          have := hv w3 fun hrs => by
            obtain ⟨c1, c2⟩ := hc hrs
            rcases q1 with hd | ⟨k1, k2⟩
            · exfalso
              rcases hd i hrs with h | h
              · exact hji h.symm
              · exact hun (rch_listed hcl h hoj hall)
            · refine ⟨fun k hk => ?_, Nat.le_trans k2 (Nat.le_trans hb.size c2)⟩
              rw [c1 k (k1 k hk).1, hb.block k (q2 k (k1 k hk).1), (k1 k hk).2]
          unfold Oper.quietAt at *
          rw [y1]
          exact this
        · exact .inr ⟨by rw [y2]; exact hw, e⟩
      · rw [Array.setIfInBounds_comm _ _ hji]
        exact q3 w3 (hb.trans (hb3.mono hb.size))
end
/-! ### Which are ready, which are free: by numbers -/
structure OM where
  d : Nat
  g : Nat
  k : Nat
def maskL : List Nat → Nat
  | [] => 0
  | t :: r => Nat.lor (bit1 t) (maskL r)
def depsM (md : Region.Mode) : List Edge → Nat
  | [] => 0
  | e :: r => (match Region.binds md e with | true => Nat.lor (bit1 e.on) (depsM md r) | false => depsM md r)
def dstM : Option Tmp → Nat | some t => bit1 t | none => 0
def omOf (md : Region.Mode) (ops : Array Oper) (o : Oper) : OM := ⟨depsM md o.after.toList, dstM o.dst, maskL (o.looksAt ops)⟩
def forceN (n : Nat) (K : Nat → Prop) : Prop := match n with | 0 => K 0 | m + 1 => K (m + 1)
theorem forceN_eq (n : Nat) (K : Nat → Prop) : forceN n K = K n := by cases n <;> rfl
def forceOM (md : Region.Mode) (ops : Array Oper) : List Oper → (List OM → Prop) → Prop
  | [], K => K []
  | o :: r, K => forceN (depsM md o.after.toList) fun d => forceN (dstM o.dst) fun g => forceN (maskL (o.looksAt ops)) fun k => forceOM md ops r fun l => K (⟨d, g, k⟩ :: l)
theorem forceOM_eq (md : Region.Mode) (ops : Array Oper) : ∀ (l : List Oper) (K : List OM → Prop), forceOM md ops l K = K (l.map (omOf md ops))
  | [], _ => rfl
  | o :: r, K => by simp only [forceOM, forceN_eq]; rw [forceOM_eq md ops r]; rfl
def readyM : List OM → Nat → Nat → List Nat
  | [], _, _ => []
  | m :: r, lm, i => (match tbk lm i, Nat.beq (Nat.land m.d lm) m.d with | false, true => i :: readyM r lm (i + 1) | _, _ => readyM r lm (i + 1))
def apartM (x y : OM) : Bool := Nat.beq (Nat.land x.g y.k) 0 && (Nat.beq (Nat.land x.g y.g) 0 && Nat.beq (Nat.land y.g x.k) 0)
def freeM (lm i : Nat) (x : OM) : List OM → Nat → Bool
  | [], _ => true
  | m :: r, j => (match Nat.beq j i || (tbk lm j || (tbk m.d i || apartM x m)) with | true => freeM lm i x r (j + 1) | false => false)
/-- One step further along the edges. -/
def stepM (D : Nat) : List OM → Nat → Nat
  | [], _ => D
  | m :: r, j => (match tbk D j with | true => Nat.lor m.d (stepM D r (j + 1)) | false => stepM D r (j + 1))
def dwaitM (tab : List OM) (rm j : Nat) : Bool :=
  match tab[j]? with
  | some m => Nat.beq (Nat.land rm (Nat.lor (bit1 j) (stepM (stepM m.d tab 0) tab 0))) rm
  | none => false
theorem tb_maskL (l : List Nat) (i : Nat) : Nat.testBit (maskL l) i = true ↔ i ∈ l := by
  induction l with
  | nil => simp [maskL]
  | cons t r ih => simp only [maskL, tb_lor, tb_bit1, Bool.or_eq_true, decide_eq_true_eq, ih, List.mem_cons]; exact or_congr ⟨Eq.symm, Eq.symm⟩ Iff.rfl
theorem tb_depsM (md : Region.Mode) (l : List Edge) (i : Nat) : Nat.testBit (depsM md l) i = true ↔ ∃ e ∈ l, Region.binds md e = true ∧ e.on = i := by
  induction l with
  | nil => simp [depsM]
  | cons t r ih =>
    simp only [depsM]
    split
    · rename_i hb
      simp [tb_lor, tb_bit1, ih, hb]
    · rename_i hb
      simp [ih, hb]
theorem land_all {a b : Nat} : Nat.beq (Nat.land a b) a = true ↔ ∀ i, Nat.testBit a i = true → Nat.testBit b i = true := by
  constructor
  · intro h i hi
    have h := Nat.eq_of_beq_eq_true h
    have : Nat.testBit (a &&& b) i = true := by rw [show a &&& b = a from h]; exact hi
    rw [Nat.testBit_and] at this
    simp at this
    exact this.2
  · intro h
    have : a &&& b = a := Nat.eq_of_testBit_eq fun i => by
      rw [Nat.testBit_and]
      cases ha : Nat.testBit a i with
      | false => rfl
      | true => rw [h i ha]; rfl
    rw [show Nat.land a b = a from this]; exact Nat.beq_refl a
theorem land_zero {a b : Nat} (h : Nat.beq (Nat.land a b) 0 = true) (i : Nat) (ha : Nat.testBit a i = true) : Nat.testBit b i = false := by
  have h : a &&& b = 0 := Nat.eq_of_beq_eq_true h
  have : Nat.testBit (a &&& b) i = false := by rw [h]; simp
  rw [Nat.testBit_and, ha] at this
  simpa using this
section
variable {ops : Array Oper} {md : Region.Mode}
/-- The number stands for the list. -/
def Rel (ops : Array Oper) (listed : Array Bool) (lm : Nat) : Prop := listed.size = ops.size ∧ ∀ i, listed.getD i false = Nat.testBit lm i
theorem Rel.init : Rel ops (Array.replicate ops.size false) 0 := ⟨by simp, fun i => by
  simp only [Array.getD_eq_getD_getElem?, Array.getElem?_replicate, Nat.zero_testBit]
  split <;> rfl⟩
theorem Rel.set {listed : Array Bool} {lm i : Nat} (h : Rel ops listed lm) (hi : i < ops.size) : Rel ops (listed.setIfInBounds i true) (Nat.lor (bit1 i) lm) := by
  refine ⟨by simp [h.1], fun k => ?_⟩
  rw [tb_lor, tb_bit1]
  by_cases hk : i = k
  · subst hk
    have : i < listed.size := by rw [h.1]; exact hi
    simp [this]
  · rw [getD_ne hk, h.2 k]; simp [hk]
theorem mem_readyM {listed : Array Bool} {lm : Nat} (h : Rel ops listed lm) {j : Nat} : j ∈ readyM (ops.toList.map (omOf md ops)) lm 0 ↔ j ∈ Region.ready md ops listed := by
  have gen : ∀ (l : List Oper) (i : Nat), (j ∈ readyM (l.map (omOf md ops)) lm i ↔ ∃ o, i ≤ j ∧ l[j - i]? = some o ∧ Nat.testBit lm j = false ∧ ∀ e ∈ o.after, Region.binds md e = true → Nat.testBit lm e.on = true) := by
    intro l
    induction l with
    | nil => intro i; simp [readyM]
    | cons o r ih =>
      intro i
      simp only [List.map_cons, readyM]
      have hd : Nat.beq (Nat.land (omOf md ops o).d lm) (omOf md ops o).d = true ↔ ∀ e ∈ o.after, Region.binds md e = true → Nat.testBit lm e.on = true := by
        rw [land_all]
        constructor
        · intro h e he hb; exact h e.on ((tb_depsM md _ _).2 ⟨e, by simpa using he, hb, rfl⟩)
        · intro h k hk
          obtain ⟨e, he, hb, rfl⟩ := (tb_depsM md _ _).1 hk
          exact h e (by simpa using he) hb
      have rest : (∃ p, i + 1 ≤ j ∧ r[j - (i + 1)]? = some p ∧ Nat.testBit lm j = false ∧ ∀ e ∈ p.after, Region.binds md e = true → Nat.testBit lm e.on = true) ↔ (∃ p, i ≤ j ∧ i ≠ j ∧ (o :: r)[j - i]? = some p ∧ Nat.testBit lm j = false ∧ ∀ e ∈ p.after, Region.binds md e = true → Nat.testBit lm e.on = true) := by
        constructor
        · rintro ⟨p, h1, h2, h3⟩
          refine ⟨p, by omega, by omega, ?_, h3⟩
          rw [show j - i = (j - (i + 1)) + 1 by omega]; simpa using h2
        · rintro ⟨p, h1, h1', h2, h3⟩
          refine ⟨p, by omega, ?_, h3⟩
          rw [show j - i = (j - (i + 1)) + 1 by omega] at h2; simpa using h2
      split
      · rename_i h1 h2
        rw [tbk_eq] at h1
        rw [List.mem_cons, ih, rest]
        constructor
        · rintro (rfl | ⟨p, k1, _, k2⟩)
          · exact ⟨o, Nat.le_refl _, by simp, h1, hd.1 h2⟩
          · exact ⟨p, k1, k2⟩
        · rintro ⟨p, k1, k2⟩
          by_cases hij : j = i
          · exact .inl hij
          · exact .inr ⟨p, k1, fun e => hij e.symm, k2⟩
      · rename_i hno
        rw [ih, rest]
        constructor
        · rintro ⟨p, k1, _, k2⟩; exact ⟨p, k1, k2⟩
        · rintro ⟨p, k1, k2, k3, k4⟩
          refine ⟨p, k1, fun e => ?_, k2, k3, k4⟩
          subst e
          simp at k2
          subst k2
          exact hno (by rw [tbk_eq]; exact k3) (hd.2 k4)
  rw [gen, mem_ready]
  constructor
  · rintro ⟨o, _, ho, h1, h2⟩
    have ho : ops[j]? = some o := by simpa using ho
    have hlt := (Array.getElem?_eq_some_iff.1 ho).1
    have hlt' : j < listed.size := by rw [h.1]; exact hlt
    refine ⟨?_, o, ho, fun e he hb => by rw [h.2]; exact h2 e he hb⟩
    have := h.2 j
    rw [h1] at this
    simp [hlt'] at this ⊢
    exact this
  · rintro ⟨h1, o, ho, h2⟩
    have hlt := (Array.getElem?_eq_some_iff.1 ho).1
    have hlt' : j < listed.size := by rw [h.1]; exact hlt
    refine ⟨o, Nat.zero_le _, by simpa using ho, ?_, fun e he hb => by rw [← h.2]; exact h2 e he hb⟩
    rw [← h.2]
    simp [hlt'] at h1 ⊢
    exact h1
theorem readyM_nil {listed : Array Bool} {lm : Nat} (h : Rel ops listed lm) (he : readyM (ops.toList.map (omOf md ops)) lm 0 = []) : Region.ready md ops listed = [] := by
  cases hq : Region.ready md ops listed with
  | nil => rfl
  | cons j l =>
    have := (mem_readyM (md := md) h (j := j)).2 (by rw [hq]; simp)
    rw [he] at this; cases this
theorem freeM_ok {listed : Array Bool} {lm i : Nat} {oi : Oper} (h : Rel ops listed lm) (hf : freeM lm i (omOf md ops oi) (ops.toList.map (omOf md ops)) 0 = true) (j : Nat) (oj : Oper)
    (hj : ops[j]? = some oj) (hne : j ≠ i) (hun : listed.getD j true = false) (hno : ∀ e ∈ oj.after, Region.binds md e = true → e.on ≠ i) : oi.apart ops oj = true := by
  have gen : ∀ (l : List Oper) (k : Nat), freeM lm i (omOf md ops oi) (l.map (omOf md ops)) k = true → k ≤ j → l[j - k]? = some oj → (Nat.beq j i || (tbk lm j || (tbk (omOf md ops oj).d i || apartM (omOf md ops oi) (omOf md ops oj)))) = true := by
    intro l
    induction l with
    | nil => intro k _ _ hl; simp at hl
    | cons o r ih =>
      intro k hf hk hl
      simp only [List.map_cons, freeM] at hf
      split at hf
      · rename_i hb
        by_cases hkj : k = j
        · subst hkj; simp at hl; subst hl; exact hb
        · exact ih (k + 1) hf (by omega) (by rw [show j - k = (j - (k + 1)) + 1 by omega] at hl; simpa using hl)
      · cases hf
  have := gen ops.toList 0 hf (Nat.zero_le _) (by simpa using hj)
  have hlt' : j < listed.size := by rw [h.1]; exact (Array.getElem?_eq_some_iff.1 hj).1
  have h1 : tbk lm j = false := by rw [tbk_eq, ← h.2]; simp [hlt'] at hun ⊢; exact hun
  have h2 : tbk (omOf md ops oj).d i = false := by
    rw [tbk_eq]
    cases hq : Nat.testBit (omOf md ops oj).d i with
    | false => rfl
    | true =>
      obtain ⟨e, he, hb, hi⟩ := (tb_depsM md _ _).1 hq
      exact absurd hi (hno e (by simpa using he) hb)
  have h3 : Nat.beq j i = false := by
    cases hq : Nat.beq j i with
    | false => rfl
    | true => exact absurd (Nat.eq_of_beq_eq_true hq) hne
  rw [h1, h2, h3] at this
  simp only [Bool.false_or] at this
  unfold apartM at this
  simp only [Bool.and_eq_true] at this
  obtain ⟨a1, a2, a3⟩ := this
  unfold Oper.apart
  simp only [Bool.and_eq_true]
  refine ⟨?_, ?_⟩
  · cases hd : oi.dst with
    | none => rfl
    | some d =>
      have hg : Nat.testBit (omOf md ops oi).g d = true := by simp [omOf, dstM, hd, tb_bit1]
      have b1 := land_zero a1 d hg
      have b2 := land_zero a2 d hg
      simp only [Bool.and_eq_true, Bool.not_eq_true', bne_iff_ne, ne_eq]
      refine ⟨?_, fun e => ?_⟩
      · cases hq : (oj.looksAt ops).contains d with
        | false => rfl
        | true =>
          have := (tb_maskL (oj.looksAt ops) d).2 (by simpa using hq)
          rw [show maskL (oj.looksAt ops) = (omOf md ops oj).k from rfl, b1] at this; cases this
      · simp [omOf, dstM, e, tb_bit1] at b2
  · cases hd : oj.dst with
    | none => rfl
    | some d =>
      have hg : Nat.testBit (omOf md ops oj).g d = true := by simp [omOf, dstM, hd, tb_bit1]
      have b1 := land_zero a3 d hg
      simp only [Bool.not_eq_true']
      cases hq : (oi.looksAt ops).contains d with
      | false => rfl
      | true =>
        have := (tb_maskL (oi.looksAt ops) d).2 (by simpa using hq)
        rw [show maskL (oi.looksAt ops) = (omOf md ops oi).k from rfl, b1] at this; cases this
theorem stepM_ok {D i : Nat} (hi : Nat.testBit (stepM D (ops.toList.map (omOf md ops)) 0) i = true) : Nat.testBit D i = true ∨ ∃ k, Nat.testBit D k = true ∧ Rch md ops k i := by
  have gen : ∀ (l : List Oper) (k : Nat), (∀ m, l[m]? = ops[k + m]?) → Nat.testBit (stepM D (l.map (omOf md ops)) k) i = true → Nat.testBit D i = true ∨ ∃ k, Nat.testBit D k = true ∧ Rch md ops k i := by
    intro l
    induction l with
    | nil => intro k _ h; exact .inl h
    | cons o r ih =>
      intro k hl h
      have hr : ∀ m, r[m]? = ops[k + 1 + m]? := fun m => by
        have := hl (m + 1)
        rw [show k + 1 + m = k + (m + 1) by omega, ← this]; rfl
      simp only [List.map_cons, stepM] at h
      split at h
      · rename_i hb
        rw [tb_lor, Bool.or_eq_true] at h
        rcases h with h | h
        · obtain ⟨e, he, hb', hi⟩ := (tb_depsM md _ _).1 h
          refine .inr ⟨k, by rw [← tbk_eq]; exact hb, .dir (o := o) ?_ (by simpa using he) hb' hi⟩
          have := hl 0
          simpa using this.symm
        · exact ih (k + 1) hr h
      · exact ih (k + 1) hr h
  exact gen ops.toList 0 (fun m => by simp) hi
def rsB (ops : Array Oper) (rm : Nat) : List Nat := (List.range ops.size).filter fun i => tbk rm i
theorem dwaitM_ok {rm j : Nat} (h : dwaitM (ops.toList.map (omOf md ops)) rm j = true) : DW md ops (rsB ops rm) j := by
  unfold dwaitM at h
  split at h
  · rename_i m hm
    obtain ⟨o, ho, rfl⟩ : ∃ o, ops[j]? = some o ∧ omOf md ops o = m := by
      rw [List.getElem?_map] at hm
      cases hq : ops.toList[j]? with
      | none => rw [hq] at hm; cases hm
      | some o => rw [hq] at hm; exact ⟨o, by simpa using hq, by simpa using hm⟩
    intro i hi
    have := land_all.1 h i (by have := (List.mem_filter.1 hi).2; rw [tbk_eq] at this; exact this)
    rw [tb_lor, tb_bit1, Bool.or_eq_true, decide_eq_true_eq] at this
    have base : ∀ i, Nat.testBit (omOf md ops o).d i = true → Rch md ops j i := fun i hi => by
      obtain ⟨e, he, hb, h⟩ := (tb_depsM md _ _).1 hi
      exact .dir ho (by simpa using he) hb h
    rcases this with h | h
    · exact .inl h.symm
    · have s1 : ∀ i, Nat.testBit (stepM (omOf md ops o).d (ops.toList.map (omOf md ops)) 0) i = true → Rch md ops j i := fun i hi => by
        rcases stepM_ok hi with h | ⟨k, h1, h2⟩
        · exact base i h
        · exact (base k h1).trans h2
      rcases stepM_ok h with h | ⟨k, h1, h2⟩
      · exact .inr (s1 i h)
      · exact .inr ((s1 k h1).trans h2)
  · cases h
def noSelL : List Oper → Bool
  | [] => true
  | o :: r => (match o.op with | .select .. => false | _ => noSelL r)
theorem noSelL_ok (h : noSelL ops.toList = true) : Region.noSelect ops = true := by
  unfold Region.noSelect
  rw [← Array.all_toList]
  have gen : ∀ l : List Oper, noSelL l = true → l.all (fun o => match o.op with | .select .. => false | _ => true) = true := by
    intro l
    induction l with
    | nil => intro _; rfl
    | cons o r ih =>
      intro h
      simp only [noSelL] at h
      rw [List.all_cons]
      split at h
      · cases h
      · rename_i hno
        rw [ih h, Bool.and_true]
  exact gen _ h
end
end Go.Proofs.YtnbbooilapelmaaGreatDoor.V
