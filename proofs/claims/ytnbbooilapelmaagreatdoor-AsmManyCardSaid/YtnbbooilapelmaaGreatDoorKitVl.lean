/-
  A symbolic run of a function's text: functions that write what is handed in.
-/
import Derived.Test.YtnbbooilapelmaaGreatDoorKitVj
set_option linter.unusedVariables false
set_option linter.unusedSimpArgs false
namespace Go.Proofs.YtnbbooilapelmaaGreatDoor.V
open Go.RowKit Go.Proofs.YtnbbooilapelmaaGreatDoor
/-- What a function that writes asks and leaves: the arguments, the regions handed in (their numbers are below na), the result, the regions behind it. -/
structure FT where
  X : Type
  Y : Type
  inst : List Vl → St → Option X
  args : X → List Vl
  h : X → List (Nat × Ck)
  na : Nat
  pre : X → Prop
  post : X → Y → Prop
  res : X → Y → Rs
  out : X → Y → List (Nat × Ck)
  nx : Nat
def rnP (r : Nat → Nat) : List (Nat × Nat) → List (Nat × Nat)
  | [] => []
  | (i, o) :: l => (r i, o) :: rnP r l
def rnC (r : Nat → Nat) : CV → CV
  | .ptr i o => .ptr (r i) o
  | .sl i => .sl (r i)
  | .mv i => .mv (r i)
  | .ep i sz a c => .ep (r i) sz a c
  | .sv i sz lo n => .sv (r i) sz lo n
  | .pa i off n j => .pa (r i) off n j
  | .ea i sz a c n j => .ea (r i) sz a c n j
  | .fn f c => .fn f (rnP r c)
  | c => c
def rnL (r : Nat → Nat) : List CV → List CV
  | [] => []
  | c :: l => rnC r c :: rnL r l
def rnV (r : Nat → Nat) : Vl → Vl
  | .one c => .one (rnC r c)
  | .agg l => .agg (rnL r l)
def rnVs (r : Nat → Nat) : List Vl → List Vl
  | [] => []
  | c :: l => rnV r c :: rnVs r l
def rnR (r : Nat → Nat) : Rs → Rs
  | .v x => .v (rnV r x)
  | .tup l => .tup (rnVs r l)
def rnCk (r : Nat → Nat) : Ck → Ck
  | .blk l ty => .blk (rnL r l) ty
  | .own ty a xs => .own ty a xs
  | .xk c => .xk c
def rnH (r : Nat → Nat) : List (Nat × Ck) → List (Nat × Ck)
  | [] => []
  | (i, c) :: l => (r i, rnCk r c) :: rnH r l
def ren (ρ : Rn) (b : Nat) (i : Nat) : Nat := match look ρ i with | some (some j) => j | _ => b + i
def inRn (j : Nat) : Rn → Bool
  | [] => false
  | (_, some k) :: r => Nat.beq j k || inRn j r
  | (_, none) :: r => inRn j r
def rest (ρ : Rn) : List (Nat × Ck) → List (Nat × Ck)
  | [] => []
  | (i, c) :: l => (match inRn i ρ with | true => rest ρ l | false => (i, c) :: rest ρ l)
def app {α : Type} : List α → List α → List α
  | [], m => m
  | a :: l, m => a :: app l m
def FT.call (t : FT) (args : List Vl) (st : St) (K : Rs → St → Prop) : Prop :=
  match t.inst args st with
  | none => False
  | some x => mtVls [] (t.args x) args fun ρ => mtH st ρ (t.h x) fun ρ' => (match rnNodup ρ' && (rnLt t.na ρ' && idsOk (t.h x)) with
    | true => t.pre x ∧ ∀ y, t.post x y → K (rnR (ren ρ' st.nx) (t.res x y)) ⟨st.nx + t.nx, app (rnH (ren ρ' st.nx) (t.out x y)) (rest ρ' st.h)⟩
    | false => False)
def idRn : Nat → Rn
  | 0 => []
  | n + 1 => (n, some n) :: idRn n
/-- The end of the run has the form that is promised. -/
def outF (na nx : Nat) (r : Rs) (out : List (Nat × Ck)) (r' : Rs) (st' : St) : Prop :=
  match r, r' with
  | .v t, .v c => mtVl (idRnO na out) t c fun ρ => mtH st' ρ out fun ρ' => boolP (rnOk na nx ρ' out)
  | .tup t, .tup c => mtVls (idRnO na out) t c fun ρ => mtH st' ρ out fun ρ' => boolP (rnOk na nx ρ' out)
  | _, _ => False
section
variable {β β' : Nat → Option Value} {F : Nat → Prop} {w : World} {r : Nat → Nat}
theorem rnP_dn (h : ∀ i v, β i = some v → β' (r i) = some v) : ∀ {c : List (Nat × Nat)} {l : List Value}, DnP β c l → DnP β' (rnP r c) l
  | [], l, hd => hd
  | (i, o) :: s, l, hd => by obtain ⟨g, b, h1, h2, h3⟩ := hd; exact ⟨g, b, h _ _ h1, h2, rnP_dn h h3⟩
theorem rnC_dn (h : ∀ i v, β i = some v → β' (r i) = some v) {c : CV} {u : Value} (hd : Dn β F w c u) : Dn β' F w (rnC r c) u := by
  cases c with
  | ptr id off => obtain ⟨g, h1, h2⟩ := hd; exact ⟨g, h _ _ h1, h2⟩
  | sl id => exact ⟨h _ _ hd.1, hd.2⟩
  | mv id => exact ⟨h _ _ hd.1, hd.2⟩
  | ep id sz i c => obtain ⟨g, o, n, cap, h1, h2⟩ := hd; exact ⟨g, o, n, cap, h _ _ h1, h2⟩
  | sv id sz lo n => obtain ⟨v, h1, h2⟩ := hd; exact ⟨v, h _ _ h1, h2⟩
  | fn f c => obtain ⟨vs, h1, h2⟩ := hd; exact ⟨vs, h1, rnP_dn h h2⟩
  | pa id off n j => obtain ⟨h0, g, h1, h2⟩ := hd; exact ⟨h0, g, h _ _ h1, h2⟩
  | ea id sz i c n j => obtain ⟨h0, g, o, m, cap, h1, h2⟩ := hd; exact ⟨h0, g, o, m, cap, h _ _ h1, h2⟩
  | _ => exact hd
theorem rnCC_dn (h : ∀ i v, β i = some v → β' (r i) = some v) {c : CV} {l : List Value} (hd : DnC β F w c l) : DnC β' F w (rnC r c) l := by
  cases c <;> first | exact hd | (obtain ⟨u, h1, h2, h3⟩ := hd; exact ⟨u, h1, rnC_dn h h2, h3⟩)
theorem rnL_dn (h : ∀ i v, β i = some v → β' (r i) = some v) : ∀ {c : List CV} {l : List Value}, DnL β F w c l → DnL β' F w (rnL r c) l
  | [], l, hd => hd
  | c :: s, l, hd => by obtain ⟨a, b, e, h1, h2⟩ := hd; exact ⟨a, b, e, rnCC_dn h h1, rnL_dn h h2⟩
theorem rnV_dn (h : ∀ i v, β i = some v → β' (r i) = some v) {c : Vl} {u : Value} (hd : DnV β F w c u) : DnV β' F w (rnV r c) u := by
  cases c with
  | one c => exact rnC_dn h hd
  | agg l => obtain ⟨vs, e, hd⟩ := hd; exact ⟨vs, e, rnL_dn h hd⟩
theorem rnVs_dn (h : ∀ i v, β i = some v → β' (r i) = some v) : ∀ {c : List Vl} {l : List Value}, DnVs β F w c l → DnVs β' F w (rnVs r c) l
  | [], l, hd => hd
  | c :: s, l, hd => by obtain ⟨a, b, e, h1, h2⟩ := hd; exact ⟨a, b, e, rnV_dn h h1, rnVs_dn h h2⟩
theorem rnR_dn (h : ∀ i v, β i = some v → β' (r i) = some v) {c : Rs} {u : Value} (hd : DnR β F w c u) : DnR β' F w (rnR r c) u := by
  cases c with
  | v c => exact rnV_dn h hd
  | tup l => obtain ⟨vs, e, hd⟩ := hd; exact ⟨vs, e, rnVs_dn h hd⟩
theorem rnCk_ok (h : ∀ i v, β i = some v → β' (r i) = some v) {i : Nat} {c : Ck} (hd : CkOk β F w i c) : CkOk β' F w (r i) (rnCk r c) := by
  cases c with
  | blk l ty => obtain ⟨g, vs, h1, h2, h3⟩ := hd; exact ⟨g, vs, h _ _ h1, h2, rnL_dn h h3⟩
  | own ty a xs => obtain ⟨v, vs, h1, h2, h3⟩ := hd; exact ⟨v, vs, h _ _ h1, h2, h3⟩
  | xk c => obtain ⟨v, g, o, h1, h2⟩ := hd; exact ⟨v, g, o, h _ _ h1, h2⟩
end
theorem rnH_mem {r : Nat → Nat} : ∀ {l : List (Nat × Ck)} {p : Nat × Ck}, p ∈ rnH r l → ∃ i c, (i, c) ∈ l ∧ p = (r i, rnCk r c)
  | (i, c) :: l, p, h => by
    simp only [rnH] at h
    rcases List.mem_cons.1 h with rfl | h
    · exact ⟨i, c, by simp, rfl⟩
    · obtain ⟨i', c', h1, h2⟩ := rnH_mem h; exact ⟨i', c', by simp [h1], h2⟩
theorem rnH_pair {r : Nat → Nat} {R : Nat × Ck → Nat × Ck → Prop} {R' : Nat × Ck → Nat × Ck → Prop} (h : ∀ i c j d, R (i, c) (j, d) → R' (r i, rnCk r c) (r j, rnCk r d)) : ∀ {l : List (Nat × Ck)}, l.Pairwise R → (rnH r l).Pairwise R'
  | [], _ => List.Pairwise.nil
  | (i, c) :: l, hp => by
    obtain ⟨h1, h2⟩ := List.pairwise_cons.1 hp
    refine List.pairwise_cons.2 ⟨fun q hq => ?_, rnH_pair h h2⟩
    obtain ⟨j, d, hj, rfl⟩ := rnH_mem hq
    exact h i c j d (h1 _ hj)
theorem app_eq {α : Type} : ∀ (l m : List α), app l m = l ++ m
  | [], m => rfl
  | a :: l, m => by rw [app, app_eq l m]; rfl
theorem rest_mem {ρ : Rn} : ∀ {l : List (Nat × Ck)} {p : Nat × Ck}, p ∈ rest ρ l → p ∈ l ∧ inRn p.1 ρ = false
  | (i, c) :: l, p, h => by
    simp only [rest] at h
    split at h
    · obtain ⟨h1, h2⟩ := rest_mem h; exact ⟨by simp [h1], h2⟩
    · rename_i hi
      rcases List.mem_cons.1 h with rfl | h
      · exact ⟨by simp, hi⟩
      · obtain ⟨h1, h2⟩ := rest_mem h; exact ⟨by simp [h1], h2⟩
theorem rest_pair {ρ : Rn} {R : Nat × Ck → Nat × Ck → Prop} : ∀ {l : List (Nat × Ck)}, l.Pairwise R → (rest ρ l).Pairwise R
  | [], h => h
  | (i, c) :: l, h => by
    obtain ⟨h1, h2⟩ := List.pairwise_cons.1 h
    simp only [rest]
    split
    · exact rest_pair h2
    · exact List.pairwise_cons.2 ⟨fun q hq => h1 q (rest_mem hq).1, rest_pair h2⟩
theorem look_inRn : ∀ {ρ : Rn} {i j : Nat}, look ρ i = some (some j) → inRn j ρ = true
  | (k, some a) :: r, i, j, h => by
    simp only [look] at h
    split at h
    · cases h; simp [inRn]
    · simp [inRn, look_inRn h]
  | (k, none) :: r, i, j, h => by
    simp only [look] at h
    split at h
    · cases h
    · simp [inRn, look_inRn h]
theorem outF_ok {B : Base} {β : Nat → Option Value} {F : Nat → Prop} {w : World} {st : St} {nx : Nat} {r r' : Rs} {out : List (Nat × Ck)} (ho : outF B.na nx r out r' st) (hw : Sat B β F st w) {u : Value} (hu : DnR β F w r' u) :
    ∃ β2, Sat B β2 F ⟨nx, out⟩ w ∧ DnR β2 F w r u := by
  cases r with
  | v t =>
    cases r' with
    | v c =>
      obtain ⟨ρ1, g1, _, g3⟩ := mtVl_ok (β := β) (F := F) (w := w) ho
      obtain ⟨ρ2, q1, q2, q3⟩ := mtH_sat g1 hw
      have hx : Ext (rb β ρ2) F w (rb2 B.na β ρ2) F w := ⟨rb2_b q2, fun _ h => h, fun _ _ => rfl⟩
      exact ⟨_, q3, DnV.ext hx (DnV.ext q1.ext (g3 u hu))⟩
    | tup c => exact ho.elim
  | tup t =>
    cases r' with
    | v c => exact ho.elim
    | tup c =>
      obtain ⟨ρ1, g1, _, g3⟩ := mtVls_ok (β := β) (F := F) (w := w) ho
      obtain ⟨ρ2, q1, q2, q3⟩ := mtH_sat g1 hw
      have hx : Ext (rb β ρ2) F w (rb2 B.na β ρ2) F w := ⟨rb2_b q2, fun _ h => h, fun _ _ => rfl⟩
      obtain ⟨us, e, hu⟩ := hu
      exact ⟨_, q3, us, e, DnVs.ext hx (DnVs.ext q1.ext (g3 us hu))⟩
/-- What is known of what lies in memory. -/
def rngEnt (a b : Sh) : List (a.T × b.T) → Prop
  | [] => True
  | p :: r => (rngT a p.1 ∧ rngT b p.2) ∧ rngEnt a b r
def rngXk : Xk → Prop
  | .it s _ => s.size ≤ maxLen
  | .mp a b l => rngEnt a b l
theorem rngEnt_ok {F : Nat → Prop} {w : World} {a b : Sh} : ∀ {es : List MapEntry} {l : List (a.T × b.T)}, EntL F w a b es l → rngEnt a b l
  | [], [], _ => trivial
  | e :: es, p :: l, h => ⟨⟨rngT_ok h.1.1, rngT_ok h.1.2⟩, rngEnt_ok h.2⟩
def rngCk : Ck → Prop
  | .blk l _ => rngL l
  | .own _ a xs => rngT (.sl a) xs
  | .xk c => rngXk c
def rngH : List (Nat × Ck) → Prop
  | [] => True
  | p :: r => rngCk p.2 ∧ rngH r
theorem rngCk_ok {β : Nat → Option Value} {F : Nat → Prop} {w : World} {i : Nat} {c : Ck} (h : CkOk β F w i c) : rngCk c := by
  cases c with
  | blk l ty => obtain ⟨g, vs, _, _, h⟩ := h; exact rngL_ok h
  | own ty a xs =>
    obtain ⟨v, vs, _, h2, h3⟩ := h
    obtain ⟨ad, cap, _, h4, h5⟩ := h2.any
    refine ⟨Nat.le_trans h4 h5, fun y hy => ?_⟩
    obtain ⟨j, hj⟩ := List.getElem?_of_mem hy
    obtain ⟨cs, hc, _⟩ := h3.get j y hj
    exact rngT_ok hc
  | xk c =>
    obtain ⟨v, g, o, _, _, _, h⟩ := h
    cases c with
    | it s p => exact h.2.2.1
    | mp a b l => obtain ⟨_, es, c, _, h⟩ := h; exact rngEnt_ok h
theorem rngH_ok {β : Nat → Option Value} {F : Nat → Prop} {w : World} : ∀ {l : List (Nat × Ck)}, (∀ p ∈ l, CkOk β F w p.1 p.2) → rngH l
  | [], _ => trivial
  | p :: r, h => ⟨rngCk_ok (h p (by simp)), rngH_ok fun q hq => h q (by simp [hq])⟩
section
variable {T : Tb} {sp : FuncId → Option Spec} {P : Program}
/-- The function answers so, from this state on. -/
def CallsS (P : Program) (f : FuncId) (na : Nat) (args : List Vl) (st : St) (R : Rs → St → Prop) : Prop :=
  ∀ (B : Base) (β : Nat → Option Value) (F : Nat → Prop) (w : World) (vs : List Value), B.na = na → DnVs β F w args vs → Sat B β F st w →
    Calls P f vs.toArray w fun e w' => ∃ u r st' β' F', e = .returned u ∧ R r st' ∧ Sat B β' F' st' w' ∧ DnR β' F' w' r u
theorem valid_full3 {f : FuncId} (hc : CallOk P f) {t : FT}
    {Fin : t.X → Rs → St → Prop} (hFin : ∀ x r' st', Fin x r' st' → ∃ y, t.post x y ∧ outF t.na t.nx (t.res x y) (t.out x y) r' st')
    (h : ∀ x, t.pre x → rngVs (t.args x) → rngH (t.h x) → CallsS P f t.na (t.args x) ⟨t.na, t.h x⟩ (Fin x)) : Valid P f (.full t.call) := by
  refine ⟨hc, fun args st K hS B β F w vs hw hd => ?_⟩
  unfold FT.call at hS
  split at hS
  · exact hS.elim
  · rename_i x hx
    obtain ⟨ρ, hS, _, d1⟩ := mtVls_ok (β := β) (F := F) (w := w) hS
    obtain ⟨ρ', hS, hle, d2⟩ := mtH_ok (β := β) (F := F) (w := w) hw.cks hS
    split at hS
    case h_2 => exact hS.elim
    rename_i hB
    simp only [Bool.and_eq_true] at hB
    obtain ⟨n1, n2, n3⟩ := hB
    obtain ⟨hpre, hK⟩ := hS
    have d1 := DnVs.ext (hle.ext (β := β) (F := F) (w := w)) (d1 vs hd)
    have Osub : ∀ k, (∃ p ∈ t.h x, bk (rb β ρ' p.1) = some k) → (B.O k ∨ B.w0.heap.size ≤ k) ∧ ¬ F k ∧ k < w.heap.size ∧ ∃ j c, (j, c) ∈ st.h ∧ bk (β j) = some k ∧ inRn j ρ' = true := by
      rintro k ⟨p, hp, hk⟩
      rcases (d2 p hp).2 with hl | ⟨j, c, hl, hj⟩
      · simp [rb, hl, bk] at hk
      · have hk' : bk (β j) = some k := by simpa [rb, hl] using hk
        obtain ⟨o1, o2, o3⟩ := hw.own _ hj k hk'
        exact ⟨o1, o2, o3, j, c, hj, hk', look_inRn hl⟩
    have S0 : Sat ⟨w, fun k => ∃ p ∈ t.h x, bk (rb β ρ' p.1) = some k, F, t.na, rb β ρ'⟩ (rb β ρ') F ⟨t.na, t.h x⟩ w := by
      refine ⟨Only.refl _ w, fun id hid => ?_, fun p hp => (d2 p hp).1, fun p hp k hk => ⟨.inl ⟨p, hp, hk⟩, (Osub k ⟨p, hp, hk⟩).2.1, (Osub k ⟨p, hp, hk⟩).2.2.1⟩, idsOk_pair n3 fun p hp q hq hne k hk hk2 => ?_, hw.frz, fun _ h => h, fun _ h => .inl h, Nat.le_refl _, fun _ _ => rfl⟩
      · unfold rb
        cases hl : look ρ' id with
        | none => rfl
        | some j => have := rnLt_ok n2 id j hl; simp at hid; omega
      · rcases (d2 p hp).2 with hl | ⟨j, c, hl, hj⟩
        · simp [rb, hl, bk] at hk
        · rcases (d2 q hq).2 with hl' | ⟨j', c', hl', hj'⟩
          · simp [rb, hl', bk] at hk2
          · have hjj : j ≠ j' := fun e => hne (rnNodup_ok n1 p.1 q.1 j hl (by rw [e]; exact hl'))
            exact pairwise_apart (R := fun a b => ∀ k, bk (β a) = some k → bk (β b) ≠ some k) (fun a b h k h1 h2 => h k h2 h1) hw.sep _ hj _ hj' hjj k (by simpa [rb, hl] using hk) (by simpa [rb, hl'] using hk2)
    refine (h x hpre (rngVs_ok d1) (rngH_ok S0.cks) _ _ _ _ _ rfl d1 S0).mono ?_
    rintro e w' ⟨u, r', st', β', F', rfl, hfin, S1, hu⟩
    obtain ⟨y, hy, ho⟩ := hFin x r' st' hfin
    obtain ⟨β2, S2, hu2⟩ := outF_ok (B := ⟨w, fun k => ∃ p ∈ t.h x, bk (rb β ρ' p.1) = some k, F, t.na, rb β ρ'⟩) ho S1 hu
    let βc : Nat → Option Value := fun id => if id < st.nx then β id else if id < st.nx + t.nx then β2 (id - st.nx) else none
    have lt_of : ∀ id v, β id = some v → id < st.nx := fun id v hv => by
      rcases Nat.lt_or_ge id st.nx with h | h
      · exact h
      · rw [hw.fresh id h] at hv; cases hv
    have lt2 : ∀ i v, β2 i = some v → i < t.nx := fun i v hv => by
      rcases Nat.lt_or_ge i t.nx with h | h
      · exact h
      · rw [S2.fresh i h] at hv; cases hv
    have hb : ∀ id v, β id = some v → βc id = some v := fun id v hv => by
      show (if id < st.nx then β id else _) = some v
      rw [if_pos (lt_of id v hv)]; exact hv
    have hren : ∀ i v, β2 i = some v → βc (ren ρ' st.nx i) = some v := fun i v hv => by
      unfold ren
      have gen : βc (st.nx + i) = some v := by
        show (if st.nx + i < st.nx then _ else if st.nx + i < st.nx + t.nx then β2 (st.nx + i - st.nx) else none) = some v
        rw [if_neg (by omega), if_pos (by have := lt2 i v hv; omega), Nat.add_sub_cancel_left]; exact hv
      split
      · rename_i j hl
        have hin := rnLt_ok n2 i _ hl
        have h0 : rb β ρ' i = β j := by simp [rb, hl]
        have h1 : β2 i = rb β ρ' i := S2.anc.2 i hin
        rw [h0, hv] at h1
        exact hb j _ h1.symm
      · exact gen
    have hk : ∀ k, F k → w'.heap[k]? = w.heap[k]? := fun k hk => S2.only.block k (hw.frz k hk) fun hO => (Osub k hO).2.1 hk
    have x2 : Ext β F w βc F' w' := ⟨hb, S2.f1, hk⟩
    have old : ∀ p ∈ rest ρ' st.h, ∀ k, bk (βc p.1) = some k → bk (β p.1) = some k ∧ ¬ ∃ p ∈ t.h x, bk (rb β ρ' p.1) = some k := by
      intro p hp k hk
      obtain ⟨hp1, hp2⟩ := rest_mem hp
      have hlt : ∃ v, β p.1 = some v := by
        have := hw.cks p hp1
        cases hq : p.2 with
        | blk cells ty => rw [hq] at this; obtain ⟨g, vs, h1, _⟩ := this; exact ⟨_, h1⟩
        | own ty a xs => rw [hq] at this; obtain ⟨v, vs, h1, _⟩ := this; exact ⟨_, h1⟩
        | xk c => rw [hq] at this; obtain ⟨v, g, o, h1, _⟩ := this; exact ⟨_, h1⟩
      obtain ⟨v, hv⟩ := hlt
      rw [hb _ _ hv] at hk
      rw [hv]
      refine ⟨hk, fun hO => ?_⟩
      obtain ⟨_, _, _, j, c, hj, hbj, hin⟩ := Osub k hO
      have hne : j ≠ p.1 := fun e => by rw [← e, hin] at hp2; cases hp2
      exact pairwise_apart (R := fun a b => ∀ k, bk (β a) = some k → bk (β b) ≠ some k) (fun a b h k h1 h2 => h k h2 h1) hw.sep _ hj _ hp1 hne k hbj (by rw [hv]; exact hk)
    have new : ∀ i c, (i, c) ∈ t.out x y → ∀ k, bk (βc (ren ρ' st.nx i)) = some k → bk (β2 i) = some k := by
      intro i c hi k hk
      have := S2.cks _ hi
      cases c with
      | blk cells ty => obtain ⟨g, vs, h1, _⟩ := this; rw [hren _ _ h1] at hk; rw [h1]; exact hk
      | own ty a xs => obtain ⟨v, vs, h1, _⟩ := this; rw [hren _ _ h1] at hk; rw [h1]; exact hk
      | xk c => obtain ⟨v, g, o, h1, _⟩ := this; rw [hren _ _ h1] at hk; rw [h1]; exact hk
    refine ⟨u, _, _, βc, F', rfl, hK y hy, x2, ?_, rnR_dn hren hu2⟩
    refine ⟨⟨S2.only.os.trans hw.only.os, S2.only.tape.trans hw.only.tape, S2.only.output.trans hw.only.output, Nat.le_trans hw.only.size S2.only.size, fun k hk hO => ?_⟩, fun id hid => ?_, fun p hp => ?_, fun p hp k hk => ?_, ?_, S2.frz, fun k hk => S2.f1 k (hw.f1 k hk), fun k hk => ?_, ?_, fun i hi => ?_⟩
    · refine (S2.only.block k (Nat.lt_of_lt_of_le hk hw.only.size) fun hO' => ?_).trans (hw.only.block k hk hO)
      rcases (Osub k hO').1 with h | h
      · exact hO h
      · omega
    · show (if id < st.nx then β id else if id < st.nx + t.nx then β2 (id - st.nx) else none) = none
      simp at hid
      rw [if_neg (by omega), if_neg (by omega)]
    · rw [app_eq] at hp
      rcases List.mem_append.1 hp with hp | hp
      · obtain ⟨i, c, hi, rfl⟩ := rnH_mem hp
        exact rnCk_ok hren (S2.cks _ hi)
      · obtain ⟨hp1, hp2⟩ := rest_mem hp
        have hc := hw.cks p hp1
        have keep : ∀ k, bk (β p.1) = some k → w'.heap[k]? = w.heap[k]? := fun k hbk => by
          have hv : bk (βc p.1) = some k := by
            cases hq : β p.1 with
            | none => rw [hq] at hbk; cases hbk
            | some v => rw [hb _ _ hq]; rw [hq] at hbk; exact hbk
          exact S2.only.block k (hw.own p hp1 k hbk).2.2 (old p hp k hv).2
        cases hq : p.2 with
        | blk cells ty =>
          rw [hq] at hc
          obtain ⟨g, vs, h1, h2, h3⟩ := hc
          exact ⟨g, vs, hb _ _ h1, by rw [keep g (by rw [h1]; rfl)]; exact h2, h3.ext x2⟩
        | own ty a xs =>
          rw [hq] at hc
          obtain ⟨v, vs, h1, h2, h3⟩ := hc
          exact ⟨v, vs, hb _ _ h1, h2.kept (fun k hk => keep k (by rw [h1]; exact own_bk hk)), h3.mono x2.f x2.k⟩
        | xk c => rw [hq] at hc; exact Xk.keep x2 hc keep
    · rw [app_eq] at hp
      rcases List.mem_append.1 hp with hp | hp
      · obtain ⟨i, c, hi, rfl⟩ := rnH_mem hp
        obtain ⟨o1, o2, o3⟩ := S2.own _ hi k (new i c hi k hk)
        refine ⟨?_, o2, o3⟩
        rcases o1 with o1 | o1
        · exact (Osub k o1).1
        · exact .inr (Nat.le_trans hw.only.size o1)
      · obtain ⟨e1, e2⟩ := old p hp k hk
        obtain ⟨o1, o2, o3⟩ := hw.own p (rest_mem hp).1 k e1
        refine ⟨o1, fun hF => ?_, Nat.lt_of_lt_of_le o3 S2.only.size⟩
        rcases S2.f2 k hF with h | h | h
        · exact o2 h
        · exact e2 h
        · have : w.heap.size ≤ k := h
          omega
    · rw [app_eq]
      refine List.pairwise_append.2 ⟨?_, ?_, fun p hp q hq k hk hk2 => ?_⟩
      · have := S2.sep
        have h2 : (t.out x y).Pairwise fun p q => (p ∈ t.out x y ∧ q ∈ t.out x y) ∧ ∀ k, bk (β2 p.1) = some k → bk (β2 q.1) ≠ some k := List.Pairwise.imp_of_mem (fun {a b} ha hb h => ⟨⟨ha, hb⟩, h⟩) this
        refine rnH_pair (fun i c j d h k hk hk2 => ?_) h2
        exact h.2 k (new i c h.1.1 k hk) (new j d h.1.2 k hk2)
      · exact (rest_pair hw.sep).imp_of_mem fun {p q} hp hq h k hk hk2 => h k (old p hp k hk).1 (old q hq k hk2).1
      · obtain ⟨i, c, hi, rfl⟩ := rnH_mem hp
        obtain ⟨e1, e2⟩ := old q hq k hk2
        obtain ⟨o1, o2, o3⟩ := S2.own _ hi k (new i c hi k hk)
        have := (hw.own q (rest_mem hq).1 k e1).2.2
        rcases o1 with o1 | o1
        · exact e2 o1
        · have : w.heap.size ≤ k := o1
          omega
    · rcases S2.f2 k hk with h | h | h
      · exact hw.f2 k h
      · exact .inr ((Osub k h).1)
      · exact .inr (.inr (Nat.le_trans hw.only.size h))
    · have := hw.anc.1
      show B.na ≤ st.nx + t.nx
      omega
    · show (if i < st.nx then β i else _) = B.β0 i
      rw [if_pos (by have := hw.anc.1; omega)]
      exact hw.anc.2 i hi
theorem valid_full2 (hm : P.follows .mixedOrders = true) (hT : ∀ t i, T t = some i → TyOk P t i) (hsp : ∀ f S, sp f = some S → Valid P f S) {f : FuncId} {fn : Func} (hf : P.funcs[f]? = some fn) (hc : CallOk P f) {t : FT}
    {Fin : t.X → Rs → St → Prop} (hFin : ∀ x r' st', Fin x r' st' → ∃ y, t.post x y ∧ outF t.na t.nx (t.res x y) (t.out x y) r' st')
    (h : ∀ x, t.pre x → rngVs (t.args x) → rngH (t.h x) → ∃ lp, runF T sp lp t.na fn (t.args x) ⟨t.na, t.h x⟩ (Fin x)) : Valid P f (.full t.call) :=
  valid_full3 hc hFin fun x h1 h2 h3 B β F w vs hB hd hw => by
    obtain ⟨lp, hr⟩ := h x h1 h2 h3
    exact runF_ok hm hT hsp hf (by rw [hB]; exact hr) hd hw
theorem valid_full (hm : P.follows .mixedOrders = true) (hT : ∀ t i, T t = some i → TyOk P t i) (hsp : ∀ f S, sp f = some S → Valid P f S) {f : FuncId} {fn : Func} (hf : P.funcs[f]? = some fn) (hc : CallOk P f) {t : FT}
    (h : ∀ x, t.pre x → rngVs (t.args x) → ∃ lp, runF T sp lp t.na fn (t.args x) ⟨t.na, t.h x⟩ fun r' st' => ∃ y, t.post x y ∧ outF t.na t.nx (t.res x y) (t.out x y) r' st') : Valid P f (.full t.call) :=
  valid_full2 hm hT hsp hf hc (Fin := fun x r' st' => ∃ y, t.post x y ∧ outF t.na t.nx (t.res x y) (t.out x y) r' st') (fun _ _ _ h => h) fun x h1 h2 _ => h x h1 h2
end
end Go.Proofs.YtnbbooilapelmaaGreatDoor.V
