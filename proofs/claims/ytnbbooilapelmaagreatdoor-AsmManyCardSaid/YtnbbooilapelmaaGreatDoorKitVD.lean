/-
  A symbolic run of a function's text: a region that draws its order, of which some variables stay as they are:
  what reads those comes first.
-/
import Derived.Test.YtnbbooilapelmaaGreatDoorKitVg
set_option linter.unusedVariables false
set_option linter.unusedSimpArgs false
namespace Go.Proofs.YtnbbooilapelmaaGreatDoor.V
open Go.RowKit Go.Proofs.YtnbbooilapelmaaGreatDoor
def keepL (kq : Nat) : List (Nat × Ck) → List (Nat × Ck)
  | [] => []
  | (i, c) :: r => (match tbk kq i with | true => (i, c) :: keepL kq r | false => keepL kq r)
def stK (kq : Nat) (st : St) : St := ⟨st.nx, keepL kq st.h⟩
/-- The variables that stay are there still. -/
def keptB (kq : Nat) (h' : List (Nat × Ck)) : List (Nat × Ck) → Bool
  | [] => true
  | (i, c) :: r => (match tbk kq i && isBlk c with
    | true => (match look h' i with | some (.blk _ _) => keptB kq h' r | _ => false)
    | false => keptB kq h' r)
theorem keepL_sub {kq : Nat} : ∀ {h : List (Nat × Ck)}, (keepL kq h).Sublist h
  | [] => .slnil
  | (i, c) :: r => by
    unfold keepL
    split
    · exact .cons_cons _ keepL_sub
    · exact .cons _ keepL_sub
theorem keepL_mem {kq : Nat} : ∀ {h : List (Nat × Ck)} {p : Nat × Ck}, p ∈ h → tbk kq p.1 = true → p ∈ keepL kq h
  | (i, c) :: r, p, hp, hk => by
    unfold keepL
    rcases List.mem_cons.1 hp with rfl | hp
    · rw [hk]; exact List.mem_cons_self
    · split
      · exact List.mem_cons_of_mem _ (keepL_mem hp hk)
      · exact keepL_mem hp hk
theorem keepL_kept {kq : Nat} : ∀ {h : List (Nat × Ck)} {p : Nat × Ck}, p ∈ keepL kq h → tbk kq p.1 = true
  | (i, c) :: r, p, hp => by
    unfold keepL at hp
    split at hp
    · rename_i ht
      rcases List.mem_cons.1 hp with rfl | hp
      · exact ht
      · exact keepL_kept hp
    · exact keepL_kept hp
theorem keptB_ok {kq : Nat} {h' : List (Nat × Ck)} : ∀ {h : List (Nat × Ck)}, keptB kq h' h = true → ∀ p ∈ h, tbk kq p.1 = true → isBlk p.2 = true → ∃ p' ∈ h', p'.1 = p.1 ∧ isBlk p'.2 = true
  | (i, c) :: r, hb, p, hp, hk, hc => by
    unfold keptB at hb
    rcases List.mem_cons.1 hp with rfl | hp
    · rw [show (tbk kq i && isBlk c) = true by simp_all] at hb
      dsimp only at hb
      split at hb
      · rename_i hl; exact ⟨_, look_mem hl, rfl, rfl⟩
      · cases hb
    · split at hb
      · split at hb
        · exact keptB_ok hb p hp hk hc
        · cases hb
      · exact keptB_ok hb p hp hk hc
section
variable (T : Tb) (sp : FuncId → Option Spec) (kq : Nat)
def pickW (tab : List OM) (ops : Array Oper) (lm : Nat) (ts : Sl) (st : St) (split : Bool) : List Nat → Option (Nat × Oper × List (Nat × Bool) × Pk)
  | [] => none
  | i :: r => (match ops[i]?, tab[i]? with
    | some o, some m => (match freeM lm i m tab 0, chainOf ops ts o with
      | true, some ch => (match deadB ts ch with
        | true => some (i, o, ch, .d)
        | false => (match isR sp o with
          | true => (match opV T sp o ch ts (stK kq st) with
            | some v => some (i, o, ch, .q v)
            | none => pickW tab ops lm ts st split r)
          | false => (match opV T sp o ch ts st with
            | some v => some (i, o, ch, .q v)
            | none => (match isP o && (split || liveB ts ch) with
              | true => some (i, o, ch, .p)
              | false => pickW tab ops lm ts st split r))))
      | _, _ => pickW tab ops lm ts st split r)
    | _, _ => pickW tab ops lm ts st split r)
/-- A store into a variable that need not stay. -/
def opStoreW (o : Oper) (ch : List (Nat × Bool)) (ts : Sl) (st : St) (K : Rs → St → Prop) : Prop :=
  match o.op with
  | .store t x y => (match ev ts ch x with
    | some (.v (.one (.ptr id off))) => (match tbk kq id with
      | false => opStore T t (some (.v (.one (.ptr id off)))) (ev ts ch y) st K
      | true => False)
    | _ => False)
  | _ => False
def sigW (tab : List OM) (ops : Array Oper) : Nat → Nat → Sl → St → (Sl → St → Prop) → Prop
  | 0, lm, ts, st, K => (match readyM tab lm 0 with | [] => K ts st | _ => False)
  | n + 1, lm, ts, st, K => (match readyM tab lm 0 with
    | [] => K ts st
    | k :: l => (match (match pickW T sp kq tab ops lm ts st false (k :: l) with | some x => some x | none => pickW T sp kq tab ops lm ts st true (k :: l)) with
      | some (i, o, ch, .q r) => fin o ch ts (fun ts' _ => forceN (Nat.lor (bit1 i) lm) fun lm => sigW tab ops n lm ts' st K) r st
      | some (i, o, ch, .d) => fin o ch ts (fun ts' _ => forceN (Nat.lor (bit1 i) lm) fun lm => sigW tab ops n lm ts' st K) (.v (.one .any)) st
      | some (i, o, ch, .p) => rsv ts ch fun ts2 live => (match live with
        | true => (match opV T sp o ch ts2 st with
          | some r => fin o ch ts2 (fun ts' _ => forceN (Nat.lor (bit1 i) lm) fun lm => sigW tab ops n lm ts' st K) r st
          | none => stepP T o ch ts2 st fun r => fin o ch ts2 (fun ts' _ => forceN (Nat.lor (bit1 i) lm) fun lm => sigW tab ops n lm ts' st K) r st)
        | false => fin o ch ts2 (fun ts' _ => forceN (Nat.lor (bit1 i) lm) fun lm => sigW tab ops n lm ts' st K) (.v (.one .any)) st)
      | none => allP (fun i => (match ops[i]? with
        | some o => (match chainOf ops ts o with
          | some ch => rsv ts ch fun ts2 live => (match live with
            | true => (match opV T sp o ch ts2 st with
              | some r => fin o ch ts2 (fun ts' _ => forceN (Nat.lor (bit1 i) lm) fun lm => sigW tab ops n lm ts' st K) r st
              | none => (match isA sp o with
                | true => opStep T sp o ch ts2 st fun r st' => (match keptB kq st'.h st.h with
                  | true => fin o ch ts2 (fun ts' st' => forceN (Nat.lor (bit1 i) lm) fun lm => sigW tab ops n lm ts' st' K) r st'
                  | false => bad (k :: l))
                | false => opStoreW T kq o ch ts2 st fun r st' => (match keptB kq st'.h st.h with
                  | true => fin o ch ts2 (fun ts' st' => forceN (Nat.lor (bit1 i) lm) fun lm => sigW tab ops n lm ts' st' K) r st'
                  | false => bad (k :: l))))
            | false => fin o ch ts2 (fun ts' _ => forceN (Nat.lor (bit1 i) lm) fun lm => sigW tab ops n lm ts' st K) (.v (.one .any)) st)
          | none => bad (k :: l))
        | none => bad (k :: l))) (k :: l)))
end
section
variable {T : Tb} {sp : FuncId → Option Spec} {kq : Nat} {P : Program} {B : Base} {β : Nat → Option Value} {F : Nat → Prop} {w : World} {st : St}
theorem Sat.kept (hw : Sat B β F st w) : Sat B β F (stK kq st) w :=
  ⟨hw.only, hw.fresh, fun p hp => hw.cks p (keepL_sub.subset hp), fun p hp => hw.own p (keepL_sub.subset hp), hw.sep.sublist keepL_sub, hw.frz, hw.f1, hw.f2, hw.anc⟩
theorem gdK_gd {k : Nat} (h : Gd (stK kq st) β F k) : Gd st β F k := by
  rcases h with h | ⟨p, hp, h1, h2⟩
  · exact .inl h
  · exact .inr ⟨p, keepL_sub.subset hp, h1, h2⟩
theorem bk_ext {β' : Nat → Option Value} {F' : Nat → Prop} {w' : World} (hx : Ext β F w β' F' w') {id k : Nat} (h : bk (β id) = some k) : bk (β' id) = some k := by
  cases hb : β id with
  | none => rw [hb] at h; cases h
  | some v => rw [hb] at h; rw [hx.1 id v hb]; exact h
theorem gdK_step {β' : Nat → Option Value} {F' : Nat → Prop} {w' : World} {st' : St} (hx : Ext β F w β' F' w') (hk : keptB kq st'.h st.h = true) {k : Nat} (h : Gd (stK kq st) β F k) : Gd (stK kq st') β' F' k := by
  rcases h with h | ⟨p, hp, h1, h2⟩
  · exact .inl (hx.f k h)
  · obtain ⟨p', g1, g2, g3⟩ := keptB_ok hk p (keepL_sub.subset hp) (keepL_kept hp) h1
    exact .inr ⟨p', keepL_mem g1 (by rw [g2]; exact keepL_kept hp), g3, bk_ext hx (by rw [g2]; exact h2)⟩
theorem pairwise_ne {R : Nat → Nat → Prop} : ∀ {h : List (Nat × Ck)}, h.Pairwise (fun a b => R a.1 b.1) → ∀ {p q : Nat × Ck}, p ∈ h → q ∈ h → p.1 ≠ q.1 → R p.1 q.1 ∨ R q.1 p.1
  | x :: r, h, p, q, hp, hq, hne => by
    obtain ⟨h1, h2⟩ := List.pairwise_cons.1 h
    rcases List.mem_cons.1 hp with e | hp' <;> rcases List.mem_cons.1 hq with e' | hq'
    · exact absurd (by rw [e, e']) hne
    · rw [e]; exact .inl (h1 _ hq')
    · rw [e']; exact .inr (h1 _ hp')
    · exact pairwise_ne h2 hp' hq' hne
/-- A store tells on what block it wrote. -/
theorem opStoreB_ok (hT : ∀ t i, T t = some i → TyOk P t i) {t : TypeId} {id off : Nat} {y : Option Rs} {K : Rs → St → Prop} (h : opStore T t (some (.v (.one (.ptr id off)))) y st K) (hs : Sat B β F st w) {u v : Value} (hx : DnR β F w (.v (.one (.ptr id off))) u) (hy : ∀ r, y = some r → DnR β F w r v) :
    ∃ w' st' r, (Instr.storeAt t u v).run P w = .ok () w' ∧ K r st' ∧ Ext β F w β F w' ∧ Sat B β F st' w' ∧ DnR β F w' r undef ∧ (∃ p ∈ st.h, p.1 = id) ∧ (∀ k, bk (β id) ≠ some k → w'.heap[k]? = w.heap[k]?) ∧ w.heap.size ≤ w'.heap.size := by
  unfold opStore at h
  split at h
  · exact h.elim
  · rename_i i hi
    obtain ⟨g, h1, rfl⟩ := hx
    dsimp only at h
    split at h
    · rename_i r
      split at h
      · rename_i vs hc
        split at h
        · rename_i hn
          have hn := Nat.eq_of_beq_eq_true hn
          split at h
          · rename_i cells ty hl
            split at h
            · rename_i l hp
              obtain ⟨ws, c1, c2, _⟩ := cellsOf_dn hc (hy _ rfl)
              obtain ⟨g', old, h2, h3, h4⟩ := hs.cks _ (look_mem hl)
              obtain rfl : g = g' := by rw [h1] at h2; cases h2; rfl
              obtain ⟨p1, p2⟩ := putSegs_dn _ _ _ _ _ _ hp h4 c2
              obtain ⟨s1, s2⟩ := hs.store hl h1 h3 p1
              exact ⟨_, _, _, run_storeAt (hT t i hi).size c1 (by rw [c2.len, hn]) c2.one h3 (by simpa using p2), h, by simpa using s1, by simpa using s2, trivial, ⟨_, look_mem hl, rfl⟩, fun k hk => setRow_other w g k _ (fun e => hk (by rw [h1, e]; simp [bk])), by simp⟩
            · exact h.elim
          · exact h.elim
        · exact h.elim
      · exact h.elim
    · exact h.elim
theorem opStoreW_ok (hT : ∀ t i, T t = some i → TyOk P t i) {o : Oper} {ch : List (Nat × Bool)} {ts : Sl} {K : Rs → St → Prop} {a : Act} {next : Act → World → Prop} {Q : Exit → Act → World → Prop}
    (h : opStoreW T kq o ch ts st K) (hg : gd ts ch = true) (hs : SlOk β F w ts a.tmps) (hw : Sat B β F st w)
    (hK : ∀ r st' w' u, K r st' → Ext β F w β F w' → Sat B β F st' w' → DnR β F w' r u → (∀ k, Gd (stK kq st) β F k → w'.heap[k]? = w.heap[k]?) → w.heap.size ≤ w'.heap.size → next (a.put o.dst u) w') : o.wp P a w next Q := by
  unfold opStoreW at h
  split at h
  · rename_i t x y ho
    split at h
    · rename_i id off hx
      split at h
      · rename_i hk
        obtain ⟨w', st', r, h1, h2, h3, h4, h5, ⟨p, hp, hpi⟩, h6, h7⟩ := opStoreB_ok hT h hw (u := a.eval x) (v := a.eval y) (ev_dn hx hg hs) (fun r hr => ev_dn hr hg hs)
        refine wp_skip (w' := w') (by simp [execOp, ho, h1]) (hK _ _ _ _ h2 h3 h4 h5 (fun k hgk => h6 k fun hb => ?_) h7)
        rcases hgk with hF | ⟨q, hq, q1, q2⟩
        · exact (hw.own p hp k (by rw [hpi]; exact hb)).2.1 hF
        · have hne : p.1 ≠ q.1 := fun e => by
            have := keepL_kept hq
            rw [← e, hpi, hk] at this
            cases this
          rcases pairwise_ne (R := fun a b => ∀ k, bk (β a) = some k → bk (β b) ≠ some k) hw.sep hp (keepL_sub.subset hq) hne with hr | hr
          · exact hr k (by rw [hpi]; exact hb) q2
          · exact hr k q2 (by rw [hpi]; exact hb)
      · exact h.elim
    · exact h.elim
  · exact h.elim
end
section
variable {T : Tb} {sp : FuncId → Option Spec} {kq : Nat} {P : Program} {B : Base}
theorem pickW_ok {ops : Array Oper} {lm : Nat} {ts : Sl} {st : St} {split : Bool} {l : List Nat} {i : Nat} {o : Oper} {ch : List (Nat × Bool)} {v : Pk} : pickW T sp kq (ops.toList.map (omOf .any ops)) ops lm ts st split l = some (i, o, ch, v) →
    i ∈ l ∧ ops[i]? = some o ∧ freeM lm i (omOf .any ops o) (ops.toList.map (omOf .any ops)) 0 = true ∧ chainOf ops ts o = some ch ∧ (∀ r, v = .q r → (isR sp o = true ∧ opV T sp o ch ts (stK kq st) = some r) ∨ (isR sp o = false ∧ opV T sp o ch ts st = some r)) ∧ (v = .p → isP o = true) ∧ (v = .d → deadB ts ch = true) := by
  induction l with
  | nil => intro h; cases h
  | cons j r ih =>
    intro h
    have go : pickW T sp kq (ops.toList.map (omOf .any ops)) ops lm ts st split r = some (i, o, ch, v) → i ∈ j :: r ∧ ops[i]? = some o ∧ freeM lm i (omOf .any ops o) (ops.toList.map (omOf .any ops)) 0 = true ∧ chainOf ops ts o = some ch ∧ (∀ r, v = .q r → (isR sp o = true ∧ opV T sp o ch ts (stK kq st) = some r) ∨ (isR sp o = false ∧ opV T sp o ch ts st = some r)) ∧ (v = .p → isP o = true) ∧ (v = .d → deadB ts ch = true) := fun h => by
      obtain ⟨h1, h2⟩ := ih h
      exact ⟨List.mem_cons_of_mem _ h1, h2⟩
    unfold pickW at h
    cases ho : ops[j]? with
    | none => rw [ho] at h; exact go h
    | some o' =>
      have hm : (ops.toList.map (omOf .any ops))[j]? = some (omOf .any ops o') := by simp [ho]
      rw [ho, hm] at h
      dsimp only at h
      cases hf : freeM lm j (omOf .any ops o') (ops.toList.map (omOf .any ops)) 0 with
      | false => rw [hf] at h; exact go h
      | true =>
        rw [hf] at h
        cases hc : chainOf ops ts o' with
        | none => rw [hc] at h; exact go h
        | some ch' =>
          rw [hc] at h
          dsimp only at h
          cases hdd : deadB ts ch' with
          | true =>
            rw [hdd] at h
            cases h
            exact ⟨List.mem_cons_self, ho, hf, hc, fun r e => by (cases e), fun e => (by cases e), fun _ => hdd⟩
          | false =>
          rw [hdd] at h
          dsimp only at h
          cases hR : isR sp o' with
          | true =>
            rw [hR] at h
            dsimp only at h
            cases hv : opV T sp o' ch' ts (stK kq st) with
            | some v' =>
              rw [hv] at h
              cases h
              exact ⟨List.mem_cons_self, ho, hf, hc, fun r e => by cases e; exact .inl ⟨hR, hv⟩, fun e => (by cases e), fun e => (by cases e)⟩
            | none => rw [hv] at h; exact go h
          | false =>
          rw [hR] at h
          dsimp only at h
          cases hv : opV T sp o' ch' ts st with
          | some v' =>
            rw [hv] at h
            cases h
            exact ⟨List.mem_cons_self, ho, hf, hc, fun r e => by cases e; exact .inr ⟨hR, hv⟩, fun e => (by cases e), fun e => (by cases e)⟩
          | none =>
            rw [hv] at h
            dsimp only at h
            cases hp : (isP o' && (split || liveB ts ch')) with
            | false => rw [hp] at h; exact go h
            | true =>
              rw [hp] at h
              cases h
              simp only [Bool.and_eq_true] at hp
              refine ⟨List.mem_cons_self, ho, hf, hc, ?_, fun _ => hp.1, fun e => (by cases e)⟩
              intro r e; cases e
theorem sigW_ok (hT : ∀ t i, T t = some i → TyOk P t i) (hsp : ∀ f S, sp f = some S → Valid P f S) {ops : Array Oper} (hsel : Region.noSelect ops = true) {K : Sl → St → Prop} {ds : List Deferred} {rm : Nat} :
    ∀ (n : Nat) (listed : Array Bool) (lm : Nat) (ts : Sl) (st : St) (β : Nat → Option Value) (F : Nat → Prop) (a : Act) (w : World), sigW T sp kq (ops.toList.map (omOf .any ops)) ops n lm ts st K → Rel ops listed lm → Cl .any ops listed → SlOk β F w ts a.tmps → Sat B β F st w → a.defers = ds →
      core P .any ops (List.range ops.size) (fun a' w' => ∃ ts' st' β' F', K ts' st' ∧ SlOk β' F' w' ts' a'.tmps ∧ Sat B β' F' st' w' ∧ a'.defers = ds) n listed (Gd (stK kq st) β F) a w := by
  intro n
  induction n with
  | zero =>
    intro listed lm ts st β F a w h hrel hcl hs hw hd
    simp only [sigW] at h
    split at h
    · rename_i hr; exact ⟨readyM_nil hrel hr, ts, st, β, F, h, hs, hw, hd⟩
    · exact h.elim
  | succ n ih =>
    intro listed lm ts st β F a w h hrel hcl hs hw hd
    simp only [sigW, forceN_eq] at h
    split at h
    · rename_i hr
      exact ⟨fun _ => ⟨ts, st, β, F, h, hs, hw, hd⟩, fun i hi => by rw [readyM_nil hrel hr] at hi; cases hi⟩
    · rename_i k l hr
      have wantedQ : ∀ {o : Oper} {ch : List (Nat × Bool)}, chainOf ops ts o = some ch → Region.wanted o (yielded ops a.tmps) = gd ts ch := fun hc => chainOf_ok hc hs
      have both : ∀ {x : Nat × Oper × List (Nat × Bool) × Pk}, (match pickW T sp kq (ops.toList.map (omOf .any ops)) ops lm ts st false (k :: l) with | some x => some x | none => pickW T sp kq (ops.toList.map (omOf .any ops)) ops lm ts st true (k :: l)) = some x → ∃ b, pickW T sp kq (ops.toList.map (omOf .any ops)) ops lm ts st b (k :: l) = some x := by
        intro x hx
        split at hx
        · rename_i y hy; cases hx; exact ⟨false, hy⟩
        · exact ⟨true, hx⟩
      have first : ∀ {i : Nat} {o : Oper} {ch : List (Nat × Bool)} {ts2 : Sl} {r : Rs} {v : Value}, i ∈ k :: l → ops[i]? = some o → freeM lm i (omOf .any ops o) (ops.toList.map (omOf .any ops)) 0 = true → chainOf ops ts o = some ch → SlOk β F w ts2 a.tmps → gd ts2 ch = gd ts ch →
          (gd ts ch = true → DnR β F w r v ∧ ∀ w'', ((∀ k, Gd (stK kq st) β F k → w''.heap[k]? = w.heap[k]?) ∧ w.heap.size ≤ w''.heap.size) → o.quietAt P a (Below w''.heap.size w'') w'' v) → (gd ts ch = false → v = undef) →
          fin o ch ts2 (fun ts' _ => sigW T sp kq (ops.toList.map (omOf .any ops)) ops n (Nat.lor (bit1 i) lm) ts' st K) r st →
          core P .any ops (List.range ops.size) (fun a' w' => ∃ ts' st' β' F', K ts' st' ∧ SlOk β' F' w' ts' a'.tmps ∧ Sat B β' F' st' w' ∧ a'.defers = ds) (n + 1) listed (Gd (stK kq st) β F) a w := by
        intro i o ch ts2 r v p1 p2 p3 p4 hs2 hg2 h1 h2 h
        have hir : i ∈ Region.ready .any ops listed := (mem_readyM hrel).1 (by rw [hr]; exact p1)
        have hil : i < ops.size := (Array.getElem?_eq_some_iff.1 p2).1
        refine core_first (v := v) p2 (Region.noSelect_spec hsel) n listed _ a w (freeM_ok hrel p3) hir hcl (fun k hk => gd_lt hw (gdK_gd hk)) ?_ fun w' hb => ?_
        · cases hgd : gd ts ch with
          | true => exact .inl ⟨by rw [wantedQ p4, hgd], fun w'' hc => (h1 hgd).2 w'' (hc (by simpa using hil))⟩
          | false => exact .inr ⟨by rw [wantedQ p4, hgd], h2 hgd⟩
        · obtain ⟨x1, x2⟩ := hw.below hb (fun _ h => h) (fun _ h => .inl h)
          obtain ⟨ts', f1, f2⟩ := fin_ok h (hs2.ext x1) (fun e => (h1 (hg2 ▸ e)).1.ext x1) (fun e => h2 (hg2 ▸ e)) a.defers
          exact ih _ _ ts' st β F _ w' f1 (hrel.set hil) (hcl.set hir) f2 x2 ((put_defers _ _ _).trans hd)
      split at h
      · rename_i i o ch r hp
        obtain ⟨sb, hp⟩ := both hp
        obtain ⟨p1, p2, p3, p4, p5, _, _⟩ := pickW_ok hp
        cases hgd : gd ts ch with
        | true =>
          rcases p5 r rfl with ⟨hR, hv⟩ | ⟨hR, hv⟩
          · obtain ⟨u, h1, h2, h3⟩ := opV_ok hT hsp hv hgd hs (hw.kept (kq := kq))
            exact first (v := u) p1 p2 p3 p4 hs rfl (fun _ => ⟨h1, fun w'' hc => h2 w'' hc.1 hc.2⟩) (fun e => by rw [hgd] at e; cases e) h
          · obtain ⟨u, h1, h2, h3⟩ := opV_ok hT hsp hv hgd hs hw
            exact first (v := u) p1 p2 p3 p4 hs rfl (fun _ => ⟨h1, fun w'' hc => h3 hR w''⟩) (fun e => by rw [hgd] at e; cases e) h
        | false => exact first (v := undef) p1 p2 p3 p4 hs rfl (fun e => by rw [hgd] at e; cases e) (fun _ => rfl) h
      · rename_i i o ch hp
        obtain ⟨sb, hp⟩ := both hp
        obtain ⟨p1, p2, p3, p4, _, _, p8⟩ := pickW_ok hp
        have hgd := deadB_ok (p8 rfl)
        exact first (v := undef) p1 p2 p3 p4 hs rfl (fun e => by rw [hgd] at e; cases e) (fun _ => rfl) h
      · rename_i i o ch hp
        obtain ⟨sb, hp⟩ := both hp
        obtain ⟨p1, p2, p3, p4, _, p6, _⟩ := pickW_ok hp
        have hil : i < ops.size := (Array.getElem?_eq_some_iff.1 p2).1
        obtain ⟨ts2, live, g1, g2, g3, g4⟩ := rsv_ok hs h
        split at g1
        · split at g1
          · rename_i r hv
            obtain ⟨u, h1, h2, h3⟩ := opV_ok hT hsp hv g3 g2 hw
            refine first (v := u) p1 p2 p3 p4 g2 (g4 ch) (fun _ => ⟨h1, fun w'' hc => ?_⟩) (fun e => by rw [← g4 ch, g3] at e; cases e) g1
            exact h3 (isP_R (p6 rfl)) w''
          · obtain ⟨r, u, h1, h2, h3⟩ := stepP_ok hT g1 g3 g2 hw
            exact first (v := u) p1 p2 p3 p4 g2 (g4 ch) (fun _ => ⟨h2, fun w'' _ => h3 w''⟩) (fun e => by rw [← g4 ch, g3] at e; cases e) h1
        · exact first (v := undef) p1 p2 p3 p4 g2 (g4 ch) (fun e => by rw [← g4 ch, g3] at e; cases e) (fun _ => rfl) g1
      · refine ⟨fun e => (by have := (mem_readyM (md := .any) hrel (j := k)).1 (by rw [hr]; simp); rw [e] at this; cases this), fun i hi => ?_⟩
        have h := allP_mem h i (by rw [← hr]; exact (mem_readyM hrel).2 hi)
        split at h
        · rename_i o ho
          have hil : i < ops.size := (Array.getElem?_eq_some_iff.1 ho).1
          split at h
          · rename_i ch hc
            obtain ⟨ts2, live, g1, g2, g3, g4⟩ := rsv_ok hs h
            unfold oneOp
            simp only [ho]
            rw [wantedQ hc, ← g4 ch, g3]
            split at g1
            · rw [if_pos rfl]
              split at g1
              · rename_i r hv
                obtain ⟨u, h1, h2, _⟩ := opV_ok hT hsp hv g3 g2 hw
                refine quiet_wp (h2 w (fun _ _ => rfl) (Nat.le_refl _)) (Below.refl _ _) fun w' hb => ?_
                refine ⟨Gd (stK kq st) β F, .inr ⟨fun k hk => ⟨hk, hb.block k (gd_lt hw (gdK_gd hk))⟩, hb.size⟩, fun k hk => Nat.lt_of_lt_of_le (gd_lt hw (gdK_gd hk)) hb.size, fun w'' hb' => ?_⟩
                have hb := hb.trans (hb'.mono hb.size)
                obtain ⟨x1, x2⟩ := hw.below hb (fun _ h => h) (fun _ h => .inl h)
                obtain ⟨ts', f1, f2⟩ := fin_ok g1 (g2.ext x1) (fun _ => h1.ext x1) (fun e => by rw [g3] at e; cases e) a.defers
                exact ih _ _ ts' st β F _ w'' f1 (hrel.set hil) (hcl.set hi) f2 x2 ((put_defers _ _ _).trans hd)
              · split at g1
                · rename_i hA
                  refine opStep_ok hT hsp g1 g3 g2 hw fun r' st' β' F' w' u k1 k2 k3 k4 k5 => ?_
                  split at k1
                  case h_2 => exact k1.1.elim
                  rename_i hkp
                  refine ⟨Gd (stK kq st') β' F', .inr ⟨fun k hk => ⟨gdK_step k2 hkp hk, ((k5 hA).1 k (gdK_gd hk)).2⟩, (k5 hA).2⟩, fun k hk => gd_lt k3 (gdK_gd hk), fun w'' hb => ?_⟩
                  obtain ⟨x1, x2⟩ := k3.below hb (fun _ h => h) (fun _ h => .inl h)
                  obtain ⟨ts', f1, f2⟩ := fin_ok k1 ((g2.ext k2).ext x1) (fun _ => k4.ext x1) (fun e => by rw [g3] at e; cases e) a.defers
                  exact ih _ _ ts' st' β' F' _ w'' f1 (hrel.set hil) (hcl.set hi) f2 x2 ((put_defers _ _ _).trans hd)
                · refine opStoreW_ok hT g1 g3 g2 hw fun r' st' w' u k1 k2 k3 k4 k5 k6 => ?_
                  split at k1
                  case h_2 => exact k1.1.elim
                  rename_i hkp
                  refine ⟨Gd (stK kq st') β F, .inr ⟨fun k hk => ⟨gdK_step k2 hkp hk, k5 k hk⟩, k6⟩, fun k hk => gd_lt k3 (gdK_gd hk), fun w'' hb => ?_⟩
                  obtain ⟨x1, x2⟩ := k3.below hb (fun _ h => h) (fun _ h => .inl h)
                  obtain ⟨ts', f1, f2⟩ := fin_ok k1 ((g2.ext k2).ext x1) (fun _ => k4.ext x1) (fun e => by rw [g3] at e; cases e) a.defers
                  exact ih _ _ ts' st' β F _ w'' f1 (hrel.set hil) (hcl.set hi) f2 x2 ((put_defers _ _ _).trans hd)
            · rw [if_neg (by simp)]
              refine ⟨Gd (stK kq st) β F, .inr ⟨fun k hk => ⟨hk, by simp⟩, by simp⟩, fun k hk => gd_lt hw (gdK_gd hk), fun w'' hb => ?_⟩
              obtain ⟨x1, x2⟩ := hw.below hb (fun _ h => h) (fun _ h => .inl h)
              obtain ⟨ts', f1, f2⟩ := fin_ok g1 (g2.ext x1) (u := undef) (fun e => by rw [g3] at e; cases e) (fun _ => rfl) a.defers
              exact ih _ _ ts' st β F _ w'' f1 (hrel.set hil) (hcl.set hi) f2 x2 ((put_defers _ _ _).trans hd)
          · exact h.1.elim
        · exact h.1.elim
end
end Go.Proofs.YtnbbooilapelmaaGreatDoor.V
