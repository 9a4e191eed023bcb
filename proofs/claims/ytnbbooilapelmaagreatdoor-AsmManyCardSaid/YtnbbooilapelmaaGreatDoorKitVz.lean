/-
  A symbolic run of a function's text: slices that are lent, or read from now on.
-/
import Derived.Test.YtnbbooilapelmaaGreatDoorKitVy
set_option linter.unusedVariables false
set_option linter.unusedSimpArgs false
namespace Go.Proofs.YtnbbooilapelmaaGreatDoor.V
open Go.RowKit Go.Proofs.YtnbbooilapelmaaGreatDoor
section
variable {β : Nat → Option Value} {F F' : Nat → Prop} {w : World}
/-- A slice of one's own, read. -/
theorem own_rd {ty : TypeId} {a : Sh} {xs : List a.T} {v : Value} {vs : List Value} (h : Own w 0 ty a.size v xs.length vs) (hr : RdL w F a xs vs) (hF : ∀ k, F k → F' k) (hv : ∀ k, v.ownBlock = some k → F' k) : RdC w F' (.sl a) xs [v] := by
  obtain ⟨ad, cap, e, h1, h2, h3, h4⟩ : ∃ ad cap, v = .slice ad xs.length cap ∧ xs.length ≤ cap ∧ cap ≤ maxLen ∧ (ad = none → cap = 0) ∧ (0 < xs.length → ∃ g o, ad = some ⟨g, o, none⟩) := by
    rcases h.2 with ⟨rfl, hn⟩ | ⟨g, o, cap, cur, rfl, _, _, hnc, hcm, _⟩
    · exact ⟨none, 0, by rw [hn], by omega, Nat.zero_le _, fun _ => rfl, fun h => by omega⟩
    · exact ⟨_, cap, rfl, hnc, hcm, fun h => (by cases h), fun _ => ⟨g, o, rfl⟩⟩
  refine ⟨ad, cap, by rw [e], h1, h2, h3, fun h0 => ?_⟩
  obtain ⟨g, o, rfl⟩ := h4 h0
  subst e
  obtain ⟨g', o', cap', he, _, _, _, _, hcell, _⟩ := h.form h0
  injection he with he _ _; injection he with he; injection he with e1 e2; subst e1; subst e2
  refine ⟨g, o, rfl, hv g rfl, fun i y hy => ?_⟩
  obtain ⟨cs, c1, c2⟩ := hr.get i y hy
  exact ⟨cs, c1.mono hF (fun _ _ => rfl), fun j u hu => by rw [Nat.add_assoc]; exact hcell _ _ (c2 j u hu)⟩
end
section
variable {B : Base} {β : Nat → Option Value} {F : Nat → Prop} {w : World} {st : St}
theorem CkOk.fz {F' : Nat → Prop} (hF : ∀ k, F k → F' k) {id : Nat} {c : Ck} (h : CkOk β F w id c) : CkOk β F' w id c := by
  have x : Ext β F w β F' w := ⟨fun _ _ h => h, hF, fun _ _ => rfl⟩
  cases c with
  | blk cells ty => obtain ⟨g, vs, h1, h2, h3⟩ := h; exact ⟨g, vs, h1, h2, h3.ext x⟩
  | own ty a xs => obtain ⟨v, vs, h1, h2, h3⟩ := h; exact ⟨v, vs, h1, h2, h3.mono hF (fun _ _ => rfl)⟩
  | xk c => exact Xk.keep x h fun _ _ => rfl
/-- A region is read from now on. -/
theorem Sat.freeze (h : Sat B β F st w) {id : Nat} {ck : Ck} (hl : look st.h id = some ck) :
    ∃ F', (∀ k, F k → F' k) ∧ (∀ k, bk (β id) = some k → F' k) ∧ Ext β F w β F' w ∧ Sat B β F' ⟨st.nx, del st.h id⟩ w ∧ (∀ k, Gd st β F k → Gd ⟨st.nx, del st.h id⟩ β F' k) := by
  have hF : ∀ k, F k → (fun k => F k ∨ bk (β id) = some k) k := fun k hk => .inl hk
  refine ⟨fun k => F k ∨ bk (β id) = some k, hF, fun k hk => .inr hk, ⟨fun _ _ h => h, hF, fun _ _ => rfl⟩, ⟨h.only, h.fresh, fun p hp => (h.cks p (del_sub p hp)).fz hF, fun p hp k hk => ?_, del_pair h.sep, ⟨fun k hk => ?_, h.frz.gl.ext hF (fun _ _ => rfl)⟩, fun k hk => .inl (h.f1 k hk), fun k hk => ?_, h.anc⟩, fun k hk => ?_⟩
  · obtain ⟨o1, o2, o3⟩ := h.own p (del_sub p hp) k hk
    refine ⟨o1, fun e => ?_, o3⟩
    rcases e with e | e
    · exact o2 e
    · obtain ⟨_, hr⟩ := del_other (R := fun a b => ∀ k, bk (β a) = some k → bk (β b) ≠ some k) h.sep hl hp
      rcases hr with hr | hr
      · exact hr k e hk
      · exact hr k hk e
  · rcases hk with hk | hk
    · exact h.frz k hk
    · exact (h.own _ (look_mem hl) k hk).2.2
  · rcases hk with hk | hk
    · exact h.f2 k hk
    · exact .inr ((h.own _ (look_mem hl) k hk).1)
  · rcases hk with hk | ⟨p, hp, h1, h2⟩
    · exact .inl (.inl hk)
    · rcases del_keep hl hp with e | hp
      · rw [e] at h2
        exact .inl (.inr h2)
      · exact .inr ⟨p, hp, h1, h2⟩
/-- Slices of one's own among cells: read from now on. -/
def frzC (c : CV) (st : St) (K : CV → St → Prop) : Prop :=
  match c with
  | .sl id => (match look st.h id with | some (.own ty a xs) => K (.rd a xs) ⟨st.nx, del st.h id⟩ | _ => False)
  | .sv id sz lo n => (match look st.h id with
    | some (.own ty a xs) => (match Nat.beq sz a.size with | true => lo + n ≤ xs.length ∧ K (.rd a ((xs.drop lo).take n)) ⟨st.nx, del st.h id⟩ | false => False)
    | _ => False)
  | c => K c st
def frzL : List CV → St → (List CV → St → Prop) → Prop
  | [], st, K => K [] st
  | c :: r, st, K => frzC c st fun c' st' => frzL r st' fun r' st'' => K (c' :: r') st''
def frzV (v : Vl) (st : St) (K : Vl → St → Prop) : Prop :=
  match v with
  | .one c => frzC c st fun c' st' => K (.one c') st'
  | .agg l => frzL l st fun l' st' => K (.agg l') st'
def frzVs : List Vl → St → (List Vl → St → Prop) → Prop
  | [], st, K => K [] st
  | v :: r, st, K => frzV v st fun v' st' => frzVs r st' fun r' st'' => K (v' :: r') st''
/-- What freezing leaves. -/
def Fzd (B : Base) (β : Nat → Option Value) (F : Nat → Prop) (st : St) (w : World) (F' : Nat → Prop) (st' : St) : Prop :=
  (∀ k, F k → F' k) ∧ Sat B β F' st' w ∧ (∀ k, Gd st β F k → Gd st' β F' k)
theorem Fzd.refl (h : Sat B β F st w) : Fzd B β F st w F st := ⟨fun _ h => h, h, fun _ h => h⟩
theorem Fzd.trans {F' F'' : Nat → Prop} {st' st'' : St} (h : Fzd B β F st w F' st') (k : Fzd B β F' st' w F'' st'') : Fzd B β F st w F'' st'' := ⟨fun x hx => k.1 x (h.1 x hx), k.2.1, fun x hx => k.2.2 x (h.2.2 x hx)⟩
theorem Fzd.ext {F' : Nat → Prop} {st' : St} (h : Fzd B β F st w F' st') : Ext β F w β F' w := ⟨fun _ _ h => h, h.1, fun _ _ => rfl⟩
theorem frzC_ok (hw : Sat B β F st w) {c : CV} {K : CV → St → Prop} (h : frzC c st K) : ∃ c' st' F', K c' st' ∧ Fzd B β F st w F' st' ∧ (∀ u, Dn β F w c u → Dn β F' w c' u) ∧ (∀ l, DnC β F w c l → DnC β F' w c' l) := by
  unfold frzC at h
  split at h
  · rename_i id
    split at h
    · rename_i ty a xs hl
      obtain ⟨F', f1, f2, f3, f4, f5⟩ := hw.freeze hl
      obtain ⟨v, vs, g1, g2, g3⟩ := hw.cks _ (look_mem hl)
      have key : ∀ u, Dn β F w (.sl id) u → Dn β F' w (.rd a xs) u := fun u hu => by
        obtain ⟨e, _⟩ := hu
        rw [g1] at e
        cases e
        exact own_rd g2 g3 f1 fun k hk => f2 k (by rw [g1]; exact own_bk' hk)
      exact ⟨_, _, F', h, ⟨f1, f4, f5⟩, key, fun l hl => by obtain ⟨u, e1, e2, e3⟩ := hl; exact ⟨u, e1, key u e2, e3⟩⟩
    · exact h.elim
  · rename_i id sz lo n
    split at h
    · rename_i ty a xs hl
      split at h
      · rename_i hsz
        have hsz := Nat.eq_of_beq_eq_true hsz
        subst hsz
        obtain ⟨hle, h⟩ := h
        obtain ⟨F', f1, f2, f3, f4, f5⟩ := hw.freeze hl
        obtain ⟨v, vs, g1, g2, g3⟩ := hw.cks _ (look_mem hl)
        have key : ∀ u, Dn β F w (.sv id a.size lo n) u → Dn β F' w (.rd a ((xs.drop lo).take n)) u := fun u hu => by
          obtain ⟨v', e, hs⟩ := hu
          rw [g1] at e
          cases e
          obtain ⟨q1, q2, q3, q4⟩ := sv_own g2 g3 hs hle
          exact own_rd (by rw [q3]; exact q1) q2 f1 fun k hk => f2 k (by rw [g1]; exact own_bk' (q4 k hk))
        exact ⟨_, _, F', h, ⟨f1, f4, f5⟩, key, fun l hl => by obtain ⟨u, e1, e2, e3⟩ := hl; exact ⟨u, e1, key u e2, e3⟩⟩
      · exact h.elim
    · exact h.elim
  · exact ⟨_, _, F, h, Fzd.refl hw, fun _ h => h, fun _ h => h⟩
theorem frzL_ok : ∀ {l : List CV} {st : St} {F : Nat → Prop} {K : List CV → St → Prop}, Sat B β F st w → frzL l st K → ∃ l' st' F', K l' st' ∧ Fzd B β F st w F' st' ∧ (∀ vs, DnL β F w l vs → DnL β F' w l' vs)
  | [], st, F, K, hw, h => ⟨[], st, F, h, Fzd.refl hw, fun _ h => h⟩
  | c :: r, st, F, K, hw, h => by
    obtain ⟨c', st', F', h1, h2, h3, h4⟩ := frzC_ok hw (show frzC c st _ from h)
    obtain ⟨r', st'', F'', k1, k2, k3⟩ := frzL_ok h2.2.1 h1
    exact ⟨_, _, F'', k1, h2.trans k2, fun vs hv => by
      obtain ⟨a, b, e, g1, g2⟩ := hv
      exact ⟨a, b, e, (h4 a g1).ext k2.ext, k3 b (g2.ext h2.ext)⟩⟩
theorem frzV_ok (hw : Sat B β F st w) {v : Vl} {K : Vl → St → Prop} (h : frzV v st K) : ∃ v' st' F', K v' st' ∧ Fzd B β F st w F' st' ∧ (∀ u, DnV β F w v u → DnV β F' w v' u) := by
  unfold frzV at h
  split at h
  · obtain ⟨c', st', F', h1, h2, h3, h4⟩ := frzC_ok hw h
    exact ⟨_, _, F', h1, h2, h3⟩
  · obtain ⟨l', st', F', h1, h2, h3⟩ := frzL_ok hw h
    exact ⟨_, _, F', h1, h2, fun u hu => by obtain ⟨vs, e, hv⟩ := hu; exact ⟨vs, e, h3 vs hv⟩⟩
theorem frzVs_ok : ∀ {l : List Vl} {st : St} {F : Nat → Prop} {K : List Vl → St → Prop}, Sat B β F st w → frzVs l st K → ∃ l' st' F', K l' st' ∧ Fzd B β F st w F' st' ∧ (∀ us, DnVs β F w l us → DnVs β F' w l' us)
  | [], st, F, K, hw, h => ⟨[], st, F, h, Fzd.refl hw, fun _ h => h⟩
  | c :: r, st, F, K, hw, h => by
    obtain ⟨c', st', F', h1, h2, h3⟩ := frzV_ok hw (show frzV c st _ from h)
    obtain ⟨r', st'', F'', k1, k2, k3⟩ := frzVs_ok h2.2.1 h1
    exact ⟨_, _, F'', k1, h2.trans k2, fun us hv => by
      obtain ⟨a, b, e, g1, g2⟩ := hv
      exact ⟨a, b, e, (h3 a g1).ext k2.ext, k3 b (g2.ext h2.ext)⟩⟩
/-! ### Lent for a call -/
def lendC (st : St) (c : CV) : CV :=
  match c with
  | .sl id => (match look st.h id with | some (.own ty a xs) => .rd a xs | _ => .sl id)
  | c => c
def lendL (st : St) : List CV → List CV
  | [] => []
  | c :: r => lendC st c :: lendL st r
def lendV (st : St) : Vl → Vl
  | .one c => .one (lendC st c)
  | .agg l => .agg (lendL st l)
def lendVs (st : St) : List Vl → List Vl
  | [] => []
  | v :: r => lendV st v :: lendVs st r
/-- All that may be read for a call: what is read already, and all that is one's own. -/
def Lf (β : Nat → Option Value) (F : Nat → Prop) (st : St) (k : Nat) : Prop := F k ∨ ∃ p ∈ st.h, bk (β p.1) = some k
theorem Lf.ext (β : Nat → Option Value) (F : Nat → Prop) (st : St) (w : World) : Ext β F w β (Lf β F st) w := ⟨fun _ _ h => h, fun _ h => .inl h, fun _ _ => rfl⟩
theorem lendC_ok (hw : Sat B β F st w) (c : CV) : (∀ u, Dn β F w c u → Dn β (Lf β F st) w (lendC st c) u) ∧ (∀ l, DnC β F w c l → DnC β (Lf β F st) w (lendC st c) l) := by
  unfold lendC
  split
  · rename_i id
    split
    · rename_i ty a xs hl
      obtain ⟨v, vs, g1, g2, g3⟩ := hw.cks _ (look_mem hl)
      have key : ∀ u, Dn β F w (.sl id) u → Dn β (Lf β F st) w (.rd a xs) u := fun u hu => by
        obtain ⟨e, _⟩ := hu
        rw [g1] at e
        cases e
        exact own_rd g2 g3 (fun _ h => .inl h) fun k hk => .inr ⟨_, look_mem hl, by rw [g1]; exact own_bk' hk⟩
      exact ⟨key, fun l hl => by obtain ⟨u, e1, e2, e3⟩ := hl; exact ⟨u, e1, key u e2, e3⟩⟩
    · exact ⟨fun u h => h.ext (Lf.ext β F st w), fun l h => h.ext (Lf.ext β F st w)⟩
  · exact ⟨fun u h => h.ext (Lf.ext β F st w), fun l h => h.ext (Lf.ext β F st w)⟩
theorem lendL_ok (hw : Sat B β F st w) : ∀ {l : List CV} {vs : List Value}, DnL β F w l vs → DnL β (Lf β F st) w (lendL st l) vs
  | [], vs, h => h
  | c :: r, vs, h => by obtain ⟨a, b, e, h1, h2⟩ := h; exact ⟨a, b, e, (lendC_ok hw c).2 a h1, lendL_ok hw h2⟩
theorem lendVs_ok (hw : Sat B β F st w) : ∀ {l : List Vl} {us : List Value}, DnVs β F w l us → DnVs β (Lf β F st) w (lendVs st l) us
  | [], us, h => h
  | v :: r, us, h => by
    obtain ⟨a, b, e, h1, h2⟩ := h
    refine ⟨a, b, e, ?_, lendVs_ok hw h2⟩
    cases v with
    | one c => exact (lendC_ok hw c).1 a h1
    | agg l => obtain ⟨vs, e, hv⟩ := h1; exact ⟨vs, e, lendL_ok hw hv⟩
theorem Lf.lt (hw : Sat B β F st w) {k : Nat} (h : Lf β F st k) : k < w.heap.size := by
  rcases h with h | ⟨p, hp, h⟩
  · exact hw.frz k h
  · exact (hw.own p hp k h).2.2
end
section
variable {β β' : Nat → Option Value} {F F' : Nat → Prop} {w w' : World}
/-- What leads nowhere stands for its value everywhere. -/
theorem noMem_dn {c : CV} {m : List Value} (h : clo c = some m) {u : Value} (hd : Dn β F w c u) : Dn β' F' w' c u := by cases c <;> first | exact hd | cases h
theorem noMemC_dn {c : CV} {m : List Value} (h : clo c = some m) {u : List Value} (hd : DnC β F w c u) : DnC β' F' w' c u := by
  cases c <;> first | exact hd | cases h | (obtain ⟨u, h1, h2, h3⟩ := hd; exact ⟨u, h1, noMem_dn h h2, h3⟩)
theorem noMemL_dn : ∀ {c : List CV} {m : List Value}, cloL c = some m → ∀ {u : List Value}, DnL β F w c u → DnL β' F' w' c u
  | [], m, h, u, hd => hd
  | c :: r, m, h, u, hd => by
    simp only [cloL] at h
    split at h
    · rename_i a b h1 h2
      obtain ⟨a', b', e, d1, d2⟩ := hd
      exact ⟨a', b', e, noMemC_dn h1 d1, noMemL_dn h2 d2⟩
    · cases h
theorem noMemV_dn {c : Vl} {m : Value} (h : cloV c = some m) {u : Value} (hd : DnV β F w c u) : DnV β' F' w' c u := by
  cases c with
  | one c =>
    simp only [cloV] at h
    split at h
    · rename_i v h1; exact noMem_dn h1 hd
    · cases h
  | agg l =>
    simp only [cloV] at h
    split at h
    · rename_i v h1; obtain ⟨us, e, hd⟩ := hd; exact ⟨us, e, noMemL_dn h1 hd⟩
    · cases h
theorem noMemVs_dn : ∀ {c : List Vl} {m : List Value}, cloVs c = some m → ∀ {u : List Value}, DnVs β F w c u → DnVs β' F' w' c u
  | [], m, h, u, hd => hd
  | c :: r, m, h, u, hd => by
    simp only [cloVs] at h
    split at h
    · rename_i a b h1 h2
      obtain ⟨a', b', e, d1, d2⟩ := hd
      exact ⟨a', b', e, noMemV_dn h1 d1, noMemVs_dn h2 d2⟩
    · cases h
theorem noMemR_dn {c : Rs} {m : Value} (h : cloR c = some m) {u : Value} (hd : DnR β F w c u) : DnR β' F' w' c u := by
  cases c with
  | v c => exact noMemV_dn h hd
  | tup l =>
    simp only [cloR] at h
    split at h
    · rename_i vs h1; obtain ⟨us, e, hd⟩ := hd; exact ⟨us, e, noMemVs_dn h1 hd⟩
    · cases h
end
end Go.Proofs.YtnbbooilapelmaaGreatDoor.V
