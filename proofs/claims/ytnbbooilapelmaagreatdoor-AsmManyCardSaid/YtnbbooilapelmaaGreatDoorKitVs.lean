/-
  A symbolic run of a function's text: slices.
-/
import Derived.Test.YtnbbooilapelmaaGreatDoorKitVf
import Derived.Great.BuildSlice
set_option linter.unusedVariables false
set_option linter.unusedSimpArgs false
namespace Go.Proofs.YtnbbooilapelmaaGreatDoor.V
open Go.RowKit Go.Proofs.YtnbbooilapelmaaGreatDoor
def eqSh : Sh → Sh → Bool
  | .int k, .int k' => eqK k k'
  | .bool, .bool => true
  | .str, .str => true
  | .unit, .unit => true
  | .pair a b, .pair c d => eqSh a c && eqSh b d
  | .arr n k, .arr m k' => Nat.beq n m && eqK k k'
  | .sl a, .sl b => eqSh a b
  | _, _ => false
theorem eqSh_eq : ∀ {a b : Sh}, eqSh a b = true → a = b
  | .int k, .int k', h => by rw [eqK_eq h]
  | .bool, .bool, _ => rfl
  | .str, .str, _ => rfl
  | .unit, .unit, _ => rfl
  | .pair a b, .pair c d, h => by simp only [eqSh, Bool.and_eq_true] at h; rw [eqSh_eq h.1, eqSh_eq h.2]
  | .arr n k, .arr m k', h => by simp only [eqSh, Bool.and_eq_true] at h; rw [Nat.eq_of_beq_eq_true h.1, eqK_eq h.2]
  | .sl a, .sl b, h => by rw [eqSh_eq (a := a) (b := b) h]
def castL {a b : Sh} (h : eqSh a b = true) (x : List a.T) : List b.T := eqSh_eq h ▸ x
def unI (k : IntKind) : List CV → Option (Int × List CV)
  | .val (.int k' x) :: r => (match eqK k' k with | true => some (x, r) | false => none)
  | .il k' x :: r => (match eqK k' k with | true => some (x, r) | false => none)
  | _ => none
def unB : List CV → Option (Bool × List CV)
  | .val (.bool b) :: r => some (b, r)
  | .bl b :: r => some (b, r)
  | _ => none
def unS : List CV → Option (ByteArray × List CV)
  | .val (.string s) :: r => some (s, r)
  | _ => none
def unA (n : Nat) (k : IntKind) : List CV → Option (List Int × List CV)
  | .run k' n' d :: r => (match eqK k' k, Nat.beq n' n with | true, true => some (d, r) | _, _ => none)
  | _ => none
def unR (a : Sh) : List CV → Option (List a.T × List CV)
  | .rd b x :: r => (match h : eqSh b a with | true => some (castL h x, r) | false => none)
  | .val (.slice none 0 0) :: r => some ([], r)
  | _ => none
/-- The data that segments give. -/
def unC : (a : Sh) → List CV → Option (a.T × List CV)
  | .int k, l => unI k l
  | .bool, l => unB l
  | .str, l => unS l
  | .unit, l => some ((), l)
  | .pair a b, l => (match unC a l with
    | some (x, r) => (match unC b r with | some (y, r') => some ((x, y), r') | none => none)
    | none => none)
  | .arr n k, l => unA n k l
  | .sl a, l => unR a l
section
variable {T : Tb} {sp : FuncId → Option Spec} {P : Program} {B : Base} {β : Nat → Option Value} {F : Nat → Prop} {w : World} {st : St}
theorem castL_rd {a b : Sh} (h : eqSh a b = true) {x : List a.T} {l : List Value} (hd : RdC w F (.sl a) x l) : RdC w F (.sl b) (castL h x) l := by
  have := eqSh_eq h
  subst this
  exact hd
theorem unC_ok : ∀ {a : Sh} {cs r : List CV} {x : a.T} {l : List Value}, unC a cs = some (x, r) → DnL β F w cs l → ∃ l1 l2, l = l1 ++ l2 ∧ RdC w F a x l1 ∧ DnL β F w r l2 := by
  intro a
  induction a with
  | int k =>
    intro cs r x l h hd
    simp only [unC] at h
    unfold unI at h
    split at h
    · split at h
      · rename_i e; cases h; obtain ⟨a, b, rfl, ⟨u, rfl, ⟨rfl, h1⟩, _⟩, h2⟩ := hd; rw [eqK_eq e] at h1 ⊢; exact ⟨_, _, rfl, ⟨rfl, h1⟩, h2⟩
      · cases h
    · split at h
      · rename_i e; cases h; obtain ⟨a, b, rfl, ⟨u, rfl, ⟨rfl, h1⟩, _⟩, h2⟩ := hd; rw [eqK_eq e] at h1 ⊢; exact ⟨_, _, rfl, ⟨rfl, h1⟩, h2⟩
      · cases h
    · cases h
  | bool =>
    intro cs r x l h hd
    simp only [unC] at h
    unfold unB at h
    split at h
    · cases h; obtain ⟨a, b, rfl, ⟨u, rfl, ⟨rfl, _⟩, _⟩, h2⟩ := hd; exact ⟨_, _, rfl, rfl, h2⟩
    · cases h; obtain ⟨a, b, rfl, ⟨u, rfl, h1, _⟩, h2⟩ := hd; exact ⟨_, _, rfl, by rw [show u = _ from h1]; rfl, h2⟩
    · cases h
  | str =>
    intro cs r x l h hd
    simp only [unC] at h
    unfold unS at h
    split at h
    · cases h; obtain ⟨a, b, rfl, ⟨u, rfl, ⟨rfl, h1⟩, _⟩, h2⟩ := hd; exact ⟨_, _, rfl, ⟨rfl, h1⟩, h2⟩
    · cases h
  | unit =>
    intro cs r x l h hd
    simp only [unC] at h
    cases h
    exact ⟨[], l, rfl, rfl, hd⟩
  | pair a b iha ihb =>
    intro cs r x l h hd
    simp only [unC] at h
    split at h
    · rename_i y r1 h1
      split at h
      · rename_i z r2 h2
        cases h
        obtain ⟨l1, l2, rfl, p1, p2⟩ := iha h1 hd
        obtain ⟨l3, l4, rfl, p3, p4⟩ := ihb h2 p2
        exact ⟨l1 ++ l3, l4, by simp, ⟨l1, l3, rfl, p1, p3⟩, p4⟩
      · cases h
    · cases h
  | arr n k =>
    intro cs r x l h hd
    simp only [unC] at h
    unfold unA at h
    split at h
    · split at h
      · rename_i e1 e2
        cases h
        obtain ⟨a, b, rfl, ⟨h1, rfl, h3⟩, h2⟩ := hd
        rw [eqK_eq e1] at h3 ⊢
        exact ⟨_, _, rfl, ⟨by rw [h1, Nat.eq_of_beq_eq_true e2], rfl, h3⟩, h2⟩
      · cases h
    · cases h
  | sl a _ =>
    intro cs r x l h hd
    simp only [unC] at h
    unfold unR at h
    split at h
    · split at h
      · rename_i e
        cases h
        obtain ⟨a, b, rfl, ⟨u, rfl, h1, _⟩, h2⟩ := hd
        exact ⟨_, _, rfl, castL_rd e h1, h2⟩
      · cases h
    · cases h
      obtain ⟨a, b, rfl, ⟨u, rfl, ⟨rfl, _⟩, _⟩, h2⟩ := hd
      exact ⟨_, _, rfl, ⟨none, 0, rfl, Nat.le_refl _, Nat.zero_le _, fun _ => rfl, fun h => by simp at h⟩, h2⟩
    · cases h
end
/-- Elements out of segments. -/
def unL (a : Sh) : Nat → List CV → Option (List a.T)
  | 0, [] => some []
  | 0, _ :: _ => none
  | n + 1, l => (match unC a l with
    | some (x, r) => (match unL a n r with | some xs => some (x :: xs) | none => none)
    | none => none)
/-- Where the elements of a slice's literal lie. -/
def repL (l : List CV) : Nat → List CV
  | 0 => []
  | n + 1 => app2 l (repL l n)
where app2 : List CV → List CV → List CV
  | [], m => m
  | a :: l, m => a :: app2 l m
section
variable (T : Tb)
def opIndexAddr (t : TypeId) (x i : Option Rs) (st : St) (K : Rs → St → Prop) : Prop :=
  match T t, x, i with
  | some ti, some (.v (.one c)), some (.v (.one d)) => (match intV d with
    | some (_, e) => (match ti.kd, c with
      | .slice el, .rd a l => (match T el with
        | some ie => (match Nat.beq ie.n a.size with
          | true => (0 ≤ e ∧ e < (l.length : Int)) ∧ ∀ y, l[e.toNat]? = some y → K (.v (.one (.rp a y 0))) st
          | false => False)
        | none => False)
      | .slice el, .sl id => (match T el, look st.h id with
        | some ie, some (.own _ a l) => (match Nat.beq ie.n a.size with
          | true => (0 ≤ e ∧ e < (l.length : Int)) ∧ K (.v (.one (.ep id a.size e.toNat 0))) st
          | false => False)
        | _, _ => False)
      | _, .ptr id off => (match d, ti.el with
        | .il _ (.ofNat z), (n, el) => (match T el, Nat.blt z n with
          | some ie, true => K (.v (.one (.ptr id (off + z * ie.n)))) st
          | _, _ => False)
        | _, _ => False)
      | _, _ => False)
    | none => False)
  | _, _, _ => False
/-- x[i] of a string, or of an array by value. -/
def opIndex (t : TypeId) (x i : Option Rs) (st : St) (K : Rs → St → Prop) : Prop :=
  match T t, x, i with
  | some ti, some (.v (.one c)), some (.v (.one d)) => (match intV d, ti.kd, strV c with
    | some (_, e), .str, some s => (0 ≤ e ∧ e < (s.size : Int)) ∧ ∀ y, s[e.toNat]? = some y → K (mkI .u8 (y.toNat : Int)) st
    | _, _, _ => False)
  | _, _, _ => False
def srcOf (st : St) : CV → Option (Sigma fun a : Sh => List a.T)
  | .rd a l => some ⟨a, l⟩
  | .sl id => (match look st.h id with | some (.own _ a l) => some ⟨a, l⟩ | _ => none)
  | _ => none
def opAppend (t : TypeId) (x y : Option Rs) (st : St) (K : Rs → St → Prop) : Prop :=
  match T t, x, y with
  | some ti, some (.v (.one c)), some (.v (.one d)) => (match ti.kd with
    | .slice e => (match T e, srcOf st d with
      | some ie, some ⟨b, ys⟩ => (match Nat.beq ie.n b.size, Nat.ble 1 ie.by_, c with
        | true, true, .sl id => (match look st.h id with
          | some (.own ty a xs) => (match Nat.beq ty e, h : eqSh b a with
            | true, true => (xs.length + ys.length) * ie.by_ ≤ 140737488355328 ∧ K (.v (.one (.sl st.nx))) ⟨st.nx + 1, (st.nx, .own ty a (xs ++ castL h ys)) :: del st.h id⟩
            | _, _ => False)
          | _ => False)
        | true, true, .val (.slice none 0 0) => ys.length * ie.by_ ≤ 140737488355328 ∧ K (.v (.one (.sl st.nx))) ⟨st.nx + 1, (st.nx, .own e b ys) :: st.h⟩
        | _, _, _ => False)
      | _, _ => False)
    | _ => False)
  | _, _, _ => False
def opBuildSlice (t : TypeId) (n : Nat) (ps : List (Nat × Operand)) (ts : Sl) (ch : List (Nat × Bool)) (st : St) (K : Rs → St → Prop) : Prop :=
  match T t with
  | some ti => (match ti.kd with
    | .slice e => (match T e with
      | some ie => (match ie.sh with
        | some a => (match Nat.beq ie.n a.size, Nat.blt 0 ie.n, Nat.ble (n * ie.n) 16777216, fillP (slots ie.n e n 0) ts ch ps (repL ie.zero n) with
          | true, true, true, some l => (match unL a n l with
            | some xs => K (.v (.one (.sl st.nx))) ⟨st.nx + 1, (st.nx, .own e a xs) :: st.h⟩
            | none => False)
          | _, _, _, _ => False)
        | none => False)
      | none => False)
    | _ => False)
  | none => False
end
section
variable {T : Tb} {P : Program} {B : Base} {β : Nat → Option Value} {F : Nat → Prop} {w : World} {st : St}
theorem own_bk' {v : Value} {k : Nat} (h : v.ownBlock = some k) : bk (some v) = some k := by
  unfold Value.ownBlock at h
  split at h
  · cases h; rfl
  · cases h
theorem bk_own {v : Value} {a : Option Addr} {n c : Nat} (hv : v = .slice a n c) {k : Nat} (h : bk (some v) = some k) : v.ownBlock = some k := by
  subst hv
  cases a with
  | none => cases h
  | some ad => exact h
/-- One more region, perhaps in the place of another. -/
theorem Sat.swap (hw : Sat B β F st w) {h0 : List (Nat × Ck)} (hsub : ∀ p ∈ h0, p ∈ st.h) (hpair : h0.Pairwise (fun p q => ∀ k, bk (β p.1) = some k → bk (β q.1) ≠ some k)) {S : Nat → Prop} {w' : World} (ho : Only S w w')
    (hS : ∀ k, S k → ((B.O k ∨ B.w0.heap.size ≤ k) ∧ ¬ F k) ∧ ∀ p ∈ h0, bk (β p.1) ≠ some k) {ty : TypeId} {a : Sh} {xs : List a.T} {v : Value} {vs : List Value} (hown : Own w' 0 ty a.size v xs.length vs) (hrd : RdL w' F a xs vs)
    (hblk : ∀ k, v.ownBlock = some k → S k ∨ w.heap.size ≤ k) : ∃ β', Ext β F w β' F w' ∧ Sat B β' F ⟨st.nx + 1, (st.nx, .own ty a xs) :: h0⟩ w' ∧ β' st.nx = some v ∧ ∀ k, (F k ∨ ∃ p ∈ h0, isBlk p.2 = true ∧ bk (β p.1) = some k) → Gd ⟨st.nx + 1, (st.nx, .own ty a xs) :: h0⟩ β' F k ∧ w'.heap[k]? = w.heap[k]? := by
  let β' : Nat → Option Value := fun id => if id = st.nx then some v else β id
  have hne : ∀ id u, β id = some u → id ≠ st.nx := fun id u hu e => by rw [hw.fresh id (by omega)] at hu; cases hu
  have hx : Ext β F w β' F w' := ⟨fun id u hu => (by show (if id = st.nx then some v else β id) = some u; rw [if_neg (hne id u hu)]; exact hu), fun _ h => h, fun k hk => ho.block k (hw.frz k hk) fun hs => (hS k hs).1.2 hk⟩
  have old : ∀ p ∈ h0, β' p.1 = β p.1 := fun p hp => by
    have hc := hw.cks p (hsub p hp)
    have : ∃ u, β p.1 = some u := by
      cases hq : p.2 with
      | blk cells ty => rw [hq] at hc; obtain ⟨g, vs, h1, _⟩ := hc; exact ⟨_, h1⟩
      | own ty a xs => rw [hq] at hc; obtain ⟨v, vs, h1, _⟩ := hc; exact ⟨_, h1⟩
      | xk c => rw [hq] at hc; obtain ⟨v, g, o, h1, _⟩ := hc; exact ⟨_, h1⟩
    obtain ⟨u, hu⟩ := this
    show (if p.1 = st.nx then some v else β p.1) = β p.1
    rw [if_neg (hne _ _ hu)]
  have hvn : ∃ ad n c, v = .slice ad n c := by obtain ⟨ad, c, e, _⟩ := hown.any; exact ⟨ad, _, c, e⟩
  obtain ⟨ad, n, c, hv⟩ := hvn
  refine ⟨β', hx, ⟨(show Only B.O B.w0 w' from ⟨ho.os.trans hw.only.os, ho.tape.trans hw.only.tape, ho.output.trans hw.only.output, Nat.le_trans hw.only.size ho.size, fun k hk hO => (ho.block k (Nat.lt_of_lt_of_le hk hw.only.size) fun hs => by rcases (hS k hs).1.1 with h | h; exact hO h; omega).trans (hw.only.block k hk hO)⟩), fun id hid => ?_, fun p hp => ?_, fun p hp k hk => ?_, ?_, ⟨fun k hk => Nat.lt_of_lt_of_le (hw.frz k hk) ho.size, hw.frz.gl.ext hx.f hx.k⟩, hw.f1, hw.f2, by have := hw.anc.1; simp; omega, fun i hi => ?_⟩, by simp [β'], fun k hk => ?_⟩
  · show (if id = st.nx then some v else β id) = none
    simp at hid
    rw [if_neg (by omega)]
    exact hw.fresh id (by omega)
  · rcases List.mem_cons.1 hp with rfl | hp
    · exact ⟨v, vs, by simp [β'], hown, hrd⟩
    · have hc := hw.cks p (hsub p hp)
      have keep : ∀ k, bk (β p.1) = some k → w'.heap[k]? = w.heap[k]? := fun k hk => ho.block k (hw.own p (hsub p hp) k hk).2.2 fun hs => (hS k hs).2 p hp hk
      cases hq : p.2 with
      | blk cells ty =>
        rw [hq] at hc
        obtain ⟨g, vs, h1, h2, h3⟩ := hc
        exact ⟨g, vs, hx.b _ _ h1, by rw [keep g (by rw [h1]; rfl)]; exact h2, h3.ext hx⟩
      | own ty a xs =>
        rw [hq] at hc
        obtain ⟨v, vs, h1, h2, h3⟩ := hc
        exact ⟨v, vs, hx.b _ _ h1, h2.kept (fun k hk => keep k (by rw [h1]; exact own_bk' hk)), h3.mono hx.f hx.k⟩
      | xk c => rw [hq] at hc; exact Xk.keep hx hc keep
  · rcases List.mem_cons.1 hp with rfl | hp
    · have hk : bk (some v) = some k := by simpa [β'] using hk
      have hk' := bk_own hv hk
      have hlt := (hown.lt k hk').2
      rcases hblk k hk' with h | h
      · exact ⟨(hS k h).1.1, (hS k h).1.2, hlt⟩
      · exact ⟨.inr (Nat.le_trans hw.only.size h), fun hf => by have := hw.frz k hf; omega, hlt⟩
    · rw [old p hp] at hk
      obtain ⟨h1, h2, h3⟩ := hw.own p (hsub p hp) k hk
      exact ⟨h1, h2, Nat.lt_of_lt_of_le h3 ho.size⟩
  · refine List.pairwise_cons.2 ⟨fun q hq k hk hk2 => ?_, hpair.imp_of_mem fun {p q} hp hq h k hk hk2 => h k (by rw [← old p hp]; exact hk) (by rw [← old q hq]; exact hk2)⟩
    have hk : bk (some v) = some k := by simpa [β'] using hk
    rw [old q hq] at hk2
    rcases hblk k (bk_own hv hk) with h | h
    · exact (hS k h).2 q hq hk2
    · have := (hw.own q (hsub q hq) k hk2).2.2
      omega
  · have : i ≠ st.nx := by have := hw.anc.1; omega
    show (if i = st.nx then some v else β i) = B.β0 i
    rw [if_neg this]
    exact hw.anc.2 i hi
  · rcases hk with hk | ⟨p, hp, h1, h2⟩
    · exact ⟨.inl hk, hx.k k hk⟩
    · exact ⟨.inr ⟨p, by simp [hp], h1, by rw [old p hp]; exact h2⟩, ho.block k (hw.own p (hsub p hp) k h2).2.2 fun hs => (hS k hs).2 p hp h2⟩
theorem run_sizeOf' {t : TypeId} {n : Nat} (h : (P.info? t).map (·.size) = some n) (w : World) : (sizeOf t).run P w = .ok n w := by
  cases hi : P.info? t with
  | none => simp [hi] at h
  | some i => have : i.size = n := by simpa [hi] using h
              simp [sizeOf, typeInfo, hi, this]
theorem run_indexAt {t e : TypeId} {n : Nat} (ht : P.underlying t = some (.slice e)) (hn : (P.info? e).map (·.size) = some n) {g o len cap : Nat} {k : IntKind} {i : Int} (h0 : 0 ≤ i) (h1 : i < len) (w : World) :
    (Instr.indexAt t (.slice (some ⟨g, o, none⟩) len cap) (.int k i)).run P w = .ok (.pointer (some ⟨g, o + i.toNat * n, none⟩)) w := by
  simp [Instr.indexAt, asIntOf, run_underlying ht, h0, h1, run_sizeOf' hn, Addr.add_mid]
theorem opIndexAddr_ok (hT : ∀ t i, T t = some i → TyOk P t i) {t : TypeId} {x i : Option Rs} {K : Rs → St → Prop} (h : opIndexAddr T t x i st K) (hw : Sat B β F st w) {u v : Value} (hx : ∀ r, x = some r → DnR β F w r u) (hi : ∀ r, i = some r → DnR β F w r v) :
    ∃ z r, (∀ w', (Instr.indexAt t u v).run P w' = .ok z w') ∧ K r st ∧ DnR β F w r z := by
  unfold opIndexAddr at h
  split at h
  · rename_i ti c d hti
    have hc := hx _ rfl
    have hd := hi _ rfl
    have hk := (hT t ti hti).kd
    split at h
    · rename_i k e hv
      obtain ⟨rfl, _⟩ := intV_dn hv hd
      split at h
      · rename_i el a l hkd
        rw [hkd] at hk
        split at h
        · rename_i ie hie
          split at h
          · rename_i hn
            have hn := Nat.eq_of_beq_eq_true hn
            obtain ⟨⟨h0, h1⟩, h⟩ := h
            obtain ⟨ad, cap, e1, h2, h3, h4, h5⟩ := hc
            cases e1
            obtain ⟨g, o, rfl, hg, hcell⟩ := h5 (by omega)
            have hlt : e.toNat < l.length := by omega
            obtain ⟨cs, c1, c2⟩ := hcell e.toNat _ (List.getElem?_eq_getElem hlt)
            have hsz := (hT el ie hie).size
            rw [hn] at hsz
            exact ⟨_, _, fun w' => run_indexAt hk hsz h0 h1 w', h _ (List.getElem?_eq_getElem hlt), g, o + e.toNat * a.size, cs, rfl, hg, c1, fun j y hy => c2 j y hy⟩
          · exact h.elim
        · exact h.elim
      · rename_i el id hkd
        rw [hkd] at hk
        split at h
        · rename_i ie ty a l hie hl
          split at h
          · rename_i hn
            have hn := Nat.eq_of_beq_eq_true hn
            obtain ⟨⟨h0, h1⟩, h⟩ := h
            obtain ⟨q, vs, g1, g2, g3⟩ := hw.cks _ (look_mem hl)
            obtain ⟨b1, _⟩ := hc
            rw [g1] at b1
            cases b1
            obtain ⟨g, o, cap, rfl, _⟩ := g2.form (by omega)
            have hsz := (hT el ie hie).size
            rw [hn] at hsz
            exact ⟨_, _, fun w' => run_indexAt hk hsz h0 h1 w', h, g, o, l.length, cap, g1, by simp⟩
          · exact h.elim
        · exact h.elim
      · rename_i id off
        split at h
        · rename_i kk z n el hel
          split at h
          · rename_i ie hie hz
            obtain ⟨g, g1, rfl⟩ := hc
            have hz : z < n := by simpa using hz
            have he := (hT t ti hti).el (by rw [hel]; simp; omega)
            rw [hel] at he
            have hsz := (hT el ie hie).size
            simp only [intV] at hv
            cases hv
            refine ⟨_, _, ?_, h, g, g1, rfl⟩
            have h1 : (0 : Int) ≤ (z : Int) ∧ (z : Int) < (n : Int) := by omega
            intro w'
            simp [Instr.indexAt, asIntOf, run_underlying he.1, Instr.sureAddr, run_sizeOf' hsz, Addr.add_mid, hz]
          · exact h.elim
        · exact h.elim
      · exact h.elim
    · exact h.elim
  · exact h.elim
theorem opIndex_ok (hT : ∀ t i, T t = some i → TyOk P t i) {t : TypeId} {x i : Option Rs} {K : Rs → St → Prop} (h : opIndex T t x i st K) {u v : Value} (hx : ∀ r, x = some r → DnR β F w r u) (hi : ∀ r, i = some r → DnR β F w r v) :
    ∃ z r, (∀ w', (Instr.index t u v).run P w' = .ok z w') ∧ K r st ∧ DnR β F w r z := by
  unfold opIndex at h
  split at h
  · rename_i ti c d hti
    have hc := hx _ rfl
    have hd := hi _ rfl
    have hk := (hT t ti hti).kd
    split at h
    · rename_i k e s hv hkd hs
      rw [hkd] at hk
      obtain ⟨rfl, _⟩ := intV_dn hv hd
      obtain rfl := strV_dn hs hc
      obtain ⟨⟨h0, h1⟩, h⟩ := h
      have hlt : e.toNat < s.size := by omega
      refine ⟨.int .u8 (s[e.toNat]'hlt).toNat, _, ?_, h (s[e.toNat]'hlt) (by simp [hlt]), mkI_dn ?_⟩
      · intro w'
        simp [Instr.index, asIntOf, run_underlying hk, h0, hlt]
      · have := (s[e.toNat]'hlt).toNat_lt
        simp only [inR]
        omega
    · exact h.elim
  · exact h.elim
theorem RdC.one : ∀ {a : Sh} {x : a.T} {l : List Value}, RdC w F a x l → ∀ z ∈ l, z.oneCell' = true := fun h => DnL.one (mkC_dn (β := fun _ => none) h)
theorem RdL.one {a : Sh} : ∀ {xs : List a.T} {l : List Value}, RdL w F a xs l → ∀ z ∈ l, z.oneCell' = true
  | [], l, h, z, hz => by rw [show l = [] from h] at hz; cases hz
  | x :: xs, l, h, z, hz => by
    obtain ⟨c, r, rfl, h1, h2⟩ := h
    rcases List.mem_append.1 hz with h | h
    · exact RdC.one h1 z h
    · exact RdL.one h2 z h
theorem srcOf_ok (hw : Sat B β F st w) {c : CV} {a : Sh} {l : List a.T} (h : srcOf st c = some ⟨a, l⟩) {u : Value} (hd : Dn β F w c u) : ∃ news, Rds w a.size u l.length news ∧ RdL w F a l news ∧ ∀ z ∈ news, z.oneCell' = true := by
  unfold srcOf at h
  split at h
  · rename_i b m
    cases h
    obtain ⟨ad, cap, e, h2, h3, h4, h5⟩ := hd
    cases e
    rcases Nat.eq_zero_or_pos l.length with h0 | h0
    · have : l = [] := List.eq_nil_of_length_eq_zero h0
      subst this
      refine ⟨[], ⟨by simp, ad, cap, rfl, h2, h3, fun e => ⟨rfl, h4 e⟩, fun h => by simp at h⟩, rfl, by simp⟩
    · obtain ⟨g, o, rfl, hg, hcell⟩ := h5 h0
      have : ∃ news, RdL w F a l news ∧ news.length = l.length * a.size ∧ ∀ j u, news[j]? = some u → w.cell? ⟨g, o + j, none⟩ = some u := by
        have key : ∀ (m : List a.T) (i : Nat), (∀ j y, m[j]? = some y → l[i + j]? = some y) → ∃ news, RdL w F a m news ∧ news.length = m.length * a.size ∧ ∀ j u, news[j]? = some u → w.cell? ⟨g, o + i * a.size + j, none⟩ = some u := by
          intro m
          induction m with
          | nil => intro i _; exact ⟨[], rfl, by simp, fun j u h => by simp at h⟩
          | cons y m ih =>
            intro i hi
            obtain ⟨n2, r1, r2, r3⟩ := ih (i + 1) (fun j z hz => by have := hi (j + 1) z (by simpa using hz); rwa [show i + (j + 1) = i + 1 + j by omega] at this)
            obtain ⟨cs, c1, c2⟩ := hcell i y (by have := hi 0 y rfl; simpa using this)
            have hl := RdC.len _ _ c1
            refine ⟨cs ++ n2, ⟨cs, n2, rfl, c1, r1⟩, by rw [List.length_append, hl, r2, List.length_cons, Nat.succ_mul]; omega, fun j u hu => ?_⟩
            rcases Nat.lt_or_ge j a.size with hj | hj
            · rw [List.getElem?_append_left (by omega)] at hu
              exact c2 j u hu
            · rw [List.getElem?_append_right (by omega), hl] at hu
              have := r3 _ _ hu
              rwa [show o + (i + 1) * a.size + (j - a.size) = o + i * a.size + j by rw [Nat.succ_mul]; omega] at this
        obtain ⟨news, r1, r2, r3⟩ := key l 0 (fun j y hy => by simpa using hy)
        exact ⟨news, r1, r2, fun j u hu => by simpa using r3 j u hu⟩
      obtain ⟨news, r1, r2, r3⟩ := this
      refine ⟨news, ⟨r2, _, cap, rfl, h2, h3, fun e => (by cases e), fun _ => ⟨g, o, rfl, ?_, r3⟩⟩, r1, RdL.one r1⟩
      exact hw.frz g hg
  · rename_i id
    split at h
    · rename_i ty b m hl
      cases h
      obtain ⟨v, vs, g1, g2, g3⟩ := hw.cks _ (look_mem hl)
      obtain ⟨b1, _⟩ := hd
      rw [g1] at b1
      cases b1
      exact ⟨vs, g2.rds, g3, RdL.one g3⟩
    · cases h
  · cases h
theorem run_append_none {t ty e : TypeId} (ht : P.underlying t = some (.slice e)) {n : Nat} (hn : (P.info? e).map (·.size) = some n) {a : Option Addr} {len cap : Nat} (hl : len ≤ cap) {b : Option Addr} {c : Nat} :
    (Builtin.append_ #[t, t] ty #[.slice a len cap, .slice b 0 c]).run P w = .ok (.slice a len cap) w := by
  cases hi : P.info? e with
  | none => simp [hi] at hn
  | some i => cases a <;> cases b <;> simp [Builtin.append_, run_underlying ht, sizeOf, typeInfo, hi, Builtin.lenOf, Builtin.firstCells, loadCells, loadCellsFrom, storeCells, hl]
/-- append, of nothing or of something. -/
theorem append_own {t ty e : TypeId} (ht : P.underlying t = some (.slice e)) {i : Ty} (hi : TyOk P e i) {sz : Nat} (hsz : i.n = sz) (hby : 1 ≤ i.by_) {v : Value} {n : Nat} {xs : List Value} (hown : Own w 0 e sz v n xs) {u : Value} {m : Nat} {news : List Value} (hr : Rds w sz u m news) (h1 : ∀ z ∈ news, z.oneCell' = true)
    (hb : (n + m) * i.by_ ≤ 140737488355328) : ∃ v' w', (Builtin.append_ #[t, t] ty #[v, u]).run P w = .ok v' w' ∧ Own w' 0 e sz v' (n + m) (xs ++ news) ∧ Only (fun k => v.ownBlock = some k) w w' ∧ ∀ k, v'.ownBlock = some k → v.ownBlock = some k ∨ w.heap.size ≤ k := by
  subst hsz
  obtain ⟨hl, a, cap, rfl, h2, h3, h4, h5⟩ := hr
  rcases Nat.eq_zero_or_pos m with h0 | h0
  · subst h0
    have hx : news = [] := List.eq_nil_of_length_eq_zero (by simpa using hl)
    subst hx
    obtain ⟨b, cap', rfl, hle, _⟩ := hown.any
    exact ⟨_, w, run_append_none ht hi.size hle, by simpa using hown, Only.refl _ w, fun k hk => .inl hk⟩
  · obtain ⟨g, o, rfl, hg, hc⟩ := h5 h0
    obtain ⟨z, vs, z1, z2, z3⟩ := hi.zero (fun _ => none) (fun _ => False) w
    cases hq : P.info? e with
    | none => simp [hq] at z1
    | some ti =>
      have hz : ti.zero = some z := by simpa [hq] using z1
      have hs : ti.size = i.n := by have := hi.size; simpa [hq] using this
      have hbb : ti.bytes = i.by_ := by have := hi.by_; simpa [hq] using this
      have hzs : z.cells.size = i.n := by
        rw [z2]
        have h6 := z3.len
        have := hi.zn
        simp only [List.size_toArray, h6, this]
      have hnews : ∀ j u, news[j]? = some u → w.cell? ((⟨g, o, none⟩ : Addr).add j) = some u := fun j u hu => by rw [Addr.add_mid]; exact hc j u hu
      have hlen : n + m ≤ maxLen := by
        have : n + m ≤ (n + m) * i.by_ := Nat.le_mul_of_pos_right _ hby
        unfold maxLen
        omega
      obtain ⟨g', o', cap', w', r1, r2, r3, r4, r5⟩ := run_append_Own (P := P) w 0 t ty e ti z i.n i.by_ ht hq hz hs hbb hzs v n xs hown ⟨g, o, none⟩ m cap news hl hnews h1 h0 hlen hb (Nat.zero_le _)
      refine ⟨_, w', r1, r2, r3, fun k hk => ?_⟩
      have : g' = k := by simpa [Value.ownBlock] using hk
      subst this
      rcases r4 with r4 | r4
      · exact .inl r4
      · exact .inr (by omega)
theorem del_sub {h : List (Nat × Ck)} {id : Nat} : ∀ p ∈ del h id, p ∈ h := fun _ hp => del_mem hp
theorem del_keep {α : Type} : ∀ {l : List (Nat × α)} {n : Nat} {a : α}, look l n = some a → ∀ {p : Nat × α}, p ∈ l → p = (n, a) ∨ p ∈ del l n
  | (k, b) :: r, n, a, h, p, hp => by
    simp only [look, del] at h ⊢
    split at h
    · rename_i e
      cases h
      rw [if_pos e]
      rcases List.mem_cons.1 hp with rfl | hp
      · left; rw [e]
      · exact .inr hp
    · rename_i e
      rw [if_neg e]
      rcases List.mem_cons.1 hp with rfl | hp
      · right; simp
      · rcases del_keep h hp with h | h
        · exact .inl h
        · exact .inr (by simp [h])
theorem castL_len {a b : Sh} (h : eqSh a b = true) (x : List a.T) : (castL h x).length = x.length := by have := eqSh_eq h; subst this; rfl
theorem castL_rdl {a b : Sh} (h : eqSh a b = true) {x : List a.T} {l : List Value} (hd : RdL w F a x l) : RdL w F b (castL h x) l := by have := eqSh_eq h; subst this; exact hd
theorem opAppend_ok (hT : ∀ t i, T t = some i → TyOk P t i) {t ty : TypeId} {x y : Option Rs} {K : Rs → St → Prop} (h : opAppend T t x y st K) (hw : Sat B β F st w) {u v : Value} (hx : ∀ r, x = some r → DnR β F w r u) (hy : ∀ r, y = some r → DnR β F w r v) :
    ∃ z w' r st' β', (Builtin.append_ #[t, t] ty #[u, v]).run P w = .ok z w' ∧ K r st' ∧ Ext β F w β' F w' ∧ Sat B β' F st' w' ∧ DnR β' F w' r z ∧ (∀ k, Gd st β F k → Gd st' β' F k ∧ w'.heap[k]? = w.heap[k]?) ∧ w.heap.size ≤ w'.heap.size := by
  unfold opAppend at h
  split at h
  · rename_i ti c d hti
    have hc := hx _ rfl
    have hd := hy _ rfl
    have hk := (hT t ti hti).kd
    split at h
    · rename_i e hkd
      rw [hkd] at hk
      split at h
      · rename_i ie b ys hie hsrc
        obtain ⟨news, s1, s2, s3⟩ := srcOf_ok hw hsrc hd
        have hte := hT e ie hie
        split at h
        · rename_i id hn hby
          have hn := Nat.eq_of_beq_eq_true hn
          have hby := Nat.le_of_ble_eq_true hby
          split at h
          · rename_i ty' a xs hl
            split at h
            · rename_i e1 heq
              have e1 := Nat.eq_of_beq_eq_true e1
              subst e1
              obtain ⟨hb, h⟩ := h
              obtain ⟨q, vs, g1, g2, g3⟩ := hw.cks _ (look_mem hl)
              obtain ⟨b1, _⟩ := hc
              rw [g1] at b1
              cases b1
              have hab := eqSh_eq heq
              have hsz : ie.n = a.size := by rw [hn, hab]
              obtain ⟨z, w', r1, r2, r3, r4⟩ := append_own (ty := ty) hk hte hsz hby g2 (by rw [← hab]; exact s1) s3 hb
              have hx' : ∀ k, F k → w'.heap[k]? = w.heap[k]? := fun k hk => r3.block k (hw.frz k hk) fun hs => (hw.own _ (look_mem hl) k (by rw [g1]; exact own_bk' hs)).2.1 hk
              obtain ⟨β', x1, x2, x3, x4⟩ := hw.swap (h0 := del st.h id) del_sub (del_pair hw.sep) r3 (fun k hk => by
                obtain ⟨o1, o2, _⟩ := hw.own _ (look_mem hl) k (by rw [g1]; exact own_bk' hk)
                refine ⟨⟨o1, o2⟩, fun p hp hpk => ?_⟩
                obtain ⟨_, hr⟩ := del_other (R := fun a b => ∀ k, bk (β a) = some k → bk (β b) ≠ some k) hw.sep hl hp
                have hkk : bk (β id) = some k := by rw [g1]; exact own_bk' hk
                rcases hr with hr | hr
                · exact hr k hkk hpk
                · exact hr k hpk hkk) (xs := xs ++ castL heq ys) (by rw [List.length_append, castL_len]; exact r2) ((g3.mono (fun _ h => h) hx').app ((castL_rdl heq s2).mono (fun _ h => h) hx')) r4
              have hform : ∃ a n c, z = .slice a n c := by obtain ⟨ad, c, e, _⟩ := r2.any; exact ⟨ad, _, c, e⟩
              exact ⟨z, w', _, _, β', r1, h, x1, x2, ⟨x3, hform⟩, fun k hk => x4 k (hk.imp_right fun ⟨p, hp, h1, h2⟩ => ⟨p, (del_keep hl hp).resolve_left (fun e => by rw [e] at h1; cases h1), h1, h2⟩), r3.size⟩
            · exact h.elim
          · exact h.elim
        · rename_i hn hby
          have hn := Nat.eq_of_beq_eq_true hn
          have hby := Nat.le_of_ble_eq_true hby
          obtain ⟨hb, h⟩ := h
          obtain ⟨rfl, _⟩ := hc
          obtain ⟨z, w', r1, r2, r3, r4⟩ := append_own (ty := ty) hk hte hn hby (Own.nil w 0 e b.size) s1 s3 (by simpa using hb)
          have hS : ∀ k, (fun k => (Value.slice none 0 0).ownBlock = some k) k → False := fun k hk => by simp [Value.ownBlock] at hk
          obtain ⟨β', x1, x2, x3, x4⟩ := hw.swap (h0 := st.h) (fun _ h => h) hw.sep r3 (fun k hk => (hS k hk).elim) (xs := ys) (by simpa using r2) (by simpa using s2.mono (fun _ h => h) (fun k hk => r3.block k (hw.frz k hk) (hS k))) r4
          have hform : ∃ a n c, z = .slice a n c := by obtain ⟨ad, c, e, _⟩ := r2.any; exact ⟨ad, _, c, e⟩
          exact ⟨z, w', _, _, β', r1, h, x1, x2, ⟨x3, hform⟩, x4, r3.size⟩
        · exact h.elim
      · exact h.elim
    · exact h.elim
  · exact h.elim
theorem app2_eq : ∀ (l m : List CV), repL.app2 l m = l ++ m
  | [], m => rfl
  | a :: l, m => by rw [repL.app2, app2_eq l m]; rfl
theorem repL_dn {l : List CV} {vs : List Value} (h : DnL β F w l vs) : ∀ n, DnL β F w (repL l n) (List.replicate n vs).flatten
  | 0 => rfl
  | n + 1 => by rw [repL, app2_eq, List.replicate_succ, List.flatten_cons]; exact h.app (repL_dn h n)
theorem init_cells (zs : List Value) (h : 0 < zs.length) : ∀ n, ((Array.range (n * zs.length)).map (zs.toArray[· % zs.toArray.size]!)).toList = (List.replicate n zs).flatten
  | 0 => by simp
  | n + 1 => by
    have ih := init_cells zs h n
    simp only [Array.toList_map, Array.toList_range, List.size_toArray] at ih ⊢
    rw [Nat.succ_mul, List.range_add, List.map_append, ih, List.replicate_succ', List.flatten_append, List.map_map]
    congr 1
    rw [show List.flatten [zs] = zs by simp]
    apply List.ext_getElem
    · simp
    · intro j h1 h2
      simp only [List.getElem_map, List.getElem_range, Function.comp]
      have : (n * zs.length + j) % zs.length = j := by
        rw [Nat.mul_comm, Nat.mul_add_mod]
        exact Nat.mod_eq_of_lt h2
      rw [this]
      simp [h2]
theorem unL_ok {a : Sh} : ∀ {n : Nat} {cs : List CV} {xs : List a.T} {l : List Value}, unL a n cs = some xs → DnL β F w cs l → RdL w F a xs l ∧ xs.length = n
  | 0, cs, xs, l, h, hd => by
    cases cs with
    | nil => simp only [unL] at h; cases h; exact ⟨hd, rfl⟩
    | cons => simp [unL] at h
  | n + 1, cs, xs, l, h, hd => by
    simp only [unL] at h
    split at h
    · rename_i x r h1
      split at h
      · rename_i ys h2
        cases h
        obtain ⟨l1, l2, rfl, p1, p2⟩ := unC_ok h1 hd
        obtain ⟨q1, q2⟩ := unL_ok h2 p2
        exact ⟨⟨l1, l2, rfl, p1, q1⟩, by simp [q2]⟩
      · cases h
    · cases h
theorem new_blk {b n c k : Nat} (h : (Value.slice (some ⟨b, 0, none⟩) n c).ownBlock = some k) : b ≤ k := by
  have : b = k := by simpa [Value.ownBlock] using h
  omega
/-- A new row that one owns. -/
theorem own_row (e : TypeId) {sz n : Nat} {ws : List Value} (hl : ws.length = n * sz) (hn : n ≤ maxLen) : Own (w.alloc (.cells ws.toArray e)) 0 e sz (.slice (some ⟨w.heap.size, 0, none⟩) n n) n ws :=
  ⟨hl, .inr ⟨w.heap.size, 0, n, ws.toArray, rfl, Nat.zero_le _, heap_alloc_new w _, Nat.le_refl _, hn, by simp [hl], by simp [← hl]⟩⟩
theorem opBuildSlice_ok (hT : ∀ t i, T t = some i → TyOk P t i) {t : TypeId} {n : Nat} {ps : Array (Nat × Operand)} {ts : Sl} {ch : List (Nat × Bool)} {a : Act} {K : Rs → St → Prop} (h : opBuildSlice T t n ps.toList ts ch st K) (hw : Sat B β F st w) (hg : gd ts ch = true) (hs : SlOk β F w ts a.tmps) :
    ∃ z w' r st' β', (Instr.buildSlice t n (ps.map fun p => (p.1, a.eval p.2))).run P w = .ok z w' ∧ K r st' ∧ Ext β F w β' F w' ∧ Sat B β' F st' w' ∧ DnR β' F w' r z ∧ (∀ k, Gd st β F k → Gd st' β' F k ∧ w'.heap[k]? = w.heap[k]?) ∧ w.heap.size ≤ w'.heap.size := by
  unfold opBuildSlice at h
  split at h
  · rename_i ti hti
    have hk := (hT t ti hti).kd
    split at h
    · rename_i e hkd
      rw [hkd] at hk
      split at h
      · rename_i ie hie
        have hte := hT e ie hie
        split at h
        · rename_i sh hsh
          split at h
          · rename_i l hn h0 hsm hf
            have hn := Nat.eq_of_beq_eq_true hn
            have h0 : 0 < ie.n := by simpa using h0
            have hsm := Nat.le_of_ble_eq_true hsm
            split at h
            · rename_i xs hxs
              obtain ⟨z, vs, z1, z2, z3⟩ := hte.zero β F w
              have hvl : vs.length = ie.n := by rw [z3.len, hte.zn]
              obtain ⟨ws, f1, f2⟩ := fillP_ok (place := fun i => some (i * ie.n, ie.n)) (fun i p hp => by rw [slots_get _ _ _ _ _ _ hp]; simp) hg hs ps.toList _ l _ hf (repL_dn z3 n)
              obtain ⟨u1, u2⟩ := unL_ok hxs f2
              have hwl : ws.length = n * sh.size := by rw [u1.len, u2]
              cases hq : P.info? e with
              | none => simp [hq] at z1
              | some it =>
                have hz : it.zero = some z := by simpa [hq] using z1
                have hs1 : it.size = ie.n := by have := hte.size; simpa [hq] using this
                by_cases hn0 : n = 0
                · subst hn0
                  have hws : ws = [] := List.eq_nil_of_length_eq_zero (by simpa using hwl)
                  have hxs0 : xs = [] := List.eq_nil_of_length_eq_zero u2
                  subst hws; subst hxs0
                  have hrun : (Instr.buildSlice t 0 (ps.map fun p => (p.1, a.eval p.2))).run P w = .ok (.slice (some ⟨w.heap.size, 0, none⟩) 0 0) (w.alloc (.cells #[] e)) := by
                    have f1' : Instr.fill (fun i => some (i * it.size, it.size)) #[] (ps.toList.map fun p => (p.1, a.eval p.2)) = some #[] := by
                      rw [hs1]
                      simpa using f1
                    have e0 : (Array.range 0 : Array Nat) = #[] := rfl
                    simp only [Instr.buildSlice, Sem.run_bind, run_underlying hk, Result.andThen_ok, sizeOf, typeInfo, run_program, hq, Sem.run_pure]
                    simp [e0, f1', newRow]
                  obtain ⟨β', x1, x2, x3, x4⟩ := hw.swap (h0 := st.h) (fun _ h => h) hw.sep (S := fun _ => False) ((Only.refl _ w).al (.cells (#[] : Array Value) e)) (fun k hk => hk.elim) (ty := e) (a := sh) (xs := []) (v := .slice (some ⟨w.heap.size, 0, none⟩) 0 0) (vs := []) (own_row e (by simp) (by unfold maxLen; omega)) rfl (fun k hk => .inr (new_blk hk))
                  exact ⟨_, _, _, _, β', hrun, h, x1, x2, ⟨x3, _, _, _, rfl⟩, x4, by simp⟩
                · have hpos : ¬ n * it.size = 0 := by rw [hs1]; exact Nat.ne_of_gt (Nat.mul_pos (by omega) h0)
                  have hinit : ((Array.range (n * it.size)).map (z.cells[· % z.cells.size]!)) = ((List.replicate n vs).flatten).toArray := by
                    have := init_cells vs (by omega) n
                    rw [z2, hs1, ← hvl]
                    rw [← this]
                  have hrun := run_buildSlice (P := P) w t e n (ps.map fun p => (p.1, a.eval p.2)) ws.toArray it z hk hq hz (by rw [hs1]; omega) hpos (by rw [hinit, hs1, Array.toList_map]; exact f1)
                  have hx' : ∀ k, F k → (w.alloc (.cells ws.toArray e)).heap[k]? = w.heap[k]? := fun k hk => Below.heap_alloc _ _ _ (hw.frz k hk)
                  have hnm : n ≤ maxLen := by
                    have : n ≤ n * ie.n := Nat.le_mul_of_pos_right _ h0
                    unfold maxLen
                    omega
                  obtain ⟨β', x1, x2, x3, x4⟩ := hw.swap (h0 := st.h) (fun _ h => h) hw.sep (S := fun _ => False) ((Only.refl _ w).al (.cells ws.toArray e)) (fun k hk => hk.elim) (ty := e) (a := sh) (xs := xs) (v := .slice (some ⟨w.heap.size, 0, none⟩) n n) (vs := ws) (by rw [u2]; exact own_row e hwl hnm) (u1.mono (fun _ h => h) hx') (fun k hk => .inr (new_blk hk))
                  exact ⟨_, _, _, _, β', hrun, h, x1, x2, ⟨x3, _, _, _, rfl⟩, x4, by simp⟩
            · exact h.elim
          · exact h.elim
        · exact h.elim
      · exact h.elim
    · exact h.elim
  · exact h.elim
end
end Go.Proofs.YtnbbooilapelmaaGreatDoor.V
