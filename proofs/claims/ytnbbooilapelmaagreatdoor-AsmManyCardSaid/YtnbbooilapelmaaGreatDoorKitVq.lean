/-
  A symbolic run of a function's text: contracts of functions that write, by patterns of what is handed in and of what is left.
-/
import Derived.Test.YtnbbooilapelmaaGreatDoorKitVp
set_option linter.unusedVariables false
set_option linter.unusedSimpArgs false
namespace Go.Proofs.YtnbbooilapelmaaGreatDoor.V
open Go.RowKit Go.Proofs.YtnbbooilapelmaaGreatDoor
/-- Cells of a pattern: data, a pointer to a region, a region's slice, some number, anything, no pointer. -/
inductive PC where
  | d (a : Sh) | p (i off : Nat) | s (i : Nat) | nm (k : IntKind) | any | nil | fn (f : Nat) (c : List (Nat × Nat)) | m (i : Nat)
inductive PV where
  | one (c : PC) | agg (l : List PC)
inductive PR where
  | blk (l : List PC) (ty : TypeId) | own (ty : TypeId) (a : Sh) | mp (a b : Sh)
@[reducible] def XL : List PC → Type → Type
  | [], R => R
  | .d a :: r, R => a.T × XL r R
  | .p _ _ :: r, R => XL r R
  | .s _ :: r, R => XL r R
  | .m _ :: r, R => XL r R
  | .nm _ :: r, R => XL r R
  | .any :: r, R => XL r R
  | .nil :: r, R => XL r R
  | .fn _ _ :: r, R => XL r R
@[reducible] def PV.l : PV → List PC | .one c => [c] | .agg l => l
@[reducible] def XVs : List PV → Type → Type
  | [], R => R
  | v :: r, R => XL v.l (XVs r R)
@[reducible] def XRs : List (Nat × PR) → Type → Type
  | [], R => R
  | (_, .blk l _) :: r, R => XL l (XRs r R)
  | (_, .own _ a) :: r, R => List a.T × XRs r R
  | (_, .mp a b) :: r, R => List (a.T × b.T) × XRs r R
def peL {R : Type} : (l : List PC) → XL l R → List CV × R
  | [], x => ([], x)
  | .d a :: r, x => (mkC a x.1 ++ (peL r x.2).1, (peL r x.2).2)
  | .p i o :: r, x => (.ptr i o :: (peL r x).1, (peL r x).2)
  | .s i :: r, x => (.sl i :: (peL r x).1, (peL r x).2)
  | .m i :: r, x => (.mv i :: (peL r x).1, (peL r x).2)
  | .nm k :: r, x => (.nm k :: (peL r x).1, (peL r x).2)
  | .any :: r, x => (.any :: (peL r x).1, (peL r x).2)
  | .nil :: r, x => (.val (.pointer none) :: (peL r x).1, (peL r x).2)
  | .fn f c :: r, x => (.fn f c :: (peL r x).1, (peL r x).2)
def peV (v : PV) (l : List CV) : Vl := match v with | .one _ => .one (hdC l) | .agg _ => .agg l
def peVs {R : Type} : (l : List PV) → XVs l R → List Vl × R
  | [], x => ([], x)
  | v :: r, x => (peV v (peL v.l x).1 :: (peVs r (peL v.l x).2).1, (peVs r (peL v.l x).2).2)
def peRs {R : Type} : (l : List (Nat × PR)) → XRs l R → List (Nat × Ck) × R
  | [], x => ([], x)
  | (i, .blk l ty) :: r, x => ((i, .blk (peL l x).1 ty) :: (peRs r (peL l x).2).1, (peRs r (peL l x).2).2)
  | (i, .own ty a) :: r, x => ((i, .own ty a x.1) :: (peRs r x.2).1, (peRs r x.2).2)
  | (i, .mp a b) :: r, x => ((i, .xk (.mp a b x.1)) :: (peRs r x.2).1, (peRs r x.2).2)
/-- For all that a pattern stands for. -/
def alL {R : Type} : (l : List PC) → ((R → Prop) → Prop) → (XL l R → Prop) → Prop
  | [], q, K => q K
  | .d a :: r, q, K => ∀ x : a.T, alL r q fun y => K (x, y)
  | .p _ _ :: r, q, K => alL r q K
  | .s _ :: r, q, K => alL r q K
  | .m _ :: r, q, K => alL r q K
  | .nm _ :: r, q, K => alL r q K
  | .any :: r, q, K => alL r q K
  | .nil :: r, q, K => alL r q K
  | .fn _ _ :: r, q, K => alL r q K
def alVs {R : Type} : (l : List PV) → ((R → Prop) → Prop) → (XVs l R → Prop) → Prop
  | [], q, K => q K
  | v :: r, q, K => alL v.l (fun K => alVs r q K) K
def alRs {R : Type} : (l : List (Nat × PR)) → ((R → Prop) → Prop) → (XRs l R → Prop) → Prop
  | [], q, K => q K
  | (_, .blk l _) :: r, q, K => alL l (fun K => alRs r q K) K
  | (_, .own _ a) :: r, q, K => ∀ x : List a.T, alRs r q fun y => K (x, y)
  | (_, .mp a b) :: r, q, K => ∀ x : List (a.T × b.T), alRs r q fun y => K (x, y)
theorem alL_ok {R : Type} {q : (R → Prop) → Prop} (hq : ∀ K, q K → ∀ r, K r) : ∀ {l : List PC} {K : XL l R → Prop}, alL l q K → ∀ x, K x
  | [], K, h, x => hq K h x
  | .d a :: r, K, h, x => alL_ok hq (l := r) (h x.1) x.2
  | .p _ _ :: r, K, h, x => alL_ok hq (l := r) h x
  | .s _ :: r, K, h, x => alL_ok hq (l := r) h x
  | .m _ :: r, K, h, x => alL_ok hq (l := r) h x
  | .nm _ :: r, K, h, x => alL_ok hq (l := r) h x
  | .any :: r, K, h, x => alL_ok hq (l := r) h x
  | .nil :: r, K, h, x => alL_ok hq (l := r) h x
  | .fn _ _ :: r, K, h, x => alL_ok hq (l := r) h x
theorem alVs_ok {R : Type} {q : (R → Prop) → Prop} (hq : ∀ K, q K → ∀ r, K r) : ∀ {l : List PV} {K : XVs l R → Prop}, alVs l q K → ∀ x, K x
  | [], K, h, x => hq K h x
  | v :: r, K, h, x => alL_ok (fun K h x => alVs_ok hq (l := r) h x) (l := v.l) h x
theorem alRs_ok {R : Type} {q : (R → Prop) → Prop} (hq : ∀ K, q K → ∀ r, K r) : ∀ {l : List (Nat × PR)} {K : XRs l R → Prop}, alRs l q K → ∀ x, K x
  | [], K, h, x => hq K h x
  | (_, .blk l _) :: r, K, h, x => alL_ok (fun K h x => alRs_ok hq (l := r) h x) (l := l) h x
  | (_, .own _ a) :: r, K, h, x => alRs_ok hq (l := r) (h x.1) x.2
  | (_, .mp a b) :: r, K, h, x => alRs_ok hq (l := r) (h x.1) x.2
/-! ### What a state gives -/
def bindO {α : Type} (ρ : Rn) (i : Nat) (j : Option Nat) (k : Rn → Option α) : Option α :=
  match look ρ i with
  | some j' => (match j, j' with | some a, some b => (match Nat.beq a b with | true => k ρ | false => none) | none, none => k ρ | _, _ => none)
  | none => k ((i, j) :: ρ)
def bindPs {α : Type} (ρ : Rn) : List (Nat × Nat) → List (Nat × Nat) → (Rn → Option α) → Option α
  | [], [], k => k ρ
  | (i, o) :: r, (j, o') :: s, k => (match Nat.beq o o' with | true => bindPs ρ r s fun ρ => bindO ρ i (some j) k | false => none)
  | _, _, _ => none
def fnOf : CV → Option (Nat × List (Nat × Nat)) | .fn f c => some (f, c) | _ => none
def nmOk (k : IntKind) : CV → Bool
  | .nm k' => eqK k k'
  | .il k' _ => eqK k k'
  | .val (.int k' _) => eqK k k'
  | _ => false
def notRun : CV → Bool | .run .. => false | _ => true
def isNilP : CV → Bool | .val (.pointer none) => true | _ => false
def ptrOf : CV → Option (Nat × Nat) | .ptr j o => some (j, o) | _ => none
def mvOf : CV → Option Nat | .mv j => some j | _ => none
def slOf : CV → Option (Option Nat) | .sl j => some (some j) | .val (.slice none 0 0) => some none | _ => none
def deL {R : Type} : (l : List PC) → Rn → List CV → (Rn → List CV → Option R) → Option (XL l R)
  | [], ρ, cs, k => k ρ cs
  | .d a :: r, ρ, cs, k => (match unC a cs with
    | some (x, cs') => (match deL r ρ cs' k with | some y => some (x, y) | none => none)
    | none => none)
  | .p i o :: r, ρ, c :: cs, k => (match ptrOf c with
    | some (j, o') => (match Nat.beq o o' with | true => bindO ρ i (some j) fun ρ => deL r ρ cs k | false => none)
    | none => none)
  | .s i :: r, ρ, c :: cs, k => (match slOf c with
    | some j => bindO ρ i j fun ρ => deL r ρ cs k
    | none => none)
  | .m i :: r, ρ, c :: cs, k => (match mvOf c with
    | some j => bindO ρ i (some j) fun ρ => deL r ρ cs k
    | none => none)
  | .nm t :: r, ρ, c :: cs, k => (match nmOk t c with | true => deL r ρ cs k | false => none)
  | .any :: r, ρ, c :: cs, k => (match notRun c with | true => deL r ρ cs k | false => none)
  | .nil :: r, ρ, c :: cs, k => (match isNilP c with | true => deL r ρ cs k | false => none)
  | .fn f c :: r, ρ, d :: cs, k => (match fnOf d with
    | some (f', c') => (match Nat.beq f f' with | true => bindPs ρ c c' fun ρ => deL r ρ cs k | false => none)
    | none => none)
  | .fn _ _ :: _, _, [], _ => none
  | .p _ _ :: _, _, [], _ => none
  | .s _ :: _, _, [], _ => none
  | .m _ :: _, _, [], _ => none
  | .nm _ :: _, _, [], _ => none
  | .any :: _, _, [], _ => none
  | .nil :: _, _, [], _ => none
def oneC : PC → Bool | .d a => scal a | _ => true
def atEnd {R : Type} (k : Rn → Option R) (ρ : Rn) (cs : List CV) : Option R := match cs with | [] => k ρ | _ => none
def pdVs {R : Type} : (l : List PV) → Rn → List Vl → (Rn → Option R) → Option (XVs l R)
  | [], ρ, [], k => k ρ
  | .one c :: r, ρ, .one v :: s, k => (match oneC c with | true => deL [c] ρ [v] (atEnd fun ρ => pdVs r ρ s k) | false => none)
  | .agg l :: r, ρ, .agg v :: s, k => deL l ρ v (atEnd fun ρ => pdVs r ρ s k)
  | _, _, _, _ => none
def pdRs {R : Type} (st : St) : (l : List (Nat × PR)) → Rn → (Rn → Option R) → Option (XRs l R)
  | [], ρ, k => k ρ
  | (i, .blk l ty) :: r, ρ, k => (match look ρ i with
    | some (some j) => (match look st.h j with
      | some (.blk cs ty') => (match Nat.beq ty ty' with | true => deL l ρ cs (atEnd fun ρ => pdRs st r ρ k) | false => none)
      | _ => none)
    | _ => none)
  | (i, .own ty a) :: r, ρ, k => (match look ρ i with
    | some (some j) => (match look st.h j with
      | some (.own ty' b xs) => (match Nat.beq ty ty', h : eqSh b a with
        | true, true => (match pdRs st r ρ k with | some y => some (castL h xs, y) | none => none)
        | _, _ => none)
      | _ => none)
    | some none => (match pdRs st r ρ k with | some y => some ([], y) | none => none)
    | none => none)
  | (i, .mp a b) :: r, ρ, k => (match look ρ i with
    | some (some j) => (match look st.h j with
      | some (.xk (.mp a' b' xs)) => (match h : eqSh (.pair a' b') (.pair a b) with
        | true => (match pdRs st r ρ k with | some y => some (castL (a := .pair a' b') (b := .pair a b) h xs, y) | none => none)
        | _ => none)
      | _ => none)
    | _ => none)
theorem eqK_self (k : IntKind) : eqK k k = true := by cases k <;> rfl
theorem eqSh_self : ∀ (a : Sh), eqSh a a = true
  | .int k => eqK_self k
  | .bool => rfl
  | .str => rfl
  | .unit => rfl
  | .pair a b => by simp [eqSh, eqSh_self a, eqSh_self b]
  | .arr n k => by simp [eqSh, eqK_self]
  | .sl a => by simp only [eqSh, eqSh_self a]
theorem castL_heq {a b : Sh} (h : eqSh a b = true) (x : List a.T) : HEq x (castL h x) := by
  have := eqSh_eq h
  subst this
  rfl
theorem unC_mt : ∀ {a : Sh} {cs cs' : List CV} {x : a.T}, unC a cs = some (x, cs') → ∀ (ρ : Rn) (t : List CV) (K : Rn → Prop), mtCs ρ t cs' K → mtCs ρ (mkC a x ++ t) cs K := by
  intro a
  induction a with
  | int k =>
    intro cs cs' x h ρ t K hk
    simp only [unC] at h
    unfold unI at h
    split at h
    · split at h
      · rename_i e; cases h; have := eqK_eq e; subst this; simpa [mkC, mtCs, mtC, mtV, eqK_self] using hk
      · cases h
    · split at h
      · rename_i e; cases h; have := eqK_eq e; subst this; simpa [mkC, mtCs, mtC, mtV, eqK_self] using hk
      · cases h
    · cases h
  | bool =>
    intro cs cs' x h ρ t K hk
    simp only [unC] at h
    unfold unB at h
    split at h
    · cases h; simpa [mkC, mtCs, mtC, mtV] using hk
    · cases h; simpa [mkC, mtCs, mtC, mtV] using hk
    · cases h
  | str =>
    intro cs cs' x h ρ t K hk
    simp only [unC] at h
    unfold unS at h
    split at h
    · cases h; simpa [mkC, mtCs, mtC, mtV] using hk
    · cases h
  | unit =>
    intro cs cs' x h ρ t K hk
    simp only [unC] at h
    cases h
    exact hk
  | pair a b iha ihb =>
    intro cs cs' x h ρ t K hk
    simp only [unC] at h
    split at h
    · rename_i y r1 h1
      split at h
      · rename_i z r2 h2
        cases h
        simp only [mkC, List.append_assoc]
        exact iha h1 ρ _ K (ihb h2 ρ t K hk)
      · cases h
    · cases h
  | arr n k =>
    intro cs cs' x h ρ t K hk
    simp only [unC] at h
    unfold unA at h
    split at h
    · split at h
      · rename_i e1 e2
        cases h
        have := eqK_eq e1
        have e2 := Nat.eq_of_beq_eq_true e2
        subst this; subst e2
        simpa [mkC, mtCs, mtC, eqK_self] using hk
      · cases h
    · cases h
  | sl a _ =>
    intro cs cs' x h ρ t K hk
    simp only [unC] at h
    unfold unR at h
    split at h
    · split at h
      · rename_i e
        cases h
        have := eqSh_eq e
        subst this
        simpa [mkC, mtCs, mtC, eqSh_self, castL] using hk
      · cases h
    · cases h
      simpa [mkC, mtCs, mtC] using hk
    · cases h
theorem bindO_mt {α : Type} {ρ : Rn} {i : Nat} {j : Option Nat} {k : Rn → Option α} {x : α} (h : bindO ρ i j k = some x) : ∃ ρ', k ρ' = some x ∧ ∀ K : Rn → Prop, K ρ' → bind ρ i j K := by
  unfold bindO at h
  unfold bind
  split at h
  · rename_i j' hl
    split at h
    · split at h
      · rename_i e; exact ⟨ρ, h, fun K hK => by simp [hl, e, hK]⟩
      · cases h
    · exact ⟨ρ, h, fun K hK => by simp [hl, hK]⟩
    · cases h
  · rename_i hl
    exact ⟨_, h, fun K hK => by simp [hl, hK]⟩
theorem bindPs_mt {α : Type} : ∀ {c c' : List (Nat × Nat)} {ρ : Rn} {k : Rn → Option α} {x : α}, bindPs ρ c c' k = some x → ∃ ρ', k ρ' = some x ∧ ∀ K : Rn → Prop, K ρ' → mtP ρ c c' K
  | [], [], ρ, k, x, h => ⟨ρ, h, fun K hK => hK⟩
  | (i, o) :: r, (j, o') :: s, ρ, k, x, h => by
    simp only [bindPs] at h
    split at h
    · rename_i e
      obtain ⟨ρ1, g1, g2⟩ := bindPs_mt h
      obtain ⟨ρ2, q1, q2⟩ := bindO_mt g1
      exact ⟨ρ2, q1, fun K hK => by simp only [mtP, e]; exact g2 _ (q2 K hK)⟩
    · cases h
  | [], _ :: _, _, _, _, h => by simp [bindPs] at h
  | _ :: _, [], _, _, _, h => by simp [bindPs] at h
theorem deL_mt {R : Type} : ∀ {l : List PC} {ρ : Rn} {cs : List CV} {k : Rn → List CV → Option R} {x : XL l R}, deL l ρ cs k = some x →
    ∃ ρ' cs', k ρ' cs' = some (peL l x).2 ∧ ∀ (t : List CV) (K : Rn → Prop), mtCs ρ' t cs' K → mtCs ρ ((peL l x).1 ++ t) cs K
  | [], ρ, cs, k, x, h => ⟨ρ, cs, h, fun t K hK => hK⟩
  | .d a :: r, ρ, cs, k, x, h => by
    simp only [deL] at h
    split at h
    · rename_i y cs1 h1
      split at h
      · rename_i z h2
        cases h
        obtain ⟨ρ', cs', g1, g2⟩ := deL_mt h2
        exact ⟨ρ', cs', g1, fun t K hK => by simp only [peL, List.append_assoc]; exact unC_mt h1 ρ _ K (g2 t K hK)⟩
      · cases h
    · cases h
  | .p i o :: r, ρ, c :: cs, k, x, h => by
    simp only [deL] at h
    split at h
    · rename_i j o' hp
      split at h
      · rename_i e
        obtain ⟨ρ1, b1, b2⟩ := bindO_mt h
        obtain ⟨ρ', cs', g1, g2⟩ := deL_mt b1
        have hc : c = .ptr j o' := by cases c <;> simp [ptrOf] at hp; obtain ⟨rfl, rfl⟩ := hp; rfl
        subst hc
        exact ⟨ρ', cs', g1, fun t K hK => by simp only [peL, List.cons_append, mtCs, mtC, e]; exact b2 _ (g2 t K hK)⟩
      · cases h
    · cases h
  | .s i :: r, ρ, c :: cs, k, x, h => by
    simp only [deL] at h
    split at h
    · rename_i j hp
      obtain ⟨ρ1, b1, b2⟩ := bindO_mt h
      obtain ⟨ρ', cs', g1, g2⟩ := deL_mt b1
      unfold slOf at hp
      split at hp <;> cases hp
      · exact ⟨ρ', cs', g1, fun t K hK => by simp only [peL, List.cons_append, mtCs, mtC]; exact b2 _ (g2 t K hK)⟩
      · exact ⟨ρ', cs', g1, fun t K hK => by simp only [peL, List.cons_append, mtCs, mtC]; exact b2 _ (g2 t K hK)⟩
    · cases h
  | .m i :: r, ρ, c :: cs, k, x, h => by
    simp only [deL] at h
    split at h
    · rename_i j hp
      obtain ⟨ρ1, b1, b2⟩ := bindO_mt h
      obtain ⟨ρ', cs', g1, g2⟩ := deL_mt b1
      have hc : c = .mv j := by cases c <;> simp [mvOf] at hp; rw [hp]
      subst hc
      exact ⟨ρ', cs', g1, fun t K hK => by simp only [peL, List.cons_append, mtCs, mtC]; exact b2 _ (g2 t K hK)⟩
    · cases h
  | .nm t :: r, ρ, c :: cs, k, x, h => by
    simp only [deL] at h
    split at h
    · rename_i hp
      obtain ⟨ρ', cs', g1, g2⟩ := deL_mt h
      refine ⟨ρ', cs', g1, fun t' K hK => ?_⟩
      unfold nmOk at hp
      split at hp <;> first | cases hp; done | (simp only [peL, List.cons_append, mtCs, mtC, hp]; exact g2 t' K hK)
    · cases h
  | .any :: r, ρ, c :: cs, k, x, h => by
    simp only [deL] at h
    split at h
    · rename_i hp
      obtain ⟨ρ', cs', g1, g2⟩ := deL_mt h
      refine ⟨ρ', cs', g1, fun t' K hK => ?_⟩
      have : ∀ K : Rn → Prop, K ρ → mtC ρ .any c K := fun K hK => by cases c <;> first | exact hK | cases hp
      simp only [peL, List.cons_append, mtCs]
      exact this _ (g2 t' K hK)
    · cases h
  | .nil :: r, ρ, c :: cs, k, x, h => by
    simp only [deL] at h
    split at h
    · rename_i hp
      obtain ⟨ρ', cs', g1, g2⟩ := deL_mt h
      refine ⟨ρ', cs', g1, fun t' K hK => ?_⟩
      unfold isNilP at hp
      split at hp <;> cases hp
      simp only [peL, List.cons_append, mtCs, mtC, mtV]
      exact ⟨trivial, g2 t' K hK⟩
    · cases h
  | .fn f c :: r, ρ, d :: cs, k, x, h => by
    simp only [deL] at h
    split at h
    · rename_i f' c' hp
      split at h
      · rename_i e
        obtain ⟨ρ1, b1, b2⟩ := bindPs_mt h
        obtain ⟨ρ', cs', g1, g2⟩ := deL_mt b1
        have hd : d = .fn f' c' := by cases d <;> simp [fnOf] at hp; obtain ⟨rfl, rfl⟩ := hp; rfl
        subst hd
        exact ⟨ρ', cs', g1, fun t K hK => by simp only [peL, List.cons_append, mtCs, mtC, e]; exact b2 _ (g2 t K hK)⟩
      · cases h
    · cases h
  | .fn _ _ :: _, _, [], _, _, h => by simp [deL] at h
  | .p _ _ :: _, _, [], _, _, h => by simp [deL] at h
  | .s _ :: _, _, [], _, _, h => by simp [deL] at h
  | .m _ :: _, _, [], _, _, h => by simp [deL] at h
  | .nm _ :: _, _, [], _, _, h => by simp [deL] at h
  | .any :: _, _, [], _, _, h => by simp [deL] at h
  | .nil :: _, _, [], _, _, h => by simp [deL] at h
theorem atEnd_mt {R : Type} {l : List PC} {ρ : Rn} {cs : List CV} {k : Rn → Option R} {x : XL l R} (h : deL l ρ cs (atEnd k) = some x) :
    ∃ ρ', k ρ' = some (peL l x).2 ∧ ∀ K : Rn → Prop, K ρ' → mtCs ρ (peL l x).1 cs K := by
  obtain ⟨ρ', cs', g1, g2⟩ := deL_mt h
  unfold atEnd at g1
  split at g1
  · exact ⟨ρ', g1, fun K hK => by have := g2 [] K hK; rwa [List.append_nil] at this⟩
  · cases g1
theorem peL_one {R : Type} {c : PC} (h : oneC c = true) (x : XL [c] R) : (peL [c] x).1 = [hdC (peL [c] x).1] := by
  cases c with
  | d a => cases a <;> simp [oneC, scal] at h <;> rfl
  | _ => rfl
theorem pdVs_mt {R : Type} : ∀ {l : List PV} {ρ : Rn} {vs : List Vl} {k : Rn → Option R} {x : XVs l R}, pdVs l ρ vs k = some x →
    ∃ ρ', k ρ' = some (peVs l x).2 ∧ ∀ K : Rn → Prop, K ρ' → mtVls ρ (peVs l x).1 vs K
  | [], ρ, [], k, x, h => ⟨ρ, h, fun K hK => hK⟩
  | .one c :: r, ρ, .one v :: s, k, x, h => by
    simp only [pdVs] at h
    split at h
    · rename_i hc
      obtain ⟨ρ1, g1, g2⟩ := atEnd_mt (l := [c]) h
      obtain ⟨ρ', q1, q2⟩ := pdVs_mt g1
      refine ⟨ρ', q1, fun K hK => ?_⟩
      have := g2 (fun ρ => mtVls ρ (peVs r (peL [c] x).2).1 s K) (q2 K hK)
      rw [peL_one hc] at this
      exact this
    · cases h
  | .agg l :: r, ρ, .agg v :: s, k, x, h => by
    simp only [pdVs] at h
    obtain ⟨ρ1, g1, g2⟩ := atEnd_mt h
    obtain ⟨ρ', q1, q2⟩ := pdVs_mt g1
    exact ⟨ρ', q1, fun K hK => g2 _ (q2 K hK)⟩
  | [], _, _ :: _, _, _, h => by simp [pdVs] at h
  | .one _ :: _, _, [], _, _, h => by simp [pdVs] at h
  | .agg _ :: _, _, [], _, _, h => by simp [pdVs] at h
  | .one _ :: _, _, .agg _ :: _, _, _, h => by simp [pdVs] at h
  | .agg _ :: _, _, .one _ :: _, _, _, h => by simp [pdVs] at h
theorem pdRs_mt {R : Type} {st : St} : ∀ {l : List (Nat × PR)} {ρ : Rn} {k : Rn → Option R} {x : XRs l R}, pdRs st l ρ k = some x →
    ∃ ρ', k ρ' = some (peRs l x).2 ∧ ∀ K : Rn → Prop, K ρ' → mtH st ρ (peRs l x).1 K
  | [], ρ, k, x, h => ⟨ρ, h, fun K hK => hK⟩
  | (i, .blk l ty) :: r, ρ, k, x, h => by
    simp only [pdRs] at h
    split at h
    · rename_i j hl
      split at h
      · rename_i cs ty' hj
        split at h
        · rename_i e
          obtain ⟨ρ1, g1, g2⟩ := atEnd_mt h
          obtain ⟨ρ', q1, q2⟩ := pdRs_mt g1
          exact ⟨ρ', q1, fun K hK => by simp only [peRs, mtH, hl, hj, mtCk, e]; exact g2 _ (q2 K hK)⟩
        · cases h
      · cases h
    · cases h
  | (i, .own ty a) :: r, ρ, k, x, h => by
    simp only [pdRs] at h
    split at h
    · rename_i j hl
      split at h
      · rename_i ty' b xs hj
        split at h
        · rename_i e1 e2
          split at h
          · rename_i y hy
            cases h
            obtain ⟨ρ', q1, q2⟩ := pdRs_mt hy
            exact ⟨ρ', q1, fun K hK => by simp only [peRs, mtH, hl, hj, mtCk, e1, e2]; exact ⟨castL_heq e2 xs, q2 K hK⟩⟩
          · cases h
        · cases h
      · cases h
    · rename_i hl
      split at h
      · rename_i y hy
        cases h
        obtain ⟨ρ', q1, q2⟩ := pdRs_mt hy
        exact ⟨ρ', q1, fun K hK => by simp only [peRs, mtH, hl]; exact ⟨trivial, q2 K hK⟩⟩
      · cases h
    · cases h
  | (i, .mp a b) :: r, ρ, k, x, h => by
    simp only [pdRs] at h
    split at h
    · rename_i j hl
      split at h
      · rename_i a' b' xs hj
        split at h
        · rename_i e
          split at h
          · rename_i y hy
            cases h
            obtain ⟨ρ', q1, q2⟩ := pdRs_mt hy
            have e2 : eqSh a' a = true ∧ eqSh b' b = true := by simpa only [eqSh, Bool.and_eq_true] using e
            exact ⟨ρ', q1, fun K hK => by simp only [peRs, mtH, hl, hj, mtCk, mtXk, e2.1, e2.2]; exact ⟨castL_heq (a := .pair a' b') (b := .pair a b) e xs, q2 K hK⟩⟩
          · cases h
        · cases h
      · cases h
    · cases h
def eqON : Option Nat → Option Nat → Bool
  | none, none => true
  | some a, some b => Nat.beq a b
  | _, _ => false
def eqRn : Rn → Rn → Bool
  | [], [] => true
  | (i, a) :: r, (j, b) :: s => Nat.beq i j && (eqON a b && eqRn r s)
  | _, _ => false
theorem eqRn_eq : ∀ {a b : Rn}, eqRn a b = true → a = b
  | [], [], _ => rfl
  | (i, a) :: r, (j, b) :: s, h => by
    simp only [eqRn, Bool.and_eq_true] at h
    obtain ⟨h1, h2, h3⟩ := h
    rw [eqRn_eq h3, Nat.eq_of_beq_eq_true h1]
    cases a <;> cases b <;> simp [eqON] at h2
    · rfl
    · rw [h2]
/-- The numbers, reckoned once. -/
def forceR : Rn → (Rn → Prop) → Prop
  | [], K => K []
  | (i, none) :: r, K => forceN i fun i => forceR r fun r => K ((i, none) :: r)
  | (i, some j) :: r, K => forceN i fun i => forceN j fun j => forceR r fun r => K ((i, some j) :: r)
theorem forceR_eq : ∀ (r : Rn) (K : Rn → Prop), forceR r K = K r
  | [], K => rfl
  | (i, none) :: r, K => by rw [forceR, forceN_eq, forceR_eq r]
  | (i, some j) :: r, K => by rw [forceR, forceN_eq, forceN_eq, forceR_eq r]
/-- What a function that writes asks and leaves, by patterns: its parameters, the regions handed in (their numbers are below na), the results, the regions behind it. -/
structure PT where
  ps : List PV
  rg : List (Nat × PR)
  na : Nat
  rs : List PV
  out : List (Nat × PR)
  nx : Nat
  pre : XVs ps (XRs rg Unit) → Prop
  post : XVs ps (XRs rg Unit) → XVs rs (XRs out Unit) → Prop
def PT.args (t : PT) (x : XVs t.ps (XRs t.rg Unit)) : List Vl := (peVs t.ps x).1
def PT.h (t : PT) (x : XVs t.ps (XRs t.rg Unit)) : List (Nat × Ck) := (peRs t.rg (peVs t.ps x).2).1
def PT.res (t : PT) (y : XVs t.rs (XRs t.out Unit)) : Rs := mkRs (peVs t.rs y).1
def PT.left (t : PT) (y : XVs t.rs (XRs t.out Unit)) : List (Nat × Ck) := (peRs t.out (peVs t.rs y).2).1
def idsOf : List (Nat × PR) → List (Nat × Ck)
  | [] => []
  | (i, _) :: r => (i, .blk [] 0) :: idsOf r
theorem idsOf_ok {R : Type} : ∀ {l : List (Nat × PR)} {x : XRs l R}, idsOk (idsOf l) = idsOk (peRs l x).1 := by
  have all : ∀ {l : List (Nat × PR)} {x : XRs l R} {i : Nat}, ((idsOf l).all fun p => !(Nat.beq p.1 i)) = ((peRs l x).1.all fun p => !(Nat.beq p.1 i)) := by
    intro l
    induction l with
    | nil => intro x i; rfl
    | cons p r ih =>
      intro x i
      obtain ⟨j, q⟩ := p
      cases q with
      | blk l ty => simp only [idsOf, peRs, List.all_cons]; rw [ih]
      | own ty a => simp only [idsOf, peRs, List.all_cons]; rw [ih]
      | mp a b => simp only [idsOf, peRs, List.all_cons]; rw [ih]
  intro l
  induction l with
  | nil => intro x; rfl
  | cons p r ih =>
    intro x
    obtain ⟨j, q⟩ := p
    cases q with
    | blk l ty => simp only [idsOf, peRs, idsOk]; rw [ih, all]
    | own ty a => simp only [idsOf, peRs, idsOk]; rw [ih, all]
    | mp a b => simp only [idsOf, peRs, idsOk]; rw [ih, all]
def PT.rn (t : PT) (args : List Vl) (st : St) : Option Rn := match pdVs t.ps [] args (fun ρ => pdRs st t.rg ρ some) with | some x => some (peRs t.rg (peVs t.ps x).2).2 | none => none
def PT.inst (t : PT) (args : List Vl) (st : St) (ρ0 : Rn) : Option (XVs t.ps (XRs t.rg Unit)) :=
  pdVs t.ps [] args (fun ρ => pdRs st t.rg ρ fun ρ => match eqRn ρ ρ0 with | true => some () | false => none)
def PT.call (t : PT) (args : List Vl) (st : St) (K : Rs → St → Prop) : Prop :=
  match t.rn args st with
  | none => False
  | some ρ => forceR ρ fun ρ => (match rnNodup ρ && (rnLt t.na ρ && idsOk (idsOf t.rg)), t.inst args st ρ with
    | true, some x => t.pre x ∧ alVs t.rs (fun K => alRs t.out (fun K => K ()) K) fun y => t.post x y → K (rnR (ren ρ st.nx) (t.res y)) ⟨st.nx + t.nx, app (rnH (ren ρ st.nx) (t.left y)) (rest ρ st.h)⟩
    | _, _ => False)
def PT.ft (t : PT) : FT where
  X := XVs t.ps (XRs t.rg Unit)
  Y := XVs t.rs (XRs t.out Unit)
  inst := fun args st => match t.rn args st with | some ρ => t.inst args st ρ | none => none
  args := t.args
  h := t.h
  na := t.na
  pre := t.pre
  post := t.post
  res := fun _ y => t.res y
  out := fun _ y => t.left y
  nx := t.nx
theorem PT.call_ft {t : PT} {args : List Vl} {st : St} {K : Rs → St → Prop} (h : t.call args st K) : t.ft.call args st K := by
  unfold PT.call at h
  split at h
  · exact h.elim
  · rename_i ρ hρ
    rw [forceR_eq] at h
    split at h
    · rename_i x hB hx
      obtain ⟨h1, h2⟩ := h
      have h2 := alVs_ok (fun K h => alRs_ok (fun K (h : K ()) r => h) h) h2
      have hi : t.ft.inst args st = some x := by simp only [PT.ft, hρ, hx]
      unfold FT.call
      rw [hi]
      obtain ⟨ρ1, g1, g2⟩ := pdVs_mt hx
      obtain ⟨ρ2, q1, q2⟩ := pdRs_mt g1
      split at q1
      · rename_i e
        have e := eqRn_eq e
        subst e
        refine g2 _ (q2 _ ?_)
        rw [idsOf_ok] at hB
        show (match rnNodup _ && (rnLt t.na _ && idsOk (t.h x)) with | true => _ | false => False)
        rw [show (rnNodup ρ2 && (rnLt t.na ρ2 && idsOk (t.h x))) = true from hB]
        exact ⟨h1, fun y hy => h2 y hy⟩
      · cases q1
    · exact h.elim
/-- There are values of a pattern. -/
def exL {R : Type} : (l : List PC) → ((R → Prop) → Prop) → (XL l R → Prop) → Prop
  | [], q, K => q K
  | .d a :: r, q, K => ∃ x : a.T, exL r q fun y => K (x, y)
  | .p _ _ :: r, q, K => exL r q K
  | .s _ :: r, q, K => exL r q K
  | .m _ :: r, q, K => exL r q K
  | .nm _ :: r, q, K => exL r q K
  | .any :: r, q, K => exL r q K
  | .nil :: r, q, K => exL r q K
  | .fn _ _ :: r, q, K => exL r q K
def exVs {R : Type} : (l : List PV) → ((R → Prop) → Prop) → (XVs l R → Prop) → Prop
  | [], q, K => q K
  | v :: r, q, K => exL v.l (fun K => exVs r q K) K
def exRs {R : Type} : (l : List (Nat × PR)) → ((R → Prop) → Prop) → (XRs l R → Prop) → Prop
  | [], q, K => q K
  | (_, .blk l _) :: r, q, K => exL l (fun K => exRs r q K) K
  | (_, .own _ a) :: r, q, K => ∃ x : List a.T, exRs r q fun y => K (x, y)
  | (_, .mp a b) :: r, q, K => ∃ x : List (a.T × b.T), exRs r q fun y => K (x, y)
theorem exL_ok {R : Type} {q : (R → Prop) → Prop} (hq : ∀ K, q K → ∃ r, K r) : ∀ {l : List PC} {K : XL l R → Prop}, exL l q K → ∃ x, K x
  | [], K, h => hq K h
  | .d a :: r, K, h => by obtain ⟨x, h⟩ := h; obtain ⟨y, h⟩ := exL_ok hq (l := r) h; exact ⟨(x, y), h⟩
  | .p _ _ :: r, K, h => exL_ok hq (l := r) h
  | .s _ :: r, K, h => exL_ok hq (l := r) h
  | .m _ :: r, K, h => exL_ok hq (l := r) h
  | .nm _ :: r, K, h => exL_ok hq (l := r) h
  | .any :: r, K, h => exL_ok hq (l := r) h
  | .nil :: r, K, h => exL_ok hq (l := r) h
  | .fn _ _ :: r, K, h => exL_ok hq (l := r) h
theorem exVs_ok {R : Type} {q : (R → Prop) → Prop} (hq : ∀ K, q K → ∃ r, K r) : ∀ {l : List PV} {K : XVs l R → Prop}, exVs l q K → ∃ x, K x
  | [], K, h => hq K h
  | v :: r, K, h => exL_ok (fun K h => exVs_ok hq (l := r) h) (l := v.l) h
theorem exRs_ok {R : Type} {q : (R → Prop) → Prop} (hq : ∀ K, q K → ∃ r, K r) : ∀ {l : List (Nat × PR)} {K : XRs l R → Prop}, exRs l q K → ∃ x, K x
  | [], K, h => hq K h
  | (_, .blk l _) :: r, K, h => exL_ok (fun K h => exRs_ok hq (l := r) h) (l := l) h
  | (_, .own _ a) :: r, K, h => by obtain ⟨x, h⟩ := h; obtain ⟨y, h⟩ := exRs_ok hq (l := r) h; exact ⟨(x, y), h⟩
  | (_, .mp a b) :: r, K, h => by obtain ⟨x, h⟩ := h; obtain ⟨y, h⟩ := exRs_ok hq (l := r) h; exact ⟨(x, y), h⟩
section
variable {T : Tb} {sp : FuncId → Option Spec} {P : Program}
/-- The end of the run is of the form that is promised. -/
def PT.fin (t : PT) (x : XVs t.ps (XRs t.rg Unit)) (r' : Rs) (st' : St) : Prop :=
  exVs t.rs (fun K => exRs t.out (fun K => K ()) K) fun y => outF t.na t.nx (t.res y) (t.left y) r' st' ∧ t.post x y
def PT.goal (t : PT) (T : Tb) (sp : FuncId → Option Spec) (fn : Func) : Prop :=
  alVs t.ps (fun K => alRs t.rg (fun K => K ()) K) fun x => t.pre x → rngVs (t.args x) → rngH (t.h x) → ∃ lp, runF T sp lp t.na fn (t.args x) ⟨t.na, t.h x⟩ fun r' st' => t.fin x r' st'
theorem valid_P (hm : P.follows .mixedOrders = true) (hT : ∀ t i, T t = some i → TyOk P t i) (hsp : ∀ f S, sp f = some S → Valid P f S) {f : FuncId} {fn : Func} (hf : P.funcs[f]? = some fn) (hc : CallOk P f) {t : PT} (h : t.goal T sp fn) : Valid P f (.full t.call) := by
  have h := alVs_ok (fun K h => alRs_ok (fun K (h : K ()) r => h) h) h
  have := valid_full2 hm hT hsp hf hc (t := t.ft) (Fin := t.fin) (fun x r' st' hf => by
    obtain ⟨y, y1, y2⟩ := exVs_ok (fun K h => exRs_ok (fun K (h : K ()) => ⟨(), h⟩) h) hf
    exact ⟨y, y2, y1⟩) h
  exact ⟨this.1, fun args st K hS => this.2 args st K (PT.call_ft hS)⟩
/-- Whichever pattern it is. -/
def callsP : List PT → List Vl → St → (Rs → St → Prop) → Prop
  | [], _, _, _ => False
  | t :: r, args, st, K => (match t.rn args st with | some _ => t.call args st K | none => callsP r args st K)
def goalsP (T : Tb) (sp : FuncId → Option Spec) (fn : Func) : List PT → Prop
  | [] => True
  | t :: r => t.goal T sp fn ∧ goalsP T sp fn r
theorem valid_Ps (hm : P.follows .mixedOrders = true) (hT : ∀ t i, T t = some i → TyOk P t i) (hsp : ∀ f S, sp f = some S → Valid P f S) {f : FuncId} {fn : Func} (hf : P.funcs[f]? = some fn) (hc : CallOk P f) {l : List PT} (h : goalsP T sp fn l) : Valid P f (.full (callsP l)) := by
  refine ⟨hc, fun args st K hS => ?_⟩
  induction l with
  | nil => exact hS.elim
  | cons t r ih =>
    unfold callsP at hS
    split at hS
    · exact (valid_P hm hT hsp hf hc h.1).2 args st K hS
    · exact ih h.2 hS
end
end Go.Proofs.YtnbbooilapelmaaGreatDoor.V
