/-
  A symbolic run of a function's text: loops, calls of the function.
-/
import Derived.Test.YtnbbooilapelmaaGreatDoorKitVD
import Derived.Deep.LoopGhost
set_option linter.unusedVariables false
set_option linter.unusedSimpArgs false
namespace Go.Proofs.YtnbbooilapelmaaGreatDoor.V
open Go.RowKit Go.Proofs.YtnbbooilapelmaaGreatDoor

/-! ### A state that is of a form -/
/-- From the form's numbers of regions to the state's; none: nil. -/
abbrev Rn := List (Nat × Option Nat)
def mtV : Value → CV → Option Prop
  | .int k a, .val (.int k' a') => (match eqK k k' with | true => some (a' = a) | false => none)
  | .int k a, .il k' z => (match eqK k k' with | true => some (z = a) | false => none)
  | .bool a, .val (.bool b) => some (b = a)
  | .bool a, .bl b => some (b = a)
  | v, .val v' => some (v' = v)
  | _, _ => none
/-- Is the number of the form the state's? -/
def bind (ρ : Rn) (i : Nat) (j : Option Nat) (K : Rn → Prop) : Prop :=
  match look ρ i with
  | some j' => (match j, j' with | some a, some b => (match Nat.beq a b with | true => K ρ | false => False) | none, none => K ρ | _, _ => False)
  | none => K ((i, j) :: ρ)
def mtP (ρ : Rn) : List (Nat × Nat) → List (Nat × Nat) → (Rn → Prop) → Prop
  | [], [], K => K ρ
  | (i, o) :: r, (j, o') :: s, K => (match Nat.beq o o' with | true => mtP ρ r s fun ρ => bind ρ i (some j) K | false => False)
  | _, _, _ => False
/-- t: the form's cell, c: the state's. -/
def mtC (ρ : Rn) (t c : CV) (K : Rn → Prop) : Prop :=
  match t, c with
  | .any, .run .. => False
  | .any, _ => K ρ
  | .val v, c => (match mtV v c with | some p => p ∧ K ρ | none => False)
  | .ptr i o, .ptr j o' => (match Nat.beq o o' with | true => bind ρ i (some j) K | false => False)
  | .sl i, .sl j => bind ρ i (some j) K
  | .sl i, .val (.slice none 0 0) => bind ρ i none K
  | .mv i, .mv j => bind ρ i (some j) K
  | .rd a x, .rd b y => (match eqSh b a with | true => HEq y x ∧ K ρ | false => False)
  | .rd a x, .val (.slice none 0 0) => x = [] ∧ K ρ
  | .sv i sz lo n, .sv j sz' lo' n' => (match Nat.beq sz sz' with | true => (lo' = lo ∧ n' = n) ∧ bind ρ i (some j) K | false => False)
  | .run k n d, .run k' n' d' => (match eqK k k', Nat.beq n n' with | true, true => d' = d ∧ K ρ | _, _ => False)
  | .fn f c, .fn f' c' => (match Nat.beq f f' with | true => mtP ρ c c' K | false => False)
  | .nm k, .nm k' => (match eqK k k' with | true => K ρ | false => False)
  | .nm k, .il k' _ => (match eqK k k' with | true => K ρ | false => False)
  | .nm k, .val (.int k' _) => (match eqK k k' with | true => K ρ | false => False)
  | .il k a, c => (match mtV (.int k a) c with | some p => p ∧ K ρ | none => False)
  | .bl b, c => (match mtV (.bool b) c with | some p => p ∧ K ρ | none => False)
  | _, _ => False
def mtCs : Rn → List CV → List CV → (Rn → Prop) → Prop
  | ρ, [], [], K => K ρ
  | ρ, t :: r, c :: s, K => mtC ρ t c fun ρ' => mtCs ρ' r s K
  | _, _, _, _ => False
def plainC : CV → Bool | .val _ => true | .il .. => true | .bl _ => true | _ => false
def plainL : List CV → Bool
  | [] => true
  | c :: r => (match plainC c with | true => plainL r | false => false)
def mtVl (ρ : Rn) (t c : Vl) (K : Rn → Prop) : Prop :=
  match t, c with
  | .one t, .one c => mtC ρ t c K
  | .agg t, .agg c => mtCs ρ t c K
  | _, _ => False
/-- In a slot: a long array of data by value is the same as a whole. -/
def mtVlS (ρ : Rn) (t c : Vl) (K : Rn → Prop) : Prop :=
  match t, c with
  | .agg t, .agg c => (match Nat.blt 4 t.length with
    | true => (match plainL t with | true => c = t ∧ K ρ | false => mtCs ρ t c K)
    | false => mtCs ρ t c K)
  | t, c => mtVl ρ t c K
def mtVls : Rn → List Vl → List Vl → (Rn → Prop) → Prop
  | ρ, [], [], K => K ρ
  | ρ, t :: r, c :: s, K => mtVl ρ t c fun ρ' => mtVls ρ' r s K
  | _, _, _, _ => False
def mtSl (ts : Sl) : Rn → List (Nat × Vl) → (Rn → Prop) → Prop
  | ρ, [], K => K ρ
  | ρ, (j, t) :: r, K => (match ts.get j with
    | some ⟨[], .v c⟩ => mtVlS ρ t c fun ρ' => mtSl ts ρ' r K
    | _ => False)
def mtXk (ρ : Rn) (t : Xk) (c : Xk) (K : Rn → Prop) : Prop :=
  match t, c with
  | .it s p, .it s' p' => s' = s ∧ p' = p ∧ K ρ
  | .mp a b l, .mp a' b' l' => (match eqSh a' a, eqSh b' b with | true, true => HEq l' l ∧ K ρ | _, _ => False)
  | _, _ => False
def mtCk (ρ : Rn) (t : Ck) (c : Ck) (K : Rn → Prop) : Prop :=
  match t, c with
  | .blk l ty, .blk m ty' => (match Nat.beq ty ty' with | true => mtCs ρ l m K | false => False)
  | .own ty a xs, .own ty' b ys => (match Nat.beq ty ty', eqSh b a with | true, true => HEq ys xs ∧ K ρ | _, _ => False)
  | .xk x, .xk y => mtXk ρ x y K
  | _, _ => False
def mtH (st : St) : Rn → List (Nat × Ck) → (Rn → Prop) → Prop
  | ρ, [], K => K ρ
  | ρ, (i, t) :: r, K => (match look ρ i with
    | some (some j) => (match look st.h j with
      | some c => mtCk ρ t c fun ρ' => mtH st ρ' r K
      | none => False)
    | some none => (match t with
      | .own _ _ xs => xs = [] ∧ mtH st ρ r K
      | _ => False)
    | none => False)
def rnNodup : Rn → Bool
  | [] => true
  | (_, some j) :: r => (r.all fun p => match p.2 with | some k => !(Nat.beq j k) | none => true) && rnNodup r
  | (_, none) :: r => rnNodup r

/-! ### What a form's match says -/
section
variable {β : Nat → Option Value} {F : Nat → Prop} {w : World}
/-- The form's numbers, read in the state. -/
def rb (β : Nat → Option Value) (ρ : Rn) : Nat → Option Value := fun i => match look ρ i with
  | some (some j) => β j
  | some none => some (.slice none 0 0)
  | none => none
/-- One more number does not change the others. -/
def RnLe (ρ ρ' : Rn) : Prop := ∀ i j, look ρ i = some j → look ρ' i = some j
theorem RnLe.refl (ρ : Rn) : RnLe ρ ρ := fun _ _ h => h
theorem RnLe.trans {a b c : Rn} (h : RnLe a b) (k : RnLe b c) : RnLe a c := fun i j e => k i j (h i j e)
theorem RnLe.b {ρ ρ' : Rn} (h : RnLe ρ ρ') : ∀ i v, rb β ρ i = some v → rb β ρ' i = some v := by
  intro i v hv
  unfold rb at *
  cases hl : look ρ i with
  | none => rw [hl] at hv; cases hv
  | some j => rw [h i j hl]; rw [hl] at hv; exact hv
theorem RnLe.ext {ρ ρ' : Rn} (h : RnLe ρ ρ') : Ext (rb β ρ) F w (rb β ρ') F w := ⟨h.b, fun _ h => h, fun _ _ => rfl⟩
theorem bind_ok {ρ : Rn} {i : Nat} {j : Option Nat} {K : Rn → Prop} (h : bind ρ i j K) : ∃ ρ', K ρ' ∧ RnLe ρ ρ' ∧ look ρ' i = some j := by
  unfold bind at h
  split at h
  · rename_i j' hl
    split at h
    · split at h
      · rename_i e; rw [Nat.eq_of_beq_eq_true e]; exact ⟨ρ, h, RnLe.refl ρ, hl⟩
      · exact h.elim
    · exact ⟨ρ, h, RnLe.refl ρ, hl⟩
    · exact h.elim
  · rename_i hl
    refine ⟨_, h, fun i' j' hj => ?_, by simp [look]⟩
    have : i ≠ i' := fun e => by rw [← e, hl] at hj; cases hj
    simp [look, this, hj]
theorem mtV_ok {v : Value} {c : CV} {p : Prop} (h : mtV v c = some p) (hp : p) {u : Value} (hd : Dn β F w c u) : u = v ∧ vOk v := by
  unfold mtV at h
  split at h
  · split at h
    · rename_i e; cases h; subst hp; rw [eqK_eq e]; exact hd
    · cases h
  · split at h
    · rename_i e; cases h; subst hp; rw [eqK_eq e]; exact hd
    · cases h
  · cases h; subst hp; exact hd
  · cases h; subst hp; rw [show u = _ from hd]; exact ⟨rfl, trivial⟩
  · cases h; subst hp; exact hd
  · cases h
theorem rdAny {β' : Nat → Option Value} {a : Sh} {x : List a.T} : ∀ u, Dn β F w (.rd a x) u → Dn β' F w (.rd a x) u := fun _ h => h
theorem mtP_ok : ∀ {c c' : List (Nat × Nat)} {ρ : Rn} {K : Rn → Prop}, mtP ρ c c' K → ∃ ρ', K ρ' ∧ RnLe ρ ρ' ∧ ∀ l, DnP β c' l → DnP (rb β ρ') c l
  | [], [], ρ, K, h => ⟨ρ, h, RnLe.refl ρ, fun l hl => hl⟩
  | (i, o) :: r, (j, o') :: s, ρ, K, h => by
    simp only [mtP] at h
    split at h
    · rename_i e
      have e := Nat.eq_of_beq_eq_true e
      subst e
      obtain ⟨ρ1, k1, k2, k3⟩ := mtP_ok h
      obtain ⟨ρ2, g1, g2, g3⟩ := bind_ok k1
      refine ⟨ρ2, g1, k2.trans g2, fun l ⟨g, b, h1, h2, h3⟩ => ⟨g, b, by simp [rb, g3, h1], h2, DnP.b g2.b (k3 b h3)⟩⟩
    · exact h.elim
  | [], _ :: _, ρ, K, h => h.elim
  | _ :: _, [], ρ, K, h => h.elim
theorem mtC_ok {ρ : Rn} {t c : CV} {K : Rn → Prop} (h : mtC ρ t c K) : ∃ ρ', K ρ' ∧ RnLe ρ ρ' ∧ (∀ u, Dn β F w c u → Dn (rb β ρ') F w t u) ∧ (∀ l, DnC β F w c l → DnC (rb β ρ') F w t l) := by
  have one : ∀ {t c : CV} {ρ' : Rn}, (∀ k n d, t ≠ .run k n d) → (∀ k n d, c ≠ .run k n d) → (∀ u, Dn β F w c u → Dn (rb β ρ') F w t u) → ∀ l, DnC β F w c l → DnC (rb β ρ') F w t l := by
    intro t c ρ' h1 h2 h l hl
    cases c <;> first | exact absurd rfl (h2 _ _ _) | (obtain ⟨u, e, h3, h4⟩ := hl; cases t <;> first | exact absurd rfl (h1 _ _ _) | exact ⟨u, e, h u h3, h4⟩)
  unfold mtC at h
  split at h
  · exact h.elim
  · rename_i hc
    exact ⟨ρ, h, RnLe.refl ρ, fun u _ => (trivial : Dn (rb β ρ) F w .any u), fun l => one (t := .any) (by simp) (fun k n d e => hc k n d e) (fun u _ => (trivial : Dn (rb β ρ) F w .any u)) l⟩
  · rename_i v c _
    split at h
    · rename_i p hp
      have := fun u hd => mtV_ok (β := β) (F := F) (w := w) hp h.1 (u := u) hd
      refine ⟨ρ, h.2, RnLe.refl ρ, this, fun l => one (by simp) (fun k n d e => ?_) this l⟩
      subst e
      cases v <;> simp [mtV] at hp
    · exact h.elim
  · rename_i i o j o'
    split at h
    · rename_i e
      obtain ⟨ρ', k1, k2, k3⟩ := bind_ok h
      have e := Nat.eq_of_beq_eq_true e
      have hd : ∀ u, Dn β F w (.ptr j o') u → Dn (rb β ρ') F w (.ptr i o) u := fun u ⟨g, g1, g2⟩ => ⟨g, by simp [rb, k3, g1], by rw [e]; exact g2⟩
      exact ⟨ρ', k1, k2, hd, fun l => one (by simp) (by simp) hd l⟩
    · exact h.elim
  · rename_i i j
    obtain ⟨ρ', k1, k2, k3⟩ := bind_ok h
    have hd : ∀ u, Dn β F w (.sl j) u → Dn (rb β ρ') F w (.sl i) u := fun u ⟨g1, g2⟩ => ⟨by simp [rb, k3, g1], g2⟩
    exact ⟨ρ', k1, k2, hd, fun l => one (by simp) (by simp) hd l⟩
  · rename_i i
    obtain ⟨ρ', k1, k2, k3⟩ := bind_ok h
    have hd : ∀ u, Dn β F w (.val (.slice none 0 0)) u → Dn (rb β ρ') F w (.sl i) u := fun u ⟨g1, g2⟩ => ⟨by simp [rb, k3, g1], none, 0, 0, g1⟩
    exact ⟨ρ', k1, k2, hd, fun l => one (by simp) (by simp) hd l⟩
  · rename_i i j
    obtain ⟨ρ', k1, k2, k3⟩ := bind_ok h
    have hd : ∀ u, Dn β F w (.mv j) u → Dn (rb β ρ') F w (.mv i) u := fun u ⟨g1, g2⟩ => ⟨by simp [rb, k3, g1], g2⟩
    exact ⟨ρ', k1, k2, hd, fun l => one (by simp) (by simp) hd l⟩
  · rename_i a x b y
    split at h
    · rename_i e
      have := eqSh_eq e
      subst this
      obtain ⟨h1, h2⟩ := h
      have := eq_of_heq h1
      subst this
      exact ⟨ρ, h2, RnLe.refl ρ, rdAny, fun l => one (by simp) (by simp) rdAny l⟩
    · exact h.elim
  · rename_i a x
    obtain ⟨rfl, h2⟩ := h
    have hd : ∀ u, Dn β F w (.val (.slice none 0 0)) u → Dn (rb β ρ) F w (.rd a []) u := fun u ⟨g1, g2⟩ => ⟨none, 0, by rw [g1]; rfl, Nat.le_refl _, Nat.zero_le _, fun _ => rfl, fun h => (by simp at h)⟩
    exact ⟨ρ, h2, RnLe.refl ρ, hd, fun l => one (by simp) (by simp) hd l⟩
  · rename_i i sz lo n j sz' lo' n'
    split at h
    · rename_i e
      have e := Nat.eq_of_beq_eq_true e
      subst e
      obtain ⟨⟨rfl, rfl⟩, h⟩ := h
      obtain ⟨ρ', k1, k2, k3⟩ := bind_ok h
      have hd : ∀ u, Dn β F w (.sv j sz lo' n') u → Dn (rb β ρ') F w (.sv i sz lo' n') u := fun u ⟨v, g1, g2⟩ => ⟨v, by simp [rb, k3, g1], g2⟩
      exact ⟨ρ', k1, k2, hd, fun l => one (by simp) (by simp) hd l⟩
    · exact h.elim
  · split at h
    · rename_i e1 e2
      obtain ⟨h1, h2⟩ := h
      subst h1
      have e1 := eqK_eq e1
      have e2 := Nat.eq_of_beq_eq_true e2
      subst e1; subst e2
      exact ⟨ρ, h2, RnLe.refl ρ, fun _ h => h, fun l h => h⟩
    · exact h.elim
  · rename_i f c f' c'
    split at h
    · rename_i e
      have e := Nat.eq_of_beq_eq_true e
      subst e
      obtain ⟨ρ', k1, k2, k3⟩ := mtP_ok (β := β) h
      have hd : ∀ u, Dn β F w (.fn f c') u → Dn (rb β ρ') F w (.fn f c) u := fun u ⟨vs, h1, h2⟩ => ⟨vs, h1, k3 _ h2⟩
      exact ⟨ρ', k1, k2, hd, fun l => one (by simp) (by simp) hd l⟩
    · exact h.elim
  · split at h
    · rename_i e
      have e := eqK_eq e
      subst e
      exact ⟨ρ, h, RnLe.refl ρ, fun _ h => h, fun l hl => hl⟩
    · exact h.elim
  · rename_i k k' z
    split at h
    · rename_i e
      have e := eqK_eq e
      subst e
      have hd : ∀ u, Dn β F w (.il k z) u → Dn (rb β ρ) F w (.nm k) u := fun u h => ⟨z, h⟩
      exact ⟨ρ, h, RnLe.refl ρ, hd, fun l => one (by simp) (by simp) hd l⟩
    · exact h.elim
  · rename_i k k' z
    split at h
    · rename_i e
      have e := eqK_eq e
      subst e
      have hd : ∀ u, Dn β F w (.val (.int k z)) u → Dn (rb β ρ) F w (.nm k) u := fun u h => ⟨z, h⟩
      exact ⟨ρ, h, RnLe.refl ρ, hd, fun l => one (by simp) (by simp) hd l⟩
    · exact h.elim
  · rename_i k a
    split at h
    · rename_i p hp
      have hd : ∀ u, Dn β F w c u → Dn (rb β ρ) F w (.il k a) u := fun u hd => mtV_ok (β := β) (F := F) (w := w) hp h.1 (u := u) hd
      refine ⟨ρ, h.2, RnLe.refl ρ, hd, fun l => one (by simp) (fun k n d e => ?_) hd l⟩
      subst e; simp [mtV] at hp
    · exact h.elim
  · rename_i b
    split at h
    · rename_i p hp
      have hd : ∀ u, Dn β F w c u → Dn (rb β ρ) F w (.bl b) u := fun u hd => (mtV_ok (β := β) (F := F) (w := w) hp h.1 (u := u) hd).1
      refine ⟨ρ, h.2, RnLe.refl ρ, hd, fun l => one (by simp) (fun k n d e => ?_) hd l⟩
      subst e; simp [mtV] at hp
    · exact h.elim
  · exact h.elim
theorem mtCs_ok : ∀ {ρ : Rn} {t c : List CV} {K : Rn → Prop}, mtCs ρ t c K → ∃ ρ', K ρ' ∧ RnLe ρ ρ' ∧ ∀ l, DnL β F w c l → DnL (rb β ρ') F w t l
  | ρ, [], [], K, h => ⟨ρ, h, RnLe.refl ρ, fun _ h => h⟩
  | ρ, t :: r, c :: s, K, h => by
    obtain ⟨ρ1, k1, k2, _, k4⟩ := mtC_ok (β := β) (F := F) (w := w) h
    obtain ⟨ρ2, g1, g2, g3⟩ := mtCs_ok k1
    exact ⟨ρ2, g1, k2.trans g2, fun l ⟨a, b, e, h1, h2⟩ => ⟨a, b, e, (k4 a h1).ext g2.ext, g3 b h2⟩⟩
theorem plainL_dn {β' : Nat → Option Value} : ∀ {l : List CV} {vs : List Value}, plainL l = true → DnL β F w l vs → DnL β' F w l vs
  | [], vs, _, hd => hd
  | c :: r, vs, h, hd => by
    simp only [plainL] at h
    split at h
    · rename_i hc
      obtain ⟨a, b, rfl, h1, h2⟩ := hd
      refine ⟨a, b, rfl, ?_, plainL_dn h h2⟩
      cases c <;> first | exact h1 | cases hc
    · cases h
theorem mtVl_ok {ρ : Rn} {t c : Vl} {K : Rn → Prop} (h : mtVl ρ t c K) : ∃ ρ', K ρ' ∧ RnLe ρ ρ' ∧ ∀ u, DnV β F w c u → DnV (rb β ρ') F w t u := by
  unfold mtVl at h
  split at h
  · obtain ⟨ρ1, k1, k2, k3, _⟩ := mtC_ok (β := β) (F := F) (w := w) h
    exact ⟨ρ1, k1, k2, k3⟩
  · obtain ⟨ρ1, k1, k2, k3⟩ := mtCs_ok (β := β) (F := F) (w := w) h
    exact ⟨ρ1, k1, k2, fun u ⟨vs, e, hd⟩ => ⟨vs, e, k3 _ hd⟩⟩
  · exact h.elim
theorem mtVlS_ok {ρ : Rn} {t c : Vl} {K : Rn → Prop} (h : mtVlS ρ t c K) : ∃ ρ', K ρ' ∧ RnLe ρ ρ' ∧ ∀ u, DnV β F w c u → DnV (rb β ρ') F w t u := by
  unfold mtVlS at h
  split at h
  · rename_i t c
    have old : mtCs ρ t c K → ∃ ρ', K ρ' ∧ RnLe ρ ρ' ∧ ∀ u, DnV β F w (.agg c) u → DnV (rb β ρ') F w (.agg t) u := fun h => by
      obtain ⟨ρ1, k1, k2, k3⟩ := mtCs_ok (β := β) (F := F) (w := w) h
      exact ⟨ρ1, k1, k2, fun u ⟨vs, e, hd⟩ => ⟨vs, e, k3 _ hd⟩⟩
    split at h
    · split at h
      · rename_i hp
        obtain ⟨rfl, h⟩ := h
        exact ⟨ρ, h, RnLe.refl ρ, fun u ⟨vs, e, hd⟩ => ⟨vs, e, plainL_dn hp hd⟩⟩
      · exact old h
    · exact old h
  · exact mtVl_ok h
theorem mtVls_ok : ∀ {ρ : Rn} {t c : List Vl} {K : Rn → Prop}, mtVls ρ t c K → ∃ ρ', K ρ' ∧ RnLe ρ ρ' ∧ ∀ l, DnVs β F w c l → DnVs (rb β ρ') F w t l
  | ρ, [], [], K, h => ⟨ρ, h, RnLe.refl ρ, fun _ h => h⟩
  | ρ, t :: r, c :: s, K, h => by
    obtain ⟨ρ1, k1, k2, k4⟩ := mtVl_ok (β := β) (F := F) (w := w) h
    obtain ⟨ρ2, g1, g2, g3⟩ := mtVls_ok k1
    exact ⟨ρ2, g1, k2.trans g2, fun l ⟨a, b, e, h1, h2⟩ => ⟨a, b, e, (k4 a h1).ext g2.ext, g3 b h2⟩⟩
theorem mtSl_ok {ts : Sl} {tmps : Array Value} (hs : SlOk β F w ts tmps) : ∀ {ρ : Rn} {l : List (Nat × Vl)} {K : Rn → Prop}, mtSl ts ρ l K → ∃ ρ', K ρ' ∧ RnLe ρ ρ' ∧ ∀ p ∈ l, ∃ u, tmps[p.1]? = some u ∧ DnV (rb β ρ') F w p.2 u
  | ρ, [], K, h => ⟨ρ, h, RnLe.refl ρ, fun p hp => (by cases hp)⟩
  | ρ, (j, t) :: r, K, h => by
    simp only [mtSl] at h
    split at h
    · rename_i c hc
      obtain ⟨ρ1, k1, k2, k3⟩ := mtVlS_ok (β := β) (F := F) (w := w) h
      obtain ⟨ρ2, g1, g2, g3⟩ := mtSl_ok hs k1
      refine ⟨ρ2, g1, k2.trans g2, fun p hp => ?_⟩
      rcases List.mem_cons.1 hp with rfl | hp
      · obtain ⟨u, h1, h2, _⟩ := hs.at_ _ _ hc
        exact ⟨u, h1, (k3 u (h2 rfl)).ext g2.ext⟩
      · exact g3 p hp
    · exact h.elim
/-- The memory of the form. -/
theorem mtCk_ok {ρ : Rn} {t c : Ck} {K : Rn → Prop} (h : mtCk ρ t c K) {i j : Nat} (hl : look ρ i = some (some j)) (hc : CkOk β F w j c) : ∃ ρ', K ρ' ∧ RnLe ρ ρ' ∧ CkOk (rb β ρ') F w i t := by
  unfold mtCk at h
  split at h
  · split at h
    · rename_i e
      obtain ⟨ρ1, k1, k2, k3⟩ := mtCs_ok (β := β) (F := F) (w := w) h
      obtain ⟨g, vs, h1, h2, h3⟩ := hc
      have e := Nat.eq_of_beq_eq_true e
      subst e
      exact ⟨ρ1, k1, k2, g, vs, by simp [rb, k2 _ _ hl, h1], h2, k3 _ h3⟩
    · exact h.elim
  · split at h
    · rename_i e1 e2
      have e1 := Nat.eq_of_beq_eq_true e1
      have e2 := eqSh_eq e2
      subst e1; subst e2
      obtain ⟨h1, h2⟩ := h
      have := eq_of_heq h1
      subst this
      obtain ⟨v, vs, g1, g2, g3⟩ := hc
      exact ⟨ρ, h2, RnLe.refl ρ, v, vs, by simp [rb, hl, g1], g2, g3⟩
    · exact h.elim
  · obtain ⟨v, g, o, g1, g2, g3, g4⟩ := hc
    unfold mtXk at h
    split at h
    · obtain ⟨rfl, rfl, h⟩ := h
      exact ⟨ρ, h, RnLe.refl ρ, v, g, o, by simp [rb, hl, g1], g2, g3, g4⟩
    · split at h
      · rename_i e1 e2
        have e1 := eqSh_eq e1
        have e2 := eqSh_eq e2
        subst e1; subst e2
        obtain ⟨h1, h2⟩ := h
        have := eq_of_heq h1
        subst this
        exact ⟨ρ, h2, RnLe.refl ρ, v, g, o, by simp [rb, hl, g1], g2, g3, g4⟩
      · exact h.elim
    · exact h.elim
  · exact h.elim
theorem CkOk.ext {β' : Nat → Option Value} {i : Nat} {t : Ck} (h : CkOk β F w i t) (x : Ext β F w β' F w) : CkOk β' F w i t := by
  cases t with
  | blk cells ty => obtain ⟨g, vs, h1, h2, h3⟩ := h; exact ⟨g, vs, x.b _ _ h1, h2, h3.ext x⟩
  | own ty a xs => obtain ⟨v, vs, h1, h2, h3⟩ := h; exact ⟨v, vs, x.b _ _ h1, h2, h3⟩
  | xk c => exact Xk.keep x h fun _ _ => rfl
theorem mtH_ok {st : St} (hc : ∀ p ∈ st.h, CkOk β F w p.1 p.2) : ∀ {ρ : Rn} {l : List (Nat × Ck)} {K : Rn → Prop}, mtH st ρ l K → ∃ ρ', K ρ' ∧ RnLe ρ ρ' ∧ ∀ p ∈ l, CkOk (rb β ρ') F w p.1 p.2 ∧ (look ρ' p.1 = some none ∨ ∃ j c, look ρ' p.1 = some (some j) ∧ (j, c) ∈ st.h)
  | ρ, [], K, h => ⟨ρ, h, RnLe.refl ρ, fun p hp => (by cases hp)⟩
  | ρ, (i, t) :: r, K, h => by
    simp only [mtH] at h
    split at h
    · rename_i j hl
      split at h
      · rename_i c hj
        obtain ⟨ρ1, k1, k2, k3⟩ := mtCk_ok (β := β) (F := F) (w := w) h hl (hc _ (look_mem hj))
        obtain ⟨ρ2, g1, g2, g3⟩ := mtH_ok hc k1
        refine ⟨ρ2, g1, k2.trans g2, fun p hp => ?_⟩
        rcases List.mem_cons.1 hp with rfl | hp
        · exact ⟨k3.ext g2.ext, .inr ⟨j, c, g2 _ _ (k2 _ _ hl), look_mem hj⟩⟩
        · exact g3 p hp
      · exact h.elim
    · rename_i hl
      split at h
      · rename_i ty a xs
        obtain ⟨rfl, h⟩ := h
        obtain ⟨ρ2, g1, g2, g3⟩ := mtH_ok hc h
        refine ⟨ρ2, g1, g2, fun p hp => ?_⟩
        rcases List.mem_cons.1 hp with rfl | hp
        · exact ⟨⟨.slice none 0 0, [], by simp [rb, g2 _ _ hl], Own.nil _ _ _ _, rfl⟩, .inl (g2 _ _ hl)⟩
        · exact g3 p hp
      · exact h.elim
    · exact h.elim
end
def rnLt (nx : Nat) : Rn → Bool
  | [] => true
  | (i, _) :: r => Nat.blt i nx && rnLt nx r
def idsOk : List (Nat × Ck) → Bool
  | [] => true
  | (i, _) :: r => (r.all fun p => !(Nat.beq p.1 i)) && idsOk r
def boolP : Bool → Prop | true => True | false => False
theorem boolP_eq {b : Bool} (h : boolP b) : b = true := by cases b; exact h.elim; rfl
/-- The kept numbers stay. -/
def anch (na : Nat) : Rn → Bool
  | [] => true
  | (i, j) :: r => (match Nat.blt i na, j with | true, some k => Nat.beq i k | true, none => false | false, _ => true) && anch na r
def rnOk (na nx : Nat) (ρ : Rn) (h : List (Nat × Ck)) : Bool := rnNodup ρ && (rnLt nx ρ && (idsOk h && (anch na ρ && Nat.ble na nx)))
def idRnO (na : Nat) : List (Nat × Ck) → Rn
  | [] => []
  | (i, _) :: r => (match Nat.blt i na with | true => (i, some i) :: idRnO na r | false => idRnO na r)
/-- All of a form: slots, memory. -/
def mtSt (na : Nat) (ts : Sl) (st : St) (sl : List (Nat × Vl)) (h : List (Nat × Ck)) (nx : Nat) : Prop :=
  mtSl ts (idRnO na h) sl fun ρ => mtH st ρ h fun ρ' => boolP (rnOk na nx ρ' h)
theorem anch_ok {na : Nat} : ∀ {ρ : Rn}, anch na ρ = true → ∀ i j, look ρ i = some j → i < na → j = some i
  | (k, a) :: r, h, i, j, hj, hi => by
    simp only [anch, Bool.and_eq_true] at h
    simp only [look] at hj
    split at hj
    · rename_i e
      subst e
      cases hj
      have h1 := h.1
      have hb : Nat.blt k na = true := by simpa using hi
      rw [hb] at h1
      cases a with
      | none => simp at h1
      | some b => simp only at h1; rw [Nat.eq_of_beq_eq_true h1]
    · exact anch_ok h.2 i j hj hi
/-- The form's numbers, the kept ones as they are. -/
def rb2 (na : Nat) (β : Nat → Option Value) (ρ : Rn) : Nat → Option Value := fun i => if i < na then β i else rb β ρ i
theorem rb2_dom {na : Nat} {β : Nat → Option Value} {ρ : Rn} (h : anch na ρ = true) {i : Nat} {j : Option Nat} (hl : look ρ i = some j) : rb2 na β ρ i = rb β ρ i := by
  unfold rb2
  split
  · rename_i hi
    have := anch_ok h i j hl hi
    subst this
    simp [rb, hl]
  · rfl
theorem rb2_b {na : Nat} {β : Nat → Option Value} {ρ : Rn} (h : anch na ρ = true) : ∀ i v, rb β ρ i = some v → rb2 na β ρ i = some v := by
  intro i v hv
  cases hl : look ρ i with
  | none => simp [rb, hl] at hv
  | some j => rw [rb2_dom h hl]; exact hv
theorem rnLt_ok {nx : Nat} : ∀ {ρ : Rn}, rnLt nx ρ = true → ∀ i j, look ρ i = some j → i < nx
  | (k, a) :: r, h, i, j, hj => by
    simp only [rnLt, Bool.and_eq_true] at h
    simp only [look] at hj
    split at hj
    · rename_i e; rw [← e]; simpa using h.1
    · exact rnLt_ok h.2 i j hj
theorem rnNodup_ok : ∀ {ρ : Rn}, rnNodup ρ = true → ∀ i i' j, look ρ i = some (some j) → look ρ i' = some (some j) → i = i'
  | (k, some a) :: r, h, i, i', j, h1, h2 => by
    simp only [rnNodup, Bool.and_eq_true] at h
    have all : ∀ i, look r i = some (some a) → False := fun i hi => by
      have := List.all_eq_true.1 h.1 _ (look_mem hi)
      simp at this
    simp only [look] at h1 h2
    split at h1
    · rename_i e
      split at h2
      · rename_i e'; rw [← e, ← e']
      · cases h1; exact (all _ h2).elim
    · split at h2
      · cases h2; exact (all _ h1).elim
      · exact rnNodup_ok h.2 i i' j h1 h2
  | (k, none) :: r, h, i, i', j, h1, h2 => by
    simp only [rnNodup] at h
    simp only [look] at h1 h2
    split at h1
    · cases h1
    · split at h2
      · cases h2
      · exact rnNodup_ok h i i' j h1 h2
theorem pairwise_apart {R : Nat → Nat → Prop} (hR : ∀ a b, R a b → R b a) : ∀ {l : List (Nat × Ck)}, l.Pairwise (fun p q => R p.1 q.1) → ∀ p ∈ l, ∀ q ∈ l, p.1 ≠ q.1 → R p.1 q.1
  | x :: r, h, p, hp, q, hq, hne => by
    obtain ⟨h1, h2⟩ := List.pairwise_cons.1 h
    rcases List.mem_cons.1 hp with rfl | hp2 <;> rcases List.mem_cons.1 hq with rfl | hq2
    · exact absurd rfl hne
    · exact h1 q hq2
    · exact hR _ _ (h1 p hp2)
    · exact pairwise_apart hR h2 p hp2 q hq2 hne
theorem idsOk_pair {R : Nat × Ck → Nat × Ck → Prop} : ∀ {l : List (Nat × Ck)}, idsOk l = true → (∀ p ∈ l, ∀ q ∈ l, p.1 ≠ q.1 → R p q) → l.Pairwise R
  | [], _, _ => List.Pairwise.nil
  | x :: r, h, hr => by
    simp only [idsOk, Bool.and_eq_true] at h
    refine List.pairwise_cons.2 ⟨fun q hq => hr x (by simp) q (by simp [hq]) (fun e => ?_), idsOk_pair h.2 fun p hp q hq => hr p (by simp [hp]) q (by simp [hq])⟩
    have := List.all_eq_true.1 h.1 q hq
    simp [e] at this
section
variable {B : Base} {β : Nat → Option Value} {F : Nat → Prop} {w : World} {st : St}
theorem mtH_sat {h : List (Nat × Ck)} {nx : Nat} {ρ : Rn} (hk : mtH st ρ h fun ρ' => boolP (rnOk B.na nx ρ' h)) (hw : Sat B β F st w) :
    ∃ ρ', RnLe ρ ρ' ∧ anch B.na ρ' = true ∧ Sat B (rb2 B.na β ρ') F ⟨nx, h⟩ w := by
  obtain ⟨ρ', k1, k2, k3⟩ := mtH_ok (β := β) (F := F) (w := w) hw.cks hk
  have k1 := boolP_eq k1
  simp only [rnOk, Bool.and_eq_true] at k1
  obtain ⟨n1, n2, n3, n4, n5⟩ := k1
  have n5 := Nat.le_of_ble_eq_true n5
  have hx : Ext (rb β ρ') F w (rb2 B.na β ρ') F w := ⟨rb2_b n4, fun _ h => h, fun _ _ => rfl⟩
  have eqp : ∀ p ∈ h, rb2 B.na β ρ' p.1 = rb β ρ' p.1 := fun p hp => by
    rcases (k3 p hp).2 with hl | ⟨j, c, hl, hj⟩
    · exact rb2_dom n4 hl
    · exact rb2_dom n4 hl
  refine ⟨ρ', k2, n4, ⟨hw.only, fun id hid => ?_, fun p hp => (k3 p hp).1.ext hx, fun p hp k hk => ?_, idsOk_pair n3 fun p hp q hq hne k hk hk2 => ?_, hw.frz, hw.f1, hw.f2, n5, fun i hi => ?_⟩⟩
  · unfold rb2 rb
    simp at hid
    rw [if_neg (by omega)]
    cases hl : look ρ' id with
    | none => rfl
    | some j => have := rnLt_ok n2 id j hl; omega
  · rw [eqp p hp] at hk
    rcases (k3 p hp).2 with hl | ⟨j, c, hl, hj⟩
    · simp [rb, hl, bk] at hk
    · exact hw.own _ hj k (by simpa [rb, hl] using hk)
  · rw [eqp p hp] at hk
    rw [eqp q hq] at hk2
    rcases (k3 p hp).2 with hl | ⟨j, c, hl, hj⟩
    · simp [rb, hl, bk] at hk
    · rcases (k3 q hq).2 with hl' | ⟨j', c', hl', hj'⟩
      · simp [rb, hl', bk] at hk2
      · have hjj : j ≠ j' := fun e => hne (rnNodup_ok n1 p.1 q.1 j hl (by rw [e]; exact hl'))
        exact pairwise_apart (R := fun a b => ∀ k, bk (β a) = some k → bk (β b) ≠ some k) (fun a b h k h1 h2 => h k h2 h1) hw.sep _ hj _ hj' hjj k (by simpa [rb, hl] using hk) (by simpa [rb, hl'] using hk2)
  · unfold rb2
    rw [if_pos hi]
    exact hw.anc.2 i hi
theorem mtSt_ok {ts : Sl} {sl : List (Nat × Vl)} {h : List (Nat × Ck)} {nx : Nat} (hm : mtSt B.na ts st sl h nx) {tmps : Array Value} (hs : SlOk β F w ts tmps) (hw : Sat B β F st w) :
    ∃ β', Sat B β' F ⟨nx, h⟩ w ∧ ∀ p ∈ sl, ∃ u, tmps[p.1]? = some u ∧ DnV β' F w p.2 u := by
  obtain ⟨ρ, k1, k2, k3⟩ := mtSl_ok hs hm
  obtain ⟨ρ', g1, g2, g3⟩ := mtH_sat k1 hw
  have hx : Ext (rb β ρ') F w (rb2 B.na β ρ') F w := ⟨rb2_b g2, fun _ h => h, fun _ _ => rfl⟩
  exact ⟨_, g3, fun p hp => by obtain ⟨u, h1, h2⟩ := k3 p hp; exact ⟨u, h1, (h2.ext g1.ext).ext hx⟩⟩
end
/-- A slice of one's own in a slot that the form reads is read from now on. -/
def frzOne (t : Vl) (j : Nat) (ts : Sl) (st : St) (K : Sl → St → Prop) : Prop :=
  match t, ts.get j with
  | .one (.rd _ _), some ⟨[], .v (.one (.sl id))⟩ => (match look st.h id with
    | some (.own _ a xs) => K ⟨ts.n, ts.gm, (j, ⟨[], .v (.one (.rd a xs))⟩) :: ts.l⟩ ⟨st.nx, del st.h id⟩
    | _ => K ts st)
  | _, _ => K ts st
def frzSlots : List (Nat × Vl) → Sl → St → (Sl → St → Prop) → Prop
  | [], ts, st, K => K ts st
  | (j, t) :: r, ts, st, K => frzOne t j ts st fun ts' st' => frzSlots r ts' st' K
/-- The state is of a form, once what the form reads is read. -/
def mtF (na : Nat) (ts : Sl) (st : St) (sl : List (Nat × Vl)) (h : List (Nat × Ck)) (nx : Nat) : Prop := frzSlots sl ts st fun ts' st' => mtSt na ts' st' sl h nx
section
variable {B : Base} {β : Nat → Option Value} {F : Nat → Prop} {w : World} {st : St}
theorem over_get {ts : Sl} {j i : Nat} {e : En} : (Sl.mk ts.n ts.gm ((j, e) :: ts.l)).get i = if j = i then (if i < ts.n then some e else none) else ts.get i := by
  unfold Sl.get
  simp only
  by_cases hj : j = i
  · rw [if_pos hj]
    split
    · rename_i hb
      rw [lkE_cons, if_pos hj, if_pos (Nat.succ_le_iff.1 (by simpa [Nat.blt] using hb))]
    · rename_i hb
      rw [if_neg (by intro h; rw [blt_t h] at hb; cases hb)]
  · rw [if_neg hj]
    split
    · rw [lkE_cons, if_neg hj]
    · rfl
theorem over_gd {ts : Sl} {j : Nat} {e : En} {v : Rs} (h : ts.get j = some ⟨[], v⟩) (h1 : boolR v = none) (h2 : boolR e.v = none) : ∀ ch : List (Nat × Bool), gd (Sl.mk ts.n ts.gm ((j, e) :: ts.l)) ch = gd ts ch
  | [] => rfl
  | (s, want) :: r => by
    simp only [gd]
    rw [over_gd h h1 h2 r, over_get]
    by_cases hj : j = s
    · subst hj
      rw [if_pos rfl, if_pos (Sl.get_lt h), h]
      simp only [h1, h2]
    · rw [if_neg hj]
theorem own_bk0 {v : Value} {k : Nat} (h : v.ownBlock = some k) : bk (some v) = some k := by
  unfold Value.ownBlock at h
  split at h
  · cases h; rfl
  · cases h
theorem frzOne_ok {t : Vl} {j : Nat} {ts : Sl} {K : Sl → St → Prop} (h : frzOne t j ts st K) {tmps : Array Value} (hs : SlOk β F w ts tmps) (hw : Sat B β F st w) :
    ∃ ts' st' F', K ts' st' ∧ SlOk β F' w ts' tmps ∧ Sat B β F' st' w := by
  unfold frzOne at h
  split at h
  · rename_i id hg
    split at h
    · rename_i ty a xs hl
      obtain ⟨F', f1, f2, f3, f4, _⟩ := hw.freeze hl
      refine ⟨_, _, F', h, ⟨hs.size, fun i e he => ?_, fun i e he p hp => ?_, f4.frz.gl⟩, f4⟩
      · rw [over_gd hg rfl rfl]
        rw [over_get] at he
        by_cases hj : j = i
        · subst hj
          rw [if_pos rfl, if_pos (Sl.get_lt hg)] at he
          cases he
          obtain ⟨u, u1, u2, _⟩ := hs.at_ j _ hg
          obtain ⟨u3, _⟩ : Dn β F w (.sl id) u := u2 rfl
          refine ⟨u, u1, fun _ => ?_, fun hf => by cases hf⟩
          obtain ⟨v, vs, c1, c2, c3⟩ := hw.cks _ (look_mem hl)
          rw [c1] at u3
          cases u3
          exact own_rd c2 c3 f1 fun k hk => f2 k (by rw [c1]; exact own_bk0 hk)
        · rw [if_neg hj] at he
          obtain ⟨u, u1, u2, u3⟩ := (hs.ext f3).at_ i e he
          exact ⟨u, u1, u2, u3⟩
      · rw [over_get] at he
        by_cases hj : j = i
        · subst hj
          rw [if_pos rfl, if_pos (Sl.get_lt hg)] at he
          cases he
          cases hp
        · rw [if_neg hj] at he
          exact hs.use i e he p hp
    · exact ⟨_, _, F, h, hs, hw⟩
  · exact ⟨_, _, F, h, hs, hw⟩
theorem frzSlots_ok : ∀ {sl : List (Nat × Vl)} {ts : Sl} {st : St} {F : Nat → Prop} {K : Sl → St → Prop}, frzSlots sl ts st K → ∀ {tmps : Array Value}, SlOk β F w ts tmps → Sat B β F st w →
    ∃ ts' st' F', K ts' st' ∧ SlOk β F' w ts' tmps ∧ Sat B β F' st' w
  | [], ts, st, F, K, h, tmps, hs, hw => ⟨_, _, F, h, hs, hw⟩
  | (j, t) :: r, ts, st, F, K, h, tmps, hs, hw => by
    obtain ⟨ts1, st1, F1, k1, k2, k3⟩ := frzOne_ok h hs hw
    exact frzSlots_ok k1 k2 k3
theorem mtF_ok {ts : Sl} {sl : List (Nat × Vl)} {h : List (Nat × Ck)} {nx : Nat} (hm : mtF B.na ts st sl h nx) {tmps : Array Value} (hs : SlOk β F w ts tmps) (hw : Sat B β F st w) :
    ∃ β' F', Sat B β' F' ⟨nx, h⟩ w ∧ ∀ p ∈ sl, ∃ u, tmps[p.1]? = some u ∧ DnV β' F' w p.2 u := by
  obtain ⟨ts1, st1, F1, k1, k2, k3⟩ := frzSlots_ok hm hs hw
  obtain ⟨β', g1, g2⟩ := mtSt_ok k1 k2 k3
  exact ⟨β', F1, g1, g2⟩
end
def tmplL : List (Nat × Vl) → List (Nat × En)
  | [] => []
  | (j, v) :: r => (j, ⟨[], .v v⟩) :: tmplL r
def tmplTs (n : Nat) (l : List (Nat × Vl)) : Sl := ⟨n, 0, tmplL l⟩
theorem tmplL_get : ∀ {sl : List (Nat × Vl)} {i : Nat} {e : En}, lkE (tmplL sl) i = some e → e.ch = [] ∧ (e.v = .v (.one .any) ∨ ∃ v, (i, v) ∈ sl ∧ e.v = .v v)
  | [], i, e, h => by cases h; exact ⟨rfl, .inl rfl⟩
  | (j, v) :: r, i, e, h => by
    simp only [tmplL, lkE_cons] at h
    split at h
    · rename_i hij
      cases h
      exact ⟨rfl, .inr ⟨v, by simp [← hij], rfl⟩⟩
    · obtain ⟨h1, h2⟩ := tmplL_get h
      exact ⟨h1, h2.imp id fun ⟨v', h3, h4⟩ => ⟨v', by simp [h3], h4⟩⟩
theorem tmplTs_get {n : Nat} {sl : List (Nat × Vl)} {i : Nat} {e : En} (h : (tmplTs n sl).get i = some e) : i < n ∧ e.ch = [] ∧ (e.v = .v (.one .any) ∨ ∃ v, (i, v) ∈ sl ∧ e.v = .v v) := by
  refine ⟨Sl.get_lt h, ?_⟩
  have h : lkE (tmplL sl) i = some e := by
    unfold Sl.get at h
    split at h
    · exact h
    · cases h
  exact tmplL_get h
theorem tmplTs_ok {β : Nat → Option Value} {F : Nat → Prop} {w : World} {n : Nat} {sl : List (Nat × Vl)} {tmps : Array Value} (hn : tmps.size = n) (h : ∀ p ∈ sl, ∃ u, tmps[p.1]? = some u ∧ DnV β F w p.2 u) (hgl : GlOk F w) : SlOk β F w (tmplTs n sl) tmps := by
  refine ⟨hn, fun i e he => ?_, fun i e he p hp => ?_, hgl⟩
  · obtain ⟨hlt, h1, h2⟩ := tmplTs_get he
    rw [← hn] at hlt
    rw [h1]
    rcases h2 with h2 | ⟨v, h3, h4⟩
    · exact ⟨tmps[i], by simp [hlt], fun _ => by rw [h2]; trivial, fun e => by cases e⟩
    · obtain ⟨u, h5, h6⟩ := h _ h3
      exact ⟨u, h5, fun _ => by rw [h4]; exact h6, fun e => by cases e⟩
  · rw [(tmplTs_get he).2.1] at hp; cases hp
/-- What holds at the head of a loop. -/
structure LoopSp where
  X : Type
  sl : X → List (Nat × Vl)
  h : X → List (Nat × Ck)
  nx : Nat
  inv : X → Prop
  mu : X → Nat
  cut : Bool := false
  kp : List Nat := []
  ln : X → List (Nat × Int) := fun _ => []
  kq : Option Nat := none
/-- Slots behind guards are forgotten. -/
def clrL : List (Nat × En) → List (Nat × En)
  | [] => []
  | (i, ⟨[], v⟩) :: r => (i, ⟨[], v⟩) :: clrL r
  | (i, ⟨_ :: _, _⟩) :: r => (i, anyE) :: clrL r
def clr (ts : Sl) : Sl := match Nat.beq ts.gm 0 with | true => ts | false => ⟨ts.n, 0, clrL ts.l⟩
theorem clrL_get : ∀ {l : List (Nat × En)} {i : Nat} {e : En}, lkE (clrL l) i = some e → e.ch = [] ∧ (e.v = .v (.one .any) ∨ lkE l i = some e)
  | [], i, e, h => by cases h; exact ⟨rfl, .inl rfl⟩
  | (j, ⟨[], v⟩) :: r, i, e, h => by
    simp only [clrL, lkE_cons] at h ⊢
    split at h
    · rename_i hij; cases h; exact ⟨rfl, .inr (by rw [if_pos hij])⟩
    · rename_i hij; obtain ⟨h1, h2⟩ := clrL_get h; exact ⟨h1, by rw [if_neg hij]; exact h2⟩
  | (j, ⟨_ :: _, _⟩) :: r, i, e, h => by
    simp only [clrL, lkE_cons] at h ⊢
    split at h
    · cases h; exact ⟨rfl, .inl rfl⟩
    · rename_i hij; obtain ⟨h1, h2⟩ := clrL_get h; exact ⟨h1, by rw [if_neg hij]; exact h2⟩
theorem clr_ok {β : Nat → Option Value} {F : Nat → Prop} {w : World} {ts : Sl} {tmps : Array Value} (h : SlOk β F w ts tmps) : SlOk β F w (clr ts) tmps := by
  unfold clr
  split
  · exact h
  · have gt : ∀ {i : Nat} {e : En}, (Sl.mk ts.n 0 (clrL ts.l)).get i = some e → i < ts.n ∧ e.ch = [] ∧ (e.v = .v (.one .any) ∨ ts.get i = some e) := fun {i e} he => by
      have hlt := Sl.get_lt he
      refine ⟨hlt, ?_⟩
      unfold Sl.get at he ⊢
      rw [blt_t hlt] at he ⊢
      exact clrL_get he
    refine ⟨h.size, fun i e he => ?_, fun i e he p hp => ?_, h.gl⟩
    · obtain ⟨hlt, h1, h2⟩ := gt he
      rw [← h.size] at hlt
      rw [h1]
      rcases h2 with h2 | h2
      · exact ⟨tmps[i], by simp [hlt], fun _ => by rw [h2]; trivial, fun e => by cases e⟩
      · obtain ⟨u, h3, h4, h5⟩ := h.at_ i e h2
        rw [h1] at h4
        exact ⟨u, h3, fun _ => h4 rfl, fun e => by cases e⟩
    · rw [(gt he).2.1] at hp; cases hp
def firstR : Code → Nat
  | .region id _ _ => id
  | .seq a _ => firstR a
  | .block _ a => firstR a
  | .loop a => firstR a
  | .scope a => firstR a
  | _ => 0
/-- Slots that are as they were. -/
def keepSl (ts : Sl) (l : List (Nat × Vl)) : List Nat → List (Nat × Vl)
  | [] => l
  | j :: r => (match ts.get j with
    | some ⟨[], .v v⟩ => (j, v) :: keepSl ts l r
    | _ => keepSl ts l r)
/-- The text never leaves by that exit. -/
def noExit (i : Nat) : Code → Bool
  | .exit j => !(Nat.beq j i)
  | .seq a b => noExit i a && noExit i b
  | .cond _ a b => noExit i a && noExit i b
  | .block _ a => noExit i a
  | .loop a => noExit i a
  | _ => true
/-- Where ways meet: a form for what follows. -/
def cutAt (lp : Nat → Option LoopSp) (r : Nat) : Option LoopSp := match lp r with
  | some L => (match L.cut with | true => some L | false => none)
  | none => none
/-- The variables that a region leaves as they are. -/
def keptAt (lp : Nat → Option LoopSp) (r : Nat) : Option Nat := match lp r with
  | some L => L.kq
  | none => none
/-- The numbers that slots held as the loop was reached. -/
def lnkC (ts : Sl) : List (Nat × Int) → Prop
  | [] => True
  | (j, a) :: r => (match ts.get j with
    | some ⟨[], .v (.one c)⟩ => (match intV c with | some (_, z) => a = z ∧ lnkC ts r | none => False)
    | _ => False)
def lnkP (ts : Sl) (p : Prop) : List (Nat × Int) → Prop
  | [] => p
  | (j, a) :: r => (match ts.get j with
    | some ⟨[], .v (.one c)⟩ => (match intV c with | some (_, z) => a = z ∧ lnkP ts p r | none => False)
    | _ => False)
def lnkI (ts : Sl) (p : Prop) : List (Nat × Int) → Prop
  | [] => p
  | (j, a) :: r => (match ts.get j with
    | some ⟨[], .v (.one c)⟩ => (match intV c with | some (_, z) => a = z → lnkI ts p r | none => False)
    | _ => False)
theorem lnkP_ok {ts : Sl} {p : Prop} : ∀ {l : List (Nat × Int)}, lnkP ts p l → lnkC ts l ∧ p
  | [], h => ⟨trivial, h⟩
  | (j, a) :: r, h => by
    unfold lnkP at h
    unfold lnkC
    split at h
    · rename_i c hc
      split at h
      · rename_i k z hz
        obtain ⟨h1, h2⟩ := h
        obtain ⟨h3, h4⟩ := lnkP_ok h2
        exact ⟨⟨h1, h3⟩, h4⟩
      · exact h.elim
    · exact h.elim
theorem lnkI_ok {ts : Sl} {p : Prop} : ∀ {l : List (Nat × Int)}, lnkI ts p l → lnkC ts l → p
  | [], h, _ => h
  | (j, a) :: r, h, k => by
    unfold lnkI at h
    unfold lnkC at k
    split at h
    · rename_i c hc
      rw [hc] at k
      simp only at k
      split at h
      · rename_i k' z hz
        rw [hz] at k
        exact lnkI_ok (h k.1) k.2
      · exact h.elim
    · exact h.elim
section
variable (T : Tb) (sp : FuncId → Option Spec) (lp : Nat → Option LoopSp) (na : Nat)
/-- A loop that has no form yet: what is there. -/
def noForm (r : Nat) (l : List (Nat × En)) (h : List (Nat × Ck)) : Prop := False ∧ r = r ∧ l = l ∧ h = h
def exec : Code → Sl → St → (Exit → Sl → St → Prop) → Prop
  | .skip, ts, st, Q => Q .normal ts st
  | .region _ ops false, ts, st, Q => opers T sp ops ops.toList (clr ts) st (Q .normal)
  | .region id ops true, ts, st, Q => (match noSelL ops.toList with
    | true => forceOM .any ops ops.toList fun tab => (match keptAt lp id with
      | none => forceN (tightM sp tab ops.toList 0 (maskL (rsOf sp 0 ops.toList))) fun rm => sig T sp tab rm ops ops.size 0 (clr ts) st (Q .normal)
      | some kq => sigW T sp kq tab ops ops.size 0 (clr ts) st (Q .normal))
    | false => False)
  | .seq a b, ts, st, Q => (match cutAt lp (firstR b) with
    | none => exec a ts st fun e ts' st' => (match e with | .normal => exec b ts' st' Q | e => Q e ts' st')
    | some L => exec a ts st (fun e ts' st' => (match e with
      | .normal => (match Nat.beq ts'.n ts.n with | true => ∃ y, L.inv y ∧ lnkP ts (mtF na ts' st' (keepSl ts (L.sl y) L.kp) (L.h y) L.nx) (L.ln y) | false => False)
      | e => Q e ts' st')) ∧ ∀ x, L.inv x → lnkI ts (exec b (tmplTs ts.n (keepSl ts (L.sl x) L.kp)) ⟨L.nx, L.h x⟩ Q) (L.ln x))
  | .cond c a b, ts, st, Q => (match ev ts [] c with
    | some (.v (.one cv)) => (match isLit cv, boolV cv with
      | false, some x => (x = true → exec a ts st Q) ∧ (x = false → exec b ts st Q)
      | true, some x => (match x with | true => exec a ts st Q | false => exec b ts st Q)
      | _, none => False)
    | _ => False)
  | .block id a, ts, st, Q => exec a ts st fun e ts' st' => (match e with
    | .exit i => (match Nat.beq i id with | true => Q .normal ts' st' | false => Q (.exit i) ts' st')
    | e => Q e ts' st')
  | .loop a, ts, st, Q => (match lp (firstR a) with
    | some L => (∃ x, L.inv x ∧ lnkP ts (mtF na ts st (L.sl x) (L.h x) L.nx) (L.ln x)) ∧ ∀ x, L.inv x → lnkI ts (exec a (tmplTs ts.n (L.sl x)) ⟨L.nx, L.h x⟩ fun e ts' st' => (match e with
      | .normal => (match Nat.beq ts'.n ts.n with | true => ∃ y, L.inv y ∧ lnkP ts (L.mu y < L.mu x ∧ mtF na ts' st' (L.sl y) (L.h y) L.nx) (L.ln y) | false => False)
      | e => Q e ts' st')) (L.ln x)
    | none => forceN (firstR a) fun r => noForm r ts.l st.h)
  | .exit i, ts, st, Q => Q (.exit i) ts st
  | .ret, ts, st, Q => Q .ret ts st
  | _, _, _, _ => False
end
section
variable {T : Tb} {sp : FuncId → Option Spec} {lp : Nat → Option LoopSp} {P : Program} {B : Base}
theorem exec_okE {ds : List Deferred} (hm : P.follows .mixedOrders = true) (hT : ∀ t i, T t = some i → TyOk P t i) (hsp : ∀ f S, sp f = some S → Valid P f S) :
    ∀ (c : Code) (ts : Sl) (st : St) (β : Nat → Option Value) (F : Nat → Prop) (a : Act) (w : World) (Qs : Exit → Sl → St → Prop) (Q : Exit → Act → World → Prop),
      exec T sp lp B.na c ts st Qs → SlOk β F w ts a.tmps → Sat B β F st w → a.defers = ds →
      (∀ e ts' st' β' F' a' w', Qs e ts' st' → SlOk β' F' w' ts' a'.tmps → Sat B β' F' st' w' → a'.defers = ds → (∀ i, noExit i c = true → e ≠ .exit i) → Q e a' w') → c.wp P Q a w
  | .skip, ts, st, β, F, a, w, Qs, Q, h, hs, hw, hd, hQ => Go.wp_skip (hQ _ _ _ _ _ _ _ h hs hw hd (fun _ _ h => by cases h))
  | .region id ops false, ts, st, β, F, a, w, Qs, Q, h, hs, hw, hd, hQ => by
    refine wp_region_list (opers_ok hT hsp ops.toList (clr ts) st β F a w h (clr_ok hs) hw fun ts' st' β' F' a' w' h1 _ h3 h4 h5 => hQ _ _ _ _ _ _ _ h1 h3 h4 (h5.trans hd) (fun _ _ h => by cases h))
  | .region id ops true, ts, st, β, F, a, w, Qs, Q, h, hs, hw, hd, hQ => by
    simp only [exec, forceOM_eq, forceN_eq] at h
    split at h
    · rename_i hB
      have hB := noSelL_ok hB
      have hb : Below w.heap.size w w.drew := (Below.refl _ _).drew
      obtain ⟨x1, x2⟩ := hw.below hb (fun _ h => h) (fun _ h => .inl h)
      split at h
      · refine wp_region_any hm (core_any ?_ _ _ _ _ _ (sig_ok hT hsp hB ops.size (Array.replicate ops.size false) 0 (clr ts) st β F a w.drew h Rel.init (Cl.init _) (clr_ok (hs.ext x1)) x2 hd))
        rintro a' w' ⟨ts', st', β', F', k1, k2, k3, k4⟩
        exact hQ _ _ _ _ _ _ _ k1 k2 k3 k4 (fun _ _ h => by cases h)
      · refine wp_region_any hm (core_any ?_ _ _ _ _ _ (sigW_ok (rm := 0) hT hsp hB ops.size (Array.replicate ops.size false) 0 (clr ts) st β F a w.drew h Rel.init (Cl.init _) (clr_ok (hs.ext x1)) x2 hd))
        rintro a' w' ⟨ts', st', β', F', k1, k2, k3, k4⟩
        exact hQ _ _ _ _ _ _ _ k1 k2 k3 k4 (fun _ _ h => by cases h)
    · exact h.elim
  | .seq x y, ts, st, β, F, a, w, Qs, Q, h, hs, hw, hd, hQ => by
    unfold exec at h
    split at h
    · refine wp_seq (exec_okE hm hT hsp x ts st β F a w _ _ h hs hw hd fun e ts' st' β' F' a' w' h1 h2 h3 h4 h5 => ?_)
      cases e with
      | normal => exact exec_okE hm hT hsp y ts' st' β' F' a' w' _ _ h1 h2 h3 h4 fun e ts' st' β' F' a' w' g1 g2 g3 g4 g5 => hQ e ts' st' β' F' a' w' g1 g2 g3 g4 fun i hi => g5 i (by simp only [noExit, Bool.and_eq_true] at hi; exact hi.2)
      | _ => exact hQ _ _ _ _ _ _ _ h1 h2 h3 h4 fun i hi => h5 i (by simp only [noExit, Bool.and_eq_true] at hi; exact hi.1)
    · rename_i L hL
      obtain ⟨hx, hy⟩ := h
      refine wp_seq (exec_okE hm hT hsp x ts st β F a w _ _ hx hs hw hd fun e ts' st' β' F' a' w' h1 h2 h3 h4 h5 => ?_)
      cases e with
      | normal =>
        simp only at h1
        split at h1
        case h_2 => exact h1.elim
        rename_i hlen
        obtain ⟨z, z1, z2⟩ := h1
        obtain ⟨z3, z2⟩ := lnkP_ok z2
        obtain ⟨β3, F3, k1, k2⟩ := mtF_ok z2 h2 h3
        exact exec_okE hm hT hsp y _ _ β3 F3 a' w' _ _ (lnkI_ok (hy z z1) z3) (tmplTs_ok (by rw [h2.size, Nat.eq_of_beq_eq_true hlen]) k2 k1.frz.gl) k1 h4 fun e ts' st' β' F' a' w' g1 g2 g3 g4 g5 => hQ e ts' st' β' F' a' w' g1 g2 g3 g4 fun i hi => g5 i (by simp only [noExit, Bool.and_eq_true] at hi; exact hi.2)
      | _ => exact hQ _ _ _ _ _ _ _ h1 h2 h3 h4 fun i hi => h5 i (by simp only [noExit, Bool.and_eq_true] at hi; exact hi.1)
  | .cond c x y, ts, st, β, F, a, w, Qs, Q, h, hs, hw, hd, hQ => by
    simp only [exec] at h
    split at h
    · rename_i cv hc
      have hcd := ev_dn hc rfl hs
      split at h
      · rename_i b hl hb
        refine wp_cond_split (boolV_dn hb hcd) (fun e => ?_) (fun e => ?_)
        · exact exec_okE hm hT hsp x ts st β F a w _ _ (h.1 e) hs hw hd fun e ts' st' β' F' a' w' g1 g2 g3 g4 g5 => hQ e ts' st' β' F' a' w' g1 g2 g3 g4 fun i hi => g5 i (by simp only [noExit, Bool.and_eq_true] at hi; exact hi.1)
        · exact exec_okE hm hT hsp y ts st β F a w _ _ (h.2 e) hs hw hd fun e ts' st' β' F' a' w' g1 g2 g3 g4 g5 => hQ e ts' st' β' F' a' w' g1 g2 g3 g4 fun i hi => g5 i (by simp only [noExit, Bool.and_eq_true] at hi; exact hi.2)
      · rename_i b hl hb
        refine wp_cond_split (boolV_dn hb hcd) (fun e => ?_) (fun e => ?_)
        · subst e; exact exec_okE hm hT hsp x ts st β F a w _ _ h hs hw hd fun e ts' st' β' F' a' w' g1 g2 g3 g4 g5 => hQ e ts' st' β' F' a' w' g1 g2 g3 g4 fun i hi => g5 i (by simp only [noExit, Bool.and_eq_true] at hi; exact hi.1)
        · subst e; exact exec_okE hm hT hsp y ts st β F a w _ _ h hs hw hd fun e ts' st' β' F' a' w' g1 g2 g3 g4 g5 => hQ e ts' st' β' F' a' w' g1 g2 g3 g4 fun i hi => g5 i (by simp only [noExit, Bool.and_eq_true] at hi; exact hi.2)
      · exact h.elim
    · exact h.elim
  | .block id x, ts, st, β, F, a, w, Qs, Q, h, hs, hw, hd, hQ => by
    refine wp_block (exec_okE hm hT hsp x ts st β F a w _ _ h hs hw hd fun e ts' st' β' F' a' w' h1 h2 h3 h4 h5 => ?_)
    cases e with
    | exit i =>
      simp only [Exit.inBlock] at h1 ⊢
      split at h1
      · rename_i e
        rw [if_pos (Nat.eq_of_beq_eq_true e)]
        exact hQ _ _ _ _ _ _ _ h1 h2 h3 h4 (fun _ _ h => by cases h)
      · rename_i e
        rw [if_neg (Nat.ne_of_beq_eq_false e)]
        exact hQ _ _ _ _ _ _ _ h1 h2 h3 h4 h5
    | _ => exact hQ _ _ _ _ _ _ _ h1 h2 h3 h4 h5
  | .loop c, ts, st, β, F, a, w, Qs, Q, h, hs, hw, hd, hQ => by
    simp only [exec] at h
    split at h
    · rename_i L hL
      obtain ⟨⟨x0, i0, m0⟩, hr⟩ := h
      obtain ⟨n0, m0⟩ := lnkP_ok m0
      refine wp_loop_ghost (fun n a' w' => ∃ (x : L.X) (β' : Nat → Option Value) (F' : Nat → Prop), L.mu x = n ∧ (L.inv x ∧ lnkC ts (L.ln x)) ∧ SlOk β' F' w' (tmplTs ts.n (L.sl x)) a'.tmps ∧ Sat B β' F' ⟨L.nx, L.h x⟩ w' ∧ a'.defers = ds) (L.mu x0) ?_ ?_
      · obtain ⟨β', F0, k1, k2⟩ := mtF_ok m0 hs hw
        exact ⟨x0, β', F0, rfl, ⟨i0, n0⟩, tmplTs_ok hs.size k2 k1.frz.gl, k1, hd⟩
      · rintro n a' w' ⟨x, β', F', rfl, hi, hs', hw', hd'⟩
        refine exec_okE hm hT hsp c _ _ β' F' a' w' _ _ (lnkI_ok (hr x hi.1) hi.2) hs' hw' hd' fun e ts'' st'' β'' F'' a'' w'' h1 h2 h3 h4 h5 => ?_
        cases e with
        | normal =>
          simp only at h1
          split at h1
          case h_2 => exact h1.elim
          rename_i hlen
          obtain ⟨y, y1, y2⟩ := h1
          obtain ⟨y4, y2, y3⟩ := lnkP_ok y2
          obtain ⟨β3, F3, k1, k2⟩ := mtF_ok y3 h2 h3
          refine ⟨L.mu y, y2, y, β3, F3, rfl, ⟨y1, y4⟩, tmplTs_ok ?_ k2 k1.frz.gl, k1, h4⟩
          rw [h2.size, Nat.eq_of_beq_eq_true hlen]
        | _ => exact hQ _ _ _ _ _ _ _ h1 h2 h3 h4 h5
    · rw [forceN_eq] at h; exact h.1.elim
  | .exit i, ts, st, β, F, a, w, Qs, Q, h, hs, hw, hd, hQ => wp_exit (hQ _ _ _ _ _ _ _ h hs hw hd (fun j hj e => by cases e; simp [noExit, Nat.beq_refl] at hj))
  | .ret, ts, st, β, F, a, w, Qs, Q, h, hs, hw, hd, hQ => wp_ret (hQ _ _ _ _ _ _ _ h hs hw hd (fun _ _ h => by cases h))
  | .rangeFunc .., ts, st, β, F, a, w, Qs, Q, h, hs, hw, hd, hQ => h.elim
  | .scope _, ts, st, β, F, a, w, Qs, Q, h, hs, hw, hd, hQ => h.elim
  | .label _, ts, st, β, F, a, w, Qs, Q, h, hs, hw, hd, hQ => h.elim
  | .goto _, ts, st, β, F, a, w, Qs, Q, h, hs, hw, hd, hQ => h.elim
  | .refuse _, ts, st, β, F, a, w, Qs, Q, h, hs, hw, hd, hQ => h.elim
theorem exec_okD {ds : List Deferred} (hm : P.follows .mixedOrders = true) (hT : ∀ t i, T t = some i → TyOk P t i) (hsp : ∀ f S, sp f = some S → Valid P f S) :
    ∀ (c : Code) (ts : Sl) (st : St) (β : Nat → Option Value) (F : Nat → Prop) (a : Act) (w : World) (Qs : Exit → Sl → St → Prop) (Q : Exit → Act → World → Prop),
      exec T sp lp B.na c ts st Qs → SlOk β F w ts a.tmps → Sat B β F st w → a.defers = ds →
      (∀ e ts' st' β' F' a' w', Qs e ts' st' → SlOk β' F' w' ts' a'.tmps → Sat B β' F' st' w' → a'.defers = ds → Q e a' w') → c.wp P Q a w :=
  fun c ts st β F a w Qs Q h hs hw hd hQ => exec_okE hm hT hsp c ts st β F a w Qs Q h hs hw hd fun e ts' st' β' F' a' w' h1 h2 h3 h4 _ => hQ e ts' st' β' F' a' w' h1 h2 h3 h4
theorem exec_ok (hm : P.follows .mixedOrders = true) (hT : ∀ t i, T t = some i → TyOk P t i) (hsp : ∀ f S, sp f = some S → Valid P f S) (c : Code) (ts : Sl) (st : St) (β : Nat → Option Value) (F : Nat → Prop) (a : Act) (w : World) (Qs : Exit → Sl → St → Prop) (Q : Exit → Act → World → Prop)
    (h : exec T sp lp B.na c ts st Qs) (hs : SlOk β F w ts a.tmps) (hw : Sat B β F st w) (hd : a.defers = [])
    (hQ : ∀ e ts' st' β' F' a' w', Qs e ts' st' → SlOk β' F' w' ts' a'.tmps → Sat B β' F' st' w' → a'.defers = [] → Q e a' w') : c.wp P Q a w := exec_okD hm hT hsp c ts st β F a w Qs Q h hs hw hd hQ
end
end Go.Proofs.YtnbbooilapelmaaGreatDoor.V
