/-
  A symbolic run of a function's text: tables of contracts; literal arguments as values.
-/
import Derived.Test.YtnbbooilapelmaaGreatDoorKitVm
set_option linter.unusedVariables false
set_option linter.unusedSimpArgs false
namespace Go.Proofs.YtnbbooilapelmaaGreatDoor.V
open Go.RowKit Go.Proofs.YtnbbooilapelmaaGreatDoor
def nrmC : CV → CV
  | .il k z => .val (.int k z)
  | .bl b => .val (.bool b)
  | c => c
def nrmL : List CV → List CV
  | [] => []
  | c :: r => nrmC c :: nrmL r
def nrm : List Vl → List Vl
  | [] => []
  | .one c :: r => .one (nrmC c) :: nrm r
  | .agg l :: r => .agg (nrmL l) :: nrm r
def nrmR : Rs → Rs
  | .v (.one c) => .v (.one (nrmC c))
  | .v (.agg l) => .v (.agg (nrmL l))
  | .tup l => .tup (nrm l)
section
variable {β : Nat → Option Value} {F : Nat → Prop} {w : World} {P : Program}
theorem nrmC_dn {c : CV} {u : Value} (h : Dn β F w c u) : Dn β F w (nrmC c) u := by
  cases c <;> first | exact h | exact ⟨h.1, h.2⟩ | exact ⟨h, trivial⟩
theorem nrmCC_dn {c : CV} {l : List Value} (h : DnC β F w c l) : DnC β F w (nrmC c) l := by
  cases c with
  | il k z => obtain ⟨u, h1, h2, h3⟩ := h; exact ⟨u, h1, nrmC_dn (c := .il k z) h2, by first | exact h3 | trivial⟩
  | bl b => obtain ⟨u, h1, h2, h3⟩ := h; exact ⟨u, h1, nrmC_dn (c := .bl b) h2, by first | exact h3 | trivial⟩
  | _ => exact h
theorem nrmL_dn : ∀ {c : List CV} {l : List Value}, DnL β F w c l → DnL β F w (nrmL c) l
  | [], l, hd => hd
  | c :: s, l, hd => by obtain ⟨a, b, e, h1, h2⟩ := hd; exact ⟨a, b, e, nrmCC_dn h1, nrmL_dn h2⟩
theorem nrm_dn : ∀ {c : List Vl} {l : List Value}, DnVs β F w c l → DnVs β F w (nrm c) l
  | [], l, hd => hd
  | .one c :: s, l, hd => by obtain ⟨a, b, e, h1, h2⟩ := hd; exact ⟨a, b, e, nrmC_dn h1, nrm_dn h2⟩
  | .agg c :: s, l, hd => by obtain ⟨a, b, e, ⟨vs, h0, h1⟩, h2⟩ := hd; exact ⟨a, b, e, ⟨vs, h0, nrmL_dn h1⟩, nrm_dn h2⟩
theorem unC_dn {c : CV} {u : Value} (h : Dn β F w (nrmC c) u) : Dn β F w c u := by
  cases c <;> first | exact h | exact ⟨h.1, h.2⟩ | exact h.1
theorem unCC_dn {c : CV} {l : List Value} (h : DnC β F w (nrmC c) l) : DnC β F w c l := by
  cases c with
  | il k z => obtain ⟨u, h1, h2, h3⟩ := h; exact ⟨u, h1, unC_dn (c := .il k z) h2, by first | exact h3 | trivial⟩
  | bl b => obtain ⟨u, h1, h2, h3⟩ := h; exact ⟨u, h1, unC_dn (c := .bl b) h2, by first | exact h3 | trivial⟩
  | _ => exact h
theorem unL_dn : ∀ {c : List CV} {l : List Value}, DnL β F w (nrmL c) l → DnL β F w c l
  | [], l, hd => hd
  | c :: s, l, hd => by obtain ⟨a, b, e, h1, h2⟩ := hd; exact ⟨a, b, e, unCC_dn h1, unL_dn h2⟩
theorem un_dn : ∀ {c : List Vl} {l : List Value}, DnVs β F w (nrm c) l → DnVs β F w c l
  | [], l, hd => hd
  | .one c :: s, l, hd => by obtain ⟨a, b, e, h1, h2⟩ := hd; exact ⟨a, b, e, unC_dn h1, un_dn h2⟩
  | .agg c :: s, l, hd => by obtain ⟨a, b, e, ⟨vs, h0, h1⟩, h2⟩ := hd; exact ⟨a, b, e, ⟨vs, h0, unL_dn h1⟩, un_dn h2⟩
theorem unR_dn {c : Rs} {u : Value} (h : DnR β F w (nrmR c) u) : DnR β F w c u := by
  cases c with
  | v c => cases c with
    | one c => exact unC_dn h
    | agg l => obtain ⟨vs, h0, h1⟩ := h; exact ⟨vs, h0, unL_dn h1⟩
  | tup l => obtain ⟨vs, h0, h1⟩ := h; exact ⟨vs, h0, un_dn h1⟩
theorem Valid.un {f : FuncId} {S : List Vl → Option Rs} (h : Valid P f (.tot fun a => (S a).map nrmR)) : Valid P f (.tot S) :=
  ⟨h.1, fun args r hr β F w vs hF hd => by
    obtain ⟨u, h1, h2⟩ := h.2 args (nrmR r) (by simp [hr]) β F w vs hF hd
    exact ⟨u, unR_dn h1, h2⟩⟩
theorem Valid.preU {f : FuncId} {S : List Vl → Option Rs} (h : Valid P f (.pre (preO fun a => (S a).map nrmR))) : Valid P f (.pre (preO fun a => S (V.nrm a))) :=
  ⟨h.1, fun args K hK β F w vs hF hd => by
    unfold preO at hK
    split at hK
    · rename_i r hr
      refine (h.2 (V.nrm args) (fun s => s = nrmR r) (by simp [preO, hr]) β F w vs hF (nrm_dn hd)).mono ?_
      rintro e w' ⟨u, r', F', h1, rfl, h3, h4, h5, h6⟩
      exact ⟨u, r, F', h1, hK, h3, h4, h5, unR_dn h6⟩
    · exact hK.elim⟩
theorem Valid.nrm {f : FuncId} {S : List Vl → Option Rs} (h : Valid P f (.tot S)) : Valid P f (.tot fun a => S (V.nrm a)) :=
  ⟨h.1, fun args r hr β F w vs hF hd => h.2 _ r hr β F w vs hF (nrm_dn hd)⟩
end
/-- A table of contracts. -/
def spL (L : List (Nat × Spec)) (f : FuncId) : Option Spec := look L f
theorem spL_ok {P : Program} {L : List (Nat × Spec)} (h : ∀ p ∈ L, Valid P p.1 p.2) : ∀ f S, spL L f = some S → Valid P f S := by
  induction L with
  | nil => intro f S e; cases e
  | cons p r ih =>
    obtain ⟨k, s⟩ := p
    intro f S e
    simp only [spL, look] at e
    split at e
    · rename_i hk
      cases e
      subst hk
      exact h (k, s) (by simp)
    · exact ih (fun p hp => h p (by simp [hp])) f S e
theorem vnil {P : Program} : ∀ p ∈ ([] : List (Nat × Spec)), Valid P p.1 p.2 := fun p hp => by cases hp
theorem vcons {P : Program} {f : Nat} {S : Spec} {L : List (Nat × Spec)} (h : Valid P f S) (hl : ∀ p ∈ L, Valid P p.1 p.2) : ∀ p ∈ (f, S) :: L, Valid P p.1 p.2 := fun p hp => by
  rcases List.mem_cons.1 hp with rfl | hp
  · exact h
  · exact hl p hp
end Go.Proofs.YtnbbooilapelmaaGreatDoor.V
