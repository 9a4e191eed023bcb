/-
  A symbolic run of a function's text: contracts of functions of data, by the shapes of what goes in and of what comes out.
-/
import Derived.Test.YtnbbooilapelmaaGreatDoorKitVn
set_option linter.unusedVariables false
set_option linter.unusedSimpArgs false
namespace Go.Proofs.YtnbbooilapelmaaGreatDoor.V
open Go.RowKit Go.Proofs.YtnbbooilapelmaaGreatDoor
/-- A parameter: is it a struct or an array, and its shape. -/
abbrev PS := Bool × Sh
@[reducible] def Tup : List PS → Type
  | [] => Unit
  | [p] => p.2.T
  | p :: q :: r => p.2.T × Tup (q :: r)
def hdC : List CV → CV | c :: _ => c | [] => .any
def scal : Sh → Bool | .int _ | .bool | .str | .sl _ => true | _ => false
def enV (p : PS) (x : p.2.T) : Vl := match p.1 with | true => .agg (mkC p.2 x) | false => .one (hdC (mkC p.2 x))
def enVs : (ps : List PS) → Tup ps → List Vl
  | [], _ => []
  | [p], x => [enV p x]
  | p :: q :: r, x => enV p x.1 :: enVs (q :: r) x.2
def deV (p : PS) (v : Vl) : Option p.2.T :=
  match p.1, v with
  | true, .agg l => (match unC p.2 l with | some (x, []) => some x | _ => none)
  | false, .one c => (match scal p.2, solid c with
    | true, true => (match unC p.2 [c] with | some (x, []) => some x | _ => none)
    | _, _ => none)
  | _, _ => none
def deVs : (ps : List PS) → List Vl → Option (Tup ps)
  | [], [] => some ()
  | [p], [v] => deV p v
  | p :: q :: r, v :: w :: s => (match deV p v, deVs (q :: r) (w :: s) with | some x, some y => some (x, y) | _, _ => none)
  | _, _ => none
def rngTup : (ps : List PS) → Tup ps → Prop
  | [], _ => True
  | [p], x => rngT p.2 x
  | p :: q :: r, x => rngT p.2 x.1 ∧ rngTup (q :: r) x.2
def enR (rs : List PS) (y : Tup rs) : Rs := mkRs (enVs rs y)
/-- It answers g, whatever it is given. -/
def tS (ps rs : List PS) (g : Tup ps → Tup rs) (vs : List Vl) : Option Rs := match deVs ps vs with | some x => some (enR rs (g x)) | none => none
/-- It answers g, new memory in it. -/
def gS (ps rs : List PS) (g : Tup ps → Tup rs) (vs : List Vl) (K : Rs → Prop) : Prop := match deVs ps vs with | some x => K (enR rs (g x)) | none => False
/-- Under a condition it answers something of which more is known. -/
def rS (ps rs : List PS) (pre : Tup ps → Prop) (R : Tup ps → Tup rs → Prop) (vs : List Vl) (K : Rs → Prop) : Prop := match deVs ps vs with | some x => pre x ∧ ∀ y, R x y → K (enR rs y) | none => False
section
variable {β : Nat → Option Value} {F : Nat → Prop} {w : World}
theorem enV_one {a : Sh} (hs : scal a = true) {x : a.T} {u : Value} (h : DnL β F w (mkC a x) [u]) : Dn β F w (hdC (mkC a x)) u := by
  cases a <;> simp [scal] at hs
  all_goals
    obtain ⟨l, m, e, ⟨v, rfl, h1, _⟩, h2⟩ := h
    simp at e
    rw [e.1]; exact h1
theorem dnC_one {c : CV} (hso : solid c = true) {u : Value} (hd : Dn β F w c u) : DnC β F w c [u] := by
  have h1 := Dn.one hso hd
  cases c <;> first | exact ⟨u, rfl, hd, h1⟩ | (exfalso; simp [solid] at hso; done)
theorem deV_ok {p : PS} {v : Vl} {x : p.2.T} (h : deV p v = some x) {u : Value} (hd : DnV β F w v u) : DnV β F w (enV p x) u := by
  obtain ⟨b, a⟩ := p
  unfold deV at h
  split at h
  · rename_i l hb
    split at h
    · rename_i y hy
      cases h
      obtain ⟨vs, rfl, hd⟩ := hd
      obtain ⟨l1, l2, rfl, h1, h2⟩ := unC_ok hy hd
      obtain rfl : l2 = [] := h2
      simp only at hb
      subst hb
      exact ⟨_, by simp, mkC_dn h1⟩
    · cases h
  · rename_i c hb
    split at h
    · rename_i hsc hso
      split at h
      · rename_i y hy
        cases h
        have hl : DnL β F w [c] [u] := ⟨[u], [], rfl, dnC_one hso hd, rfl⟩
        obtain ⟨l1, l2, e, h1, h2⟩ := unC_ok hy hl
        obtain rfl : l2 = [] := h2
        simp only at hb
        subst hb
        rw [List.append_nil] at e
        subst e
        exact enV_one hsc (mkC_dn h1)
      · cases h
    · cases h
  · cases h
theorem deVs_ok : ∀ {ps : List PS} {vs : List Vl} {x : Tup ps}, deVs ps vs = some x → ∀ {us : List Value}, DnVs β F w vs us → DnVs β F w (enVs ps x) us
  | [], [], _, _, us, h => h
  | [p], [v], x, h, us, hd => by
    obtain ⟨a, b, rfl, h1, h2⟩ := hd
    exact ⟨a, b, rfl, deV_ok h h1, h2⟩
  | p :: q :: r, v :: v' :: s, x, h, us, hd => by
    simp only [deVs] at h
    split at h
    · rename_i y z hy hz
      cases h
      obtain ⟨a, b, rfl, h1, h2⟩ := hd
      exact ⟨a, b, rfl, deV_ok hy h1, deVs_ok hz h2⟩
    · cases h
  | [], _ :: _, _, h, _, _ => by simp [deVs] at h
  | [_], [], _, h, _, _ => by simp [deVs] at h
  | [_], _ :: _ :: _, _, h, _, _ => by simp [deVs] at h
  | _ :: _ :: _, [], _, h, _, _ => by simp [deVs] at h
  | _ :: _ :: _, [_], _, h, _, _ => by simp [deVs] at h
theorem rngL_app : ∀ {l m : List CV}, rngL (l ++ m) → rngL l ∧ rngL m
  | [], m, h => ⟨trivial, h⟩
  | c :: l, m, h => ⟨⟨h.1, (rngL_app h.2).1⟩, (rngL_app h.2).2⟩
theorem rng_mkC : ∀ {a : Sh} {x : a.T}, rngL (mkC a x) → rngT a x
  | .int k, x, h => h.1
  | .bool, x, h => trivial
  | .str, x, h => h.1
  | .unit, x, h => trivial
  | .pair a b, x, h => ⟨rng_mkC (rngL_app h).1, rng_mkC (rngL_app h).2⟩
  | .arr n k, x, h => h.1
  | .sl a, x, h => h.1
theorem rng_hdC {a : Sh} (hs : scal a = true) {x : a.T} (h : rng (hdC (mkC a x))) : rngT a x := by
  cases a <;> simp [scal] at hs <;> exact rng_mkC ⟨h, trivial⟩
theorem noId_app : ∀ {l m : List CV}, noIdL l = true → noIdL m = true → noIdL (l ++ m) = true
  | [], m, _, h => h
  | c :: l, m, h, h' => by simp only [noIdL, Bool.and_eq_true] at h; simp [noIdL, h.1, noId_app h.2 h']
theorem noId_mkC : ∀ {a : Sh} {x : a.T}, noIdL (mkC a x) = true
  | .int k, x => rfl
  | .bool, x => rfl
  | .str, x => rfl
  | .unit, x => rfl
  | .pair a b, x => noId_app noId_mkC noId_mkC
  | .arr n k, x => rfl
  | .sl a, x => rfl
theorem noId_enV {p : PS} {x : p.2.T} : noIdV (enV p x) = true := by
  obtain ⟨b, a⟩ := p
  cases b
  · show noId (hdC (mkC a x)) = true
    have : noIdL (mkC a x) = true := noId_mkC
    cases h : mkC a x with
    | nil => rfl
    | cons c r => rw [h] at this; simp only [noIdL, Bool.and_eq_true] at this; exact this.1
  · exact noId_mkC
theorem noId_enVs : ∀ {ps : List PS} {x : Tup ps}, noIdVs (enVs ps x) = true
  | [], _ => rfl
  | [p], x => by simp [enVs, noIdVs, noId_enV]
  | p :: q :: r, x => by simp [enVs, noIdVs, noId_enV, noId_enVs (ps := q :: r)]
def psOk : List PS → Bool
  | [] => true
  | p :: r => (p.1 || scal p.2) && psOk r
theorem rng_enV {p : PS} (hp : (p.1 || scal p.2) = true) {x : p.2.T} (h : rngV (enV p x)) : rngT p.2 x := by
  obtain ⟨b, a⟩ := p
  cases b
  · exact rng_hdC (by simpa using hp) h
  · exact rng_mkC h
theorem rng_enVs : ∀ {ps : List PS} {x : Tup ps}, psOk ps = true → rngVs (enVs ps x) → rngTup ps x
  | [], _, _, _ => trivial
  | [p], x, hp, h => rng_enV (by simp only [psOk, Bool.and_eq_true] at hp; exact hp.1) h.1
  | p :: q :: r, x, hp, h => by
    rw [psOk, Bool.and_eq_true] at hp
    exact ⟨rng_enV hp.1 h.1, rng_enVs hp.2 h.2⟩
end
def noSl : Sh → Bool | .sl _ => false | .pair a b => noSl a && noSl b | _ => true
def noSls : List PS → Bool | [] => true | p :: r => noSl p.2 && noSls r
theorem cloL_app : ∀ {l m : List CV}, (cloL l).isSome = true → (cloL m).isSome = true → (cloL (l ++ m)).isSome = true
  | [], m, _, h => h
  | c :: l, m, h, h' => by
    simp only [cloL] at h
    split at h
    · rename_i a b ha hb
      obtain ⟨d, hd⟩ := Option.isSome_iff_exists.1 (cloL_app (l := l) (by rw [hb]; rfl) h')
      simp [cloL, ha, hd]
    · cases h
theorem clo_mkC : ∀ {a : Sh} {x : a.T}, noSl a = true → (cloL (mkC a x)).isSome = true
  | .int k, x, _ => rfl
  | .bool, x, _ => rfl
  | .str, x, _ => rfl
  | .unit, x, _ => rfl
  | .pair a b, x, h => by simp only [noSl, Bool.and_eq_true] at h; exact cloL_app (clo_mkC h.1) (clo_mkC h.2)
  | .arr n k, x, _ => rfl
theorem clo_enV {p : PS} (hp : (p.1 || scal p.2) = true) (hn : noSl p.2 = true) {x : p.2.T} : (cloV (enV p x)).isSome = true := by
  obtain ⟨b, a⟩ := p
  cases b
  · cases a <;> simp [scal] at hp <;> first | rfl | cases hn
  · have := clo_mkC (x := x) hn
    obtain ⟨m, hm⟩ := Option.isSome_iff_exists.1 this
    simp [enV, cloV, hm]
theorem clo_enVs : ∀ {ps : List PS} {x : Tup ps}, psOk ps = true → noSls ps = true → (cloVs (enVs ps x)).isSome = true
  | [], _, _, _ => rfl
  | [p], x, hp, hn => by
    simp only [psOk, noSls, Bool.and_true] at hp hn
    obtain ⟨m, hm⟩ := Option.isSome_iff_exists.1 (clo_enV (x := x) hp hn)
    simp [enVs, cloVs, hm]
  | p :: q :: r, x, hp, hn => by
    rw [psOk, Bool.and_eq_true] at hp
    rw [noSls, Bool.and_eq_true] at hn
    obtain ⟨m, hm⟩ := Option.isSome_iff_exists.1 (clo_enV (x := x.1) hp.1 hn.1)
    obtain ⟨n, hn⟩ := Option.isSome_iff_exists.1 (clo_enVs (x := x.2) hp.2 hn.2)
    simp [enVs, cloVs, hm, hn]
theorem clo_enR {rs : List PS} {y : Tup rs} (hp : psOk rs = true) (hn : noSls rs = true) : (cloR (enR rs y)).isSome = true := by
  have h := clo_enVs (x := y) hp hn
  unfold enR
  match h1 : enVs rs y with
  | [] => rw [h1] at h; rfl
  | [v] => rw [h1] at h; obtain ⟨m, hm⟩ := Option.isSome_iff_exists.1 h; simp only [cloVs] at hm; cases hv : cloV v with | none => simp [hv] at hm | some x => simp [mkRs, cloR, hv]
  | a :: b :: r => rw [h1] at h; obtain ⟨m, hm⟩ := Option.isSome_iff_exists.1 h; simp only [mkRs, cloR, hm]; rfl
section
variable {T : Tb} {sp : FuncId → Option Spec} {P : Program}
theorem rS_ok (hm : P.follows .mixedOrders = true) (hT : ∀ t i, T t = some i → TyOk P t i) (hsp : ∀ f S, sp f = some S → Valid P f S) {f : FuncId} {fn : Func} (hf : P.funcs[f]? = some fn) (hc : CallOk P f) {ps rs : List PS} (hps : psOk ps = true) {pre : Tup ps → Prop} {R : Tup ps → Tup rs → Prop}
    (h : ∀ x, rngTup ps x → pre x → ∃ lp, runF T sp lp 0 fn (enVs ps x) ⟨0, []⟩ fun r' st' => ∃ y, R x y ∧ fzR st' (enR rs y) r') : Valid P f (.pre (rS ps rs pre R)) := by
  refine ⟨hc, fun args K hS β F w vs hF hd => ?_⟩
  unfold rS at hS
  split at hS
  case h_2 => exact hS.elim
  rename_i x hx
  have hd := deVs_ok hx hd
  obtain ⟨lp, hr⟩ := h x (rng_enVs hps (rngVs_ok hd)) hS.1
  refine (runF_ok hm hT hsp hf hr (noIdVs_dn (β' := fun _ => none) (fun _ h => h) (fun _ _ => rfl) noId_enVs hd) (sat_start w F hF)).mono ?_
  rintro e w' ⟨u, r', st', β', F', rfl, ⟨y, h1, h2⟩, h3, h4⟩
  obtain ⟨fz, z1, z2⟩ := fzR_ok h3 h2
  refine ⟨u, _, Fz β' F' fz, rfl, hS.2 y h1, h3.only.below (Nat.le_refl _) (fun k hk => hk.elim), fun k hk => .inl (h3.f1 k hk), fun k hk => ?_, z2 β u h4⟩
  rcases hk with hk | ⟨j, hj, hb⟩
  · rcases h3.f2 k hk with h | h | h
    · exact .inl h
    · exact h.elim
    · exact .inr ⟨h, h3.frz k hk⟩
  · obtain ⟨ck, hck⟩ := z1 j hj
    obtain ⟨o1, _, o3⟩ := h3.own _ hck k hb
    rcases o1 with o1 | o1
    · exact o1.elim
    · exact .inr ⟨o1, o3⟩
theorem gS_ok (hm : P.follows .mixedOrders = true) (hT : ∀ t i, T t = some i → TyOk P t i) (hsp : ∀ f S, sp f = some S → Valid P f S) {f : FuncId} {fn : Func} (hf : P.funcs[f]? = some fn) (hc : CallOk P f) {ps rs : List PS} (hps : psOk ps = true) {g : Tup ps → Tup rs}
    (h : ∀ x, rngTup ps x → ∀ y, g x = y → ∃ lp, runF T sp lp 0 fn (enVs ps x) ⟨0, []⟩ fun r' st' => fzR st' (enR rs y) r') : Valid P f (.pre (gS ps rs g)) := by
  refine ⟨hc, fun args K hS β F w vs hF hd => ?_⟩
  unfold gS at hS
  split at hS
  case h_2 => exact hS.elim
  rename_i x hx
  have hd := deVs_ok hx hd
  obtain ⟨lp, hr⟩ := h x (rng_enVs hps (rngVs_ok hd)) _ rfl
  refine (runF_ok hm hT hsp hf hr (noIdVs_dn (β' := fun _ => none) (fun _ h => h) (fun _ _ => rfl) noId_enVs hd) (sat_start w F hF)).mono ?_
  rintro e w' ⟨u, r', st', β', F', rfl, h2, h3, h4⟩
  obtain ⟨fz, z1, z2⟩ := fzR_ok h3 h2
  refine ⟨u, _, Fz β' F' fz, rfl, hS, h3.only.below (Nat.le_refl _) (fun k hk => hk.elim), fun k hk => .inl (h3.f1 k hk), fun k hk => ?_, z2 β u h4⟩
  rcases hk with hk | ⟨j, hj, hb⟩
  · rcases h3.f2 k hk with h | h | h
    · exact .inl h
    · exact h.elim
    · exact .inr ⟨h, h3.frz k hk⟩
  · obtain ⟨ck, hck⟩ := z1 j hj
    obtain ⟨o1, _, o3⟩ := h3.own _ hck k hb
    rcases o1 with o1 | o1
    · exact o1.elim
    · exact .inr ⟨o1, o3⟩
theorem tS_ok (hm : P.follows .mixedOrders = true) (hT : ∀ t i, T t = some i → TyOk P t i) (hsp : ∀ f S, sp f = some S → Valid P f S) {f : FuncId} {fn : Func} (hf : P.funcs[f]? = some fn) (hc : CallOk P f) {ps rs : List PS} (hps : psOk ps = true) (hrs : psOk rs = true) (hn : noSls rs = true) {g : Tup ps → Tup rs}
    (h : ∀ x, rngTup ps x → ∀ y, g x = y → ∃ lp, runF T sp lp 0 fn (enVs ps x) ⟨0, []⟩ fun r' st' => fzR st' (enR rs y) r') : Valid P f (.tot (tS ps rs g)) := by
  refine ⟨hc, fun args r hS β F w vs hF hd => ?_⟩
  unfold tS at hS
  split at hS
  case h_2 => cases hS
  rename_i x hx
  cases hS
  have hd := deVs_ok hx hd
  obtain ⟨lp, hr⟩ := h x (rng_enVs hps (rngVs_ok hd)) _ rfl
  obtain ⟨v, hv⟩ := Option.isSome_iff_exists.1 (clo_enR (y := g x) hrs hn)
  have run : ∀ w', (∀ k, F k → w'.heap[k]? = w.heap[k]?) → w.heap.size ≤ w'.heap.size → Calls P f vs.toArray w' fun e w'' => (∃ u, e = .returned u ∧ DnR β F w (enR rs (g x)) u) ∧ Below w'.heap.size w' w'' := by
    intro w' hb hsz
    refine (runF_ok hm hT hsp hf hr (noIdVs_dn (β' := fun _ => none) (fun _ h => h) hb noId_enVs hd) (sat_start w' F ⟨fun k hk => Nat.lt_of_lt_of_le (hF k hk) hsz, hF.gl.ext (fun _ h => h) hb⟩)).mono ?_
    rintro e w'' ⟨u, r', st', β', F', rfl, h2, h3, h4⟩
    obtain ⟨fz, z1, z2⟩ := fzR_ok h3 h2
    exact ⟨⟨u, rfl, noMemR_dn hv (z2 β u h4)⟩, h3.only.below (Nat.le_refl _) (fun k hk => hk.elim)⟩
  obtain ⟨e, w1, ⟨u, _, hu⟩, _⟩ := calls_some (run w (fun _ _ => rfl) (Nat.le_refl _))
  refine ⟨u, hu, fun w' hb hsz => (run w' hb hsz).mono ?_⟩
  rintro e w'' ⟨⟨u', rfl, h1⟩, h2⟩
  rw [cloR_uniq hv h1, ← cloR_uniq hv hu]
  exact ⟨rfl, h2⟩
end
/-- Are two things alike? -/
noncomputable def eqB {α : Type} (x y : α) : Bool := @decide (x = y) (Classical.propDecidable _)
theorem eqB_true {α : Type} {x y : α} : eqB x y = true ↔ x = y := by unfold eqB; exact @decide_eq_true_iff _ (Classical.propDecidable _)
theorem eqB_false {α : Type} {x y : α} : eqB x y = false ↔ ¬ x = y := by unfold eqB; exact @decide_eq_false_iff_not _ (Classical.propDecidable _)
theorem eqB_self {α : Type} (x : α) : eqB x x = true := eqB_true.2 rfl
theorem take_succ_eq {α : Type} {a b : List α} {k : Nat} (h : a.take k = b.take k) (hx : a[k]? = b[k]?) : a.take (k + 1) = b.take (k + 1) := by rw [List.take_add_one, List.take_add_one, h, hx]
theorem take_all_eq {α : Type} {a b : List α} {k : Nat} (h : a.take k = b.take k) (ha : a.length ≤ k) (hb : b.length ≤ k) : a = b := by rwa [List.take_of_length_le ha, List.take_of_length_le hb] at h
end Go.Proofs.YtnbbooilapelmaaGreatDoor.V
