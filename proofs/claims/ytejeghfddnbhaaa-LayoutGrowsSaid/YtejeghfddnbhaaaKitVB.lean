/-
  A symbolic run of a function's text: the text cut in two at a region; a law from such runs.
-/
import Derived.Test.YtejeghfddnbhaaaKitVA
import Derived.Test.YtejeghfddnbhaaaKitVr
set_option linter.unusedVariables false
set_option linter.unusedSimpArgs false
namespace Go.Proofs.Ytejeghfddnbhaaa.V
open Go.RowKit Go.Proofs.Ytejeghfddnbhaaa
def theCut : Nat := 1000000
/-- The text up to the region r. -/
def headC (r : Nat) : Code → Code
  | .seq a b => (match Nat.beq (firstR b) r with | true => .seq a (.exit theCut) | false => .seq a (headC r b))
  | c => c
/-- The text from the region r on. -/
def tailC (r : Nat) : Code → Option Code
  | .seq a b => (match Nat.beq (firstR b) r with | true => some b | false => tailC r b)
  | _ => none
/-- What holds where the text is cut. -/
def cutQ (na n : Nat) (L : LoopSp) (Q : Exit → Sl → St → Prop) (e : Exit) (ts' : Sl) (st' : St) : Prop :=
  match e with
  | .exit j => (match Nat.beq j theCut with
    | true => (match Nat.beq ts'.n n with | true => ∃ y, L.inv y ∧ mtF na ts' st' (L.sl y) (L.h y) L.nx | false => False)
    | false => Q (.exit j) ts' st')
  | e => Q e ts' st'
section
variable {T : Tb} {sp : FuncId → Option Spec} {lp lp2 : Nat → Option LoopSp} {P : Program} {B : Base}
theorem beq_ne {i j : Nat} (h : i ≠ j) : Nat.beq i j = false := by
  cases e : Nat.beq i j with
  | true => exact absurd (Nat.eq_of_beq_eq_true e) h
  | false => rfl
/-- Heads that do not leave by the cut's exit themselves. -/
def headOk (r : Nat) : Code → Bool
  | .seq a b => noExit theCut a && (match Nat.beq (firstR b) r with | true => true | false => headOk r b)
  | _ => false
theorem exec_cut {ds : List Deferred} (hm : P.follows .mixedOrders = true) (hT : ∀ t i, T t = some i → TyOk P t i) (hsp : ∀ f S, sp f = some S → Valid P f S) {r n : Nat} {L : LoopSp} {b : Code} {Qs : Exit → Sl → St → Prop} {Q : Exit → Act → World → Prop} (h0 : cutAt lp 0 = none)
    (hy : ∀ x, L.inv x → exec T sp lp2 B.na b (tmplTs n (L.sl x)) ⟨L.nx, L.h x⟩ Qs)
    (hQ : ∀ e ts' st' β' F' a' w', Qs e ts' st' → SlOk β' F' w' ts' a'.tmps → Sat B β' F' st' w' → a'.defers = ds → Q e a' w') :
    ∀ (c : Code) (ts : Sl) (st : St) (β : Nat → Option Value) (F : Nat → Prop) (a : Act) (w : World), headOk r c = true → tailC r c = some b → exec T sp lp B.na (headC r c) ts st (cutQ B.na n L Qs) → SlOk β F w ts a.tmps → Sat B β F st w → a.defers = ds → c.wp P Q a w
  | .seq x y, ts, st, β, F, a, w, hk, ht, h, hs, hw, hd => by
    simp only [headOk, Bool.and_eq_true] at hk
    obtain ⟨k1, k2⟩ := hk
    unfold tailC at ht
    unfold headC at h
    by_cases hr : Nat.beq (firstR y) r = true
    · rw [hr] at ht h
      simp only [Option.some.injEq] at ht
      subst ht
      simp only at h
      unfold exec at h
      rw [show cutAt lp (firstR (.exit theCut)) = none from h0] at h
      refine wp_seq (exec_okE hm hT hsp x ts st β F a w _ _ h hs hw hd fun e ts' st' β' F' a' w' h1 h2 h3 h4 h5 => ?_)
      cases e with
      | normal =>
        simp only [exec, cutQ, Nat.beq_refl] at h1
        split at h1
        case h_2 => exact h1.elim
        rename_i hlen
        obtain ⟨z, z1, z2⟩ := h1
        obtain ⟨β3, F3, q1, q2⟩ := mtF_ok z2 h2 h3
        exact exec_okD hm hT hsp y _ _ β3 F3 a' w' _ _ (hy z z1) (tmplTs_ok (by rw [h2.size, Nat.eq_of_beq_eq_true hlen]) q2) q1 h4 hQ
      | exit i =>
        have hi : i ≠ theCut := fun e => h5 theCut k1 (by rw [e])
        simp only [cutQ, beq_ne hi] at h1
        exact hQ _ _ _ _ _ _ _ h1 h2 h3 h4
      | _ => exact hQ _ _ _ _ _ _ _ h1 h2 h3 h4
    · simp only [Bool.not_eq_true] at hr
      rw [hr] at ht h k2
      simp only at ht h k2
      unfold exec at h
      split at h
      · refine wp_seq (exec_okE hm hT hsp x ts st β F a w _ _ h hs hw hd fun e ts' st' β' F' a' w' h1 h2 h3 h4 h5 => ?_)
        cases e with
        | normal => exact exec_cut hm hT hsp h0 hy hQ y ts' st' β' F' a' w' k2 ht h1 h2 h3 h4
        | exit i =>
          have hi : i ≠ theCut := fun e => h5 theCut k1 (by rw [e])
          simp only [cutQ, beq_ne hi] at h1
          exact hQ _ _ _ _ _ _ _ h1 h2 h3 h4
        | _ => exact hQ _ _ _ _ _ _ _ h1 h2 h3 h4
      · rename_i L' hL'
        obtain ⟨hx, hyy⟩ := h
        refine wp_seq (exec_okE hm hT hsp x ts st β F a w _ _ hx hs hw hd fun e ts' st' β' F' a' w' h1 h2 h3 h4 h5 => ?_)
        cases e with
        | normal =>
          simp only at h1
          split at h1
          case h_2 => exact h1.elim
          rename_i hlen
          obtain ⟨z, z1, z2⟩ := h1
          obtain ⟨z3, z2⟩ := lnkP_ok z2
          obtain ⟨β3, F3, q1, q2⟩ := mtF_ok z2 h2 h3
          exact exec_cut hm hT hsp h0 hy hQ y _ _ β3 F3 a' w' k2 ht (lnkI_ok (hyy z z1) z3) (tmplTs_ok (by rw [h2.size, Nat.eq_of_beq_eq_true hlen]) q2) q1 h4
        | exit i =>
          have hi : i ≠ theCut := fun e => h5 theCut k1 (by rw [e])
          simp only [cutQ, beq_ne hi] at h1
          exact hQ _ _ _ _ _ _ _ h1 h2 h3 h4
        | _ => exact hQ _ _ _ _ _ _ _ h1 h2 h3 h4
end
/-- The end of a function's text. -/
def endQ (T : Tb) (fn : Func) (R : Rs → St → Prop) (e : Exit) (ts' : Sl) (st' : St) : Prop :=
  match e with
  | .ret => (match resL T ts' st' fn.results.toList with | some l => R (mkRs l) st' | none => False)
  | .normal => (match resL T ts' st' fn.results.toList with | some l => R (mkRs l) st' | none => False)
  | _ => False
/-- The text up to region r, from these arguments on. -/
def headF (T : Tb) (sp : FuncId → Option Spec) (lp : Nat → Option LoopSp) (na r : Nat) (L : LoopSp) (fn : Func) (args : List Vl) (st : St) (R : Rs → St → Prop) : Prop :=
  match fn.body with
  | some c => (match headOk r c, tailC r c, cutAt lp 0 with
    | true, some _, none => exec T sp lp na (headC r c) (initTs fn.ntmps args) st (cutQ na (match Nat.ble args.length fn.ntmps with | true => fn.ntmps | false => args.length) L (endQ T fn R))
    | _, _, _ => False)
  | none => False
/-- The text from region r on. -/
def tailF (T : Tb) (sp : FuncId → Option Spec) (lp : Nat → Option LoopSp) (na r k : Nat) (L : LoopSp) (fn : Func) (x : L.X) (R : Rs → St → Prop) : Prop :=
  match fn.body with
  | some c => (match tailC r c with
    | some b => exec T sp lp na b (tmplTs (match Nat.ble k fn.ntmps with | true => fn.ntmps | false => k) (L.sl x)) ⟨L.nx, L.h x⟩ (endQ T fn R)
    | none => False)
  | none => False
section
variable {T : Tb} {sp : FuncId → Option Spec} {lp lp2 : Nat → Option LoopSp} {P : Program}
theorem runF_S (hm : P.follows .mixedOrders = true) (hT : ∀ t i, T t = some i → TyOk P t i) (hsp : ∀ f S, sp f = some S → Valid P f S) {f : FuncId} {fn : Func} (hf : P.funcs[f]? = some fn) {na : Nat} {args : List Vl} {st : St} {R : Rs → St → Prop} (h : runF T sp lp na fn args st R) : CallsS P f na args st R :=
  fun B β F w vs hB hd hw => by subst hB; exact runF_ok hm hT hsp hf h hd hw
theorem cut_S (hm : P.follows .mixedOrders = true) (hT : ∀ t i, T t = some i → TyOk P t i) (hsp : ∀ f S, sp f = some S → Valid P f S) {f : FuncId} {fn : Func} (hf : P.funcs[f]? = some fn) {na r : Nat} {L : LoopSp} {args : List Vl} {st : St} {R : Rs → St → Prop}
    (h : headF T sp lp na r L fn args st R) (h2 : ∀ x, L.inv x → tailF T sp lp2 na r args.length L fn x R) : CallsS P f na args st R := by
  intro B β F w vs hB hd hw
  subst hB
  unfold headF at h
  split at h
  case h_2 => exact h.elim
  rename_i c hc
  split at h
  case h_2 => exact h.elim
  rename_i b hk hb h0
  refine calls_of_wp hf hc ?_
  refine exec_cut (ds := []) (lp2 := lp2) hm hT hsp h0 (b := b) (fun x hx => ?_) (fun e ts' st' β' F' a' w' h1 h2 h3 h4 => ?_) c _ st β F _ w hk hb h (initTs_ok hd) hw rfl
  · have := h2 x hx
    unfold tailF at this
    rw [hc] at this
    simp only [hb] at this
    exact this
  · have fin : ∀ l, resL T ts' st' fn.results.toList = some l → R (mkRs l) st' → a'.defers = [] ∧ ∃ v, (results fn a'.tmps).run P w' = .ok v w' ∧ ∃ u r st' β' F', Ending.returned v = .returned u ∧ R r st' ∧ Sat B β' F' st' w' ∧ DnR β' F' w' r u := by
      intro l hl hR
      obtain ⟨us, g1, g2⟩ := resL_ok hT h2 h3 hl
      obtain ⟨u, g3, g4⟩ := results_ok (P := P) g1 g2
      exact ⟨h4, u, g3, u, _, st', β', F', rfl, hR, h3, g4⟩
    cases e <;> simp only [endQ] at h1 <;> first
      | exact h1.elim
      | (split at h1
         · rename_i l hl; exact fin l hl h1
         · exact h1.elim)
/-- A law's walk out of its function's runs. -/
theorem law_ofS {H : Type} {enc : TypeId × Value → H} {W : World} {base : Nat} {f : FuncId} {ps : List PS} {ts : List TypeId} {vs : List Value} (hps : psOk ps = true) (hb : argsB P ps ts = true) (ha : Args enc P W base ts vs)
    (h : ∀ x, rngTup ps x → CallsS P f 0 (enVs ps x) ⟨0, []⟩ fun r' st' => fzR st' (mkB true) r') : Calls P f vs.toArray W fun e w' => e = .returned (.bool true) ∧ Below W.heap.size W w' := by
  obtain ⟨x, hx⟩ := args_dn hb ha (fun _ => none)
  refine (h x (rng_enVs hps (rngVs_ok hx)) _ _ _ _ _ rfl (noIdVs_dn (β' := fun _ => none) (fun _ h => h) (fun _ _ => rfl) noId_enVs hx) (sat_start W _ fun k hk => hk)).mono ?_
  rintro e w' ⟨u, r', st', β', F', rfl, h2, h3, h4⟩
  obtain ⟨fz, z1, z2⟩ := fzR_ok h3 h2
  have := (z2 β' u h4).1
  exact ⟨by rw [this], h3.only.below (Nat.le_refl _) (fun k hk => hk.elim)⟩
end
end Go.Proofs.Ytejeghfddnbhaaa.V
