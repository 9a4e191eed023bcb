/-
  A symbolic run of a function's text: what a function answers.
-/
import Derived.Test.YtnbbooilapelmaaGreatDoorKitVh
set_option linter.unusedVariables false
set_option linter.unusedSimpArgs false
namespace Go.Proofs.YtnbbooilapelmaaGreatDoor.V
open Go.RowKit Go.Proofs.YtnbbooilapelmaaGreatDoor
def res1 (T : Tb) (ts : Sl) (st : St) : ResultVar → Option Vl
  | .tmp t => (match ev ts [] (.tmp t) with | some (.v v) => some v | _ => none)
  | .cell p ty => (match opLoad T ty (ev ts [] (.tmp p)) st with | some (.v v) => some v | _ => none)
def resL (T : Tb) (ts : Sl) (st : St) : List ResultVar → Option (List Vl)
  | [] => some []
  | x :: r => (match res1 T ts st x, resL T ts st r with | some v, some l => some (v :: l) | _, _ => none)
def mkRs : List Vl → Rs
  | [v] => .v v
  | l => .tup l
def initL : Nat → List Vl → List (Nat × En)
  | _, [] => []
  | k, v :: r => (k, ⟨[], .v v⟩) :: initL (k + 1) r
def initTs (n : Nat) (args : List Vl) : Sl := ⟨(match Nat.ble args.length n with | true => n | false => args.length), 0, initL 0 args⟩
/-- The function's text, from these arguments and this memory on. -/
def runF (T : Tb) (sp : FuncId → Option Spec) (lp : Nat → Option LoopSp) (na : Nat) (fn : Func) (args : List Vl) (st : St) (R : Rs → St → Prop) : Prop :=
  match fn.body with
  | some c => exec T sp lp na c (initTs fn.ntmps args) st fun e ts' st' => (match e with
    | .ret => (match resL T ts' st' fn.results.toList with | some l => R (mkRs l) st' | none => False)
    | .normal => (match resL T ts' st' fn.results.toList with | some l => R (mkRs l) st' | none => False)
    | _ => False)
  | none => False
section
variable {T : Tb} {sp : FuncId → Option Spec} {lp : Nat → Option LoopSp} {P : Program} {B : Base} {β : Nat → Option Value} {F : Nat → Prop} {w : World} {st : St}
def resRun (tmps : Array Value) : ResultVar → Sem Value
  | .tmp t => pure (tmps.getD t undef)
  | .cell a t => do loadVar t (← asAddr (tmps.getD a undef))
theorem addr_run {ty : TypeId} {u q : Value} (h3 : (Instr.loadAt ty q).run P w = .ok u w) : (do loadVar ty (← asAddr q) : Sem Value).run P w = .ok u w := by
  cases q with
  | pointer ad =>
    cases ad with
    | none => simp [Instr.loadAt, Instr.sureAddr, stuck, Sem.run] at h3
    | some ad => simpa [Instr.loadAt, Instr.sureAddr, asAddr] using h3
  | _ => simp [Instr.loadAt, Instr.sureAddr, stuck, Sem.run] at h3
theorem res1_ok (hT : ∀ t i, T t = some i → TyOk P t i) {ts : Sl} {x : ResultVar} {v : Vl} {a : Act} (h : res1 T ts st x = some v) (hs : SlOk β F w ts a.tmps) (hw : Sat B β F st w) : ∃ u, (resRun a.tmps x).run P w = .ok u w ∧ DnV β F w v u := by
  unfold res1 at h
  split at h
  · rename_i t
    split at h
    · rename_i v' he
      cases h
      have := ev_dn (a := a) he rfl hs
      exact ⟨_, rfl, this⟩
    · cases h
  · rename_i p ty
    split at h
    · rename_i v' hl
      cases h
      obtain ⟨u, h1, h2⟩ := opLoad_ok hT hl hw (u := a.eval (.tmp p)) (fun r hr => ev_dn (a := a) hr rfl hs)
      have h3 := h1 w (fun _ _ => rfl)
      refine ⟨u, ?_, h2⟩
      exact addr_run h3
    · cases h
theorem resL_ok (hT : ∀ t i, T t = some i → TyOk P t i) {ts : Sl} {a : Act} (hs : SlOk β F w ts a.tmps) (hw : Sat B β F st w) : ∀ {l : List ResultVar} {vs : List Vl}, resL T ts st l = some vs → ∃ us, (l.mapM (resRun a.tmps)).run P w = .ok us w ∧ DnVs β F w vs us
  | [], vs, h => by simp only [resL] at h; cases h; exact ⟨[], rfl, rfl⟩
  | x :: r, vs, h => by
    simp only [resL] at h
    split at h
    · rename_i v l h1 h2
      cases h
      obtain ⟨u, g1, g2⟩ := res1_ok hT h1 hs hw
      obtain ⟨us, g3, g4⟩ := resL_ok hT hs hw h2
      refine ⟨u :: us, ?_, u, us, rfl, g2, g4⟩
      simp [List.mapM_cons, g1, g3]
    · cases h
theorem DnVs.len : ∀ {l : List Vl} {us : List Value}, DnVs β F w l us → us.length = l.length
  | [], us, h => by rw [show us = [] from h]; rfl
  | c :: r, us, h => by obtain ⟨a, b, rfl, h1, h2⟩ := h; simp [DnVs.len h2]
theorem results_ok {fn : Func} {tmps : Array Value} {us : List Value} {vs : List Vl} (h : (fn.results.toList.mapM (resRun tmps)).run P w = .ok us w) (hd : DnVs β F w vs us) : ∃ u, (results fn tmps).run P w = .ok u w ∧ DnR β F w (mkRs vs) u := by
  have hr : (results fn tmps).run P w = .ok (if h : us.toArray.size = 1 then us.toArray[0] else .tuple us.toArray) w := by
    have e : results fn tmps = (do let vs ← fn.results.mapM (resRun tmps); pure (if h : vs.size = 1 then vs[0] else .tuple vs)) := by
      unfold results
      refine congrArg (fun f => (do let vs ← fn.results.mapM f; pure (if h : vs.size = 1 then vs[0] else .tuple vs) : Sem Value)) ?_
      funext x; cases x <;> rfl
    rw [e, Array.mapM_eq_mapM_toList]
    simp [h]
  refine ⟨_, hr, ?_⟩
  match vs, us, hd with
  | [], us, hd => rw [show us = [] from hd]; exact ⟨[], rfl, rfl⟩
  | [v], us, hd => obtain ⟨a, b, rfl, h1, h2⟩ := hd; rw [show b = [] from h2]; exact h1
  | v :: v' :: r, us, hd =>
    have hl := hd.len
    have h1 : us.toArray.size ≠ 1 := by simp [hl]
    rw [dif_neg h1]
    exact ⟨us, rfl, hd⟩
theorem initL_get : ∀ {args : List Vl} {k i : Nat} {e : En}, lkE (initL k args) i = some e → (∃ v, k ≤ i ∧ args[i - k]? = some v ∧ e = ⟨[], .v v⟩) ∨ ((i < k ∨ k + args.length ≤ i) ∧ e = anyE)
  | [], k, i, e, h => by cases h; exact .inr ⟨by simp; omega, rfl⟩
  | v :: r, k, i, e, h => by
    simp only [initL, lkE_cons] at h
    split at h
    · rename_i hk; cases h; exact .inl ⟨v, by omega, by simp [hk], rfl⟩
    · rename_i hk
      rcases initL_get h with ⟨v', h1, h2, h3⟩ | ⟨h1, h2⟩
      · refine .inl ⟨v', by omega, ?_, h3⟩
        rw [show i - k = (i - (k + 1)) + 1 by omega]; simpa using h2
      · exact .inr ⟨by simp; omega, h2⟩
theorem initTs_ok {n : Nat} {args : List Vl} {vs : List Value} (h : DnVs β F w args vs) (hgl : GlOk F w) : SlOk β F w (initTs n args) (vs.toArray ++ Array.replicate (n - vs.toArray.size) undef) := by
  have hl := h.len
  have hn : (initTs n args).n = args.length + (n - args.length) := by
    unfold initTs
    dsimp only
    split
    · rename_i hb; have := Nat.le_of_ble_eq_true hb; omega
    · rename_i hb
      have : ¬ args.length ≤ n := fun h => by rw [Nat.ble_eq_true_of_le h] at hb; cases hb
      omega
  have gt : ∀ {i : Nat} {e : En}, (initTs n args).get i = some e → i < args.length + (n - args.length) ∧ ((∃ v, args[i]? = some v ∧ e = ⟨[], .v v⟩) ∨ (args.length ≤ i ∧ e = anyE)) := fun {i e} he => by
    have hlt := Sl.get_lt he
    rw [hn] at hlt
    refine ⟨hlt, ?_⟩
    have he : lkE (initL 0 args) i = some e := by
      unfold Sl.get at he
      split at he
      · exact he
      · cases he
    rcases initL_get he with ⟨v, _, h2, h3⟩ | ⟨h1, h2⟩
    · exact .inl ⟨v, by simpa using h2, h3⟩
    · exact .inr ⟨by omega, h2⟩
  refine ⟨by rw [hn]; simp [hl], fun i e he => ?_, fun i e he p hp => ?_, hgl⟩
  · obtain ⟨hlt, ⟨v, hv, rfl⟩ | ⟨hi, rfl⟩⟩ := gt he
    · obtain ⟨u, h1, h2⟩ := h.get i v hv
      have hi : i < args.length := (List.getElem?_eq_some_iff.1 hv).1
      refine ⟨u, ?_, fun _ => h2, fun e => by cases e⟩
      rw [Array.getElem?_append_left (by simp; omega)]
      simpa using h1
    · refine ⟨undef, ?_, fun _ => trivial, fun e => by cases e⟩
      rw [Array.getElem?_append_right (by simp; omega), Array.getElem?_replicate]
      simp
      omega
  · obtain ⟨_, ⟨v, _, rfl⟩ | ⟨_, rfl⟩⟩ := gt he <;> cases hp
/-- The run of a function's text, laid over the program. -/
theorem runF_ok (hm : P.follows .mixedOrders = true) (hT : ∀ t i, T t = some i → TyOk P t i) (hsp : ∀ f S, sp f = some S → Valid P f S) {f : FuncId} {fn : Func} (hf : P.funcs[f]? = some fn) {args : List Vl} {R : Rs → St → Prop} (h : runF T sp lp B.na fn args st R)
    {vs : List Value} (hd : DnVs β F w args vs) (hw : Sat B β F st w) : Calls P f vs.toArray w fun e w' => ∃ u r st' β' F', e = .returned u ∧ R r st' ∧ Sat B β' F' st' w' ∧ DnR β' F' w' r u := by
  unfold runF at h
  split at h
  · rename_i c hc
    refine calls_of_wp hf hc ?_
    refine exec_ok hm hT hsp c _ st β F _ w _ _ h (initTs_ok hd hw.frz.gl) hw rfl fun e ts' st' β' F' a' w' h1 h2 h3 h4 => ?_
    have fin : ∀ l, resL T ts' st' fn.results.toList = some l → R (mkRs l) st' → a'.defers = [] ∧ ∃ v, (results fn a'.tmps).run P w' = .ok v w' ∧ ∃ u r st' β' F', Ending.returned v = .returned u ∧ R r st' ∧ Sat B β' F' st' w' ∧ DnR β' F' w' r u := by
      intro l hl hR
      obtain ⟨us, g1, g2⟩ := resL_ok hT h2 h3 hl
      obtain ⟨u, g3, g4⟩ := results_ok (P := P) g1 g2
      exact ⟨h4, u, g3, u, _, st', β', F', rfl, hR, h3, g4⟩
    cases e <;> simp only at h1 <;> first
      | exact h1.elim
      | (split at h1
         · rename_i l hl; exact fin l hl h1
         · exact h1.elim)
  · exact h.elim
end
end Go.Proofs.YtnbbooilapelmaaGreatDoor.V
