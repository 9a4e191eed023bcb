/-
  A symbolic run of a function's text: each operation that only computes or reads.
-/
import Derived.Test.YtnbbooilapelmaaGreatDoorKitVe
set_option linter.unusedVariables false
set_option linter.unusedSimpArgs false
namespace Go.Proofs.YtnbbooilapelmaaGreatDoor.V
open Go.RowKit Go.Proofs.YtnbbooilapelmaaGreatDoor
/-- Does it read what may be written? -/
def isR (sp : FuncId → Option Spec) (o : Oper) : Bool :=
  match o.op with
  | .load .. => true
  | .call c => (match c.callee with
    | .value (.func f) => (match sp f with | some (.tot _) => true | _ => false)
    | _ => false)
  | _ => false
section
variable {T : Tb} {sp : FuncId → Option Spec} {P : Program} {B : Base} {β : Nat → Option Value} {F : Nat → Prop} {w : World} {st : St}
theorem opField_ok (hT : ∀ t i, T t = some i → TyOk P t i) {t : TypeId} {x : Option Rs} {f : Nat} {r : Rs} (h : opField T t x f = some r) {u : Value} (hx : ∀ r, x = some r → DnR β F w r u) :
    ∃ v, (∀ w', (Instr.field t u f).run P w' = .ok v w') ∧ DnR β F w r v := by
  unfold opField at h
  split at h
  · rename_i i hi
    split at h
    · rename_i o n e l hf
      obtain ⟨vs, rfl, hd⟩ := hx _ rfl
      obtain ⟨fs, h1, h2, h3⟩ := (hT t i hi).flds (fun e => by rw [e] at hf; cases hf)
      split at h
      · rename_i j hj
        split at h
        · rename_i m hn hs
          have hn := Nat.eq_of_beq_eq_true hn
          rw [← hn] at hs
          obtain ⟨v, v1, v2⟩ := part_ok hT hj hs h hd
          refine ⟨v, fun w' => ?_, v2⟩
          rw [← h2, List.getElem?_map] at hf
          cases hq : fs[f]? with
          | none => simp [hq] at hf
          | some fd =>
            obtain ⟨e1, e2, e3⟩ : fd.offset = o ∧ P.cellsOf fd.type = n ∧ fd.type = e := by simpa [hq] using hf
            simp [Instr.field, run_underlying h1, hq, asAgg, e1, e3, v1]
        · cases h
      · cases h
    · cases h
  · cases h
theorem DnVs.get : ∀ {l : List Vl} {us : List Value}, DnVs β F w l us → ∀ (i : Nat) (v : Vl), l[i]? = some v → ∃ u, us[i]? = some u ∧ DnV β F w v u
  | c :: r, us, h, 0, v, hv => by
    obtain ⟨a, b, rfl, h1, h2⟩ := h
    obtain rfl : c = v := by simpa using hv
    exact ⟨a, rfl, h1⟩
  | c :: r, us, h, i + 1, v, hv => by
    obtain ⟨a, b, rfl, h1, h2⟩ := h
    simpa using DnVs.get h2 i v (by simpa using hv)
theorem opExtract_ok {x : Option Rs} {i : Nat} {r : Rs} (h : opExtract x i = some r) {u : Value} (hx : ∀ r, x = some r → DnR β F w r u) :
    ∃ v, (∀ w', (Instr.extract u i).run P w' = .ok v w') ∧ DnR β F w r v := by
  unfold opExtract at h
  split at h
  · rename_i l
    obtain ⟨us, rfl, hd⟩ := hx _ rfl
    split at h
    · rename_i v hv
      cases h
      obtain ⟨v', h1, h2⟩ := hd.get i v hv
      exact ⟨v', fun w' => by simp [Instr.extract, h1], h2⟩
    · cases h
  · cases h
theorem opLen_ok (hT : ∀ t i, T t = some i → TyOk P t i) {t : TypeId} {x : Option Rs} {r : Rs} (h : opLen T t x st = some r) (hs : Sat B β F st w) {u : Value} (hx : ∀ r, x = some r → DnR β F w r u) (ts : List TypeId) (ty : TypeId) :
    ∃ v, (∀ w', (Builtin.len_ (t :: ts).toArray ty #[u]).run P w' = .ok v w') ∧ DnR β F w r v := by
  unfold opLen at h
  split at h
  · rename_i i c hi
    have hc := hx _ rfl
    have hk := (hT t i hi).kd
    split at h
    · rename_i e a l e1
      rw [e1] at hk
      cases h
      obtain ⟨ad, cap, e2, hl, hm, _⟩ := hc
      cases e2
      refine ⟨.int .i64 l.length, fun w' => by simp [Builtin.len_, run_underlying hk, goInt], mkI_dn ?_⟩
      unfold maxLen at hm
      simp only [inR]
      omega
    · rename_i e id e1
      rw [e1] at hk
      split at h
      · rename_i ty' a l hl
        cases h
        obtain ⟨v, vs, h1, h2, h3⟩ := hs.cks _ (look_mem hl)
        obtain ⟨hb, _⟩ := hc
        rw [h1] at hb
        cases hb
        obtain ⟨ad, cap, rfl, hl1, hm⟩ := h2.any
        refine ⟨.int .i64 l.length, fun w' => by simp [Builtin.len_, run_underlying hk, goInt], mkI_dn ?_⟩
        unfold maxLen at hm
        simp only [inR]
        omega
      · cases h
    · rename_i e id sz lo n e1
      rw [e1] at hk
      split at h
      · rename_i ty' a l hl
        cases h
        obtain ⟨v, vs, h1, h2, h3⟩ := hs.cks _ (look_mem hl)
        obtain ⟨v', hb, hsv⟩ := hc
        rw [h1] at hb
        cases hb
        rcases hsv with ⟨_, _, rfl, rfl⟩ | ⟨g, o, len, cap, o', rfl, hle, rfl, _⟩
        · exact ⟨.int .i64 (0 : Nat), fun w' => by simp [Builtin.len_, run_underlying hk, goInt], mkI_dn (by simp [inR])⟩
        · obtain ⟨ad, cap', e2, _, hm⟩ := h2.any
          injection e2 with _ _ e3
          subst e3
          refine ⟨.int .i64 n, fun w' => by simp [Builtin.len_, run_underlying hk, goInt], mkI_dn ?_⟩
          unfold maxLen at hm
          simp only [inR]
          omega
      · cases h
    · rename_i s e1
      rw [e1] at hk
      cases h
      obtain ⟨rfl, hs⟩ := hc
      refine ⟨.int .i64 s.size, fun w' => by simp [Builtin.len_, run_underlying hk, goInt], mkI_dn ?_⟩
      have : s.size ≤ maxLen := hs
      unfold maxLen at this
      simp only [inR]
      omega
    · rename_i e e1
      rw [e1] at hk
      cases h
      obtain ⟨rfl, _⟩ := hc
      exact ⟨.int .i64 0, fun w' => by simp [Builtin.len_, run_underlying hk, goInt], ⟨rfl, by simp [inR]⟩⟩
    · cases h
  · cases h
theorem opMM_ok {b : Bool} {x y : Option Rs} {r : Rs} (h : opMM b x y = some r) {u v : Value} (hx : ∀ r, x = some r → DnR β F w r u) (hy : ∀ r, y = some r → DnR β F w r v) :
    ∃ z, (∀ (t : TypeId) (ts : Array TypeId) w', ((match b with | true => Builtin.min_ ts t #[u, v] | false => Builtin.max_ ts t #[u, v]) : Sem Value).run P w' = .ok z w') ∧ DnR β F w r z := by
  unfold opMM at h
  split at h
  case h_2 => cases h
  rename_i c d
  split at h
  case h_2 => cases h
  rename_i k a k' a' h1 h2
  split at h
  case h_2 => cases h
  rename_i he
  cases h
  have he := eqK_eq he
  subst he
  obtain ⟨rfl, r1⟩ := intV_dn h1 (hx _ rfl)
  obtain ⟨rfl, r2⟩ := intV_dn h2 (hy _ rfl)
  cases b with
  | true =>
    refine ⟨.int k (min a a'), fun t ts w' => ?_, mkI_dn ?_⟩
    · simp only [Builtin.min_, List.foldlM_cons, List.foldlM_nil, Builtin.min2]
      have : (if a' < a then a' else a) = min a a' := by split <;> omega
      simp [this]
    · rcases Int.le_total a a' with h | h
      · rw [Int.min_eq_left h]; exact r1
      · rw [Int.min_eq_right h]; exact r2
  | false =>
    refine ⟨.int k (max a a'), fun t ts w' => ?_, mkI_dn ?_⟩
    · simp only [Builtin.max_, List.foldlM_cons, List.foldlM_nil, Builtin.max2]
      have : (if a' > a then a' else a) = max a a' := by split <;> omega
      simp [this]
    · rcases Int.le_total a a' with h | h
      · rw [Int.max_eq_right h]; exact r2
      · rw [Int.max_eq_left h]; exact r1
theorem argsOf_dn {ts : Sl} {ch : List (Nat × Bool)} {a : Act} (hg : gd ts ch = true) (hs : SlOk β F w ts a.tmps) : ∀ {xs : List Operand} {l : List Vl}, argsOf ts ch xs = some l → DnVs β F w l (xs.map a.eval)
  | [], l, h => by simp only [argsOf] at h; cases h; rfl
  | x :: r, l, h => by
    simp only [argsOf] at h
    split at h
    · rename_i v m h1 h2
      cases h
      exact ⟨_, _, rfl, ev_dn h1 hg hs, argsOf_dn hg hs h2⟩
    · cases h
/-- An operation that only computes or reads: one value, in every world that has grown. -/
theorem ptrsOf_dn : ∀ {l : List Vl} {c : List (Nat × Nat)} {us : List Value}, ptrsOf l = some c → DnVs β F w l us → DnP β c us
  | [], c, us, h, hd => by cases h; exact hd
  | v :: r, c, us, h, hd => by
    unfold ptrsOf at h
    split at h
    · rename_i e; cases e
    · rename_i id off r' e
      cases e
      split at h
      · rename_i l hl
        cases h
        obtain ⟨a, b, rfl, ⟨g, g1, rfl⟩, h2⟩ := hd
        exact ⟨g, b, g1, rfl, ptrsOf_dn hl h2⟩
      · cases h
    · cases h
theorem opT_ok (hT : ∀ t i, T t = some i → TyOk P t i) (hsp : ∀ f S, sp f = some S → Valid P f S) {o : Oper} {ch : List (Nat × Bool)} {ts : Sl} {r : Rs} {a : Act} (h : opT T sp o ch ts st = some r) (hg : gd ts ch = true) (hs : SlOk β F w ts a.tmps) (hw : Sat B β F st w) :
    ∃ v, DnR β F w r v ∧ (∀ w', (∀ k, Gd st β F k → w'.heap[k]? = w.heap[k]?) → w.heap.size ≤ w'.heap.size → o.quietAt P a (Below w'.heap.size w') w' v) ∧ (isR sp o = false → ∀ w', o.quietAt P a (Below w'.heap.size w') w' v) := by
  have val : ∀ {v : Value} {w' : World}, (execOp a.eval o).run P w' = .ok (.value v) w' → o.quietAt P a (Below w'.heap.size w') w' v := fun {v w'} h => by
    unfold Oper.quietAt; rw [h]; exact ⟨rfl, rfl⟩
  have both : ∀ {v : Value}, (∀ w', (execOp a.eval o).run P w' = .ok (.value v) w') → (∀ w', (∀ k, Gd st β F k → w'.heap[k]? = w.heap[k]?) → w.heap.size ≤ w'.heap.size → o.quietAt P a (Below w'.heap.size w') w' v) ∧ (isR sp o = false → ∀ w', o.quietAt P a (Below w'.heap.size w') w' v) := fun h => ⟨fun w' _ _ => val (h w'), fun _ w' => val (h w')⟩
  have evd : ∀ x r, ev ts ch x = some r → DnR β F w r (a.eval x) := fun x r h => ev_dn h hg hs
  unfold opT at h
  split at h
  · rename_i x ho
    exact ⟨_, evd x r h, both fun w' => (by simp [execOp, ho])⟩
  · rename_i x ho
    exact ⟨_, evd x r h, both fun w' => (by simp [execOp, ho])⟩
  · rename_i x ho
    split at h
    · rename_i id off he
      cases h
      have hd := evd x _ he
      obtain ⟨g, h1, h2⟩ := hd
      exact ⟨_, ⟨g, h1, rfl⟩, both fun w' => (by simp [execOp, ho, h2])⟩
    · rename_i sh y c he
      cases h
      have hd := evd x _ he
      obtain ⟨g, o', cs, h1, h2⟩ := hd
      exact ⟨_, ⟨g, o', cs, rfl, h2⟩, both fun w' => (by simp [execOp, ho, h1])⟩
    · rename_i id sz i c he
      cases h
      have hd := evd x _ he
      obtain ⟨g, o', n, cap, h1, h2⟩ := hd
      exact ⟨_, ⟨g, o', n, cap, h1, rfl⟩, both fun w' => (by simp [execOp, ho, h2])⟩
    · cases h
  · rename_i t x f ho
    obtain ⟨v, h1, h2⟩ := opFieldAddr_ok hT h (u := a.eval x) (fun r hr => evd x r hr)
    exact ⟨v, h2, both fun w' => (by simp [execOp, ho, h1])⟩
  · rename_i t x ho
    obtain ⟨v, h1, h2⟩ := opLoad_ok hT h hw (u := a.eval x) (fun r hr => evd x r hr)
    exact ⟨v, h2, fun w' hb _ => val (by simp [execOp, ho, h1 w' hb]), fun hr => by simp [isR, ho] at hr⟩
  · rename_i t x ho
    split at h
    · rename_i c he
      split at h
      · rename_i b hb
        cases h
        have hd := boolV_dn hb (evd x _ he)
        exact ⟨.bool (!b), cmpR_dn _ _, both fun w' => (by simp [execOp, ho, hd, Op.unary])⟩
      · cases h
    · cases h
  · rename_i t x ho
    split at h
    · rename_i c he
      split at h
      · rename_i k z hb
        cases h
        obtain ⟨hd, hr⟩ := intV_dn hb (evd x _ he)
        exact ⟨_, bitR_dn _ (inR_wrap k _), both fun w' => (by simp [execOp, ho, hd, Op.unary, Op.intArith])⟩
      · cases h
    · cases h
  · rename_i t x ho
    split at h
    · rename_i c he
      split at h
      · rename_i k z hb
        cases h
        obtain ⟨hd, hr⟩ := intV_dn hb (evd x _ he)
        refine ⟨_, bitR_dn _ (inR_bits _ _ _ _), both fun w' => ?_⟩
        simp only [execOp, ho, hd, Op.unary, Op.intBits, bits, Sem.run_bind, Sem.run_pure, Result.andThen_ok]
        cases k.signed <;> rfl
      · cases h
    · cases h
  · rename_i f first cap ho
    split at h
    · rename_i l h1 h2
      split at h
      · rename_i c hc
        cases h
        have hf : first = #[] := by cases first; simpa using h1
        subst hf
        have hd := ptrsOf_dn hc (argsOf_dn hg hs h2)
        refine ⟨.func (.func f) #[] (cap.map a.eval), ⟨_, ?_, hd⟩, both fun w' => (by simp [execOp, ho, Instr.makeFunc])⟩
        rw [← Array.toList_map, Array.toArray_toList]
      · cases h
    · cases h
  · rename_i op xT x y yT ho
    obtain ⟨v, h1, h2, h3⟩ := opBinT_ok hT h (u := a.eval x) (v := a.eval y) (fun r hr => evd x r hr) (fun r hr => evd y r hr)
    exact ⟨v, h2, both fun w' => (by simp [execOp, ho, h1, h3])⟩
  · rename_i src dst x ho
    obtain ⟨v, h1, h2⟩ := opConv_ok hT h (u := a.eval x) (fun r hr => evd x r hr)
    exact ⟨v, h2, both fun w' => (by simp [execOp, ho, h1])⟩
  · rename_i t ps ho
    split at h
    · rename_i i hi
      split at h
      · rename_i hf
        split at h
        · rename_i n hps hag hel
          cases h
          obtain ⟨u, h1, h2⟩ := build_nil (β := β) (F := F) (w := w) (hT t i hi) (by rw [hel]; omega)
          have : ps = #[] := by cases ps; simp at hps; simp [hps]
          subst this
          exact ⟨u, h2, both fun w' => (by simp [execOp, ho, h1])⟩
        · rename_i hps hag hel
          split at h
          · rename_i ie hie
            split at h
            · rename_i l hl
              cases h
              obtain ⟨u, h1, vs, hu, h2⟩ := build_arr hT (hT t i hi) (by rw [hel]; omega) hie hg hs hl
              refine ⟨u, ⟨vs, hu, packL_dn h2⟩, both fun w' => ?_⟩
              simp only [execOp, ho, Sem.run_bind]
              have := h1 w'
              simp [this]
            · cases h
          · cases h
        · cases h
      · rename_i p q hf
        split at h
        · rename_i l hl
          cases h
          obtain ⟨u, h1, h2⟩ := build_ok (hT t i hi) (by rw [hf]; simp) hg hs hl
          refine ⟨u, h2, both fun w' => ?_⟩
          simp only [execOp, ho, Sem.run_bind]
          have := h1 w'
          simp [this]
        · cases h
    · cases h
  · rename_i t x f ho
    obtain ⟨v, h1, h2⟩ := opField_ok hT h (u := a.eval x) (fun r hr => evd x r hr)
    exact ⟨v, h2, both fun w' => (by simp [execOp, ho, h1])⟩
  · rename_i x i ho
    obtain ⟨v, h1, h2⟩ := opExtract_ok (P := P) h (u := a.eval x) (fun r hr => evd x r hr)
    exact ⟨v, h2, both fun w' => (by simp [execOp, ho, h1])⟩
  · rename_i c ho
    split at h
    · rename_i hc
      split at h
      · rename_i t ts' x h1 h2
        obtain ⟨v, h3, h4⟩ := opLen_ok hT h hw (u := a.eval x) (fun r hr => evd x r hr) ts' o.type
        refine ⟨v, h4, both fun w' => ?_⟩
        obtain ⟨cal, args, ats⟩ := c
        obtain rfl : cal = .builtin .len := hc
        obtain rfl : args = #[x] := by cases args; simp at h2; simp [h2]
        obtain rfl : ats = (t :: ts').toArray := by cases ats; simp at h1; simp [h1]
        have := h3 w'
        simp only [execOp, ho, resolve, invoke, builtin, Sem.run_bind, Sem.run_pure, Result.andThen_ok, List.map_toArray, List.map_cons, List.map_nil, this]
      · cases h
    · rename_i hc
      split at h
      · rename_i x y h2
        obtain ⟨v, h3, h4⟩ := opMM_ok (P := P) (u := a.eval x) (v := a.eval y) h (fun r hr => evd x r hr) (fun r hr => evd y r hr)
        refine ⟨v, h4, both fun w' => ?_⟩
        obtain ⟨cal, args, ats⟩ := c
        obtain rfl : cal = .builtin .min := hc
        obtain rfl : args = #[x, y] := by cases args; simp at h2; simp [h2]
        have := h3 o.type ats w'
        simp only at this
        simp only [execOp, ho, resolve, invoke, builtin, Sem.run_bind, Sem.run_pure, Result.andThen_ok, List.map_toArray, List.map_cons, List.map_nil, this]
      · cases h
    · rename_i hc
      split at h
      · rename_i x y h2
        obtain ⟨v, h3, h4⟩ := opMM_ok (P := P) (u := a.eval x) (v := a.eval y) h (fun r hr => evd x r hr) (fun r hr => evd y r hr)
        refine ⟨v, h4, both fun w' => ?_⟩
        obtain ⟨cal, args, ats⟩ := c
        obtain rfl : cal = .builtin .max := hc
        obtain rfl : args = #[x, y] := by cases args; simp at h2; simp [h2]
        have := h3 o.type ats w'
        simp only at this
        simp only [execOp, ho, resolve, invoke, builtin, Sem.run_bind, Sem.run_pure, Result.andThen_ok, List.map_toArray, List.map_cons, List.map_nil, this]
      · cases h
    · rename_i f hc
      split at h
      · rename_i S hS
        split at h
        · rename_i l hl
          obtain ⟨hcall, hv⟩ := hsp f _ hS
          obtain ⟨u, h1, h2⟩ := hv l r h β F w _ hw.frz (argsOf_dn hg hs hl)
          refine ⟨u, h1, fun w' hb hsz => ?_, fun hr => by
            obtain ⟨cal, args, ats⟩ := c
            obtain rfl : cal = .value (.func f) := hc
            simp [isR, ho, hS] at hr⟩
          unfold Oper.quietAt
          have hrun : (execOp a.eval o).run P w' = .ok (.enter f (c.args.toList.map a.eval).toArray) w' := by
            obtain ⟨cal, args, ats⟩ := c
            obtain rfl : cal = .value (.func f) := hc
            simp only [execOp, ho, resolve, Sem.run_bind, Sem.run_pure, Result.andThen_ok, Act.eval, Deferred.ofValue, invoke]
            have := run_callFunc hcall (#[] ++ args.map a.eval ++ #[]) w'
            rw [show (args.toList.map a.eval).toArray = args.map a.eval from by rw [← Array.toList_map, Array.toArray_toList]]
            simpa using this
          rw [hrun]
          exact ⟨rfl, h2 w' (fun k hk => hb k (.inl hk)) hsz⟩
        · cases h
      · cases h
    · cases h
  · cases h
end
end Go.Proofs.YtnbbooilapelmaaGreatDoor.V
