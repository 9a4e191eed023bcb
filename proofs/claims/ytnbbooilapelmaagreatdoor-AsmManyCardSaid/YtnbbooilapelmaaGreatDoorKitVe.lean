/-
  A symbolic run of a function's text: what only computes or reads.
-/
import Derived.Test.YtnbbooilapelmaaGreatDoorKitVd
import Derived.Deep.Quiet
set_option linter.unusedVariables false
set_option linter.unusedSimpArgs false
namespace Go.Proofs.YtnbbooilapelmaaGreatDoor.V
open Go.RowKit Go.Proofs.YtnbbooilapelmaaGreatDoor
def cmpR (lit : Bool) (r : Bool) : Rs := match lit with | true => (match r with | true => .v (.one (.bl true)) | false => .v (.one (.bl false))) | false => mkB r
def kdC : CV → Option (List CKd)
  | .val (.int k _) => some [.int k]
  | .il k _ => some [.int k]
  | .val (.bool _) => some [.bool]
  | .bl _ => some [.bool]
  | .val (.string _) => some [.str]
  | .run k n _ => some (List.replicate n (.int k))
  | _ => none
def kdL : List CV → Option (List CKd)
  | [] => some []
  | c :: r => match kdC c, kdL r with | some a, some b => some (a ++ b) | _, _ => none
def eqCK : CKd → CKd → Bool
  | .int k, .int k' => eqK k k'
  | .bool, .bool => true
  | .str, .str => true
  | _, _ => false
def eqCKs : List CKd → List CKd → Bool
  | [], [] => true
  | a :: r, b :: s => eqCK a b && eqCKs r s
  | _, _ => false
def eqII (k k' : IntKind) (a b : Int) : Option Bool := match eqK k k' with | true => some (a == b) | false => none
def eqCC : CV → CV → Option Bool
  | .val (.int k a), .val (.int k' b) => eqII k k' a b
  | .val (.int k a), .il k' b => eqII k k' a b
  | .il k a, .val (.int k' b) => eqII k k' a b
  | .il k a, .il k' b => eqII k k' a b
  | .val (.bool a), .val (.bool b) => some (a == b)
  | .val (.bool a), .bl b => some (a == b)
  | .bl a, .val (.bool b) => some (a == b)
  | .bl a, .bl b => some (a == b)
  | .val (.string s), .val (.string t) => some (s.toList == t.toList)
  | .run k n d, .run k' n' e => (match eqK k k', Nat.beq n n' with | true, true => some (d == e) | _, _ => none)
  | _, _ => none
def eqLL : List CV → List CV → Option Bool
  | [], [] => some true
  | [a], [b] => eqCC a b
  | a :: r, b :: s => match eqCC a b, eqLL r s with | some x, some y => some (x && y) | _, _ => none
  | _, _ => none
/-- '==' of structs and arrays. -/
def opAggEq (T : Tb) (op : BinOp) (xT : TypeId) (l m : List CV) : Option Rs :=
  match T xT with
  | some i => (match i.eqk, kdL l, kdL m with
    | some ks, some a, some b => (match eqCKs a ks, eqCKs b ks, eqLL l m with
      | true, true, some r => (match op with
        | .eql => some (mkB r)
        | .neq => some (mkB (!r))
        | _ => none)
      | _, _, _ => none)
    | _, _, _ => none)
  | none => none
def bitR (lit : Bool) (k : IntKind) (z : Int) : Rs := match lit with | true => .v (.one (.il k z)) | false => mkI k z
/-- Is it no pointer? -/
def nlV : CV → Option Bool
  | .val (.pointer none) => some true
  | .ptr .. | .rp .. | .ep .. | .pa .. | .ea .. | .ra .. => some false
  | _ => none
def ptrEq (T : Tb) (op : BinOp) (xT : TypeId) (c d : CV) : Option Rs :=
  match nlV c, nlV d, T xT with
  | some a, some true, some i => (match i.kd, op with
    | .ptr _, .eql => some (cmpR true a)
    | .ptr _, .neq => some (cmpR true (!a))
    | _, _ => none)
  | _, _, _ => none
def ptrsOf : List Vl → Option (List (Nat × Nat))
  | [] => some []
  | .one (.ptr id off) :: r => (match ptrsOf r with | some l => some ((id, off) :: l) | none => none)
  | _ => none
def opBinT (T : Tb) (op : BinOp) (xT : TypeId) (x y : Option Rs) : Option Rs :=
  match x, y with
  | some (.v (.one c)), some (.v (.one d)) => (match intV c, intV d with
    | some (k, a), some (k', b) => (match eqK k k' with
      | true => (match op with
        | .eql => some (cmpR (isLit c && isLit d) (a == b))
        | .neq => some (cmpR (isLit c && isLit d) (a != b))
        | .lss => some (cmpR (isLit c && isLit d) (decide (a < b)))
        | .leq => some (cmpR (isLit c && isLit d) (decide (a ≤ b)))
        | .gtr => some (cmpR (isLit c && isLit d) (decide (a > b)))
        | .geq => some (cmpR (isLit c && isLit d) (decide (a ≥ b)))
        | .and => some (bitR (isLit c && isLit d) k (bits .and k a b))
        | .or => some (bitR (isLit c && isLit d) k (bits .or k a b))
        | .xor => some (bitR (isLit c && isLit d) k (bits .xor k a b))
        | .andNot => some (bitR (isLit c && isLit d) k (bits .andNot k a b))
        | _ => none)
      | false => none)
    | _, _ => (match boolV c, boolV d with
      | some a, some b => (match T xT with
        | some i => (match i.kd, op with
          | .bool, .eql => some (cmpR (isLit c && isLit d) (a == b))
          | .bool, .neq => some (cmpR (isLit c && isLit d) (!(a == b)))
          | _, _ => none)
        | none => none)
      | _, _ => (match strV c, strV d with
        | some s, some t => (match op with
          | .eql => some (mkB (s.toList == t.toList))
          | .neq => some (mkB (!(s.toList == t.toList)))
          | _ => none)
        | _, _ => ptrEq T op xT c d)))
  | some (.v (.agg l)), some (.v (.agg m)) => opAggEq T op xT l m
  | _, _ => none
def opConv (T : Tb) (src dst : TypeId) (x : Option Rs) : Option Rs :=
  match T src, T dst, x with
  | some i, some j, some (.v (.one c)) => (match i.kd, j.kd with
    | .int _, .int k' => (match intV c with
      | some (k, a) => (match subR k k', isLit c with
        | true, false => some (mkI k' a)
        | true, true => some (.v (.one (.il k' a)))
        | false, _ => some (mkI k' (k'.wrap a)))
      | none => none)
    | .str, .str => (match strV c with | some s => some (.v (.one (.val (.string s)))) | none => none)
    | _, _ => none)
  | _, _, _ => none
def fillP (flds : List (Nat × Nat × TypeId)) (ts : Sl) (ch : List (Nat × Bool)) : List (Nat × Operand) → List CV → Option (List CV)
  | [], l => some l
  | (i, x) :: r, l => match flds[i]?, ev ts ch x with
    | some (off, n, _), some v => (match cellsOf v with
      | some vs => (match Nat.beq (cwid vs) n with
        | true => (match putSegs off vs l with | some l' => fillP flds ts ch r l' | none => none)
        | false => none)
      | none => none)
    | _, _ => none
/-- Numbers in a row, one by one. -/
def expd : List CV → List CV
  | [] => []
  | .run k _ d :: r => d.map (CV.il k) ++ expd r
  | c :: r => c :: expd r
def slots (n : Nat) (e : TypeId) : Nat → Nat → List (Nat × Nat × TypeId)
  | 0, _ => []
  | k + 1, i => (i * n, n, e) :: slots n e k (i + 1)
def opField (T : Tb) (t : TypeId) (x : Option Rs) (f : Nat) : Option Rs :=
  match T t with
  | some i => (match i.flds[f]?, x with
    | some (o, n, e), some (.v (.agg l)) => (match T e with
      | some j => (match Nat.beq j.n n, segs o n l with
        | true, some m => mkVl j m
        | _, _ => none)
      | none => none)
    | _, _ => none)
  | none => none
def opExtract (x : Option Rs) (i : Nat) : Option Rs :=
  match x with
  | some (.tup l) => (match l[i]? with | some v => some (.v v) | none => none)
  | _ => none
def opLen (T : Tb) (t : TypeId) (x : Option Rs) (st : St) : Option Rs :=
  match T t, x with
  | some i, some (.v (.one c)) => (match i.kd, c with
    | .slice _, .rd _ l => some (mkI .i64 (l.length : Int))
    | .slice _, .sl id => (match look st.h id with | some (.own _ _ l) => some (mkI .i64 (l.length : Int)) | _ => none)
    | .slice _, .sv id sz lo n => (match look st.h id with | some (.own ..) => some (mkI .i64 (n : Int)) | _ => none)
    | .str, .val (.string s) => some (mkI .i64 (s.size : Int))
    | .slice _, .val (.slice none 0 0) => some (.v (.one (.il .i64 0)))
    | _, _ => none)
  | _, _ => none
def argsOf (ts : Sl) (ch : List (Nat × Bool)) : List Operand → Option (List Vl)
  | [] => some []
  | o :: r => match ev ts ch o, argsOf ts ch r with | some (.v v), some l => some (v :: l) | _, _ => none
/-- The value of what leads nowhere. -/
def clo : CV → Option (List Value)
  | .val v => some [v]
  | .il k z => some [.int k z]
  | .bl b => some [.bool b]
  | .run k n d => some (d.map (Value.int k))
  | _ => none
def cloL : List CV → Option (List Value)
  | [] => some []
  | c :: r => match clo c, cloL r with | some a, some b => some (a ++ b) | _, _ => none
def cloV : Vl → Option Value
  | .one c => (match clo c with | some [v] => some v | _ => none)
  | .agg l => (match cloL l with | some vs => some (.agg vs.toArray) | none => none)
def cloVs : List Vl → Option (List Value)
  | [] => some []
  | c :: r => match cloV c, cloVs r with | some a, some b => some (a :: b) | _, _ => none
def cloR : Rs → Option Value
  | .v x => cloV x
  | .tup l => (match cloVs l with | some vs => some (.tuple vs.toArray) | none => none)
/-- What a function is known to answer: always (a total function of plain data), under conditions, or with a change of the memory. -/
inductive Spec where
  | tot (S : List Vl → Option Rs)
  | pre (S : List Vl → (Rs → Prop) → Prop)
  | full (S : List Vl → St → (Rs → St → Prop) → Prop)
def CallOk (P : Program) (f : FuncId) : Prop := ∃ fn, P.funcs[f]? = some fn ∧ (fn.name == "runtime.NumGoroutine") = false ∧ fn.body.isNone = false
theorem run_callFunc {P : Program} {f : FuncId} (h : CallOk P f) (args : Array Value) (w : World) : (callFunc f args).run P w = .ok (.enter f args) w := by
  obtain ⟨fn, h1, h2, h3⟩ := h
  simp only [callFunc, program, Sem.run_bind, Sem.run, Result.andThen_ok, h1, h2, h3]
  rfl
def Valid (P : Program) (f : FuncId) : Spec → Prop
  | .tot S => CallOk P f ∧ ∀ args r, S args = some r → ∀ β F w vs, FOk F w → DnVs β F w args vs → ∃ u, DnR β F w r u ∧ ∀ w', (∀ k, F k → w'.heap[k]? = w.heap[k]?) → w.heap.size ≤ w'.heap.size → Calls P f vs.toArray w' fun e w'' => e = .returned u ∧ Below w'.heap.size w' w''
  | .pre S => CallOk P f ∧ ∀ args K, S args K → ∀ β F w vs, FOk F w → DnVs β F w args vs → Calls P f vs.toArray w fun e w' => ∃ u r F', e = .returned u ∧ K r ∧ Below w.heap.size w w' ∧ (∀ k, F k → F' k) ∧ (∀ k, F' k → F k ∨ (w.heap.size ≤ k ∧ k < w'.heap.size)) ∧ DnR β F' w' r u
  | .full S => CallOk P f ∧ ∀ args st K, S args st K → ∀ B β F w vs, Sat B β F st w → DnVs β F w args vs → Calls P f vs.toArray w fun e w' => ∃ u r st' β' F', e = .returned u ∧ K r st' ∧ Ext β F w β' F' w' ∧ Sat B β' F' st' w' ∧ DnR β' F' w' r u
/-- A list of numbers of one kind, as one segment. -/
def packI (k : IntKind) : List CV → Option (List Int)
  | [] => some []
  | c :: r => (match intV c with
    | some (k', z) => (match eqK k k', packI k r with | true, some d => some (z :: d) | _, _ => none)
    | none => none)
def packL : List CV → List CV
  | c :: c2 :: r => (match intV c with
    | some (k, _) => (match packI k (c :: c2 :: r) with | some d => [.run k d.length d] | none => c :: c2 :: r)
    | none => c :: c2 :: r)
  | l => l
theorem packI_ok {β : Nat → Option Value} {F : Nat → Prop} {w : World} {k : IntKind} : ∀ {c : List CV} {d : List Int} {l : List Value}, packI k c = some d → DnL β F w c l → l = d.map (Value.int k) ∧ ∀ y ∈ d, inR k y
  | [], d, l, h, hd => by simp [packI] at h; subst h; exact ⟨hd, by simp⟩
  | c :: r, d, l, h, hd => by
    simp only [packI] at h
    split at h
    case h_2 => cases h
    rename_i k' z hc
    split at h
    case h_2 => cases h
    rename_i d' he hr
    cases h
    have he := eqK_eq he
    subst he
    obtain ⟨a, b, rfl, h1, h2⟩ := hd
    obtain ⟨rfl, h3⟩ := packI_ok hr h2
    have h4 : a = [.int k z] ∧ inR k z := by
      cases c with
      | val v =>
        cases v <;> simp [intV] at hc
        obtain ⟨rfl, rfl⟩ := hc
        obtain ⟨u, rfl, ⟨rfl, hv⟩, _⟩ := h1
        exact ⟨rfl, hv⟩
      | il k' z' =>
        simp [intV] at hc
        obtain ⟨rfl, rfl⟩ := hc
        obtain ⟨u, rfl, ⟨rfl, hv⟩, _⟩ := h1
        exact ⟨rfl, hv⟩
      | _ => simp [intV] at hc
    obtain ⟨rfl, h5⟩ := h4
    exact ⟨rfl, fun y hy => (List.mem_cons.1 hy).elim (fun e => by rw [e]; exact h5) (h3 y)⟩
theorem packL_dn {β : Nat → Option Value} {F : Nat → Prop} {w : World} {c : List CV} {l : List Value} (hd : DnL β F w c l) : DnL β F w (packL c) l := by
  unfold packL
  split
  · split
    · split
      · rename_i d hp
        obtain ⟨h1, h2⟩ := packI_ok hp hd
        exact ⟨l, [], by simp, ⟨rfl, h1, h2⟩, rfl⟩
      · exact hd
    · exact hd
  · exact hd
/-- The lesser, the greater of two numbers. -/
def opMM (b : Bool) (x y : Option Rs) : Option Rs :=
  match x, y with
  | some (.v (.one c)), some (.v (.one d)) => (match intV c, intV d with
    | some (k, a), some (k', a') => (match eqK k k' with | true => some (mkI k (match b with | true => min a a' | false => max a a')) | false => none)
    | _, _ => none)
  | _, _ => none
section
variable (T : Tb) (sp : FuncId → Option Spec)
def opT (o : Oper) (ch : List (Nat × Bool)) (ts : Sl) (st : St) : Option Rs :=
  match o.op with
  | .move x | .assign x => ev ts ch x
  | .nilCheck x => (match ev ts ch x with
    | some (.v (.one (.ptr id off))) => some (.v (.one (.ptr id off)))
    | some (.v (.one (.rp a y c))) => some (.v (.one (.rp a y c)))
    | some (.v (.one (.ep id sz i c))) => some (.v (.one (.ep id sz i c)))
    | _ => none)
  | .fieldAddr t x f => opFieldAddr T t (ev ts ch x) f
  | .load t x => opLoad T t (ev ts ch x) st
  | .unOp .not _ x => (match ev ts ch x with
    | some (.v (.one c)) => (match boolV c with | some b => some (cmpR (isLit c) (!b)) | none => none)
    | _ => none)
  | .unOp .neg _ x => (match ev ts ch x with
    | some (.v (.one c)) => (match intV c with | some (k, a) => some (bitR (isLit c) k (k.wrap (0 - a))) | none => none)
    | _ => none)
  | .unOp .xor _ x => (match ev ts ch x with
    | some (.v (.one c)) => (match intV c with | some (k, a) => some (bitR (isLit c) k (bits .xor k (match k.signed with | true => -1 | false => k.max) a)) | none => none)
    | _ => none)
  | .makeFunc (.func f) first cap => (match first.toList, argsOf ts ch cap.toList with
    | [], some l => (match ptrsOf l with | some c => some (.v (.one (.fn f c))) | none => none)
    | _, _ => none)
  | .binOp op xT x y _ => opBinT T op xT (ev ts ch x) (ev ts ch y)
  | .convert src dst x => opConv T src dst (ev ts ch x)
  | .build t ps => (match T t with
    | some i => (match i.flds with
      | [] => (match ps.toList, i.agg, i.el.1 with
        | [], true, _ + 1 => some (.v (.agg i.zero))
        | _ :: _, true, _ + 1 => (match T i.el.2 with
          | some ie => (match fillP (slots ie.n i.el.2 i.el.1 0) ts ch ps.toList (match ie.agg with | true => i.zero | false => expd i.zero) with | some l => some (.v (.agg (packL l))) | none => none)
          | none => none)
        | _, _, _ => none)
      | _ :: _ => (match fillP i.flds ts ch ps.toList i.zero with | some l => some (.v (.agg l)) | none => none))
    | none => none)
  | .field t x f => opField T t (ev ts ch x) f
  | .extract x i => opExtract (ev ts ch x) i
  | .call c => (match c.callee with
    | .builtin .len => (match c.argTypes.toList, c.args.toList with
      | t :: _, [x] => opLen T t (ev ts ch x) st
      | _, _ => none)
    | .builtin .min => (match c.args.toList with
      | [x, y] => opMM true (ev ts ch x) (ev ts ch y)
      | _ => none)
    | .builtin .max => (match c.args.toList with
      | [x, y] => opMM false (ev ts ch x) (ev ts ch y)
      | _ => none)
    | .value (.func f) => (match sp f with
      | some (.tot S) => (match argsOf ts ch c.args.toList with | some l => S l | none => none)
      | _ => none)
    | _ => none)
  | _ => none
end
section
variable {T : Tb} {sp : FuncId → Option Spec} {P : Program} {B : Base} {β : Nat → Option Value} {F : Nat → Prop} {w : World} {st : St}
theorem cmpR_dn (lit r : Bool) : DnR β F w (cmpR lit r) (.bool r) := by cases lit; exact ⟨rfl, trivial⟩; cases r <;> rfl
theorem mkI_dn {k : IntKind} {a : Int} (h : inR k a) : DnR β F w (mkI k a) (.int k a) := ⟨rfl, h⟩
theorem bitR_dn (lit : Bool) {k : IntKind} {a : Int} (h : inR k a) : DnR β F w (bitR lit k a) (.int k a) := by cases lit; exact mkI_dn h; exact ⟨rfl, h⟩
theorem mkB_dn (b : Bool) : DnR β F w (mkB b) (.bool b) := ⟨rfl, trivial⟩
theorem eqCK_eq {a b : CKd} (h : eqCK a b = true) : a = b := by
  cases a <;> cases b <;> simp only [eqCK] at h <;> first | rfl | (rw [eqK_eq h]) | cases h
theorem eqCKs_eq : ∀ {a b : List CKd}, eqCKs a b = true → a = b
  | [], [], _ => rfl
  | a :: r, b :: s, h => by simp only [eqCKs, Bool.and_eq_true] at h; rw [eqCK_eq h.1, eqCKs_eq h.2]
theorem KdL.app : ∀ {a b : List CKd} {l m : List Value}, KdL a l → KdL b m → KdL (a ++ b) (l ++ m)
  | [], b, l, m, h, h' => by rw [show l = [] from h]; exact h'
  | a :: r, b, l, m, h, h' => by obtain ⟨v, n, rfl, h1, h2⟩ := h; exact ⟨v, n ++ m, rfl, h1, KdL.app h2 h'⟩
theorem kdC_ok {c : CV} {ks : List CKd} (h : kdC c = some ks) {l : List Value} (hd : DnC β F w c l) : KdL ks l := by
  unfold kdC at h
  split at h <;> cases h
  · obtain ⟨u, rfl, ⟨rfl, h1⟩, _⟩ := hd; exact ⟨_, [], rfl, ⟨_, rfl, h1⟩, rfl⟩
  · obtain ⟨u, rfl, ⟨rfl, h1⟩, _⟩ := hd; exact ⟨_, [], rfl, ⟨_, rfl, h1⟩, rfl⟩
  · obtain ⟨u, rfl, ⟨rfl, h1⟩, _⟩ := hd; exact ⟨_, [], rfl, ⟨_, rfl⟩, rfl⟩
  · obtain ⟨u, rfl, h1, _⟩ := hd; exact ⟨_, [], rfl, ⟨_, h1⟩, rfl⟩
  · obtain ⟨u, rfl, ⟨rfl, h1⟩, _⟩ := hd; exact ⟨_, [], rfl, ⟨_, rfl, h1⟩, rfl⟩
  · rename_i k n d
    obtain ⟨rfl, rfl, g3⟩ := hd
    have : ∀ d : List Int, (∀ y ∈ d, inR k y) → KdL (List.replicate d.length (.int k)) (d.map (Value.int k)) := by
      intro d
      induction d with
      | nil => intro _; rfl
      | cons a r ih => intro h; exact ⟨_, _, rfl, ⟨a, rfl, h a (by simp)⟩, ih fun y hy => h y (by simp [hy])⟩
    exact this d g3
theorem kdL_ok : ∀ {c : List CV} {ks : List CKd} {l : List Value}, kdL c = some ks → DnL β F w c l → KdL ks l
  | [], ks, l, h, hd => by simp only [kdL] at h; cases h; exact hd
  | c :: r, ks, l, h, hd => by
    simp only [kdL] at h
    split at h
    · rename_i a b h1 h2
      cases h
      obtain ⟨a', b', rfl, d1, d2⟩ := hd
      exact (kdC_ok h1 d1).app (kdL_ok h2 d2)
    · cases h
theorem map_int_inj {k : IntKind} : ∀ {d e : List Int}, d.map (Value.int k) = e.map (Value.int k) ↔ d = e
  | [], [] => by simp
  | [], _ :: _ => by simp
  | _ :: _, [] => by simp
  | a :: d, b :: e => by simp [map_int_inj (d := d) (e := e)]
theorem bytes_eq {s t : ByteArray} : (s.toList == t.toList) = true ↔ s = t := by
  rw [beq_iff_eq, ByteArray.toList_eq, ByteArray.toList_eq]
  refine ⟨fun h => ?_, fun h => by rw [h]⟩
  have := Array.toList_inj.1 h
  cases s; cases t; simp_all
theorem eqII_ok {k k' : IntKind} {a b : Int} {r : Bool} (h : eqII k k' a b = some r) : (r = true ↔ [Value.int k a] = [Value.int k' b]) := by
  unfold eqII at h
  split at h
  · rename_i e; cases h; rw [eqK_eq e]; simp
  · cases h
theorem eqCC_ok {c d : CV} {r : Bool} (h : eqCC c d = some r) {l m : List Value} (h1 : DnC β F w c l) (h2 : DnC β F w d m) : (r = true ↔ l = m) ∧ l.length = m.length := by
  unfold eqCC at h
  split at h
  · obtain ⟨u, rfl, ⟨rfl, _⟩, _⟩ := h1; obtain ⟨v, rfl, ⟨rfl, _⟩, _⟩ := h2; exact ⟨eqII_ok h, rfl⟩
  · obtain ⟨u, rfl, ⟨rfl, _⟩, _⟩ := h1; obtain ⟨v, rfl, ⟨rfl, _⟩, _⟩ := h2; exact ⟨eqII_ok h, rfl⟩
  · obtain ⟨u, rfl, ⟨rfl, _⟩, _⟩ := h1; obtain ⟨v, rfl, ⟨rfl, _⟩, _⟩ := h2; exact ⟨eqII_ok h, rfl⟩
  · obtain ⟨u, rfl, ⟨rfl, _⟩, _⟩ := h1; obtain ⟨v, rfl, ⟨rfl, _⟩, _⟩ := h2; exact ⟨eqII_ok h, rfl⟩
  · obtain ⟨u, rfl, ⟨rfl, _⟩, _⟩ := h1; obtain ⟨v, rfl, ⟨rfl, _⟩, _⟩ := h2; cases h; simp
  · obtain ⟨u, rfl, ⟨rfl, _⟩, _⟩ := h1; obtain ⟨v, rfl, h2, _⟩ := h2; rw [show v = _ from h2]; cases h; simp
  · obtain ⟨u, rfl, h1, _⟩ := h1; obtain ⟨v, rfl, ⟨rfl, _⟩, _⟩ := h2; rw [show u = _ from h1]; cases h; simp
  · obtain ⟨u, rfl, h1, _⟩ := h1; obtain ⟨v, rfl, h2, _⟩ := h2; rw [show u = _ from h1, show v = _ from h2]; cases h; simp
  · obtain ⟨u, rfl, ⟨rfl, _⟩, _⟩ := h1; obtain ⟨v, rfl, ⟨rfl, _⟩, _⟩ := h2; cases h; rw [bytes_eq]; simp
  · split at h
    · rename_i e1 e2
      cases h
      obtain ⟨l1, rfl, l3⟩ := h1
      obtain ⟨m1, rfl, m3⟩ := h2
      rw [eqK_eq e1, beq_iff_eq, map_int_inj]
      exact ⟨Iff.rfl, by simp [l1, m1, Nat.eq_of_beq_eq_true e2]⟩
    · cases h
  · cases h
theorem eqLL_ok : ∀ {c d : List CV} {r : Bool}, eqLL c d = some r → ∀ {l m : List Value}, DnL β F w c l → DnL β F w d m → (r = true ↔ l = m) := by
  intro c
  induction c with
  | nil =>
    intro d r h l m h1 h2
    cases d with
    | nil => simp only [eqLL] at h; cases h; rw [show l = [] from h1, show m = [] from h2]; simp
    | cons => simp [eqLL] at h
  | cons a rs ih =>
    intro d r h l m h1 h2
    cases d with
    | nil => cases rs <;> simp [eqLL] at h
    | cons b ss =>
      obtain ⟨l1, l2, rfl, p1, p2⟩ := h1
      obtain ⟨m1, m2, rfl, q1, q2⟩ := h2
      have gen : ∀ x y, eqCC a b = some x → eqLL rs ss = some y → ((x && y) = true ↔ l1 ++ l2 = m1 ++ m2) := by
        intro x y hx hy
        obtain ⟨r1, r3⟩ := eqCC_ok hx p1 q1
        have r2 := ih hy p2 q2
        rw [Bool.and_eq_true, r1, r2]
        exact ⟨fun h => by rw [h.1, h.2], fun h => List.append_inj h r3⟩
      cases rs with
      | nil =>
        cases ss with
        | nil => simp only [eqLL] at h; simpa using gen r true h rfl
        | cons b' ss =>
          simp only [eqLL] at h
          split at h
          · rename_i x y hx hy; cases h; exact gen x y hx hy
          · cases h
      | cons a' rs =>
        simp only [eqLL] at h
        split at h
        · rename_i x y hx hy; cases h; exact gen x y hx hy
        · cases h
theorem opAggEq_ok (hT : ∀ t i, T t = some i → TyOk P t i) {op : BinOp} {t : TypeId} {l m : List CV} {r : Rs} (h : opAggEq T op t l m = some r) {u v : Value} (hx : DnR β F w (.v (.agg l)) u) (hy : DnR β F w (.v (.agg m)) v) :
    ∃ z, (∀ w', (binOp op t u v).run P w' = .ok z w') ∧ DnR β F w r z ∧ ∀ p q w', (eqGuard op t p q u v).run P w' = .ok () w' := by
  unfold opAggEq at h
  split at h
  · rename_i i hi
    split at h
    · rename_i ks a b hk ha hb
      obtain ⟨xs, rfl, hx⟩ := hx
      obtain ⟨ys, rfl, hy⟩ := hy
      obtain ⟨hg, heq⟩ := (hT t i hi).eqk ks hk
      split at h
      · rename_i rr e1 e2 e3
        have e1 := eqCKs_eq e1
        have e2 := eqCKs_eq e2
        subst e2
        rw [e1] at ha
        have hE : ∀ w', (Op.equal t (.agg xs.toArray) (.agg ys.toArray)).run P w' = .ok rr w' := fun w' => by
          obtain ⟨r', h1, h2⟩ := heq w' xs ys (kdL_ok ha hx) (kdL_ok hb hy)
          have h3 := eqLL_ok e3 hx hy
          rw [h1, show r' = rr by rw [Bool.eq_iff_iff, h2, h3]]
        have hG : ∀ (p q : Operand) (w' : World), (eqGuard op t p q (.agg xs.toArray) (.agg ys.toArray)).run P w' = .ok () w' := fun p q w' => run_eqGuard_agg w' op t p q _ _ hg
        split at h <;> cases h
        · refine ⟨.bool rr, fun w' => ?_, mkB_dn _, hG⟩
          have := hE w'
          simp only [binOp, Sem.run_bind, this, Result.andThen_ok, Sem.run_pure]
        · refine ⟨.bool (!rr), fun w' => ?_, mkB_dn _, hG⟩
          have := hE w'
          simp only [binOp, Sem.run_bind, this, Result.andThen_ok, Sem.run_pure]
      · cases h
    · cases h
  · cases h
theorem nlV_dn {c : CV} {b : Bool} (h : nlV c = some b) {u : Value} (hd : Dn β F w c u) : ∃ p, u = .pointer p ∧ p.isNone = b := by
  unfold nlV at h
  split at h <;> cases h
  · obtain ⟨rfl, _⟩ := hd; exact ⟨none, rfl, rfl⟩
  · obtain ⟨g, _, rfl⟩ := hd; exact ⟨_, rfl, rfl⟩
  · obtain ⟨g, o, cs, rfl, _⟩ := hd; exact ⟨_, rfl, rfl⟩
  · obtain ⟨g, o, n, cap, _, rfl⟩ := hd; exact ⟨_, rfl, rfl⟩
  · obtain ⟨_, g, _, rfl⟩ := hd; exact ⟨_, rfl, rfl⟩
  · obtain ⟨_, g, o, m, cap, _, rfl⟩ := hd; exact ⟨_, rfl, rfl⟩
  · obtain ⟨_, g, o, cs, rfl, _⟩ := hd; exact ⟨_, rfl, rfl⟩
theorem pointee_of {e t : TypeId} (h : P.underlying t = some (.pointer e)) : P.underlying t = some (.pointer (P.pointee t)) := by
  rw [h]; simp [Program.pointee, h]
theorem ptrEq_ok (hT : ∀ t i, T t = some i → TyOk P t i) {op : BinOp} {t : TypeId} {c d : CV} {r : Rs} (h : ptrEq T op t c d = some r) {u v : Value} (hc : Dn β F w c u) (hd : Dn β F w d v) :
    ∃ z, (∀ w', (binOp op t u v).run P w' = .ok z w') ∧ DnR β F w r z ∧ ∀ p q w', (eqGuard op t p q u v).run P w' = .ok () w' := by
  unfold ptrEq at h
  split at h
  · rename_i a i h1 h2 hi
    have hk := (hT t i hi).kd
    obtain ⟨p, rfl, hp⟩ := nlV_dn h1 hc
    obtain ⟨q, rfl, hq⟩ := nlV_dn h2 hd
    obtain rfl : q = none := by cases q <;> simp_all
    split at h <;> cases h
    all_goals
      rename_i hkd
      rw [hkd] at hk
      subst hp
    · exact ⟨_, fun w' => run_eql_pointer_nil w' t p (pointee_of hk), cmpR_dn _ _, fun p q w' => by simp [eqGuard]⟩
    · exact ⟨_, fun w' => run_neq_pointer_nil w' t p (pointee_of hk), cmpR_dn _ _, fun p q w' => by simp [eqGuard]⟩
  · cases h
theorem opBinT_ok (hT : ∀ t i, T t = some i → TyOk P t i) {op : BinOp} {t : TypeId} {x y : Option Rs} {r : Rs} (h : opBinT T op t x y = some r) {u v : Value} (hx : ∀ r, x = some r → DnR β F w r u) (hy : ∀ r, y = some r → DnR β F w r v) :
    ∃ z, (∀ w', (binOp op t u v).run P w' = .ok z w') ∧ DnR β F w r z ∧ ∀ p q w', (eqGuard op t p q u v).run P w' = .ok () w' := by
  unfold opBinT at h
  split at h
  · rename_i c d
    have hc := hx _ rfl
    have hd := hy _ rfl
    split at h
    · rename_i k a k' b h1 h2
      obtain ⟨rfl, ra⟩ := intV_dn h1 hc
      obtain ⟨rfl, rb⟩ := intV_dn h2 hd
      have hg : ∀ p q w', (eqGuard op t p q (.int k a) (.int k' b)).run P w' = .ok () w' := fun p q w' => by cases op <;> simp [eqGuard]
      split at h
      · rename_i he
        have := eqK_eq he
        subst this
        split at h <;> cases h
        all_goals first
          | exact ⟨_, fun w' => (by simp [binOp, Op.intCmp]), cmpR_dn _ _, hg⟩
          | exact ⟨_, fun w' => (by simp [binOp, Op.intBits, bits]), bitR_dn _ (inR_bits _ _ _ _), hg⟩
      · cases h
    · split at h
      · rename_i a b h1 h2
        have e1 := boolV_dn h1 hc
        have e2 := boolV_dn h2 hd
        subst e1; subst e2
        split at h
        · rename_i i hi
          have hk := (hT t i hi).kd
          split at h <;> cases h
          all_goals
            rename_i hkd
            rw [hkd] at hk
          · exact ⟨_, fun w' => run_eql_bool w' t a b hk, cmpR_dn _ _, fun p q w' => by simp [eqGuard]⟩
          · exact ⟨_, fun w' => run_neq_bool w' t a b hk, cmpR_dn _ _, fun p q w' => by simp [eqGuard]⟩
        · cases h
      · split at h
        · rename_i s s' h1 h2
          have e1 := strV_dn h1 hc
          have e2 := strV_dn h2 hd
          subst e1; subst e2
          split at h <;> cases h
          · exact ⟨_, fun w' => (by simp [binOp, Op.stringOp]), mkB_dn _, fun p q w' => by simp [eqGuard]⟩
          · exact ⟨_, fun w' => (by simp [binOp, Op.stringOp]), mkB_dn _, fun p q w' => by simp [eqGuard]⟩
        · exact ptrEq_ok hT h hc hd
  · rename_i l m
    exact opAggEq_ok hT h (hx _ rfl) (hy _ rfl)
  · cases h
theorem evs {c : CV} {s : ByteArray} (h : strV c = some s) {u : Value} (hd : DnR β F w (.v (.one c)) u) : s.size ≤ maxLen := by
  unfold strV at h
  split at h <;> cases h
  obtain ⟨_, h⟩ := hd
  exact h
theorem opConv_ok (hT : ∀ t i, T t = some i → TyOk P t i) {src dst : TypeId} {x : Option Rs} {r : Rs} (h : opConv T src dst x = some r) {u : Value} (hx : ∀ r, x = some r → DnR β F w r u) :
    ∃ z, (∀ w', (convert src dst u).run P w' = .ok z w') ∧ DnR β F w r z := by
  unfold opConv at h
  split at h
  · rename_i i j c hi hj
    have hc := hx _ rfl
    have k1 := (hT src i hi).kd
    have k2 := (hT dst j hj).kd
    split at h
    · rename_i k0 k' e1 e2
      rw [e1] at k1
      rw [e2] at k2
      split at h
      · rename_i k a hv
        obtain ⟨rfl, ra⟩ := intV_dn hv hc
        have hrun : ∀ w', (convert src dst (.int k a)).run P w' = .ok (.int k' (k'.wrap a)) w' := fun w' => by
          simp [convert, run_underlying k1, run_underlying k2, Conv.intToInt]
        split at h <;> cases h
        · rename_i hs _
          have hr := subR_ok hs ra
          exact ⟨_, hrun, by rw [wrap_of hr]; exact mkI_dn hr⟩
        · rename_i hs _
          have hr := subR_ok hs ra
          exact ⟨_, hrun, by rw [wrap_of hr]; exact ⟨rfl, hr⟩⟩
        · exact ⟨_, hrun, mkI_dn (inR_wrap _ _)⟩
      · cases h
    · rename_i e1 e2
      rw [e1] at k1
      rw [e2] at k2
      split at h
      · rename_i s hv
        obtain rfl := strV_dn hv hc
        cases h
        exact ⟨_, fun w' => by simp [convert, run_underlying k1, run_underlying k2], (show DnR β F w (.v (.one (.val (.string s)))) (.string s) from by have := evs hv (hx _ rfl); exact ⟨rfl, this⟩)⟩
      · cases h
    · cases h
  · cases h
theorem foldl_put (off : Nat) : ∀ (us : List Value) (k : Nat) (vs : List Value), off + k + us.length ≤ vs.length →
    (us.zipIdx k).foldl (fun cs (p : Value × Nat) => cs.setIfInBounds (off + p.2) p.1) vs.toArray = (vs.take (off + k) ++ us ++ vs.drop (off + k + us.length)).toArray
  | [], k, vs, _ => by simp
  | u :: us, k, vs, h => by
    simp only [List.length_cons] at h
    rw [List.zipIdx_cons, List.foldl_cons, List.setIfInBounds_toArray]
    have := foldl_put off us (k + 1) (vs.set (off + k) u) (by simp; omega)
    rw [this]
    congr 1
    rw [List.take_set, List.drop_set_of_lt (by omega), show off + (k + 1) = off + k + 1 by omega, List.take_succ_eq_append_getElem (by omega), List.set_append_right _ _ (by simp; omega)]
    simp [Nat.min_eq_left (show off + k ≤ vs.length by omega)]
    omega
theorem fillP_ok {flds : List (Nat × Nat × TypeId)} {ts : Sl} {ch : List (Nat × Bool)} {a : Act} {place : Nat → Option (Nat × Nat)} (hp : ∀ (i : Nat) (p : Nat × Nat × TypeId), flds[i]? = some p → place i = some (p.1, p.2.1)) (hg : gd ts ch = true) (hs : SlOk β F w ts a.tmps) :
    ∀ (ps : List (Nat × Operand)) (l l' : List CV) (vs : List Value), fillP flds ts ch ps l = some l' → DnL β F w l vs → ∃ ws, Instr.fill place vs.toArray (ps.map fun p => (p.1, a.eval p.2)) = some ws.toArray ∧ DnL β F w l' ws
  | [], l, l', vs, h, hd => by simp only [fillP] at h; cases h; exact ⟨vs, rfl, hd⟩
  | (i, x) :: r, l, l', vs, h, hd => by
    simp only [fillP] at h
    split at h
    · rename_i off n e v hf hv
      split at h
      · rename_i us hc
        split at h
        · rename_i hn
          have hn := Nat.eq_of_beq_eq_true hn
          split at h
          · rename_i m hm
            obtain ⟨cs, c1, c2, _⟩ := cellsOf_dn hc (ev_dn hv hg hs)
            obtain ⟨p1, p2⟩ := putSegs_dn _ _ _ _ _ _ hm hd c2
            obtain ⟨ws, q1, q2⟩ := fillP_ok hp hg hs r m l' _ h p1
            refine ⟨ws, ?_, q2⟩
            have hlen : cs.length = n := by rw [c2.len, hn]
            simp only [List.map_cons, Instr.fill, hp i _ hf, c1]
            rw [if_neg (by simp [hlen]; omega)]
            have hfold : (cs.toArray.zipIdx.foldl (fun cs (x : Value × Nat) => cs.setIfInBounds (off + x.2) x.1) vs.toArray) = (vs.take off ++ cs ++ vs.drop (off + cs.length)).toArray := by
              have := foldl_put off cs 0 vs (by omega)
              simp only [Nat.add_zero] at this
              rw [← this, ← Array.foldl_toList, Array.toList_zipIdx]
            rw [hfold]
            exact q1
          · cases h
        · cases h
      · cases h
    · cases h
theorem run_zero {t : TypeId} {v : Value} (h : (P.info? t).bind (·.zero) = some v) (w : World) : (zeroValue t).run P w = .ok v w := by
  cases hi : P.info? t with
  | none => simp [hi] at h
  | some i =>
    have hz : i.zero = some v := by simpa [hi] using h
    simp [zeroValue, typeInfo, hi, hz]
theorem mapM_places : ∀ {fs : List Field}, (∀ f ∈ fs, P.cellsOf f.type ≠ 0) → fs.mapM (fun f => (P.info? f.type).map fun i => (f.offset, i.size)) = some (fs.map fun f => (f.offset, P.cellsOf f.type))
  | [], _ => rfl
  | f :: r, h => by
    have h0 := h f (by simp)
    have ih := mapM_places (fs := r) (fun g hg => h g (by simp [hg]))
    simp only [Program.cellsOf] at h0 ih ⊢
    cases hi : P.info? f.type with
    | none => simp [hi] at h0
    | some i => simp [List.mapM_cons, hi, ih]
theorem build_ok {t : TypeId} {i : Ty} (hi : TyOk P t i) (hf : i.flds ≠ []) {ts : Sl} {ch : List (Nat × Bool)} {a : Act} (hg : gd ts ch = true) (hs : SlOk β F w ts a.tmps) {ps : Array (Nat × Operand)} {l : List CV} (h : fillP i.flds ts ch ps.toList i.zero = some l) :
    ∃ u, (∀ w', (Instr.build t (ps.map fun p => (p.1, a.eval p.2))).run P w' = .ok u w') ∧ DnR β F w (.v (.agg l)) u := by
  obtain ⟨fs, f1, f2, f3⟩ := hi.flds hf
  obtain ⟨z, vs, z1, z2, z3⟩ := hi.zero β F w
  have hne : ∀ f ∈ fs.toList, P.cellsOf f.type ≠ 0 := fun f hm => by
    have := f3 (f.offset, P.cellsOf f.type, f.type) (by rw [← f2]; exact List.mem_map.2 ⟨f, hm, rfl⟩)
    exact this
  have hpl : ∀ (j : Nat) (p : Nat × Nat × TypeId), i.flds[j]? = some p → ((fs.toList.map fun f => (f.offset, P.cellsOf f.type)).toArray[j]?) = some (p.1, p.2.1) := fun j p hj => by
    rw [← f2, List.getElem?_map] at hj
    rw [List.getElem?_toArray, List.getElem?_map]
    cases hq : fs.toList[j]? with
    | none => simp [hq] at hj
    | some f => simp [hq] at hj; subst hj; rfl
  obtain ⟨ws, q1, q2⟩ := fillP_ok (place := fun j => (fs.toList.map fun f => (f.offset, P.cellsOf f.type)).toArray[j]?) hpl hg hs ps.toList i.zero l vs h z3
  refine ⟨_, fun w' => run_build (P := P) w' t _ ws.toArray ?_, ws, rfl, q2⟩
  cases hq : P.info? t with
  | none => simp [hq] at z1
  | some it =>
    have hz : it.zero = some z := by simpa [hq] using z1
    simp only [Program.built, hq, f1, hz, mapM_places hne, z2]
    rw [Array.toList_map]
    exact q1
theorem slots_get (n : Nat) (e : TypeId) : ∀ (k i : Nat) (j : Nat) p, (slots n e k i)[j]? = some p → p = ((i + j) * n, n, e)
  | k + 1, i, 0, p, h => by simp [slots] at h; rw [← h]; simp
  | k + 1, i, j + 1, p, h => by
    have := slots_get n e k (i + 1) j p (by simpa [slots] using h)
    rw [this, show i + 1 + j = i + (j + 1) by omega]
theorem ils_dn {k : IntKind} : ∀ {d : List Int}, (∀ y ∈ d, inR k y) → DnL β F w (d.map (CV.il k)) (d.map (Value.int k))
  | [], _ => rfl
  | y :: d, h => ⟨[.int k y], d.map (Value.int k), rfl, ⟨_, rfl, ⟨rfl, h y (by simp)⟩, rfl⟩, ils_dn fun z hz => h z (by simp [hz])⟩
theorem expd_dn : ∀ {c : List CV} {l : List Value}, DnL β F w c l → DnL β F w (expd c) l
  | [], l, h => h
  | c :: r, l, h => by
    obtain ⟨a, b, rfl, h1, h2⟩ := h
    cases c with
    | run k n d => obtain ⟨e1, rfl, e3⟩ := h1; exact (ils_dn e3).app (expd_dn h2)
    | _ => exact ⟨a, b, rfl, h1, expd_dn h2⟩
theorem build_arr (hT : ∀ t i, T t = some i → TyOk P t i) {t : TypeId} {i ie : Ty} (hi : TyOk P t i) (ha : i.el.1 ≠ 0) (hie : T i.el.2 = some ie) {ts : Sl} {ch : List (Nat × Bool)} {a : Act} (hg : gd ts ch = true) (hs : SlOk β F w ts a.tmps) {ps : Array (Nat × Operand)} {l : List CV} (h : fillP (slots ie.n i.el.2 i.el.1 0) ts ch ps.toList (match ie.agg with | true => i.zero | false => expd i.zero) = some l) :
    ∃ u, (∀ w', (Instr.build t (ps.map fun p => (p.1, a.eval p.2))).run P w' = .ok u w') ∧ DnR β F w (.v (.agg l)) u := by
  obtain ⟨z, vs, z1, z2, z3⟩ := hi.zero β F w
  obtain ⟨e1, e2⟩ := hi.el ha
  have hsz := (hT _ _ hie).size
  obtain ⟨ws, q1, q2⟩ := fillP_ok (place := fun j => some (j * ie.n, ie.n)) (fun j p hj => by rw [slots_get _ _ _ _ _ _ hj]; simp) hg hs ps.toList _ l vs h (by split; exact z3; exact expd_dn z3)
  refine ⟨_, fun w' => run_build (P := P) w' t _ ws.toArray ?_, ws, rfl, q2⟩
  cases hq : P.info? t with
  | none => simp [hq] at z1
  | some it =>
    have hz : it.zero = some z := by simpa [hq] using z1
    cases hq2 : P.info? i.el.2 with
    | none => simp [hq2] at hsz
    | some it2 =>
      have h2 : it2.size = ie.n := by simpa [hq2] using hsz
      simp only [Program.built, hq, e1, hz, hq2, z2, h2]
      rw [Array.toList_map]
      exact q1
theorem build_nil {t : TypeId} {i : Ty} (hi : TyOk P t i) (ha : i.el.1 ≠ 0) : ∃ u, (∀ w', (Instr.build t #[]).run P w' = .ok u w') ∧ DnR β F w (.v (.agg i.zero)) u := by
  obtain ⟨z, vs, z1, z2, z3⟩ := hi.zero β F w
  obtain ⟨e1, e2⟩ := hi.el ha
  cases hq : P.info? i.el.2 with
  | none => simp [hq] at e2
  | some ie =>
    refine ⟨.agg vs.toArray, fun w' => ?_, vs, rfl, z3⟩
    have hs : (sizeOf i.el.2).run P w' = .ok ie.size w' := by simp [sizeOf, typeInfo, hq]
    simp [Instr.build, run_zero z1, run_underlying e1, hs, Instr.fill, z2]
theorem part_ok (hT : ∀ t i, T t = some i → TyOk P t i) {e : TypeId} {j : Ty} (hj : T e = some j) {o : Nat} {l m : List CV} {vs : List Value} {r : Rs} (hs : segs o j.n l = some m) (hm : mkVl j m = some r) (hd : DnL β F w l vs) :
    ∃ u, (∀ w', (part e vs.toArray o).run P w' = .ok u w') ∧ DnR β F w r u := by
  have ht := hT e j hj
  obtain ⟨d, d1, d2⟩ := ht.desc
  obtain ⟨h1, h2⟩ := segs_dn _ _ _ _ _ hs hd
  have hlen := h1.len
  rw [segs_len _ _ _ _ hs] at hlen
  rcases mkVl_dn hm h1 with ⟨ha, h⟩ | ⟨ha, u, hu, h⟩
  · refine ⟨_, fun w' => ?_, h⟩
    have hagg : (isAgg e).run P w' = .ok true w' := by
      unfold isAgg
      rw [Sem.run_bind, run_underlying d1 w']
      rw [ha] at d2
      cases d <;> simp_all [isRowD]
    have hsz : (sizeOf e).run P w' = .ok j.n w' := by
      have := ht.size
      cases hq : P.info? e with
      | none => simp [hq] at this
      | some ie => simp [hq] at this; simp [sizeOf, typeInfo, hq, this]
    simp only [part, Sem.run_bind, hagg, Result.andThen_ok, if_true, hsz, Sem.run_pure]
    congr 2
    simp
  · refine ⟨u, fun w' => ?_, h⟩
    have hagg : (isAgg e).run P w' = .ok false w' := by
      unfold isAgg
      rw [Sem.run_bind, run_underlying d1 w']
      rw [ha] at d2
      cases d <;> simp_all [isRowD]
    have h0 : vs[o]? = some u := by
      have : ((vs.drop o).take j.n)[0]? = some u := by rw [hu]; rfl
      rw [List.getElem?_take] at this
      split at this
      · simpa using this
      · cases this
    simp [part, hagg, h0]
end
end Go.Proofs.YtnbbooilapelmaaGreatDoor.V
