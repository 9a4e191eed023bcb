/-
  A symbolic run of a function's text: the operations.
-/
import Derived.Test.YtnbbooilapelmaaGreatDoorKitVa
set_option linter.unusedVariables false
set_option linter.unusedSimpArgs false
namespace Go.Proofs.YtnbbooilapelmaaGreatDoor.V
open Go.RowKit Go.Proofs.YtnbbooilapelmaaGreatDoor

structure En where
  ch : List (Nat × Bool)
  v : Rs
/-- Slots: how many, which of them are asked by guards, what they hold (the newest first). -/
structure Sl where
  n : Nat
  gm : Nat
  l : List (Nat × En)
def anyE : En := ⟨[], .v (.one .any)⟩
def lkE : List (Nat × En) → Nat → Option En
  | [], _ => some anyE
  | (j, e) :: r, i => (match Nat.beq j i with | true => some e | false => lkE r i)
theorem lkE_cons (p : Nat × En) (l : List (Nat × En)) (i : Nat) : lkE (p :: l) i = if p.1 = i then some p.2 else lkE l i := by
  obtain ⟨j, e⟩ := p
  simp only [lkE]
  by_cases h : j = i
  · rw [if_pos h, h, Nat.beq_refl]
  · rw [if_neg h]
    cases hq : Nat.beq j i with
    | false => rfl
    | true => exact absurd (Nat.eq_of_beq_eq_true hq) h
def Sl.get (ts : Sl) (i : Nat) : Option En := match Nat.blt i ts.n with | true => lkE ts.l i | false => none
def tbk (m i : Nat) : Bool := Nat.beq (Nat.land (Nat.shiftRight m i) 1) 1
def bit1 (i : Nat) : Nat := Nat.shiftLeft 1 i
theorem tbk_eq (m i : Nat) : tbk m i = Nat.testBit m i := by
  unfold tbk Nat.testBit
  show Nat.beq ((m >>> i) &&& 1) 1 = (1 &&& (m >>> i) != 0)
  rw [Nat.and_comm]
  have : 1 &&& (m >>> i) = 0 ∨ 1 &&& (m >>> i) = 1 := by
    rw [Nat.and_comm, Nat.and_one_is_mod]; omega
  rcases this with h | h <;> rw [h] <;> rfl
theorem tb_bit1 (t i : Nat) : Nat.testBit (bit1 t) i = decide (t = i) := by
  show Nat.testBit (1 <<< t) i = _
  rw [Nat.one_shiftLeft]
  exact Nat.testBit_two_pow
theorem tb_lor (a b i : Nat) : Nat.testBit (Nat.lor a b) i = (Nat.testBit a i || Nat.testBit b i) := Nat.testBit_or ..
def maskCh : List (Nat × Bool) → Nat
  | [] => 0
  | (s, _) :: r => Nat.lor (bit1 s) (maskCh r)
def Sl.put (ts : Sl) (d : Nat) (e : En) : Sl := ⟨ts.n, match e.ch with | [] => ts.gm | c :: r => Nat.lor ts.gm (maskCh (c :: r)), (d, e) :: ts.l⟩
theorem Sl.get_lt {ts : Sl} {i : Nat} {e : En} (h : ts.get i = some e) : i < ts.n := by
  unfold Sl.get at h
  split at h
  · rename_i hb; exact Nat.le_of_ble_eq_true hb
  · cases h
theorem blt_t {i n : Nat} (h : i < n) : Nat.blt i n = true := Nat.ble_eq_true_of_le h
theorem Sl.put_self {ts : Sl} {d : Nat} {e : En} (h : d < ts.n) : (ts.put d e).get d = some e := by
  unfold Sl.get Sl.put
  simp only [blt_t h, lkE_cons, if_true]
theorem Sl.put_ne {ts : Sl} {d i : Nat} {e : En} (h : d ≠ i) : (ts.put d e).get i = ts.get i := by
  unfold Sl.get Sl.put
  simp only [lkE_cons, if_neg h]
def boolV : CV → Option Bool | .val (.bool b) => some b | .bl b => some b | _ => none
def boolR : Rs → Option Bool | .v (.one c) => boolV c | _ => none
def intV : CV → Option (IntKind × Int) | .val (.int k a) => some (k, a) | .il k a => some (k, a) | _ => none
def strV : CV → Option ByteArray | .val (.string s) => some s | _ => none
/-- Does what lies behind these guards run? -/
def gd (ts : Sl) : List (Nat × Bool) → Bool
  | [] => true
  | (s, want) :: r => gd ts r && (match ts.get s with
    | some e => (match boolR e.v with | some b => b == want | none => false)
    | none => false)
def eqCh : List (Nat × Bool) → List (Nat × Bool) → Bool
  | [], [] => true
  | (a, b) :: r, (c, d) :: s => Nat.beq a c && ((b == d) && eqCh r s)
  | _, _ => false
theorem eqCh_eq : ∀ {l m : List (Nat × Bool)}, eqCh l m = true → l = m
  | [], [], _ => rfl
  | (a, b) :: r, (c, d) :: s, h => by
    simp only [eqCh, Bool.and_eq_true, beq_iff_eq] at h
    rw [Nat.eq_of_beq_eq_true h.1, h.2.1, eqCh_eq h.2.2]
/-- ch' is an end of ch. -/
def chk : List (Nat × Bool) → List (Nat × Bool) → Bool
  | _, [] => true
  | [], _ :: _ => false
  | x :: r, y :: s => eqCh (x :: r) (y :: s) || chk r (y :: s)
theorem chk_gd {ts : Sl} : ∀ {ch ch' : List (Nat × Bool)}, chk ch ch' = true → gd ts ch = true → gd ts ch' = true
  | ch, [], _, _ => rfl
  | x :: r, y :: s, h, hg => by
    simp only [chk, Bool.or_eq_true] at h
    rcases h with h | h
    · rw [← eqCh_eq h]; exact hg
    · exact chk_gd h (by cases x; simp only [gd, Bool.and_eq_true] at hg; exact hg.1)
def noUse (d : Nat) : List (Nat × Bool) → Bool
  | [] => true
  | (s, _) :: r => !(Nat.beq s d) && noUse d r
def freeIn (d : Nat) (ts : Sl) : Bool := !tbk ts.gm d
theorem noUse_of {d : Nat} : ∀ {ch : List (Nat × Bool)}, (∀ p ∈ ch, p.1 ≠ d) → noUse d ch = true
  | [], _ => rfl
  | (s, b) :: r, h => by
    simp only [noUse, Bool.and_eq_true, Bool.not_eq_true']
    refine ⟨?_, noUse_of fun p hp => h p (by simp [hp])⟩
    cases hq : Nat.beq s d with
    | false => rfl
    | true => exact absurd (Nat.eq_of_beq_eq_true hq) (h (s, b) (by simp))
theorem tb_maskCh {ch : List (Nat × Bool)} {p : Nat × Bool} (h : p ∈ ch) : Nat.testBit (maskCh ch) p.1 = true := by
  induction ch with
  | nil => cases h
  | cons q r ih =>
    obtain ⟨s, b⟩ := q
    simp only [maskCh, tb_lor, tb_bit1, Bool.or_eq_true, decide_eq_true_eq]
    rcases List.mem_cons.1 h with rfl | h
    · exact .inl rfl
    · exact .inr (ih h)
theorem gd_set {ts : Sl} {d : Nat} {e : En} : ∀ {ch : List (Nat × Bool)}, noUse d ch = true → gd (ts.put d e) ch = gd ts ch
  | [], _ => rfl
  | (s, want) :: r, h => by
    simp only [noUse, Bool.and_eq_true, Bool.not_eq_true'] at h
    have hne : d ≠ s := fun e => by rw [e, Nat.beq_refl] at h; exact absurd h.1 (by simp)
    simp only [gd, gd_set h.2, Sl.put_ne hne]

section
variable (β : Nat → Option Value) (F : Nat → Prop) (w : World)
structure SlOk (ts : Sl) (tmps : Array Value) : Prop where
  size : tmps.size = ts.n
  at_ : ∀ (i : Nat) (e : En), ts.get i = some e → ∃ u, tmps[i]? = some u ∧ (gd ts e.ch = true → DnR β F w e.v u) ∧ (gd ts e.ch = false → u = undef)
  use : ∀ (i : Nat) (e : En), ts.get i = some e → ∀ p ∈ e.ch, Nat.testBit ts.gm p.1 = true
  gl : GlOk F w
end
section
variable {β β' : Nat → Option Value} {F F' : Nat → Prop} {w w' : World}
theorem SlOk.ext {ts : Sl} {tmps : Array Value} (h : SlOk β F w ts tmps) (x : Ext β F w β' F' w') : SlOk β' F' w' ts tmps :=
  ⟨h.size, fun i e he => by obtain ⟨u, h1, h2, h3⟩ := h.at_ i e he; exact ⟨u, h1, fun g => (h2 g).ext x, h3⟩, h.use, h.gl.ext x.f x.k⟩
theorem SlOk.put {ts : Sl} {tmps : Array Value} (h : SlOk β F w ts tmps) {d : Nat} {e : En} {u : Value} (hf : freeIn d ts = true) (hn : noUse d e.ch = true) (h1 : gd ts e.ch = true → DnR β F w e.v u) (h2 : gd ts e.ch = false → u = undef) :
    SlOk β F w (ts.put d e) (tmps.setIfInBounds d u) := by
  have gmle : ∀ k, Nat.testBit ts.gm k = true → Nat.testBit (ts.put d e).gm k = true := fun k hk => by
    unfold Sl.put
    dsimp only
    split
    · exact hk
    · rw [tb_lor, hk]; rfl
  refine ⟨by simp [h.size, Sl.put], fun i e' he' => ?_, fun i e' he' p hp => ?_, h.gl⟩
  · by_cases hi : d = i
    · subst hi
      have hlt : d < ts.n := Sl.get_lt (ts := ts.put d e) he'
      rw [Sl.put_self hlt] at he'
      cases he'
      refine ⟨u, by simp [h.size, hlt], fun g => h1 (by rw [gd_set hn] at g; exact g), fun g => h2 (by rw [gd_set hn] at g; exact g)⟩
    · rw [Sl.put_ne hi] at he'
      obtain ⟨v, h3, h4, h5⟩ := h.at_ i e' he'
      have hn' : noUse d e'.ch = true := noUse_of fun p hp e => by
        have := h.use i e' he' p hp
        unfold freeIn at hf
        rw [tbk_eq, ← e, this] at hf
        cases hf
      exact ⟨v, by rw [Array.getElem?_setIfInBounds_ne hi]; exact h3, fun g => h4 (by rw [gd_set hn'] at g; exact g), fun g => h5 (by rw [gd_set hn'] at g; exact g)⟩
  · by_cases hi : d = i
    · subst hi
      have hlt : d < ts.n := Sl.get_lt (ts := ts.put d e) he'
      rw [Sl.put_self hlt] at he'
      cases he'
      unfold Sl.put
      dsimp only
      split
      · rename_i hc; rw [hc] at hp; cases hp
      · rename_i c r hc; rw [tb_lor, ← hc, tb_maskCh hp, Bool.or_true]
    · rw [Sl.put_ne hi] at he'
      exact gmle _ (h.use i e' he' p hp)
end

inductive Kd where
  | int (k : IntKind) | bool | str | slice (e : TypeId) | ptr (e : TypeId) | map (k e : TypeId) | oth
/-- Kinds of cells. -/
inductive CKd where
  | int (k : IntKind) | bool | str
def KdC : CKd → Value → Prop
  | .int k, v => ∃ a, v = .int k a ∧ inR k a
  | .bool, v => ∃ b, v = .bool b
  | .str, v => ∃ s, v = .string s ∧ s.size ≤ maxLen
def KdL : List CKd → List Value → Prop
  | [], l => l = []
  | k :: r, l => ∃ v m, l = v :: m ∧ KdC k v ∧ KdL r m
/-- Layout of a type: its cells, its zero, its fields (where, how many cells, of which type), is it a struct or an array, an array's number and type of elements, its bytes, its shape. -/
structure Ty where
  n : Nat
  zero : List CV
  flds : List (Nat × Nat × TypeId)
  agg : Bool
  el : Nat × TypeId
  by_ : Nat
  kd : Kd
  sh : Option Sh
  eqk : Option (List CKd)
abbrev Tb := TypeId → Option Ty
def toC : Value → Option CV
  | .int k z => if inR k z then some (.il k z) else none
  | .bool b => some (.bl b)
  | .string s => if s.size ≤ maxLen then some (.val (.string s)) else none
  | .pointer none => some (.val (.pointer none))
  | .slice none 0 0 => some (.val (.slice none 0 0))
  | .map none => some (.val (.map none))
  | .nilFunc => some (.val .nilFunc)
  | _ => none
theorem toC_dn {β : Nat → Option Value} {F : Nat → Prop} {w : World} {v : Value} {c : CV} (h : toC v = some c) : Dn β F w c v := by
  unfold toC at h
  split at h
  · split at h
    · rename_i hr; cases h; exact ⟨rfl, hr⟩
    · cases h
  case h_3 =>
    split at h
    · rename_i hr; cases h; exact ⟨rfl, hr⟩
    · cases h
  all_goals first | (cases h; first | rfl | exact ⟨rfl, trivial⟩ | exact ⟨rfl, rfl, rfl⟩) | cases h
def ev (ts : Sl) (ch : List (Nat × Bool)) : Operand → Option Rs
  | .tmp t => match ts.get t with
    | some e => (match chk ch e.ch with | true => some e.v | false => none)
    | none => none
  | .const v => match toC v with | some c => some (.v (.one c)) | none => none
  | .func f => some (.v (.one (.val (.func (.func f) #[] #[]))))
  | .global g => (match Gr g with | some (n, k, l) => some (.v (.one (.rp (.arr n k) l 0))) | none => none)
theorem ev_dn {β : Nat → Option Value} {F : Nat → Prop} {w : World} {ts : Sl} {ch : List (Nat × Bool)} {x : Operand} {r : Rs} {a : Act} (h : ev ts ch x = some r) (hg : gd ts ch = true) (hs : SlOk β F w ts a.tmps) : DnR β F w r (a.eval x) := by
  cases x with
  | tmp t =>
    simp only [ev] at h
    split at h
    · rename_i e he
      split at h
      · rename_i hc
        cases h
        obtain ⟨u, h1, h2, _⟩ := hs.at_ t e he
        have : a.eval (.tmp t) = u := by simp [Act.eval, h1]
        rw [this]
        exact h2 (chk_gd hc hg)
      · cases h
    · cases h
  | const v =>
    simp only [ev] at h
    split at h
    · rename_i c hc; cases h; exact toC_dn hc
    · cases h
  | global g =>
    simp only [ev] at h
    split at h
    · rename_i n k l hg
      cases h
      obtain ⟨h1, h2, h3, ty, fz, h4⟩ := hs.gl.nums g n k l hg
      refine ⟨g, 0, l.map (Value.int k), rfl, h1, ⟨h2, rfl, h3⟩, fun j y hy => ?_⟩
      simp only [World.cell?, h4, Nat.zero_add]
      simpa using hy
    · cases h
  | func f => simp only [ev] at h; cases h; exact ⟨rfl, rfl, rfl⟩

/-- A cell that may be stored. -/
def solid : CV → Bool | .any => false | .run .. => false | _ => true
theorem Dn.one {β : Nat → Option Value} {F : Nat → Prop} {w : World} {c : CV} {u : Value} (hs : solid c = true) (h : Dn β F w c u) : u.oneCell' = true := by
  cases c with
  | val v => obtain ⟨rfl, h⟩ := h; exact h.one
  | il k z => rw [h.1]; rfl
  | bl b => rw [show u = _ from h]; rfl
  | ptr id off => obtain ⟨g, _, rfl⟩ := h; rfl
  | sl id => obtain ⟨_, a, n, c, rfl⟩ := h; rfl
  | rd a x => obtain ⟨ad, cap, e, _⟩ := h; cases e; rfl
  | rp a x c => obtain ⟨g, o, cs, rfl, _⟩ := h; rfl
  | ep id sz i c => obtain ⟨g, o, n, cap, _, rfl⟩ := h; rfl
  | run k n d => simp [solid] at hs
  | any => simp [solid] at hs
  | sv id sz lo n => obtain ⟨v, _, ⟨_, _, _, rfl⟩ | ⟨g, o, len, cap, o', _, _, rfl, _⟩⟩ := h <;> rfl
  | pa id off n j => obtain ⟨_, g, _, rfl⟩ := h; rfl
  | ea id sz i c n j => obtain ⟨_, g, o, m, cap, _, rfl⟩ := h; rfl
  | ra a x c n j => obtain ⟨_, g, o, cs, rfl, _⟩ := h; rfl
  | fn f cap => obtain ⟨vs, rfl, _⟩ := h; rfl
  | nm k => obtain ⟨z, rfl, _⟩ := h; rfl
  | mv id => obtain ⟨_, g, rfl⟩ := h; rfl
def cellsOf : Rs → Option (List CV)
  | .v (.one c) => (match solid c with | true => some [c] | false => none)
  | .v (.agg l) => some l
  | _ => none
theorem cellsOf_dn {β : Nat → Option Value} {F : Nat → Prop} {w : World} {r : Rs} {l : List CV} {u : Value} (h : cellsOf r = some l) (hd : DnR β F w r u) : ∃ vs, u.cells = vs.toArray ∧ DnL β F w l vs ∧ (u = .agg vs.toArray ∨ (vs = [u] ∧ u.oneCell' = true)) := by
  cases r with
  | tup _ => simp [cellsOf] at h
  | v x =>
    cases x with
    | agg m => simp only [cellsOf] at h; cases h; obtain ⟨vs, rfl, h⟩ := hd; exact ⟨vs, rfl, h, .inl rfl⟩
    | one c =>
      simp only [cellsOf] at h
      split at h
      · rename_i hs
        cases h
        have h1 := Dn.one hs hd
        refine ⟨[u], ?_, ⟨[u], [], rfl, ?_, rfl⟩, .inr ⟨rfl, h1⟩⟩
        · cases u <;> simp [Value.cells] at h1 ⊢ <;> simp_all [Value.oneCell']
        · cases c <;> first | exact ⟨u, rfl, hd, h1⟩ | simp [solid] at hs
      · cases h
def mkVl (i : Ty) (l : List CV) : Option Rs := match i.agg with
  | true => some (.v (.agg l))
  | false => (match l with | [.run ..] => none | [c] => some (.v (.one c)) | _ => none)
def isRowD : TypeDesc → Bool | .struct _ | .array _ _ => true | _ => false

/-- What the table says of a type is so. -/
structure TyOk (P : Program) (t : TypeId) (i : Ty) : Prop where
  size : (P.info? t).map (·.size) = some i.n
  zn : cwid i.zero = i.n
  zero : ∀ (β : Nat → Option Value) F w, ∃ v vs, (P.info? t).bind (·.zero) = some v ∧ v.cells = vs.toArray ∧ DnL β F w i.zero vs
  desc : ∃ d, P.underlying t = some d ∧ isRowD d = i.agg
  flds : i.flds ≠ [] → ∃ fs, P.underlying t = some (.struct fs) ∧ fs.toList.map (fun f => (f.offset, P.cellsOf f.type, f.type)) = i.flds ∧ ∀ p ∈ i.flds, p.2.1 ≠ 0
  el : i.el.1 ≠ 0 → P.underlying t = some (.array i.el.1 i.el.2) ∧ (P.info? i.el.2).isSome = true
  by_ : (P.info? t).map (·.bytes) = some i.by_
  kd : match i.kd with
    | .int k => P.underlying t = some (.int k)
    | .bool => P.underlying t = some .bool
    | .str => P.underlying t = some .string
    | .slice e => P.underlying t = some (.slice e)
    | .ptr e => P.underlying t = some (.pointer e)
    | .map k e => P.underlying t = some (.map k e)
    | .oth => True
  zo : i.agg = false → ∀ v, (P.info? t).bind (·.zero) = some v → v.cells = #[v]
  eqk : ∀ ks, i.eqk = some ks → P.eqGuardType P.depth t = false ∧ ∀ (w : World) (xs ys : List Value), KdL ks xs → KdL ks ys → ∃ r, (Op.equal t (.agg xs.toArray) (.agg ys.toArray)).run P w = .ok r w ∧ (r = true ↔ xs = ys)

section
variable {P : Program} {o : Oper} {a : Act} {w w' : World} {K : Act → World → Prop} {Q : Exit → Act → World → Prop}
theorem wp_val {u : Value} (h : (execOp a.eval o).run P w = .ok (.value u) w') (k : K (a.put o.dst u) w') : o.wp P a w K Q := by
  unfold Oper.wp; rw [h]; exact k
theorem wp_skip (h : (execOp a.eval o).run P w = .ok .skip w') (k : K (a.put o.dst undef) w') : o.wp P a w K Q := by
  unfold Oper.wp; rw [h]; exact k
end

/-- A number's place in an array of numbers. -/
def runAt (c n : Nat) (cells : List CV) : Option (IntKind × List Int) := match segs c n cells with | some [.run k m d] => (match Nat.beq m n with | true => some (k, d) | false => none) | _ => none
section
variable (T : Tb)
def opBox (t : TypeId) (x : Option Rs) (st : St) (K : Rs → St → Prop) : Prop :=
  match x with
  | some r => (match cellsOf r with
    | some l => K (.v (.one (.ptr st.nx 0))) ⟨st.nx + 1, (st.nx, .blk l t) :: st.h⟩
    | none => False)
  | none => False
def opAlloc (t : TypeId) (st : St) (K : Rs → St → Prop) : Prop :=
  match T t with
  | some i => K (.v (.one (.ptr st.nx 0))) ⟨st.nx + 1, (st.nx, .blk i.zero t) :: st.h⟩
  | none => False
def opLoad (t : TypeId) (x : Option Rs) (st : St) : Option Rs :=
  match T t with
  | none => none
  | some i => match x with
    | some (.v (.one (.ptr id off))) => (match look st.h id with
      | some (.blk cells _) => (match segs off i.n cells with
        | some l => mkVl i l
        | none => none)
      | _ => none)
    | some (.v (.one (.rp a y c))) => (match segs c i.n (mkC a y) with
      | some l => mkVl i l
      | none => none)
    | some (.v (.one (.ra a y c n j))) => (match i.agg, Nat.beq i.n 1, runAt c n (mkC a y) with
      | false, true, some (k, d) => some (.v (.one (.val (.int k (d.getD j 0)))))
      | _, _, _ => none)
    | some (.v (.one (.pa id off n j))) => (match i.agg, Nat.beq i.n 1, look st.h id with
      | false, true, some (.blk cells _) => (match runAt off n cells with
        | some (k, d) => some (.v (.one (.val (.int k (d.getD j 0)))))
        | none => none)
      | _, _, _ => none)
    | _ => none
def opLoadE (t : TypeId) (x : Option Rs) (st : St) (K : Rs → St → Prop) : Prop :=
  match T t with
  | none => False
  | some i => match x with
    | some (.v (.one (.ep id sz ix c))) => (match look st.h id with
      | some (.own _ a xs) => (match Nat.beq sz a.size with
        | true => ix < xs.length ∧ ∀ y, xs[ix]? = some y → (match segs c i.n (mkC a y) with
          | some l => (match mkVl i l with | some v => K v st | none => False)
          | none => False)
        | false => False)
      | _ => False)
    | _ => False
end

section
variable {T : Tb} {P : Program} {B : Base} {β : Nat → Option Value} {F : Nat → Prop} {w : World} {st : St}
def isBlk : Ck → Bool | .blk .. => true | _ => false
/-- The blocks that may be read: what is frozen, and variables. -/
def Gd (st : St) (β : Nat → Option Value) (F : Nat → Prop) (k : Nat) : Prop := F k ∨ ∃ p ∈ st.h, isBlk p.2 = true ∧ bk (β p.1) = some k
/-- A new block. -/
theorem Sat.new (h : Sat B β F st w) {l : List CV} {vs : List Value} (t : TypeId) (hd : DnL β F w l vs) :
    ∃ β', Ext β F w β' F (w.alloc (.cells vs.toArray t)) ∧ Sat B β' F ⟨st.nx + 1, (st.nx, .blk l t) :: st.h⟩ (w.alloc (.cells vs.toArray t)) ∧ β' st.nx = some (.pointer (some ⟨w.heap.size, 0, none⟩)) ∧ ∀ k, Gd st β F k → Gd ⟨st.nx + 1, (st.nx, .blk l t) :: st.h⟩ β' F k ∧ (w.alloc (.cells vs.toArray t)).heap[k]? = w.heap[k]? := by
  refine ⟨fun id => if id = st.nx then some (.pointer (some ⟨w.heap.size, 0, none⟩)) else β id, ?_, ?_, by simp, fun k hk => ?_⟩
  · refine ⟨fun id v hv => ?_, fun _ h => h, fun k hk => Below.heap_alloc _ _ _ (h.frz k hk)⟩
    have : id ≠ st.nx := fun e => by rw [h.fresh id (by omega)] at hv; cases hv
    simp [this, hv]
  · have hx : Ext β F w (fun id => if id = st.nx then some (.pointer (some ⟨w.heap.size, 0, none⟩)) else β id) F (w.alloc (.cells vs.toArray t)) := by
      refine ⟨fun id v hv => ?_, fun _ h => h, fun k hk => Below.heap_alloc _ _ _ (h.frz k hk)⟩
      have : id ≠ st.nx := fun e => by rw [h.fresh id (by omega)] at hv; cases hv
      simp [this, hv]
    have old : ∀ p ∈ st.h, ∀ k, bk (if p.1 = st.nx then some (Value.pointer (some ⟨w.heap.size, 0, none⟩)) else β p.1) = some k → bk (β p.1) = some k := by
      intro p hp k hk
      have : p.1 ≠ st.nx := fun e => by
        have hc := h.cks p hp
        cases hq : p.2 with
        | blk cells ty => rw [hq] at hc; obtain ⟨g, vs, h1, _⟩ := hc; rw [h.fresh _ (by omega)] at h1; cases h1
        | own ty a xs => rw [hq] at hc; obtain ⟨v, vs, h1, _⟩ := hc; rw [h.fresh _ (by omega)] at h1; cases h1
        | xk c => rw [hq] at hc; obtain ⟨v, g, o, h1, _⟩ := hc; rw [h.fresh _ (by omega)] at h1; cases h1
      rwa [if_neg this] at hk
    refine ⟨h.only.al _, fun id hid => ?_, fun p hp => ?_, fun p hp k hk => ?_, ?_, ⟨fun k hk => ?_, h.frz.gl.ext hx.f hx.k⟩, h.f1, h.f2, by have := h.anc.1; simp; omega, fun i hi => ?_⟩
    · have : id ≠ st.nx := by simp at hid; omega
      simp only [if_neg this]
      exact h.fresh id (by simp at hid; omega)
    · rcases List.mem_cons.1 hp with rfl | hp
      · refine ⟨w.heap.size, vs, by simp, heap_alloc_new w _, hd.ext hx⟩
      · have hc := h.cks p hp
        cases hq : p.2 with
        | blk cells ty =>
          rw [hq] at hc
          obtain ⟨g, vs', h1, h2, h3⟩ := hc
          exact ⟨g, vs', hx.b _ _ h1, by rw [Below.heap_alloc _ _ _ (Array.getElem?_eq_some_iff.1 h2).1]; exact h2, h3.ext hx⟩
        | own ty a xs =>
          rw [hq] at hc
          obtain ⟨v, vs', h1, h2, h3⟩ := hc
          exact ⟨v, vs', hx.b _ _ h1, h2.kept (fun k hk => Below.heap_alloc _ _ _ (h2.lt k hk).2), h3.mono hx.f hx.k⟩
        | xk c => rw [hq] at hc; exact Xk.keep hx hc fun k hk => Below.heap_alloc _ _ _ (h.own p hp k hk).2.2
    · rcases List.mem_cons.1 hp with rfl | hp
      · simp [bk] at hk
        subst hk
        exact ⟨.inr h.only.size, fun hf => by have := h.frz _ hf; omega, by simp⟩
      · obtain ⟨h1, h2, h3⟩ := h.own p hp k (old p hp k hk)
        exact ⟨h1, h2, by simp; omega⟩
    · refine List.pairwise_cons.2 ⟨fun q hq k hk hk2 => ?_, ?_⟩
      · simp [bk] at hk
        subst hk
        have := (h.own q hq _ (old q hq _ hk2)).2.2
        omega
      · refine h.sep.imp_of_mem fun {p q} hp hq hpq k hk hk2 => hpq k (old p hp k hk) (old q hq k hk2)
    · have := h.frz k hk; simp; omega
    · have : i ≠ st.nx := by have := h.anc.1; omega
      simp only [if_neg this]
      exact h.anc.2 i hi
  · rcases hk with hk | ⟨p, hp, h1, h2⟩
    · exact ⟨.inl hk, Below.heap_alloc _ _ _ (h.frz k hk)⟩
    · refine ⟨.inr ⟨p, by simp [hp], h1, ?_⟩, Below.heap_alloc _ _ _ (h.own p hp k h2).2.2⟩
      have hne : p.1 ≠ st.nx := fun e => by rw [h.fresh p.1 (by omega)] at h2; cases h2
      simp only [if_neg hne]
      exact h2
theorem run_box (t : TypeId) (u : Value) : (Instr.box t u).run P w = .ok (.pointer (some ⟨w.heap.size, 0, none⟩)) (w.alloc (.cells u.cells t)) := by
  simp [Instr.box, newVar, newRow, go_sem]
theorem run_alloc {t : TypeId} {v : Value} (h : (P.info? t).bind (·.zero) = some v) (old : Value) : (Instr.alloc t true old).run P w = .ok (.pointer (some ⟨w.heap.size, 0, none⟩)) (w.alloc (.cells v.cells t)) := by
  cases hi : P.info? t with
  | none => simp [hi] at h
  | some i =>
    have hz : i.zero = some v := by simpa [hi] using h
    simp [Instr.alloc, zeroValue, typeInfo, hi, hz, newVar, newRow, go_sem]
/-- The cells of a block. -/
theorem range_of {g : Nat} {vs : List Value} {ty : TypeId} {fz : Nat × Nat} (h : w.heap[g]? = some (.cells vs.toArray ty fz)) (off n : Nat) : w.rangeAt g off ((vs.drop off).take n) := by
  intro j v hj
  rw [cell_of_row w g (off + j) _ ty fz h]
  rw [List.getElem?_take] at hj
  split at hj
  · rw [List.getElem?_drop] at hj
    simpa using hj
  · cases hj
theorem run_loadAt {t : TypeId} {i : Ty} (hi : TyOk P t i) {g off : Nat} {cs : List Value} (hl : cs.length = i.n) (hc : w.rangeAt g off cs) :
    (i.agg = true → (Instr.loadAt t (.pointer (some ⟨g, off, none⟩))).run P w = .ok (.agg cs.toArray) w) ∧ (i.agg = false → ∀ u, cs = [u] → (Instr.loadAt t (.pointer (some ⟨g, off, none⟩))).run P w = .ok u w) := by
  obtain ⟨d, hd, hr⟩ := hi.desc
  refine ⟨fun ha => ?_, fun ha u hu => ?_⟩
  · exact run_loadAt_mid w g off t cs d hc hd (by rw [ha] at hr; cases d <;> simp_all [isRowD]) (by rw [hi.size, hl])
  · subst hu
    have h0 := hc 0 u rfl
    have hagg : (isAgg t).run P w = .ok false w := by
      unfold isAgg
      rw [Sem.run_bind, run_underlying hd w]
      rw [ha] at hr
      cases d <;> simp_all [isRowD]
    simp only [Nat.add_zero] at h0
    simp [Instr.loadAt, Instr.sureAddr, loadVar, Sem.run_bind, hagg, load, Sem.run, h0]
theorem mkVl_dn {i : Ty} {l : List CV} {r : Rs} (h : mkVl i l = some r) {vs : List Value} (hd : DnL β F w l vs) : (i.agg = true ∧ DnR β F w r (.agg vs.toArray)) ∨ (i.agg = false ∧ ∃ u, vs = [u] ∧ DnR β F w r u) := by
  unfold mkVl at h
  split at h
  · rename_i ha; cases h; exact .inl ⟨ha, vs, rfl, hd⟩
  · rename_i ha
    split at h
    · cases h
    · rename_i c hn
      cases h
      obtain ⟨a, b, rfl, h1, h2⟩ := hd
      rw [show b = [] from h2]
      cases c <;> first | (obtain ⟨u, rfl, h3, _⟩ := h1; exact .inr ⟨ha, u, rfl, h3⟩) | exact absurd rfl (hn _ _ _)
    · cases h
theorem range_keep {w w' : World} {G : Nat → Prop} (h : ∀ k, G k → w'.heap[k]? = w.heap[k]?) {g off : Nat} {vs : List Value} (hg : G g) (hc : w.rangeAt g off vs) : w'.rangeAt g off vs :=
  fun j v hj => (World.cell?_of_block (w := w) (h g hg)).trans (hc j v hj)
theorem load_ok {t : TypeId} {i : Ty} (hi : TyOk P t i) {l : List CV} {r : Rs} (hm : mkVl i l = some r) {g off : Nat} {vs : List Value} (hd : DnL β F w l vs) (hl : vs.length = i.n) {G : Nat → Prop} (hg : G g) (hc : w.rangeAt g off vs) :
    ∃ u, (∀ w', (∀ k, G k → w'.heap[k]? = w.heap[k]?) → (Instr.loadAt t (.pointer (some ⟨g, off, none⟩))).run P w' = .ok u w') ∧ DnR β F w r u := by
  rcases mkVl_dn hm hd with ⟨ha, h⟩ | ⟨ha, u, e, h⟩
  · exact ⟨_, fun w' hw => (run_loadAt hi hl (range_keep hw hg hc)).1 ha, h⟩
  · exact ⟨u, fun w' hw => (run_loadAt hi hl (range_keep hw hg hc)).2 ha u e, h⟩
theorem segs_len : ∀ (off n : Nat) (cs r : List CV), segs off n cs = some r → cwid r = n := by
  intro off n cs
  induction cs generalizing off n with
  | nil => intro r h; cases off <;> cases n <;> simp [segs] at h; subst h; rfl
  | cons c cs ih =>
    intro r h
    cases off with
    | zero =>
      cases n with
      | zero => simp [segs] at h; subst h; rfl
      | succ n =>
        simp only [segs] at h
        split at h
        · rename_i hle
          cases hs : segs 0 (n + 1 - c.wid) cs with
          | none => simp [hs] at h
          | some r' =>
            obtain rfl : c :: r' = r := by simpa [hs] using h
            have := ih _ _ _ hs
            simp only [cwid, this]
            omega
        · cases h
    | succ off =>
      simp only [segs] at h
      split at h
      · exact ih _ _ _ h
      · cases h
theorem runAt_ok {c n : Nat} {cells : List CV} {k : IntKind} {d : List Int} (h : runAt c n cells = some (k, d)) {l : List Value} (hd : DnL β F w cells l) : segs c n cells = some [.run k n d] ∧ d.length = n ∧ (∀ y ∈ d, inR k y) ∧ (l.drop c).take n = d.map (Value.int k) ∧ c + n ≤ l.length := by
  unfold runAt at h
  split at h
  · rename_i k' m d' hs
    split at h
    · rename_i hm
      have hm := Nat.eq_of_beq_eq_true hm
      subst hm
      cases h
      obtain ⟨h1, h2⟩ := segs_dn _ _ _ _ _ hs hd
      obtain ⟨a, b, e, ⟨g1, g2, g3⟩, g4⟩ := h1
      rw [show b = [] from g4, List.append_nil] at e
      exact ⟨hs, g1, g3, by rw [e, g2], h2⟩
    · cases h
  · cases h
theorem getD_ok {k : IntKind} {d : List Int} {j : Nat} (hj : j < d.length) (h : ∀ y ∈ d, inR k y) : inR k (d.getD j 0) ∧ d[j]? = some (d.getD j 0) := by
  have : d.getD j 0 = d[j] := by simp [List.getD, hj]
  rw [this]
  exact ⟨h _ (List.getElem_mem hj), List.getElem?_eq_getElem hj⟩
theorem run_load1 {t : TypeId} {i : Ty} (hi : TyOk P t i) (ha : i.agg = false) {g off : Nat} {u : Value} (hc : w.cell? ⟨g, off, none⟩ = some u) : (Instr.loadAt t (.pointer (some ⟨g, off, none⟩))).run P w = .ok u w := by
  obtain ⟨d, hd, hr⟩ := hi.desc
  have hagg : (isAgg t).run P w = .ok false w := by
    unfold isAgg
    rw [Sem.run_bind, run_underlying hd w]
    rw [ha] at hr
    cases d <;> simp_all [isRowD]
  simp [Instr.loadAt, Instr.sureAddr, loadVar, Sem.run_bind, hagg, load, Sem.run, hc]
theorem cell_of {l : List Value} {c n j : Nat} {k : IntKind} {d : List Int} (h : (l.drop c).take n = d.map (Value.int k)) (hj : j < n) {y : Int} (hy : d[j]? = some y) : l[c + j]? = some (.int k y) := by
  have : ((l.drop c).take n)[j]? = some (.int k y) := by rw [h, List.getElem?_map, hy]; rfl
  rw [List.getElem?_take, if_pos hj, List.getElem?_drop] at this
  exact this
theorem opLoad_ok (hT : ∀ t i, T t = some i → TyOk P t i) {t : TypeId} {x : Option Rs} {r : Rs} (h : opLoad T t x st = some r) (hs : Sat B β F st w) {u : Value} (hx : ∀ r, x = some r → DnR β F w r u) :
    ∃ v, (∀ w', (∀ k, Gd st β F k → w'.heap[k]? = w.heap[k]?) → (Instr.loadAt t u).run P w' = .ok v w') ∧ DnR β F w r v := by
  unfold opLoad at h
  split at h
  · cases h
  · rename_i i hi
    have ht := hT t i hi
    split at h
    · rename_i id off
      obtain ⟨g, h1, rfl⟩ := hx _ rfl
      split at h
      · rename_i cells ty hl
        obtain ⟨g', vs, h2, h3, h4⟩ := hs.cks _ (look_mem hl)
        obtain rfl : g = g' := by rw [h1] at h2; cases h2; rfl
        split at h
        · rename_i l hsg
          obtain ⟨h5, h6⟩ := segs_dn _ _ _ _ _ hsg h4
          exact load_ok ht h h5 (by rw [h5.len, segs_len _ _ _ _ hsg]) (G := Gd st β F) (.inr ⟨_, look_mem hl, rfl, by rw [h1]; rfl⟩) (range_of h3 off i.n)
        · cases h
      · cases h
    · rename_i a y c
      obtain ⟨g, o, cs, rfl, h2, h3, h4⟩ := hx _ rfl
      split at h
      · rename_i l hsg
        obtain ⟨h5, h6⟩ := segs_dn _ _ _ _ _ hsg (mkC_dn (β := β) h3)
        exact load_ok ht h h5 (by rw [h5.len, segs_len _ _ _ _ hsg]) (G := Gd st β F) (.inl h2) (fun j u hj => by
          rw [List.getElem?_take] at hj
          split at hj
          · rw [List.getElem?_drop] at hj
            have := h4 _ _ hj
            rwa [← Nat.add_assoc] at this
          · cases hj)
      · cases h
    · rename_i a y c n j
      obtain ⟨hj, g, o, cs, rfl, h2, h3, h4⟩ := hx _ rfl
      split at h
      · rename_i k d hag h1 hr
        cases h
        obtain ⟨_, r1, r2, r3, r4⟩ := runAt_ok hr (mkC_dn (β := β) h3)
        obtain ⟨q1, q2⟩ := getD_ok (j := j) (by omega) r2
        refine ⟨_, fun w' hw => run_load1 ht hag ?_, rfl, q1⟩
        rw [Nat.add_assoc]
        exact (World.cell?_of_block (w := w) (hw g (.inl h2))).trans (h4 _ _ (cell_of r3 hj q2))
      · cases h
    · rename_i id off n j
      obtain ⟨hj, g, h2, rfl⟩ := hx _ rfl
      split at h
      · rename_i cells ty hag h1 hl
        split at h
        · rename_i k d hr
          cases h
          obtain ⟨g', vs, h3, h4, h5⟩ := hs.cks _ (look_mem hl)
          obtain rfl : g = g' := by rw [h2] at h3; cases h3; rfl
          obtain ⟨_, r1, r2, r3, r4⟩ := runAt_ok hr h5
          obtain ⟨q1, q2⟩ := getD_ok (j := j) (by omega) r2
          refine ⟨_, fun w' hw => run_load1 ht hag ?_, rfl, q1⟩
          rw [World.cell?_of_block (w := w) (hw g (.inr ⟨_, look_mem hl, rfl, by simp [h2, bk]⟩)), cell_of_row w g _ _ ty (0, 0) h4]
          simpa using cell_of r3 hj q2
        · cases h
      · cases h
    · cases h
theorem opLoadE_ok (hT : ∀ t i, T t = some i → TyOk P t i) {t : TypeId} {x : Option Rs} {K : Rs → St → Prop} (h : opLoadE T t x st K) (hs : Sat B β F st w) {u : Value} (hx : ∀ r, x = some r → DnR β F w r u) :
    ∃ v r, (Instr.loadAt t u).run P w = .ok v w ∧ K r st ∧ DnR β F w r v := by
  unfold opLoadE at h
  split at h
  · exact h.elim
  · rename_i i hi
    have ht := hT t i hi
    split at h
    · rename_i id sz ix c
      obtain ⟨g, o, n, cap, h1, rfl⟩ := hx _ rfl
      split at h
      · rename_i ty a xs hl
        obtain ⟨v, vs, h2, h3, h4⟩ := hs.cks _ (look_mem hl)
        split at h
        case h_2 => exact h.elim
        rename_i hsz
        obtain ⟨hlt, h⟩ := h
        have h := h _ (List.getElem?_eq_getElem hlt)
        have hsz := Nat.eq_of_beq_eq_true hsz
        subst hsz
        have hv : v = .slice (some ⟨g, o, none⟩) n cap := by rw [h1] at h2; cases h2; rfl
        subst hv
        obtain ⟨g', o', cap', he, _, _, _, hgl, hcell, _⟩ := h3.form (by omega)
        injection he with he _ _; injection he with he; injection he with e1 e2; subst e1; subst e2
        split at h
        · rename_i l hsg
          split at h
          · rename_i r hm
            obtain ⟨cs, hc1, hc2⟩ := h4.get ix _ (List.getElem?_eq_getElem hlt)
            obtain ⟨h5, h6⟩ := segs_dn _ _ _ _ _ hsg (mkC_dn (β := β) hc1)
            obtain ⟨v, h7, h8⟩ := load_ok ht hm h5 (by rw [h5.len, segs_len _ _ _ _ hsg]) (g := g) (off := o + ix * a.size + c) (G := fun _ => True) trivial (fun j u hj => by
              rw [List.getElem?_take] at hj
              split at hj
              · rw [List.getElem?_drop] at hj
                have := hcell _ _ (hc2 _ _ hj)
                rw [show o + ix * a.size + c + j = o + (ix * a.size + (c + j)) by omega]
                exact this
              · cases hj)
            exact ⟨v, r, h7 w (fun _ _ => rfl), h, h8⟩
          · exact h.elim
        · exact h.elim
      · exact h.elim
    · exact h.elim
end
end Go.Proofs.YtnbbooilapelmaaGreatDoor.V
