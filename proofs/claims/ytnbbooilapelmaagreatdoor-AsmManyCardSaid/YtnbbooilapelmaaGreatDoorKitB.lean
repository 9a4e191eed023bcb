/-
  Reading of arguments, over any program: a value of a type that lies flat is a list of cells, each of which reads as its own type; a slice's elements likewise.
-/
import Derived.WalkKit
import Derived.ProofKit
import Derived.Deep.Slices
namespace Go.Proofs.YtnbbooilapelmaaGreatDoor
open Go.RowKit

def All2 {α β : Type} (R : α → β → Prop) : List α → List β → Prop
  | [], [] => True
  | a :: as, b :: bs => R a b ∧ All2 R as bs
  | _, _ => False
theorem All2.nil {α β : Type} {R : α → β → Prop} {bs : List β} (h : All2 R [] bs) : bs = [] := by cases bs with | nil => rfl | cons => exact h.elim
theorem All2.cons {α β : Type} {R : α → β → Prop} {a : α} {as : List α} {bs : List β} (h : All2 R (a :: as) bs) : ∃ b bs', bs = b :: bs' ∧ R a b ∧ All2 R as bs' := by
  cases bs with | nil => exact h.elim | cons b bs' => exact ⟨b, bs', rfl, h⟩
theorem All2.length {α β : Type} {R : α → β → Prop} : ∀ {as : List α} {bs : List β}, All2 R as bs → as.length = bs.length
  | [], [], _ => rfl
  | _ :: _, _ :: _, h => by simp [All2.length h.2]
  | [], _ :: _, h => h.elim
  | _ :: _, [], h => h.elim
theorem All2.append {α β : Type} {R : α → β → Prop} : ∀ {as : List α} {bs : List β} {as' : List α} {bs' : List β}, All2 R as bs → All2 R as' bs' → All2 R (as ++ as') (bs ++ bs')
  | [], [], _, _, _, h' => h'
  | _ :: _, _ :: _, _, _, h, h' => ⟨h.1, All2.append h.2 h'⟩
  | [], _ :: _, _, _, h, _ => h.elim
  | _ :: _, [], _, _, h, _ => h.elim

section
variable {H : Type} {enc : TypeId × Value → H} {P : Program} {w : World} {base : Nat} {sp : Nat → Bool} {held : Bool}

/-- One cell reads as its type says. -/
def Rd (enc : TypeId × Value → H) (P : Program) (w : World) (base : Nat) (sp : Nat → Bool) (held : Bool) (t : TypeId) (v : Value) : Prop := ∃ n y, DataW.trod enc P w base sp held n t [v] = some y

def flatFields (P : Program) (rec : TypeId → Option (List TypeId)) : List Field → Nat → Option (List TypeId)
  | [], _ => some []
  | f :: r, off => if f.offset = off then (rec f.type).bind fun l => if l.length = P.cellsOf f.type then (flatFields P rec r (off + P.cellsOf f.type)).map (l ++ ·) else none else none
/-- The cells' types of a type that lies flat. -/
def flat (P : Program) : Nat → TypeId → Option (List TypeId)
  | 0, _ => none
  | n + 1, t => match P.underlying t with
    | some (.struct fs) => (flatFields P (fun u => flat P n u) fs.toList 0).bind fun l => if l.length = P.cellsOf t then some l else none
    | some (.array k e) => (flat P n e).bind fun l => if l.length = P.cellsOf e then (if k * P.cellsOf e = P.cellsOf t then some (List.replicate k l).flatten else none) else none
    | some _ => some [t]
    | none => none

theorem mapM_some {α β : Type} {f : α → Option β} : ∀ {l : List α} {r : List β}, l.mapM f = some r → ∀ a ∈ l, ∃ b, f a = some b
  | [], _, _ => fun a h => by cases h
  | a :: l, r, h => by
    intro x hx
    simp only [List.mapM_cons, Option.bind_eq_bind, Option.bind_eq_some_iff, Option.pure_def, Option.some.injEq] at h
    obtain ⟨b, hb, r', hr', _⟩ := h
    cases hx with
    | head => exact ⟨b, hb⟩
    | tail _ hm => exact mapM_some hr' x hm

theorem trod_leaf {t : TypeId} {d : TypeDesc} (ht : P.underlying t = some d) (hs : ∀ fs, d ≠ .struct fs) (ha : ∀ k e, d ≠ .array k e) {n : Nat} {cs : List Value} {x : DataW H × List MemPlace}
    (h : DataW.trod enc P w base sp held n t cs = some x) : ∃ v, cs = [v] := by
  cases n with
  | zero => simp [DataW.trod] at h
  | succ n =>
    unfold DataW.trod at h
    rw [ht] at h
    match cs, h with
    | [], h => cases d <;> simp_all
    | [v], _ => exact ⟨v, rfl⟩
    | a :: b :: r, h => cases d <;> simp_all

theorem flat_pieces {n : Nat} {e : TypeId} {l : List TypeId} {sz : Nat} (hr : ∀ (cs : List Value), (∃ x, DataW.trod enc P w base sp held n e cs = some x) → All2 (Rd enc P w base sp held) l cs) :
    ∀ (k : Nat) (cs : List Value), cs.length = k * sz → (∀ i, i < k → ∃ x, DataW.trod enc P w base sp held n e ((cs.drop (i * sz)).take sz) = some x) → All2 (Rd enc P w base sp held) (List.replicate k l).flatten cs
  | 0, cs, hl, _ => by
    have : cs = [] := by simpa using hl
    subst this
    exact trivial
  | k + 1, cs, hl, h => by
    have h0 := hr _ (h 0 (by omega))
    simp only [Nat.zero_mul, List.drop_zero] at h0
    have hrest := flat_pieces (sz := sz) hr k (cs.drop sz) (by rw [List.length_drop, hl, Nat.succ_mul]; omega) (fun i hi => by
      have := h (i + 1) (by omega)
      rw [List.drop_drop]
      rwa [show sz + i * sz = (i + 1) * sz by rw [Nat.succ_mul]; omega])
    have := All2.append h0 hrest
    rw [List.take_append_drop] at this
    rw [List.replicate_succ, List.flatten_cons]
    exact this

theorem trod_fields (rec : TypeId → Option (List TypeId)) (hrec : ∀ (t : TypeId) (ts : List TypeId), rec t = some ts → ∀ (n : Nat) (cs : List Value), (∃ x, DataW.trod enc P w base sp held n t cs = some x) → All2 (Rd enc P w base sp held) ts cs) : ∀ (fs : List Field) (off : Nat) (ts : List TypeId), flatFields P rec fs off = some ts → ∀ (n : Nat) (cs : List Value), cs.length = off + ts.length →
    (∀ f ∈ fs, ∃ x, DataW.trod enc P w base sp held n f.type ((cs.drop f.offset).take (P.cellsOf f.type)) = some x) → All2 (Rd enc P w base sp held) ts (cs.drop off)
  | [], off, ts, h => by
    intro n cs hl _
    have : ts = [] := by simpa [flatFields] using h.symm
    subst this
    have : cs.drop off = [] := by simp at hl ⊢; omega
    rw [this]
    exact trivial
  | f :: r, off, ts, h => by
    intro n cs hl hf
    simp only [flatFields] at h
    split at h
    · rename_i hoff
      simp only [Option.bind_eq_some_iff] at h
      obtain ⟨l, hl1, h⟩ := h
      split at h
      · rename_i hlen
        cases hr : flatFields P rec r (off + P.cellsOf f.type) with
        | none => simp [hr] at h
        | some r' =>
          obtain rfl : l ++ r' = ts := by simpa [hr] using h
          have h1 := hrec f.type l hl1 n _ (hf f (by simp))
          rw [hoff] at h1
          have h2 := trod_fields rec hrec r (off + P.cellsOf f.type) r' hr n cs (by simp at hl; omega) (fun g hg => hf g (by simp [hg]))
          have := All2.append h1 h2
          rw [← List.drop_drop, List.take_append_drop] at this
          exact this
      · simp at h
    · simp at h
theorem trod_flat : ∀ (m : Nat) (t : TypeId) (ts : List TypeId), flat P m t = some ts → ∀ (n : Nat) (cs : List Value), (∃ x, DataW.trod enc P w base sp held n t cs = some x) → All2 (Rd enc P w base sp held) ts cs
  | 0, t, ts, h => by simp [flat] at h
  | m + 1, t, ts, h => by
    intro n cs ⟨x, hx⟩
    cases hu : P.underlying t with
    | none => simp [flat, hu] at h
    | some d =>
      by_cases hs : ∃ fs, d = .struct fs
      · obtain ⟨fs, rfl⟩ := hs
        simp only [flat, hu, Option.bind_eq_some_iff] at h
        obtain ⟨l, hl, h⟩ := h
        split at h
        · rename_i hlen
          obtain rfl : l = ts := by simpa using h
          cases n with
          | zero => simp [DataW.trod] at hx
          | succ n =>
            unfold DataW.trod at hx
            rw [hu] at hx
            dsimp only at hx
            split at hx
            · rename_i hcl
              cases hm : (fs.toList.mapM fun f => DataW.trod enc P w base sp held n f.type ((cs.drop f.offset).take (P.cellsOf f.type))) with
              | none => simp [hm] at hx
              | some r => exact trod_fields _ (fun u us hu' => trod_flat m u us hu') fs.toList 0 l hl n cs (by omega) (mapM_some hm)
            · simp at hx
        · simp at h
      · by_cases ha : ∃ k e, d = .array k e
        · obtain ⟨k, e, rfl⟩ := ha
          simp only [flat, hu, Option.bind_eq_some_iff] at h
          obtain ⟨l, hl, h⟩ := h
          split at h
          · rename_i hlen
            split at h
            · rename_i hct
              obtain rfl : (List.replicate k l).flatten = ts := by simpa using h
              cases n with
              | zero => simp [DataW.trod] at hx
              | succ n =>
                unfold DataW.trod at hx
                rw [hu] at hx
                dsimp only at hx
                split at hx
                · rename_i hcl
                  cases hm : ((List.range k).mapM fun i => DataW.trod enc P w base sp held n e ((cs.drop (i * P.cellsOf e)).take (P.cellsOf e))) with
                  | none => simp [hm] at hx
                  | some r => exact flat_pieces (fun cs' hc' => trod_flat m e l hl n cs' hc') k cs (by rw [hct]; exact hcl) (fun i hi => mapM_some hm i (by simpa using hi))
                · simp at hx
            · simp at h
          · simp at h
        · obtain ⟨v, rfl⟩ := trod_leaf hu (fun fs e => hs ⟨fs, e⟩) (fun k e' e => ha ⟨k, e', e⟩) hx
          have : ts = [t] := by
            cases d <;> first | (exact absurd ⟨_, rfl⟩ hs) | (exact absurd ⟨_, _, rfl⟩ ha) | simpa [flat, hu] using h.symm
          subst this
          exact ⟨⟨n, x, hx⟩, trivial⟩
/-- The cells of a value read flat. -/
theorem Trod_flat {m : Nat} {t : TypeId} {ts : List TypeId} (hf : flat P m t = some ts) {v : Value} {d : DataW H} {ps : List MemPlace} (h : DataW.Trod enc P w base sp held t v d ps) : All2 (Rd enc P w base sp held) ts v.cells.toList := by
  obtain ⟨n, hn⟩ := h
  exact trod_flat m t ts hf n _ ⟨_, hn⟩

theorem Rd.int {t : TypeId} {k : IntKind} (ht : P.underlying t = some (.int k)) {v : Value} (h : Rd enc P w base sp held t v) : ∃ a, v = .int k a ∧ (Lit.int k a).wf = true := by
  obtain ⟨n, y, h⟩ := h
  obtain ⟨a, h1, _, h2⟩ := DataW.trod_int ht h
  exact ⟨a, by simpa using h1, h2⟩
theorem Rd.bool {t : TypeId} (ht : P.underlying t = some .bool) {v : Value} (h : Rd enc P w base sp held t v) : ∃ a, v = .bool a := by
  obtain ⟨n, y, h⟩ := h
  obtain ⟨a, h1, _⟩ := DataW.trod_bool ht h
  exact ⟨a, by simpa using h1⟩
theorem Rd.string {t : TypeId} (ht : P.underlying t = some .string) {v : Value} (h : Rd enc P w base sp held t v) : ∃ s : ByteArray, v = .string s ∧ s.size ≤ maxLen := by
  obtain ⟨n, y, h⟩ := h
  obtain ⟨a, h1, _, h2⟩ := DataW.trod_string ht h
  exact ⟨a, by simpa using h1, h2⟩

theorem mapM_get {α β : Type} {f : α → Option β} : ∀ {l : List α} {r : List β}, l.mapM f = some r → r.length = l.length ∧ ∀ (i : Nat) (a : α), l[i]? = some a → ∃ b, f a = some b ∧ r[i]? = some b
  | [], r, h => by
    have : r = [] := by simpa using h.symm
    subst this
    exact ⟨rfl, fun i a h => by simp at h⟩
  | a :: l, r, h => by
    simp only [List.mapM_cons, Option.bind_eq_bind, Option.bind_eq_some_iff, Option.pure_def, Option.some.injEq] at h
    obtain ⟨b, hb, r', hr', rfl⟩ := h
    obtain ⟨h1, h2⟩ := mapM_get hr'
    refine ⟨by simp [h1], fun i x hx => ?_⟩
    cases i with
    | zero => simp at hx; subst hx; exact ⟨b, hb, rfl⟩
    | succ i => simpa using h2 i x (by simpa using hx)

theorem cells_get {a : Addr} {n : Nat} {cs : List Value} (h : w.cells? base a n = some cs) : cs.length = n ∧ ∀ j, j < n → w.cell? (a.add j) = cs[j]? := by
  unfold World.cells? at h
  split at h
  · obtain ⟨h1, h2⟩ := mapM_get h
    refine ⟨by simpa using h1, fun j hj => ?_⟩
    obtain ⟨b, hb, hr⟩ := h2 j j (by simp [hj])
    rw [hb, hr]
  · simp at h

/-- A slice: nil, or a length and a capacity, and as many elements, each of which reads flat. (Its spare places are read too.) -/
theorem Rd.slice {t e : TypeId} {m : Nat} {ts : List TypeId} (ht : P.underlying t = some (.slice e)) (hf : flat P m e = some ts) {v : Value} (h : Rd enc P w base (fun _ => true) held t v) :
    v = .slice none 0 0 ∨ ∃ (a : Addr) (len cap : Nat), v = .slice (some a) len cap ∧ base ≤ a.block ∧ len ≤ cap ∧ cap ≤ maxLen ∧
      ∀ i, i < cap → ∃ cs : List Value, cs.length = P.cellsOf e ∧ All2 (Rd enc P w base (fun _ => true) held) ts cs ∧ ∀ j, j < P.cellsOf e → w.cell? ((a.add (i * P.cellsOf e)).add j) = cs[j]? := by
  obtain ⟨n, y, h⟩ := h
  rcases Go.Deep.open_slice ht h with ⟨h1, _⟩ | ⟨a, len, cap, m', n', D, Pl, h1, hb, hl, hm, hm', _, hel⟩
  · exact Or.inl (by simpa using h1)
  · right
    simp only [if_true] at hm'
    subst hm'
    refine ⟨a, len, m', by simpa using h1, hb, hl, hm, fun i hi => ?_⟩
    obtain ⟨cs, hc, ht'⟩ := hel i hi
    obtain ⟨c1, c2⟩ := cells_get hc
    exact ⟨cs, c1, trod_flat m e ts hf n' cs ⟨_, ht'⟩, c2⟩

/-- An argument of a row: it has its type's outer form, and reads as data. -/
def Arg (enc : TypeId × Value → H) (P : Program) (W : World) (base : Nat) (t : TypeId) (v : Value) : Prop := Value.okWide P W .any base t v ∧ ∃ d p, DataW.Trod enc P W 0 (fun _ => true) true t v d p

open Go.ChangeShapes Go.WideShapes Go.ChangeAt in
theorem Arg.int {W : World} {t : TypeId} {k : IntKind} {v : Value} (hu : P.underlying t = some (.int k)) (h : Arg enc P W base t v) : ∃ a, v = .int k a ∧ (Lit.int k a).wf = true := by
  obtain ⟨h1, d, p, h2⟩ := h
  obtain ⟨a, rfl, _, _, w⟩ := open_int hu h1 h2
  exact ⟨a, rfl, w⟩
open Go.ChangeShapes Go.WideShapes Go.ChangeAt in
theorem Arg.bool {W : World} {t : TypeId} {v : Value} (hu : P.underlying t = some .bool) (h : Arg enc P W base t v) : ∃ a, v = .bool a := by
  obtain ⟨h1, d, p, h2⟩ := h
  obtain ⟨a, rfl, _⟩ := open_bool hu h1 h2
  exact ⟨a, rfl⟩
open Go.ChangeShapes Go.WideShapes Go.ChangeAt Go.ChangeMaps in
theorem Arg.string {W : World} {t : TypeId} {v : Value} (hu : P.underlying t = some .string) (h : Arg enc P W base t v) : ∃ s : ByteArray, v = .string s ∧ s.size ≤ maxLen := by
  obtain ⟨h1, d, p, h2⟩ := h
  obtain ⟨a, rfl, _, _, w⟩ := open_string hu h1 h2
  exact ⟨a, rfl, w⟩
theorem Arg.agg {W : World} {t : TypeId} {v : Value} {d : TypeDesc} {m : Nat} {ts : List TypeId} (hu : P.underlying t = some d) (hd : (match d with | .struct _ | .array _ _ => true | _ => false) = true) (hf : flat P m t = some ts)
    (h : Arg enc P W base t v) : ∃ cs : List Value, v = .agg cs.toArray ∧ All2 (Rd enc P W 0 (fun _ => true) true) ts cs := by
  obtain ⟨h1, y, p, h2⟩ := h
  have : ∃ cs, v = .agg cs := by
    unfold Value.okWide at h1
    rw [hu] at h1
    cases d <;> simp at hd <;> (obtain ⟨cs, h, _⟩ := h1; exact ⟨cs, h⟩)
  obtain ⟨cs, rfl⟩ := this
  exact ⟨cs.toList, by simp, Trod_flat hf h2⟩
open Go.ChangeShapes Go.WideShapes Go.ChangeAt in
theorem Arg.slice {W : World} {t e : TypeId} {v : Value} {m : Nat} {ts : List TypeId} (hu : P.underlying t = some (.slice e)) (hf : flat P m e = some ts) (h : Arg enc P W base t v) :
    v = .slice none 0 0 ∨ ∃ (a : Addr) (len cap : Nat), v = .slice (some a) len cap ∧ len ≤ cap ∧ cap ≤ maxLen ∧
      ∀ i, i < cap → ∃ cs : List Value, cs.length = P.cellsOf e ∧ All2 (Rd enc P W 0 (fun _ => true) true) ts cs ∧ ∀ j, j < P.cellsOf e → W.cell? ((a.add (i * P.cellsOf e)).add j) = cs[j]? := by
  obtain ⟨h1, d, p, n, h2⟩ := h
  obtain ⟨a0, len, cap, rfl⟩ := okWide_slice hu h1
  rcases Rd.slice hu hf ⟨n, _, h2⟩ with h | ⟨a, l, c, he, _, hl, hm, hc⟩
  · exact Or.inl h
  · exact Or.inr ⟨a, l, c, he, hl, hm, hc⟩
/-- Two 'wf' of an int. -/
theorem wf_u64 {a : Int} (h : (Lit.int .u64 a).wf = true) : 0 ≤ a ∧ a ≤ 18446744073709551615 := by simpa [Lit.wf, IntKind.min, IntKind.max, IntKind.bits, IntKind.signed] using h
theorem wf_i64 {a : Int} (h : (Lit.int .i64 a).wf = true) : -9223372036854775808 ≤ a ∧ a ≤ 9223372036854775807 := by simpa [Lit.wf, IntKind.min, IntKind.max, IntKind.bits, IntKind.signed] using h
theorem wf_u8 {a : Int} (h : (Lit.int .u8 a).wf = true) : 0 ≤ a ∧ a ≤ 255 := by simpa [Lit.wf, IntKind.min, IntKind.max, IntKind.bits, IntKind.signed] using h
end
end Go.Proofs.YtnbbooilapelmaaGreatDoor
