/-
  A symbolic run of a function's text, over any program: the values, the memory, what they stand for.
-/
import Derived.Test.YtnbbooilapelmaaGreatDoorKitC
import Derived.Test.YtnbbooilapelmaaGreatDoorKitGl
import Derived.Deep.MidRow
set_option linter.unusedVariables false
set_option linter.unusedSimpArgs false
namespace Go.Proofs.YtnbbooilapelmaaGreatDoor.V
open Go.RowKit Go.Proofs.YtnbbooilapelmaaGreatDoor

/-- Data, by shape. -/
inductive Sh where
  | int (k : IntKind) | bool | str | unit | pair (a b : Sh) | arr (n : Nat) (k : IntKind) | sl (a : Sh)
@[reducible] def Sh.T : Sh → Type
  | .int _ => Int | .bool => Bool | .str => ByteArray | .unit => Unit | .pair a b => a.T × b.T | .arr _ _ => List Int | .sl a => List a.T
def Sh.size : Sh → Nat
  | .int _ | .bool | .str | .sl _ => 1 | .unit => 0 | .pair a b => a.size + b.size | .arr n _ => n
def inR : IntKind → Int → Prop
  | .i8, a => -128 ≤ a ∧ a ≤ 127
  | .i16, a => -32768 ≤ a ∧ a ≤ 32767
  | .i32, a => -2147483648 ≤ a ∧ a ≤ 2147483647
  | .i64, a => -9223372036854775808 ≤ a ∧ a ≤ 9223372036854775807
  | .u8, a => 0 ≤ a ∧ a ≤ 255
  | .u16, a => 0 ≤ a ∧ a ≤ 65535
  | .u32, a => 0 ≤ a ∧ a ≤ 4294967295
  | .u64, a => 0 ≤ a ∧ a ≤ 18446744073709551615
instance (k : IntKind) (a : Int) : Decidable (inR k a) := by cases k <;> (unfold inR; infer_instance)
theorem inR_wf {k : IntKind} {a : Int} : inR k a ↔ (Lit.int k a).wf = true := by
  cases k <;> simp [inR, Lit.wf, IntKind.min, IntKind.max, IntKind.bits, IntKind.signed]
theorem inR_wrap (k : IntKind) (a : Int) : inR k (k.wrap a) := by
  cases k <;> simp [inR, IntKind.wrap, IntKind.bits, IntKind.signed] <;> (first | omega | (split <;> omega))
theorem wrap_of {k : IntKind} {a : Int} (h : inR k a) : k.wrap a = a := by
  cases k <;> simp [inR, IntKind.wrap, IntKind.bits, IntKind.signed] at * <;> (first | omega | (split <;> omega))

/-- A symbolic cell. -/
inductive CV where
  | val (v : Value) | il (k : IntKind) (z : Int) | bl (b : Bool) | ptr (id off : Nat) | sl (id : Nat) | rd (a : Sh) (x : List a.T) | rp (a : Sh) (x : a.T) (c : Nat) | ep (id sz i c : Nat)
  | run (k : IntKind) (n : Nat) (d : List Int) | any
  | sv (id sz lo n : Nat) | pa (id off n j : Nat) | ea (id sz i c n j : Nat) | ra (a : Sh) (x : a.T) (c n j : Nat)
  | fn (f : Nat) (cap : List (Nat × Nat)) | nm (k : IntKind) | mv (id : Nat)
inductive Vl where
  | one (c : CV) | agg (l : List CV)
inductive Rs where
  | v (x : Vl) | tup (l : List Vl)
/-- Regions of other kinds: a string's iterator, a map. -/
inductive Xk where
  | it (s : ByteArray) (pos : Nat)
  | mp (a b : Sh) (l : List (a.T × b.T))
inductive Ck where
  | blk (cells : List CV) (ty : TypeId)
  | own (ty : TypeId) (a : Sh) (xs : List a.T)
  | xk (x : Xk)
@[match_pattern, reducible] def Ck.it (s : ByteArray) (pos : Nat) : Ck := .xk (.it s pos)
@[match_pattern, reducible] def Ck.mp (a b : Sh) (l : List (a.T × b.T)) : Ck := .xk (.mp a b l)
structure St where
  nx : Nat
  h : List (Nat × Ck)
/-- The cells of data. -/
def mkC : (a : Sh) → a.T → List CV
  | .int k, x => [.val (.int k x)]
  | .bool, x => [.val (.bool x)]
  | .str, x => [.val (.string x)]
  | .unit, _ => []
  | .pair a b, x => mkC a x.1 ++ mkC b x.2
  | .arr n k, x => [.run k n x]
  | .sl a, x => [.rd a x]

section
variable (w : World) (F : Nat → Prop)
/-- Cells that read as data; the blocks behind are of F. -/
def RdC : (a : Sh) → a.T → List Value → Prop
  | .int k, x, l => l = [.int k x] ∧ inR k x
  | .bool, x, l => l = [.bool x]
  | .str, x, l => l = [.string x] ∧ x.size ≤ maxLen
  | .unit, _, l => l = []
  | .pair a b, x, l => ∃ l1 l2, l = l1 ++ l2 ∧ RdC a x.1 l1 ∧ RdC b x.2 l2
  | .arr n k, x, l => x.length = n ∧ l = x.map (Value.int k) ∧ ∀ y ∈ x, inR k y
  | .sl a, x, l => ∃ (ad : Option Addr) (cap : Nat), l = [.slice ad x.length cap] ∧ x.length ≤ cap ∧ cap ≤ maxLen ∧ (ad = none → cap = 0) ∧
      (0 < x.length → ∃ g o, ad = some ⟨g, o, none⟩ ∧ F g ∧ ∀ (i : Nat) (y : a.T), x[i]? = some y → ∃ cs, RdC a y cs ∧ ∀ (j : Nat) u, cs[j]? = some u → w.cell? ⟨g, o + i * a.size + j, none⟩ = some u)
theorem RdC.len : ∀ {a : Sh} {x : a.T} {l : List Value}, RdC w F a x l → l.length = a.size
  | .int k, x, l, h => by rw [h.1]; rfl
  | .bool, x, l, h => by rw [show l = _ from h]; rfl
  | .str, x, l, h => by rw [h.1]; rfl
  | .unit, x, l, h => by rw [show l = _ from h]; rfl
  | .pair a b, x, l, h => by obtain ⟨l1, l2, rfl, h1, h2⟩ := h; rw [List.length_append, RdC.len h1, RdC.len h2]; rfl
  | .arr n k, x, l, h => by rw [h.2.1, List.length_map, h.1]; rfl
  | .sl a, x, l, h => by obtain ⟨ad, cap, rfl, _⟩ := h; rfl
def RdL (a : Sh) : List a.T → List Value → Prop
  | [], l => l = []
  | x :: xs, l => ∃ c r, l = c ++ r ∧ RdC w F a x c ∧ RdL a xs r
end
theorem cell_keep {F : Nat → Prop} {w w' : World} (hk : ∀ k, F k → w'.heap[k]? = w.heap[k]?) {g : Nat} (hg : F g) (o : Nat) : w'.cell? ⟨g, o, none⟩ = w.cell? ⟨g, o, none⟩ := World.cell?_of_block (w := w) (hk g hg)
theorem RdC.mono {w w' : World} {F F' : Nat → Prop} (hF : ∀ k, F k → F' k) (hk : ∀ k, F k → w'.heap[k]? = w.heap[k]?) : ∀ {a : Sh} {x : a.T} {l : List Value}, RdC w F a x l → RdC w' F' a x l
  | .int k, x, l, h => h
  | .bool, x, l, h => h
  | .str, x, l, h => h
  | .unit, x, l, h => h
  | .pair a b, x, l, h => by obtain ⟨l1, l2, e, h1, h2⟩ := h; exact ⟨l1, l2, e, RdC.mono hF hk h1, RdC.mono hF hk h2⟩
  | .arr n k, x, l, h => h
  | .sl a, x, l, h => by
    obtain ⟨ad, cap, e, h1, h2, h3, h4⟩ := h
    refine ⟨ad, cap, e, h1, h2, h3, fun h0 => ?_⟩
    obtain ⟨g, o, ha, hg, hc⟩ := h4 h0
    refine ⟨g, o, ha, hF g hg, fun i y hy => ?_⟩
    obtain ⟨cs, c1, c2⟩ := hc i y hy
    exact ⟨cs, RdC.mono hF hk c1, fun j u hu => (cell_keep hk hg _).trans (c2 j u hu)⟩
theorem RdL.mono {w w' : World} {F F' : Nat → Prop} (hF : ∀ k, F k → F' k) (hk : ∀ k, F k → w'.heap[k]? = w.heap[k]?) {a : Sh} : ∀ {xs : List a.T} {l : List Value}, RdL w F a xs l → RdL w' F' a xs l
  | [], l, h => h
  | x :: xs, l, h => by obtain ⟨c, r, e, h1, h2⟩ := h; exact ⟨c, r, e, h1.mono hF hk, RdL.mono hF hk h2⟩
theorem RdL.len {w : World} {F : Nat → Prop} {a : Sh} : ∀ {xs : List a.T} {l : List Value}, RdL w F a xs l → l.length = xs.length * a.size
  | [], l, h => by rw [show l = [] from h]; simp
  | x :: xs, l, h => by obtain ⟨c, r, rfl, h1, h2⟩ := h; rw [List.length_append, RdC.len _ _ h1, RdL.len h2, List.length_cons, Nat.succ_mul]; omega
theorem RdL.get {w : World} {F : Nat → Prop} {a : Sh} : ∀ {xs : List a.T} {l : List Value}, RdL w F a xs l → ∀ (i : Nat) (y : a.T), xs[i]? = some y → ∃ c, RdC w F a y c ∧ ∀ (j : Nat) u, c[j]? = some u → l[i * a.size + j]? = some u
  | x :: xs, l, h, 0, y, hy => by
    obtain ⟨c, r, rfl, h1, h2⟩ := h
    obtain rfl : x = y := by simpa using hy
    refine ⟨c, h1, fun j u hu => ?_⟩
    rw [Nat.zero_mul, Nat.zero_add, List.getElem?_append_left (List.getElem?_eq_some_iff.1 hu).1]
    exact hu
  | x :: xs, l, h, i + 1, y, hy => by
    obtain ⟨c, r, rfl, h1, h2⟩ := h
    obtain ⟨d, d1, d2⟩ := RdL.get h2 i y (by simpa using hy)
    refine ⟨d, d1, fun j u hu => ?_⟩
    rw [List.getElem?_append_right (by rw [RdC.len _ _ h1, Nat.succ_mul]; omega), RdC.len _ _ h1, show (i + 1) * a.size + j - a.size = i * a.size + j by rw [Nat.succ_mul]; omega]
    exact d2 j u hu
theorem RdL.app {w : World} {F : Nat → Prop} {a : Sh} : ∀ {xs ys : List a.T} {l m : List Value}, RdL w F a xs l → RdL w F a ys m → RdL w F a (xs ++ ys) (l ++ m)
  | [], ys, l, m, h, h' => by rw [show l = [] from h]; exact h'
  | x :: xs, ys, l, m, h, h' => by obtain ⟨c, r, rfl, h1, h2⟩ := h; exact ⟨c, r ++ m, by simp, h1, RdL.app h2 h'⟩

def vOk : Value → Prop
  | .int k a => inR k a
  | .string s => s.size ≤ maxLen
  | .bool _ | .nilFunc | .pointer none | .map none | .nilIface => True
  | .slice none n m => n = 0 ∧ m = 0
  | .func (.func _) a b => a = #[] ∧ b = #[]
  | _ => False
theorem vOk.one {v : Value} (h : vOk v) : v.oneCell' = true := by
  cases v <;> first | rfl | exact h.elim

section
variable (β : Nat → Option Value) (F : Nat → Prop) (w : World)
/-- A slice value that is a part of another. -/
def SvOk (v u : Value) (sz lo n : Nat) : Prop :=
  (v = .slice none 0 0 ∧ lo = 0 ∧ n = 0 ∧ u = .slice none 0 0) ∨
  ∃ g o len cap o', v = .slice (some ⟨g, o, none⟩) len cap ∧ lo + n ≤ cap ∧ u = .slice (some ⟨g, o', none⟩) n (cap - lo) ∧ (cap ≠ lo → o' = o + lo * sz) ∧ o' ≤ o + cap * sz
/-- Pointers. -/
def DnP : List (Nat × Nat) → List Value → Prop
  | [], l => l = []
  | (id, off) :: r, l => ∃ g b, β id = some (.pointer (some ⟨g, 0, none⟩)) ∧ l = .pointer (some ⟨g, off, none⟩) :: b ∧ DnP r b
/-- What a symbolic cell stands for. -/
def Dn : CV → Value → Prop
  | .val v, u => u = v ∧ vOk v
  | .il k z, u => u = .int k z ∧ inR k z
  | .bl b, u => u = .bool b
  | .ptr id off, u => ∃ g, β id = some (.pointer (some ⟨g, 0, none⟩)) ∧ u = .pointer (some ⟨g, off, none⟩)
  | .sl id, u => β id = some u ∧ ∃ a n c, u = .slice a n c
  | .rd a x, u => RdC w F (.sl a) x [u]
  | .rp a x c, u => ∃ g o cs, u = .pointer (some ⟨g, o + c, none⟩) ∧ F g ∧ RdC w F a x cs ∧ ∀ (j : Nat) y, cs[j]? = some y → w.cell? ⟨g, o + j, none⟩ = some y
  | .ep id sz i c, u => ∃ g o n cap, β id = some (.slice (some ⟨g, o, none⟩) n cap) ∧ u = .pointer (some ⟨g, o + i * sz + c, none⟩)
  | .run .., _ => False
  | .any, _ => True
  | .sv id sz lo n, u => ∃ v, β id = some v ∧ SvOk v u sz lo n
  | .pa id off n j, u => j < n ∧ ∃ g, β id = some (.pointer (some ⟨g, 0, none⟩)) ∧ u = .pointer (some ⟨g, off + j, none⟩)
  | .ea id sz i c n j, u => j < n ∧ ∃ g o m cap, β id = some (.slice (some ⟨g, o, none⟩) m cap) ∧ u = .pointer (some ⟨g, o + i * sz + c + j, none⟩)
  | .ra a x c n j, u => j < n ∧ ∃ g o cs, u = .pointer (some ⟨g, o + c + j, none⟩) ∧ F g ∧ RdC w F a x cs ∧ ∀ (j : Nat) y, cs[j]? = some y → w.cell? ⟨g, o + j, none⟩ = some y
  | .fn f cap, u => ∃ vs, u = .func (.func f) #[] vs.toArray ∧ DnP β cap vs
  | .nm k, u => ∃ z, u = .int k z ∧ inR k z
  | .mv id, u => β id = some u ∧ ∃ g, u = .map (some g)
/-- A segment. -/
def DnC : CV → List Value → Prop
  | .run k n d, l => d.length = n ∧ l = d.map (Value.int k) ∧ ∀ y ∈ d, inR k y
  | c, l => ∃ u, l = [u] ∧ Dn β F w c u ∧ u.oneCell' = true
def DnL : List CV → List Value → Prop
  | [], l => l = []
  | c :: r, l => ∃ a b, l = a ++ b ∧ DnC β F w c a ∧ DnL r b
def DnV : Vl → Value → Prop
  | .one c, u => Dn β F w c u
  | .agg l, u => ∃ vs, u = .agg vs.toArray ∧ DnL β F w l vs
def DnVs : List Vl → List Value → Prop
  | [], l => l = []
  | c :: r, l => ∃ a b, l = a :: b ∧ DnV β F w c a ∧ DnVs r b
def DnR : Rs → Value → Prop
  | .v x, u => DnV β F w x u
  | .tup l, u => ∃ us, u = .tuple us.toArray ∧ DnVs β F w l us
/-- The block of a region. -/
def bk : Option Value → Option Nat
  | some (.pointer (some a)) => some a.block
  | some (.slice (some a) _ _) => some a.block
  | some (.map (some b)) => some b
  | _ => none
/-- Entries of a map. -/
def EntL (a b : Sh) : List MapEntry → List (a.T × b.T) → Prop
  | [], [] => True
  | e :: es, p :: l => (RdC w F a p.1 [e.key] ∧ RdC w F b p.2 [e.val]) ∧ EntL a b es l
  | _, _ => False
def XkO : Xk → Value → Obj → Prop
  | .it s pos, v, o => (∃ g, v = .pointer (some ⟨g, 0, none⟩)) ∧ o = .stringIter s pos ∧ s.size ≤ maxLen ∧ Its = true
  | .mp a b l, v, o => (∃ g, v = .map (some g)) ∧ ∃ es clock, o = .map es clock ∧ EntL F w a b es.toList l
def CkOk (id : Nat) : Ck → Prop
  | .blk cells ty => ∃ g vs, β id = some (.pointer (some ⟨g, 0, none⟩)) ∧ w.heap[g]? = some (.cells vs.toArray ty (0, 0)) ∧ DnL β F w cells vs
  | .own ty a xs => ∃ v vs, β id = some v ∧ Own w 0 ty a.size v xs.length vs ∧ RdL w F a xs vs
  | .xk x => ∃ v g o, β id = some v ∧ bk (some v) = some g ∧ w.heap[g]? = some o ∧ XkO F w x v o
end
/-- What stays. -/
structure Ext (β : Nat → Option Value) (F : Nat → Prop) (w : World) (β' : Nat → Option Value) (F' : Nat → Prop) (w' : World) : Prop where
  b : ∀ id v, β id = some v → β' id = some v
  f : ∀ k, F k → F' k
  k : ∀ k, F k → w'.heap[k]? = w.heap[k]?
theorem Ext.refl (β : Nat → Option Value) (F : Nat → Prop) (w : World) : Ext β F w β F w := ⟨fun _ _ h => h, fun _ h => h, fun _ _ => rfl⟩
theorem Ext.trans {β β' β'' : Nat → Option Value} {F F' F'' : Nat → Prop} {w w' w'' : World} (h : Ext β F w β' F' w') (h' : Ext β' F' w' β'' F'' w'') : Ext β F w β'' F'' w'' :=
  ⟨fun id v e => h'.b id v (h.b id v e), fun k e => h'.f k (h.f k e), fun k e => (h'.k k (h.f k e)).trans (h.k k e)⟩
section
variable {β β' : Nat → Option Value} {F F' : Nat → Prop} {w w' : World}
theorem DnP.b {β' : Nat → Option Value} (hb : ∀ id v, β id = some v → β' id = some v) : ∀ {c : List (Nat × Nat)} {l : List Value}, DnP β c l → DnP β' c l
  | [], l, h => h
  | (id, off) :: r, l, h => by obtain ⟨g, b, h1, h2, h3⟩ := h; exact ⟨g, b, hb _ _ h1, h2, DnP.b hb h3⟩
theorem Dn.ext (x : Ext β F w β' F' w') : ∀ {c : CV} {u : Value}, Dn β F w c u → Dn β' F' w' c u
  | .val v, u, h => h
  | .il k z, u, h => h
  | .bl b, u, h => h
  | .ptr id off, u, h => by obtain ⟨g, h1, h2⟩ := h; exact ⟨g, x.b _ _ h1, h2⟩
  | .sl id, u, h => ⟨x.b _ _ h.1, h.2⟩
  | .mv id, u, h => ⟨x.b _ _ h.1, h.2⟩
  | .rd a y, u, h => RdC.mono x.f x.k h
  | .rp a y c, u, h => by
    obtain ⟨g, o, cs, h1, h2, h3, h4⟩ := h
    exact ⟨g, o, cs, h1, x.f g h2, RdC.mono x.f x.k h3, fun j u hu => (cell_keep x.k h2 _).trans (h4 j u hu)⟩
  | .ep id sz i c, u, h => by obtain ⟨g, o, n, cap, h1, h2⟩ := h; exact ⟨g, o, n, cap, x.b _ _ h1, h2⟩
  | .run .., _, h => h
  | .any, u, h => h
  | .sv id sz lo n, u, h => by obtain ⟨v, h1, h2⟩ := h; exact ⟨v, x.b _ _ h1, h2⟩
  | .pa id off n j, u, h => by obtain ⟨h0, g, h1, h2⟩ := h; exact ⟨h0, g, x.b _ _ h1, h2⟩
  | .ea id sz i c n j, u, h => by obtain ⟨h0, g, o, m, cap, h1, h2⟩ := h; exact ⟨h0, g, o, m, cap, x.b _ _ h1, h2⟩
  | .ra a y c n j, u, h => by
    obtain ⟨h0, g, o, cs, h1, h2, h3, h4⟩ := h
    exact ⟨h0, g, o, cs, h1, x.f g h2, RdC.mono x.f x.k h3, fun j u hu => (cell_keep x.k h2 _).trans (h4 j u hu)⟩
  | .fn f cap, u, h => by obtain ⟨vs, h1, h2⟩ := h; exact ⟨vs, h1, DnP.b x.b h2⟩
  | .nm k, u, h => h
theorem DnC.ext (x : Ext β F w β' F' w') {c : CV} {l : List Value} (h : DnC β F w c l) : DnC β' F' w' c l := by
  cases c <;> first | exact h | (obtain ⟨u, h1, h2, h3⟩ := h; exact ⟨u, h1, Dn.ext x h2, h3⟩)
theorem DnL.ext (x : Ext β F w β' F' w') : ∀ {c : List CV} {l : List Value}, DnL β F w c l → DnL β' F' w' c l
  | [], l, h => h
  | c :: r, l, h => by obtain ⟨a, b, e, h1, h2⟩ := h; exact ⟨a, b, e, h1.ext x, DnL.ext x h2⟩
theorem DnV.ext (x : Ext β F w β' F' w') {c : Vl} {u : Value} (h : DnV β F w c u) : DnV β' F' w' c u := by
  cases c with
  | one c => exact Dn.ext x h
  | agg l => obtain ⟨vs, e, h⟩ := h; exact ⟨vs, e, h.ext x⟩
theorem DnVs.ext (x : Ext β F w β' F' w') : ∀ {c : List Vl} {l : List Value}, DnVs β F w c l → DnVs β' F' w' c l
  | [], l, h => h
  | c :: r, l, h => by obtain ⟨a, b, e, h1, h2⟩ := h; exact ⟨a, b, e, h1.ext x, DnVs.ext x h2⟩
theorem DnR.ext (x : Ext β F w β' F' w') {c : Rs} {u : Value} (h : DnR β F w c u) : DnR β' F' w' c u := by
  cases c with
  | v c => exact DnV.ext x h
  | tup l => obtain ⟨vs, e, h⟩ := h; exact ⟨vs, e, DnVs.ext x h⟩
theorem EntL.ext (x : Ext β F w β' F' w') {a b : Sh} : ∀ {es : List MapEntry} {l : List (a.T × b.T)}, EntL F w a b es l → EntL F' w' a b es l
  | [], [], _ => trivial
  | e :: es, p :: l, h => ⟨⟨h.1.1.mono x.f x.k, h.1.2.mono x.f x.k⟩, EntL.ext x h.2⟩
theorem XkO.ext (x : Ext β F w β' F' w') {c : Xk} {v : Value} {o : Obj} (h : XkO F w c v o) : XkO F' w' c v o := by
  cases c with
  | it s p => exact h
  | mp a b l => obtain ⟨h1, es, c, h2, h3⟩ := h; exact ⟨h1, es, c, h2, h3.ext x⟩
theorem Xk.keep (x : Ext β F w β' F' w') {id : Nat} {c : Xk} (h : CkOk β F w id (.xk c)) (hk : ∀ k, bk (β id) = some k → w'.heap[k]? = w.heap[k]?) : CkOk β' F' w' id (.xk c) := by
  obtain ⟨v, g, o, h1, h2, h3, h4⟩ := h
  exact ⟨v, g, o, x.b _ _ h1, h2, (hk g (by rw [h1]; exact h2)).trans h3, h4.ext x⟩
theorem mkC_dn : ∀ {a : Sh} {x : a.T} {l : List Value}, RdC w F a x l → DnL β F w (mkC a x) l
  | .int k, x, l, h => ⟨_, [], by rw [h.1]; rfl, ⟨_, rfl, ⟨rfl, h.2⟩, rfl⟩, rfl⟩
  | .bool, x, l, h => ⟨_, [], by rw [show l = _ from h]; rfl, ⟨_, rfl, ⟨rfl, trivial⟩, rfl⟩, rfl⟩
  | .str, x, l, h => ⟨_, [], by rw [h.1]; rfl, ⟨_, rfl, ⟨rfl, h.2⟩, rfl⟩, rfl⟩
  | .unit, x, l, h => h
  | .pair a b, x, l, h => by
    obtain ⟨l1, l2, rfl, h1, h2⟩ := h
    have app : ∀ {c d : List CV} {l m : List Value}, DnL β F w c l → DnL β F w d m → DnL β F w (c ++ d) (l ++ m) := by
      intro c
      induction c with
      | nil => intro d l m h h'; rw [show l = [] from h]; exact h'
      | cons c r ih => intro d l m h h'; obtain ⟨a, b, rfl, h1, h2⟩ := h; exact ⟨a, b ++ m, by simp, h1, ih h2 h'⟩
    exact app (mkC_dn h1) (mkC_dn h2)
  | .arr n k, x, l, h => ⟨l, [], by simp, h, rfl⟩
  | .sl a, x, l, h => by
    obtain ⟨ad, cap, rfl, h1⟩ := h
    exact ⟨_, [], rfl, ⟨_, rfl, ⟨ad, cap, rfl, h1⟩, rfl⟩, rfl⟩
end
/-- Cells of a value. -/
def CV.wid : CV → Nat | .run _ n _ => n | _ => 1
theorem DnC.len {β : Nat → Option Value} {F : Nat → Prop} {w : World} {c : CV} {l : List Value} (h : DnC β F w c l) : l.length = c.wid := by
  cases c <;> first | (obtain ⟨u, rfl, _⟩ := h; rfl) | (obtain ⟨h1, rfl, _⟩ := h; simpa [CV.wid] using h1)
theorem DnC.one {β : Nat → Option Value} {F : Nat → Prop} {w : World} {c : CV} {l : List Value} (h : DnC β F w c l) : ∀ u ∈ l, u.oneCell' = true := by
  intro u hu
  cases c <;> first | (obtain ⟨v, rfl, _, h3⟩ := h; simp at hu; rw [hu]; exact h3) | (obtain ⟨h1, rfl, _⟩ := h; simp at hu; obtain ⟨a, _, rfl⟩ := hu; rfl)
def cwid : List CV → Nat | [] => 0 | c :: r => c.wid + cwid r
theorem DnL.len {β : Nat → Option Value} {F : Nat → Prop} {w : World} : ∀ {c : List CV} {l : List Value}, DnL β F w c l → l.length = cwid c
  | [], l, h => by rw [show l = [] from h]; rfl
  | c :: r, l, h => by obtain ⟨a, b, rfl, h1, h2⟩ := h; rw [List.length_append, h1.len, DnL.len h2]; rfl
theorem DnL.one {β : Nat → Option Value} {F : Nat → Prop} {w : World} : ∀ {c : List CV} {l : List Value}, DnL β F w c l → ∀ u ∈ l, u.oneCell' = true
  | [], l, h, u, hu => by rw [show l = [] from h] at hu; cases hu
  | c :: r, l, h, u, hu => by
    obtain ⟨a, b, rfl, h1, h2⟩ := h
    rcases List.mem_append.1 hu with h | h
    · exact h1.one u h
    · exact DnL.one h2 u h
theorem DnL.app {β : Nat → Option Value} {F : Nat → Prop} {w : World} : ∀ {c d : List CV} {l m : List Value}, DnL β F w c l → DnL β F w d m → DnL β F w (c ++ d) (l ++ m)
  | [], d, l, m, h, h' => by rw [show l = [] from h]; exact h'
  | c :: r, d, l, m, h, h' => by obtain ⟨a, b, rfl, h1, h2⟩ := h; exact ⟨a, b ++ m, by simp, h1, DnL.app h2 h'⟩
/-- The segments that cover n cells from off on. -/
def segs : Nat → Nat → List CV → Option (List CV)
  | 0, 0, _ => some []
  | _, _, [] => none
  | 0, n + 1, c :: r => if c.wid ≤ n + 1 then (segs 0 (n + 1 - c.wid) r).map (c :: ·) else none
  | off + 1, n, c :: r => if c.wid ≤ off + 1 then segs (off + 1 - c.wid) n r else none
theorem segs_dn {β : Nat → Option Value} {F : Nat → Prop} {w : World} : ∀ (off n : Nat) (cs : List CV) (r : List CV) (l : List Value), segs off n cs = some r → DnL β F w cs l → DnL β F w r ((l.drop off).take n) ∧ off + n ≤ l.length := by
  intro off n cs
  induction cs generalizing off n with
  | nil =>
    intro r l h hd
    cases off <;> cases n <;> simp [segs] at h
    subst h
    rw [show l = [] from hd]
    exact ⟨rfl, by simp⟩
  | cons c cs ih =>
    intro r l h hd
    cases off with
    | zero =>
      cases n with
      | zero => simp [segs] at h; subst h; exact ⟨by simp [DnL], by simp⟩
      | succ n =>
        simp only [segs] at h
        split at h
        · rename_i hle
          cases hs : segs 0 (n + 1 - c.wid) cs with
          | none => simp [hs] at h
          | some r' =>
            obtain rfl : c :: r' = r := by simpa [hs] using h
            obtain ⟨a, b, rfl, h1, h2⟩ := hd
            obtain ⟨h3, h4⟩ := ih _ _ _ _ hs h2
            have hl := h1.len
            refine ⟨⟨a, b.take (n + 1 - c.wid), ?_, h1, by simpa using h3⟩, by simp; omega⟩
            rw [List.drop_zero, List.take_append, List.take_of_length_le (by omega), hl]
        · cases h
    | succ off =>
      simp only [segs] at h
      split at h
      · rename_i hle
        obtain ⟨a, b, rfl, h1, h2⟩ := hd
        obtain ⟨h3, h4⟩ := ih _ _ _ _ h h2
        have hl := h1.len
        refine ⟨?_, by simp; omega⟩
        rw [List.drop_append, List.drop_of_length_le (by omega), List.nil_append, hl]
        exact h3
      · cases h
/-- Segments laid over others. -/
def dropW : Nat → List CV → Option (List CV)
  | 0, l => some l
  | _, [] => none
  | n + 1, c :: r => if c.wid ≤ n + 1 then dropW (n + 1 - c.wid) r else none
theorem dropW_dn {β : Nat → Option Value} {F : Nat → Prop} {w : World} {cs : List CV} : ∀ {n : Nat} {r : List CV} {l : List Value}, dropW n cs = some r → DnL β F w cs l → DnL β F w r (l.drop n) ∧ n ≤ l.length := by
  induction cs with
  | nil =>
    intro n r l h hd
    cases n <;> simp [dropW] at h
    subst h
    exact ⟨by simpa using hd, by simp⟩
  | cons c cs ih =>
    intro n r l h hd
    cases n with
    | zero => simp [dropW] at h; subst h; exact ⟨by simpa using hd, by simp⟩
    | succ n =>
      simp only [dropW] at h
      split at h
      · rename_i hle
        obtain ⟨a, b, rfl, h1, h2⟩ := hd
        obtain ⟨h3, h4⟩ := ih h h2
        have hl := h1.len
        refine ⟨?_, by simp; omega⟩
        rw [List.drop_append, List.drop_of_length_le (show a.length ≤ n + 1 by omega), hl, List.nil_append]
        exact h3
      · cases h
def putSegs : Nat → List CV → List CV → Option (List CV)
  | 0, vs, l => (dropW (cwid vs) l).map (vs ++ ·)
  | _ + 1, _, [] => none
  | off + 1, vs, c :: r => if c.wid ≤ off + 1 then (putSegs (off + 1 - c.wid) vs r).map (c :: ·) else none
theorem putSegs_dn {β : Nat → Option Value} {F : Nat → Prop} {w : World} : ∀ (off : Nat) (vs cs r : List CV) (l m : List Value), putSegs off vs cs = some r → DnL β F w cs l → DnL β F w vs m → DnL β F w r (l.take off ++ m ++ l.drop (off + m.length)) ∧ off + m.length ≤ l.length := by
  have z : ∀ (vs cs r : List CV) (l m : List Value), putSegs 0 vs cs = some r → DnL β F w cs l → DnL β F w vs m → DnL β F w r (l.take 0 ++ m ++ l.drop (0 + m.length)) ∧ 0 + m.length ≤ l.length := by
    intro vs cs r l m h hd hv
    unfold putSegs at h
    cases hs : dropW (cwid vs) cs with
    | none => simp [hs] at h
    | some r' =>
      obtain rfl : vs ++ r' = r := by simpa [hs] using h
      obtain ⟨h1, h2⟩ := dropW_dn hs hd
      have hl := hv.len
      rw [← hl] at h1 h2
      simp only [List.take_zero, List.nil_append, Nat.zero_add]
      exact ⟨hv.app h1, h2⟩
  intro off vs cs
  induction cs generalizing off vs with
  | nil =>
    intro r l m h hd hv
    cases off with
    | zero => exact z _ _ _ _ _ h hd hv
    | succ off => simp [putSegs] at h
  | cons c cs ih =>
    intro r l m h hd hv
    cases off with
    | zero => exact z _ _ _ _ _ h hd hv
    | succ off =>
      simp only [putSegs] at h
      split at h
      · rename_i hle
        cases hs : putSegs (off + 1 - c.wid) vs cs with
        | none => simp [hs] at h
        | some r' =>
          obtain rfl : c :: r' = r := by simpa [hs] using h
          obtain ⟨a, b, rfl, h1, h2⟩ := hd
          obtain ⟨h3, h4⟩ := ih _ _ _ _ _ hs h2 hv
          have hl := h1.len
          refine ⟨⟨a, _, ?_, h1, h3⟩, by simp; omega⟩
          rw [List.take_append, List.take_of_length_le (show a.length ≤ off + 1 by omega), List.drop_append, List.drop_of_length_le (show a.length ≤ off + 1 + m.length by omega), hl, show off + 1 + m.length - c.wid = off + 1 - c.wid + m.length by omega]
          simp
      · cases h

/-- What a run began with: the world, the blocks that were handed in to be written, what is only read, and the numbers of regions that are kept. -/
structure Base where
  w0 : World
  O : Nat → Prop
  F0 : Nat → Prop
  na : Nat
  β0 : Nat → Option Value
/-- The laid variables are read. -/
structure GlOk (F : Nat → Prop) (w : World) : Prop where
  nums : ∀ g n k l, Gr g = some (n, k, l) → F g ∧ l.length = n ∧ (∀ y ∈ l, inR k y) ∧ ∃ ty fz, w.heap[g]? = some (.cells (l.map (Value.int k)).toArray ty fz)
  some_ : ∀ p ∈ Gl, F p.1 ∧ ∃ cs ty fz, w.heap[p.1]? = some (.cells cs ty fz) ∧ p.2 cs ty
theorem GlOk.ext {F F' : Nat → Prop} {w w' : World} (h : GlOk F w) (hF : ∀ k, F k → F' k) (hk : ∀ k, F k → w'.heap[k]? = w.heap[k]?) : GlOk F' w' :=
  ⟨fun g n k l e => by obtain ⟨h1, h2, h3, ty, fz, h4⟩ := h.nums g n k l e; exact ⟨hF _ h1, h2, h3, ty, fz, (hk _ h1).trans h4⟩,
   fun p hp => by obtain ⟨h1, cs, ty, fz, h2, h3⟩ := h.some_ p hp; exact ⟨hF _ h1, cs, ty, fz, (hk _ h1).trans h2, h3⟩⟩
structure FOk (F : Nat → Prop) (w : World) : Prop where
  lt : ∀ k, F k → k < w.heap.size
  gl : GlOk F w
instance {F : Nat → Prop} {w : World} : CoeFun (FOk F w) (fun _ => ∀ k, F k → k < w.heap.size) := ⟨FOk.lt⟩
theorem FOk.ext {F F' : Nat → Prop} {w w' : World} (h : FOk F w) (hl : ∀ k, F' k → k < w'.heap.size) (hF : ∀ k, F k → F' k) (hk : ∀ k, F k → w'.heap[k]? = w.heap[k]?) : FOk F' w' := ⟨hl, h.gl.ext hF hk⟩
/-- A state stands for a world. -/
structure Sat (B : Base) (β : Nat → Option Value) (F : Nat → Prop) (st : St) (w : World) : Prop where
  only : Only B.O B.w0 w
  fresh : ∀ id, st.nx ≤ id → β id = none
  cks : ∀ p ∈ st.h, CkOk β F w p.1 p.2
  own : ∀ p ∈ st.h, ∀ k, bk (β p.1) = some k → (B.O k ∨ B.w0.heap.size ≤ k) ∧ ¬ F k ∧ k < w.heap.size
  sep : st.h.Pairwise (fun p q => ∀ k, bk (β p.1) = some k → bk (β q.1) ≠ some k)
  frz : FOk F w
  f1 : ∀ k, B.F0 k → F k
  f2 : ∀ k, F k → B.F0 k ∨ B.O k ∨ B.w0.heap.size ≤ k
  anc : B.na ≤ st.nx ∧ ∀ i, i < B.na → β i = B.β0 i
def look {α : Type} : List (Nat × α) → Nat → Option α
  | [], _ => none
  | (k, a) :: r, n => if k = n then some a else look r n
def upd {α : Type} : List (Nat × α) → Nat → α → List (Nat × α)
  | [], _, _ => []
  | (k, a) :: r, n, b => if k = n then (k, b) :: r else (k, a) :: upd r n b
def del {α : Type} : List (Nat × α) → Nat → List (Nat × α)
  | [], _ => []
  | (k, a) :: r, n => if k = n then r else (k, a) :: del r n
theorem look_mem {α : Type} : ∀ {l : List (Nat × α)} {n : Nat} {a : α}, look l n = some a → (n, a) ∈ l
  | (k, b) :: r, n, a, h => by
    simp only [look] at h
    split at h
    · rename_i e; cases h; subst e; simp
    · exact List.mem_cons_of_mem _ (look_mem h)
theorem upd_mem {α : Type} : ∀ {l : List (Nat × α)} {n : Nat} {b : α} {p : Nat × α}, p ∈ upd l n b → p = (n, b) ∨ p ∈ l
  | (k, a) :: r, n, b, p, h => by
    simp only [upd] at h
    split at h
    · rename_i e
      rcases List.mem_cons.1 h with h | h
      · left; rw [h, e]
      · right; exact List.mem_cons_of_mem _ h
    · rcases List.mem_cons.1 h with h | h
      · right; rw [h]; simp
      · rcases upd_mem h with h | h
        · exact .inl h
        · exact .inr (List.mem_cons_of_mem _ h)
theorem del_mem {α : Type} : ∀ {l : List (Nat × α)} {n : Nat} {p : Nat × α}, p ∈ del l n → p ∈ l
  | (k, a) :: r, n, p, h => by
    simp only [del] at h
    split at h
    · exact List.mem_cons_of_mem _ h
    · rcases List.mem_cons.1 h with h | h
      · rw [h]; simp
      · exact List.mem_cons_of_mem _ (del_mem h)
theorem upd_fst {α : Type} : ∀ (l : List (Nat × α)) (n : Nat) (b : α), (upd l n b).map (·.1) = l.map (·.1)
  | [], n, b => rfl
  | (k, a) :: r, n, b => by simp only [upd]; split <;> simp_all [upd_fst r n b]
theorem pairwise_fst {R : Nat → Nat → Prop} {l : List (Nat × Ck)} : l.Pairwise (fun p q => R p.1 q.1) ↔ (l.map (·.1)).Pairwise R := by rw [List.pairwise_map]
/-- What is laid over a part of the list, the blocks of the others. -/
theorem upd_other {R : Nat → Nat → Prop} : ∀ {l : List (Nat × Ck)} {n : Nat} {a b : Ck} {p : Nat × Ck}, l.Pairwise (fun p q => R p.1 q.1) → look l n = some a → p ∈ upd l n b → p = (n, b) ∨ (p ∈ l ∧ (R n p.1 ∨ R p.1 n))
  | (k, c) :: r, n, a, b, p, hp, hl, h => by
    simp only [look, upd] at hl h
    split at h
    · rename_i e
      subst e
      rcases List.mem_cons.1 h with h | h
      · exact .inl h
      · exact .inr ⟨List.mem_cons_of_mem _ h, .inl ((List.pairwise_cons.1 hp).1 p h)⟩
    · rename_i e
      rw [if_neg e] at hl
      rcases List.mem_cons.1 h with h | h
      · subst h
        exact .inr ⟨by simp, .inr ((List.pairwise_cons.1 hp).1 _ (look_mem hl))⟩
      · rcases upd_other (List.pairwise_cons.1 hp).2 hl h with h | ⟨h1, h2⟩
        · exact .inl h
        · exact .inr ⟨List.mem_cons_of_mem _ h1, h2⟩
theorem del_other {R : Nat → Nat → Prop} : ∀ {l : List (Nat × Ck)} {n : Nat} {a : Ck} {p : Nat × Ck}, l.Pairwise (fun p q => R p.1 q.1) → look l n = some a → p ∈ del l n → p ∈ l ∧ (R n p.1 ∨ R p.1 n)
  | (k, c) :: r, n, a, p, hp, hl, h => by
    simp only [look, del] at hl h
    split at h
    · rename_i e
      subst e
      exact ⟨List.mem_cons_of_mem _ h, .inl ((List.pairwise_cons.1 hp).1 p h)⟩
    · rename_i e
      rw [if_neg e] at hl
      rcases List.mem_cons.1 h with h | h
      · subst h
        exact ⟨by simp, .inr ((List.pairwise_cons.1 hp).1 _ (look_mem hl))⟩
      · obtain ⟨h1, h2⟩ := del_other (List.pairwise_cons.1 hp).2 hl h
        exact ⟨List.mem_cons_of_mem _ h1, h2⟩
theorem del_pair {R : Nat × Ck → Nat × Ck → Prop} : ∀ {l : List (Nat × Ck)} {n : Nat}, l.Pairwise R → (del l n).Pairwise R
  | [], n, h => h
  | (k, c) :: r, n, h => by
    simp only [del]
    split
    · exact (List.pairwise_cons.1 h).2
    · exact List.pairwise_cons.2 ⟨fun p hp => (List.pairwise_cons.1 h).1 p (del_mem hp), del_pair (List.pairwise_cons.1 h).2⟩
end Go.Proofs.YtnbbooilapelmaaGreatDoor.V
