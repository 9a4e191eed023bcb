/-
  A symbolic run of a function's text: parts of slices.
-/
import Derived.Test.YtnbbooilapelmaaGreatDoorKitVs
import Derived.Laws.OwnMore
set_option linter.unusedVariables false
set_option linter.unusedSimpArgs false
namespace Go.Proofs.YtnbbooilapelmaaGreatDoor.V
open Go.RowKit Go.Proofs.YtnbbooilapelmaaGreatDoor
theorem RdL.drop {w : World} {F : Nat → Prop} {a : Sh} : ∀ {xs : List a.T} {l : List Value} (k : Nat), RdL w F a xs l → RdL w F a (xs.drop k) (l.drop (k * a.size))
  | xs, l, 0, h => by simpa using h
  | [], l, k + 1, h => by rw [show l = [] from h]; simp; rfl
  | x :: xs, l, k + 1, h => by
    obtain ⟨c, r, rfl, h1, h2⟩ := h
    have := RdL.drop k h2
    have hc : c.length = a.size := RdC.len _ _ h1
    rw [List.drop_succ_cons, show (k + 1) * a.size = c.length + k * a.size by rw [hc, Nat.succ_mul]; omega, ← List.drop_drop, List.drop_left]
    exact this
theorem RdL.take {w : World} {F : Nat → Prop} {a : Sh} : ∀ {xs : List a.T} {l : List Value} (k : Nat), RdL w F a xs l → RdL w F a (xs.take k) (l.take (k * a.size))
  | xs, l, 0, h => by simp; rfl
  | [], l, k + 1, h => by rw [show l = [] from h]; simp; rfl
  | x :: xs, l, k + 1, h => by
    obtain ⟨c, r, rfl, h1, h2⟩ := h
    refine ⟨c, r.take (k * a.size), ?_, h1, RdL.take k h2⟩
    rw [List.take_append, RdC.len _ _ h1, List.take_of_length_le (by rw [RdC.len _ _ h1, Nat.succ_mul]; omega), show (k + 1) * a.size - a.size = k * a.size by rw [Nat.succ_mul]; omega]
theorem own_take {w : World} {base : Nat} {e : TypeId} {sz : Nat} {A : Option Addr} {m n c : Nat} {xs : List Value} (h : Own w base e sz (.slice A m c) m xs) (hn : n ≤ m) : Own w base e sz (.slice A n c) n (xs.take (n * sz)) := by
  obtain ⟨h1, h2⟩ := h
  refine ⟨by rw [List.length_take, h1]; exact Nat.min_eq_left (Nat.mul_le_mul_right _ hn), ?_⟩
  rcases h2 with ⟨hv, hm⟩ | ⟨g, o, cap, cur, hv, hb, hg, hnc, hcm, hcs, htake⟩
  · injection hv with e1 e2 e3
    subst e1; subst e3
    obtain rfl : n = 0 := by omega
    exact .inl ⟨rfl, rfl⟩
  · injection hv with e1 e2 e3
    subst e1; subst e3
    refine .inr ⟨g, o, c, cur, rfl, hb, hg, by omega, hcm, hcs, ?_⟩
    rw [← htake, List.take_take, Nat.min_eq_left (Nat.mul_le_mul_right _ hn)]
section
variable {B : Base} {β : Nat → Option Value} {F : Nat → Prop} {w : World} {st : St}
/-- A part of what one owns is one's own. -/
theorem sv_own {ty : TypeId} {a : Sh} {xs : List a.T} {v u : Value} {vs : List Value} {lo n : Nat} (h : Own w 0 ty a.size v xs.length vs) (hr : RdL w F a xs vs) (hs : SvOk v u a.size lo n) (hle : lo + n ≤ xs.length) :
    Own w 0 ty a.size u n ((vs.drop (lo * a.size)).take (n * a.size)) ∧ RdL w F a ((xs.drop lo).take n) ((vs.drop (lo * a.size)).take (n * a.size)) ∧ ((xs.drop lo).take n).length = n ∧ (∀ k, u.ownBlock = some k → v.ownBlock = some k) := by
  refine ⟨?_, (hr.drop lo).take n, by rw [List.length_take, List.length_drop]; omega, ?_⟩
  · rcases hs with ⟨rfl, rfl, rfl, rfl⟩ | ⟨g, o, len, cap, o', rfl, hc, rfl, ho, hb⟩
    · simpa using Own.nil w 0 ty a.size
    · have hlen : len = xs.length := by
        rcases h.2 with ⟨hv, _⟩ | ⟨g', o', cap', cur, hv, _⟩
        · cases hv
        · injection hv
      subst hlen
      by_cases hn : cap = lo
      · subst hn
        obtain rfl : n = 0 := by omega
        rcases h.2 with ⟨hv, _⟩ | ⟨g', o2, cap', cur, hv, h1, h2, h3, h4, h5, h6⟩
        · cases hv
        · injection hv with e1 e2 e3
          injection e1 with e1
          injection e1 with e4 e5
          subst e4; subst e5; subst e3
          refine ⟨by simp, .inr ⟨g, o', cap - cap, cur, rfl, h1, h2, by omega, by omega, ?_, by simp⟩⟩
          simp
          omega
      · have := own_take (n := n) (h.cut (k := lo) (by omega)) (by omega)
        rw [if_neg hn] at this
        rw [ho hn]
        exact this
  · rcases hs with ⟨rfl, rfl, rfl, rfl⟩ | ⟨g, o, len, cap, o', rfl, hc, rfl, _⟩
    · exact fun k hk => hk
    · exact fun k hk => hk
theorem sv_self {ty : TypeId} {a : Sh} {xs : List a.T} {v : Value} {vs : List Value} (h : Own w 0 ty a.size v xs.length vs) : SvOk v v a.size 0 xs.length := by
  rcases h.2 with ⟨rfl, hn⟩ | ⟨g, o, cap, cur, rfl, hb, hg, hnc, _⟩
  · exact .inl ⟨rfl, rfl, hn, rfl⟩
  · exact .inr ⟨g, o, xs.length, cap, o, rfl, by omega, by simp, by simp, by omega⟩
/-- A slice of one's own, or a part of it: of which region, from where, how many, and what it holds. -/
@[irreducible] def vwK (st : St) (c : CV) (K : (id : Nat) → TypeId → (a : Sh) → (xs : List a.T) → (lo n : Nat) → (d : List a.T) → Prop) : Prop :=
  match c with
  | .sl id => (match look st.h id with | some (.own ty a xs) => K id ty a xs 0 xs.length xs | _ => False)
  | .sv id sz lo n => (match look st.h id with
    | some (.own ty a xs) => (match Nat.beq sz a.size with | true => lo + n ≤ xs.length ∧ K id ty a xs lo n ((xs.drop lo).take n) | false => False)
    | _ => False)
  | _ => False
theorem vwK_ok (hw : Sat B β F st w) {c : CV} {K : (id : Nat) → TypeId → (a : Sh) → (xs : List a.T) → (lo n : Nat) → (d : List a.T) → Prop} (h : vwK st c K) {u : Value} (hd : Dn β F w c u) :
    ∃ (id : Nat) (ty : TypeId) (a : Sh) (xs : List a.T) (lo n : Nat) (d : List a.T) (v : Value) (vs : List Value), K id ty a xs lo n d ∧ look st.h id = some (.own ty a xs) ∧ β id = some v ∧ Own w 0 ty a.size v xs.length vs ∧ RdL w F a xs vs ∧ SvOk v u a.size lo n ∧ lo + n ≤ xs.length ∧ d = (xs.drop lo).take n := by
  unfold vwK at h
  split at h
  · rename_i id
    split at h
    · rename_i ty a xs hl
      obtain ⟨v, vs, h1, h2, h3⟩ := hw.cks _ (look_mem hl)
      obtain ⟨e, _⟩ := hd
      rw [h1] at e
      cases e
      exact ⟨id, ty, a, xs, 0, xs.length, xs, _, vs, h, hl, h1, h2, h3, sv_self h2, by omega, by simp⟩
    · exact h.elim
  · rename_i id sz lo n
    split at h
    · rename_i ty a xs hl
      split at h
      · rename_i hsz
        have hsz := Nat.eq_of_beq_eq_true hsz
        subst hsz
        obtain ⟨v, vs, h1, h2, h3⟩ := hw.cks _ (look_mem hl)
        obtain ⟨v', e, hs⟩ := hd
        rw [h1] at e
        cases e
        exact ⟨id, ty, a, xs, lo, n, _, _, vs, h.2, hl, h1, h2, h3, hs, h.1, rfl⟩
      · exact h.elim
    · exact h.elim
  · exact h.elim
/-- What is read, out of one's own or not. -/
@[irreducible] def srcK (st : St) (c : CV) (K : (a : Sh) → (l : List a.T) → Prop) : Prop :=
  match c with
  | .rd a l => K a l
  | c => vwK st c fun _ _ a _ _ _ d => K a d
theorem srcK_ok (hw : Sat B β F st w) {c : CV} {K : (a : Sh) → (l : List a.T) → Prop} (h : srcK st c K) {u : Value} (hd : Dn β F w c u) :
    ∃ (a : Sh) (l : List a.T) (news : List Value), K a l ∧ Rds w a.size u l.length news ∧ RdL w F a l news ∧ ∀ z ∈ news, z.oneCell' = true := by
  unfold srcK at h
  split at h
  · rename_i a l
    obtain ⟨news, h1, h2, h3⟩ := srcOf_ok hw (st := st) (c := .rd a l) rfl hd
    exact ⟨a, l, news, h, h1, h2, h3⟩
  · obtain ⟨id, ty, a, xs, lo, n, d, v, vs, h1, h2, h3, h4, h5, h6, h7, rfl⟩ := vwK_ok hw h hd
    obtain ⟨g1, g2, g3, g4⟩ := sv_own h4 h5 h6 h7
    exact ⟨a, _, _, h1, by rw [g3]; exact g1.rds, g2, RdL.one g2⟩
/-- One of one's own regions turns into another, the world with it. -/
theorem Sat.turn (hw : Sat B β F st w) {id : Nat} {ty : TypeId} {a : Sh} {xs : List a.T} {v u : Value} (hl : look st.h id = some (.own ty a xs)) (hv : β id = some v) (hb : ∀ k, u.ownBlock = some k → v.ownBlock = some k)
    {w' : World} (ho : Only (fun k => u.ownBlock = some k) w w') {ty' : TypeId} {a' : Sh} {ys : List a'.T} {z : Value} {vs : List Value} (hown : Own w' 0 ty' a'.size z ys.length vs) (hrd : RdL w' F a' ys vs) (hz : ∀ k, z.ownBlock = some k → u.ownBlock = some k ∨ w.heap.size ≤ k) :
    ∃ β', Ext β F w β' F w' ∧ Sat B β' F ⟨st.nx + 1, (st.nx, .own ty' a' ys) :: del st.h id⟩ w' ∧ β' st.nx = some z ∧ (∀ k, Gd st β F k → Gd ⟨st.nx + 1, (st.nx, .own ty' a' ys) :: del st.h id⟩ β' F k ∧ w'.heap[k]? = w.heap[k]?) := by
  obtain ⟨β', x1, x2, x3, x4⟩ := hw.swap (h0 := del st.h id) del_sub (del_pair hw.sep) ho (fun k hk => by
    obtain ⟨o1, o2, _⟩ := hw.own _ (look_mem hl) k (by rw [hv]; exact own_bk' (hb k hk))
    refine ⟨⟨o1, o2⟩, fun p hp hpk => ?_⟩
    obtain ⟨_, hr⟩ := del_other (R := fun a b => ∀ k, bk (β a) = some k → bk (β b) ≠ some k) hw.sep hl hp
    have hkk : bk (β id) = some k := by rw [hv]; exact own_bk' (hb k hk)
    rcases hr with hr | hr
    · exact hr k hkk hpk
    · exact hr k hpk hkk) (xs := ys) hown hrd hz
  exact ⟨β', x1, x2, x3, fun k hk => x4 k (hk.imp_right fun ⟨p, hp, h1, h2⟩ => ⟨p, (del_keep hl hp).resolve_left (fun e => by rw [e] at h1; cases h1), h1, h2⟩)⟩
/-- A part of one's own becomes a region of its own. -/
theorem Sat.trim (hw : Sat B β F st w) {id : Nat} {ty : TypeId} {a : Sh} {xs : List a.T} {v u : Value} {vs : List Value} {lo n : Nat} (hl : look st.h id = some (.own ty a xs)) (hv : β id = some v) (h : Own w 0 ty a.size v xs.length vs) (hr : RdL w F a xs vs) (hs : SvOk v u a.size lo n) (hle : lo + n ≤ xs.length) :
    ∃ β', Ext β F w β' F w ∧ Sat B β' F ⟨st.nx + 1, (st.nx, .own ty a ((xs.drop lo).take n)) :: del st.h id⟩ w ∧ β' st.nx = some u := by
  obtain ⟨g1, g2, g3, g4⟩ := sv_own h hr hs hle
  obtain ⟨β', x1, x2, x3, _⟩ := hw.turn hl hv g4 (Only.refl _ w) (ys := (xs.drop lo).take n) (z := u) (vs := (vs.drop (lo * a.size)).take (n * a.size)) (by rw [g3]; exact g1) g2 (fun k hk => .inl hk)
  exact ⟨β', x1, x2, x3⟩
end
/-! ### x[lo:hi] -/
def bndV (ts : Sl) (ch : List (Nat × Bool)) : Option Operand → Option (Option Int)
  | none => some none
  | some x => (match ev ts ch x with | some (.v (.one d)) => (match intV d with | some (_, e) => some (some e) | none => none) | _ => none)
def cutK (lo hi : Option Int) (len : Nat) (K : Nat → Nat → Prop) : Prop :=
  match lo, hi with
  | none, none => K 0 len
  | some a, none => (0 ≤ a ∧ a ≤ (len : Int)) ∧ K a.toNat (len - a.toNat)
  | none, some b => (0 ≤ b ∧ b ≤ (len : Int)) ∧ K 0 b.toNat
  | some a, some b => (0 ≤ a ∧ a ≤ b ∧ b ≤ (len : Int)) ∧ K a.toNat (b.toNat - a.toNat)
def cutRd {α : Type} (lo hi : Option Int) (l : List α) (K : List α → Prop) : Prop :=
  match lo, hi with
  | none, none => K l
  | some a, none => (0 ≤ a ∧ a ≤ (l.length : Int)) ∧ K (l.drop a.toNat)
  | none, some b => (0 ≤ b ∧ b ≤ (l.length : Int)) ∧ K (l.take b.toNat)
  | some a, some b => (0 ≤ a ∧ a ≤ b ∧ b ≤ (l.length : Int)) ∧ K ((l.drop a.toNat).take (b.toNat - a.toNat))
section
variable (T : Tb)
def opSlice (t : TypeId) (x : Option Rs) (lo hi : Option (Option Int)) (st : St) (K : Rs → Prop) : Prop :=
  match T t, x, lo, hi with
  | some ti, some (.v (.one c)), some lo, some hi => (match ti.kd, c with
    | .slice el, .rd a l => (match T el with
      | some ie => (match Nat.beq ie.n a.size with
        | true => cutRd lo hi l fun m => K (.v (.one (.rd a m)))
        | false => False)
      | none => False)
    | .slice el, .sl id => (match T el, look st.h id with
      | some ie, some (.own _ a xs) => (match Nat.beq ie.n a.size with
        | true => cutK lo hi xs.length fun l n => K (.v (.one (.sv id a.size l n)))
        | false => False)
      | _, _ => False)
    | .slice el, .sv id sz l0 n0 => (match T el with
      | some ie => (match Nat.beq ie.n sz with
        | true => cutK lo hi n0 fun l n => K (.v (.one (.sv id sz (l0 + l) n)))
        | false => False)
      | _ => False)
    | .str, .val (.string s) => cutK lo hi s.size fun l n => K (.v (.one (.val (.string (s.extract l (l + n))))))
    | _, _ => False)
  | _, _, _, _ => False
end
/-- The bounds that were written stand for these. -/
def BndOk (b : Option Int) (v : Option Value) : Prop := match b, v with
  | none, none => True
  | some e, some (.int _ e') => e' = e
  | _, _ => False
theorem bndV_ok {β : Nat → Option Value} {F : Nat → Prop} {w : World} {ts : Sl} {ch : List (Nat × Bool)} {a : Act} (hg : gd ts ch = true) (hs : SlOk β F w ts a.tmps) {o : Option Operand} {b : Option Int} (h : bndV ts ch o = some b) : BndOk b (o.map a.eval) := by
  unfold bndV at h
  split at h
  · cases h; trivial
  · rename_i x
    split at h
    · rename_i d hd
      split at h
      · rename_i k e he
        cases h
        obtain ⟨h1, _⟩ := intV_dn he (show Dn β F w d (a.eval x) from ev_dn hd hg hs)
        simp only [BndOk, Option.map_some, h1]
      · cases h
    · cases h
theorem cutK_ok {lo hi : Option Int} {len : Nat} {K : Nat → Nat → Prop} (h : cutK lo hi len K) {vl vh : Option Value} (hl : BndOk lo vl) (hh : BndOk hi vh) : ∃ l n, K l n ∧ l + n ≤ len ∧
    (∀ (P : Program) (w : World) (b : Bool) (cap : Nat), len ≤ cap → (Instr.sliceBounds b len cap vl vh none).run P w = .ok (l, l + n, cap) w) := by
  have bnd : ∀ (P : Program) (w : World) (k : IntKind) (e : Int) (m : Nat) (code : BoundsCode), 0 ≤ e → e ≤ m → (Instr.sliceBound (.int k e) m code).run P w = .ok e.toNat w := by
    intro P w k e m code h0 h1
    simp [Instr.sliceBound, asIntOf, h0, h1]
  unfold cutK at h
  split at h
  · cases vl <;> first | exact hl.elim | skip
    cases vh <;> first | exact hh.elim | skip
    exact ⟨0, len, h, by omega, fun P w b cap hc => by simp [Instr.sliceBounds]⟩
  · rename_i a
    cases vh <;> first | exact hh.elim | skip
    cases vl with
    | none => exact hl.elim
    | some v =>
      cases v <;> first | exact hl.elim | skip
      rename_i k e
      obtain rfl : e = a := hl
      refine ⟨_, _, h.2, by omega, fun P w b cap hc => ?_⟩
      have := bnd P w k e len .sliceB h.1.1 h.1.2
      have e2 : e.toNat + (len - e.toNat) = len := by omega
      simp [Instr.sliceBounds, this, e2]
  · rename_i e'
    cases vl <;> first | exact hl.elim | skip
    cases vh with
    | none => exact hh.elim
    | some v =>
      cases v <;> first | exact hh.elim | skip
      rename_i k e
      obtain rfl : e = e' := hh
      refine ⟨_, _, h.2, by omega, fun P w b cap hc => ?_⟩
      have := bnd P w k e cap (if b = true then .sliceAcap else .sliceAlen) h.1.1 (by omega)
      simp [Instr.sliceBounds, this]
  · rename_i a b'
    cases vl with
    | none => exact hl.elim
    | some v =>
      cases v <;> first | exact hl.elim | skip
      rename_i k e
      obtain rfl : e = a := hl
      cases vh with
      | none => exact hh.elim
      | some v =>
        cases v <;> first | exact hh.elim | skip
        rename_i k2 e2
        obtain rfl : e2 = b' := hh
        refine ⟨_, _, h.2, by omega, fun P w b cap hc => ?_⟩
        have h1 := bnd P w k2 e2 cap (if b = true then .sliceAcap else .sliceAlen) (by omega) (by omega)
        have h2 := bnd P w k e e2.toNat .sliceB h.1.1 (by omega)
        have e3 : e.toNat + (e2.toNat - e.toNat) = e2.toNat := by omega
        simp [Instr.sliceBounds, h1, h2, e3]
theorem run_slice {P : Program} {t e : TypeId} {n : Nat} (ht : P.underlying t = some (.slice e)) (hn : (P.info? e).map (·.size) = some n) {ad : Option Addr} {len cap l m : Nat} {vl vh : Option Value} {w : World}
    (hb : (Instr.sliceBounds true len cap vl vh none).run P w = .ok (l, l + m, cap) w) :
    (Instr.sliceAt t (.slice ad len cap) vl vh none).run P w = .ok (.slice (if cap = l then ad else ad.map (·.add (l * n))) m (cap - l)) w := by
  simp [Instr.sliceAt, Instr.slice, run_underlying ht, hb, run_sizeOf' hn]
/-- A part of what is read. -/
theorem RdC.cut {w : World} {F : Nat → Prop} {a : Sh} {x : List a.T} {ad : Option Addr} {cap l n : Nat} (h : RdC w F (.sl a) x [.slice ad x.length cap]) (hle : l + n ≤ x.length) :
    RdC w F (.sl a) ((x.drop l).take n) [.slice (if cap = l then ad else ad.map (·.add (l * a.size))) n (cap - l)] := by
  obtain ⟨ad', cap', e, h1, h2, h3, h4⟩ := h
  injection e with e _
  injection e with e1 e2 e3
  subst e1; subst e3
  have hlen : ((x.drop l).take n).length = n := by rw [List.length_take, List.length_drop]; omega
  refine ⟨_, cap - l, by rw [hlen], by omega, by omega, fun hn => ?_, fun h0 => ?_⟩
  · split at hn
    · have := h3 hn; omega
    · cases ad with
      | none => have := h3 rfl; omega
      | some _ => cases hn
  · rw [hlen] at h0
    obtain ⟨g, o, rfl, hg, hc⟩ := h4 (by omega)
    rw [if_neg (by omega)]
    refine ⟨g, o + l * a.size, by simp [Addr.add_lit], hg, fun i y hy => ?_⟩
    rw [List.getElem?_take] at hy
    split at hy
    · rw [List.getElem?_drop] at hy
      obtain ⟨cs, c1, c2⟩ := hc _ y hy
      refine ⟨cs, c1, fun j u hj => ?_⟩
      have := c2 j u hj
      rw [show o + l * a.size + i * a.size + j = o + (l + i) * a.size + j by rw [Nat.add_mul]; omega]
      exact this
    · cases hy
theorem SvOk.cut {v u : Value} {sz lo n l m : Nat} (h : SvOk v u sz lo n) (hle : l + m ≤ n) : ∃ ad cap, u = .slice ad n cap ∧ n ≤ cap ∧ SvOk v (.slice (if cap = l then ad else ad.map (·.add (l * sz))) m (cap - l)) sz (lo + l) m := by
  rcases h with ⟨rfl, rfl, rfl, rfl⟩ | ⟨g, o, len, cap, o', rfl, hc, rfl, ho, hb⟩
  · obtain rfl : l = 0 := by omega
    obtain rfl : m = 0 := by omega
    exact ⟨none, 0, rfl, Nat.le_refl _, .inl ⟨rfl, rfl, rfl, by simp⟩⟩
  · refine ⟨_, _, rfl, by omega, .inr ⟨g, o, len, cap, if cap - lo = l then o' else o' + l * sz, rfl, by omega, ?_, fun hne => ?_, ?_⟩⟩
    · rw [show cap - lo - l = cap - (lo + l) by omega]
      split
      · rfl
      · simp [Addr.add_lit]
    · rw [if_neg (by omega), ho (by omega), Nat.add_mul]; omega
    · split
      · exact hb
      · rename_i hne
        rw [ho (by omega)]
        have : lo * sz + l * sz ≤ cap * sz := by rw [← Nat.add_mul]; exact Nat.mul_le_mul_right _ (by omega)
        omega
section
variable {T : Tb} {P : Program} {B : Base} {β : Nat → Option Value} {F : Nat → Prop} {w : World} {st : St}
theorem cutRd_ok {α : Type} {lo hi : Option Int} {l : List α} {K : List α → Prop} (h : cutRd lo hi l K) : cutK lo hi l.length fun a n => K ((l.drop a).take n) := by
  unfold cutRd at h
  unfold cutK
  split at h
  · simpa using h
  · refine ⟨h.1, ?_⟩
    dsimp only
    rw [List.take_of_length_le (by simp)]
    exact h.2
  · refine ⟨h.1, ?_⟩
    simpa using h.2
  · exact h
theorem opSlice_ok (hT : ∀ t i, T t = some i → TyOk P t i) {t : TypeId} {x : Option Rs} {lo hi : Option (Option Int)} {K : Rs → Prop} (h : opSlice T t x lo hi st K) (hw : Sat B β F st w) {u : Value} (hx : ∀ r, x = some r → DnR β F w r u) {vl vh : Option Value} (hl : ∀ b, lo = some b → BndOk b vl) (hh : ∀ b, hi = some b → BndOk b vh) :
    ∃ z r, (∀ w', (Instr.sliceAt t u vl vh none).run P w' = .ok z w') ∧ K r ∧ DnR β F w r z := by
  unfold opSlice at h
  split at h
  case h_2 => exact h.elim
  rename_i ti c lo hi hti
  have hl := hl _ rfl
  have hh := hh _ rfl
  have hk := (hT t ti hti).kd
  have hc := hx _ rfl
  split at h
  · rename_i el a l hkd
    rw [hkd] at hk
    split at h
    · rename_i ie hie
      split at h
      · rename_i hn
        have hn := Nat.eq_of_beq_eq_true hn
        obtain ⟨ad, cap, e, h1, h2, h3⟩ := hc
        obtain rfl : u = .slice ad l.length cap := by simpa using e
        obtain ⟨p, n, k1, k2, k3⟩ := cutK_ok (cutRd_ok h) hl hh
        have hsz : (P.info? el).map (·.size) = some a.size := by rw [(hT el ie hie).size, hn]
        exact ⟨_, _, fun w' => run_slice hk hsz (k3 P w' true cap h1), k1, RdC.cut ⟨ad, cap, rfl, h1, h2, h3⟩ k2⟩
      · exact h.elim
    · exact h.elim
  · rename_i el id hkd
    rw [hkd] at hk
    split at h
    · rename_i ie _ a xs hie hlk
      split at h
      · rename_i hn
        have hn := Nat.eq_of_beq_eq_true hn
        obtain ⟨v, vs, g1, g2, g3⟩ := hw.cks _ (look_mem hlk)
        obtain ⟨e, _⟩ := hc
        rw [g1] at e
        cases e
        obtain ⟨p, n, k1, k2, k3⟩ := cutK_ok h hl hh
        have hsz : (P.info? el).map (·.size) = some a.size := by rw [(hT el ie hie).size, hn]
        obtain ⟨ad, cap, e, h1, h2⟩ := (sv_self g2).cut k2
        rw [Nat.zero_add] at h2
        refine ⟨_, _, fun w' => ?_, k1, _, g1, h2⟩
        rw [e]
        exact run_slice hk hsz (k3 P w' true cap h1)
      · exact h.elim
    · exact h.elim
  · rename_i el id sz l0 n0 hkd
    rw [hkd] at hk
    split at h
    · rename_i ie hie
      split at h
      · rename_i hn
        have hn := Nat.eq_of_beq_eq_true hn
        obtain ⟨v, g1, g2⟩ := hc
        obtain ⟨p, n, k1, k2, k3⟩ := cutK_ok h hl hh
        have hsz : (P.info? el).map (·.size) = some sz := by rw [(hT el ie hie).size, hn]
        obtain ⟨ad, cap, e, h1, h2⟩ := g2.cut k2
        refine ⟨_, _, fun w' => ?_, k1, v, g1, h2⟩
        rw [e]
        exact run_slice hk hsz (k3 P w' true cap h1)
      · exact h.elim
    · exact h.elim
  · rename_i s hkd
    rw [hkd] at hk
    obtain ⟨rfl, hs⟩ := hc
    obtain ⟨p, n, k1, k2, k3⟩ := cutK_ok h hl hh
    refine ⟨_, _, fun w' => ?_, k1, rfl, ?_⟩
    · have := k3 P w' false s.size (Nat.le_refl _)
      simp [Instr.sliceAt, Instr.slice, run_underlying hk, this]
    · show (s.extract p (p + n)).size ≤ maxLen
      rw [ByteArray.size_extract]
      have : s.size ≤ maxLen := hs
      omega
  · exact h.elim
end
/-! ### append -/
section
variable (T : Tb)
def opAppend2 (t : TypeId) (x y : Option Rs) (st : St) (K : Rs → St → Prop) : Prop :=
  match T t, x, y with
  | some ti, some (.v (.one c)), some (.v (.one d)) => (match ti.kd with
    | .slice e => (match T e with
      | some ie => srcK st d fun b ys => (match Nat.beq ie.n b.size, Nat.ble 1 ie.by_ with
        | true, true => (match c with
          | .val (.slice none 0 0) => ys.length * ie.by_ ≤ 140737488355328 ∧ K (.v (.one (.sl st.nx))) ⟨st.nx + 1, (st.nx, .own e b ys) :: st.h⟩
          | c => vwK st c fun id ty a xs lo n dd => (match Nat.beq ty e, h : eqSh b a with
            | true, true => (dd.length + ys.length) * ie.by_ ≤ 140737488355328 ∧ K (.v (.one (.sl st.nx))) ⟨st.nx + 1, (st.nx, .own ty a (dd ++ castL h ys)) :: del st.h id⟩
            | _, _ => False))
        | _, _ => False)
      | none => False)
    | _ => False)
  | _, _, _ => False
end
section
variable {T : Tb} {P : Program} {B : Base} {β : Nat → Option Value} {F : Nat → Prop} {w : World} {st : St}
theorem opAppend2_ok (hT : ∀ t i, T t = some i → TyOk P t i) {t ty : TypeId} {x y : Option Rs} {K : Rs → St → Prop} (h : opAppend2 T t x y st K) (hw : Sat B β F st w) {u v : Value} (hx : ∀ r, x = some r → DnR β F w r u) (hy : ∀ r, y = some r → DnR β F w r v) :
    ∃ z w' r st' β', (Builtin.append_ #[t, t] ty #[u, v]).run P w = .ok z w' ∧ K r st' ∧ Ext β F w β' F w' ∧ Sat B β' F st' w' ∧ DnR β' F w' r z ∧ (∀ k, Gd st β F k → Gd st' β' F k ∧ w'.heap[k]? = w.heap[k]?) ∧ w.heap.size ≤ w'.heap.size := by
  unfold opAppend2 at h
  split at h
  · rename_i ti c d hti
    have hc := hx _ rfl
    have hd := hy _ rfl
    have hk := (hT t ti hti).kd
    split at h
    · rename_i e hkd
      rw [hkd] at hk
      split at h
      · rename_i ie hie
        have hte := hT e ie hie
        obtain ⟨b, ys, news, h, s1, s2, s3⟩ := srcK_ok hw h hd
        split at h
        · rename_i hn hby
          have hn := Nat.eq_of_beq_eq_true hn
          have hby := Nat.le_of_ble_eq_true hby
          split at h
          · obtain ⟨hb, h⟩ := h
            obtain ⟨rfl, _⟩ := hc
            obtain ⟨z, w', r1, r2, r3, r4⟩ := append_own (w := w) (ty := ty) hk hte hn hby (Own.nil w 0 e b.size) s1 s3 (by simpa using hb)
            have hS : ∀ k, (fun k => (Value.slice none 0 0).ownBlock = some k) k → False := fun k hk => by simp [Value.ownBlock] at hk
            obtain ⟨β', x1, x2, x3, x4⟩ := hw.swap (h0 := st.h) (fun _ h => h) hw.sep r3 (fun k hk => (hS k hk).elim) (xs := ys) (by simpa using r2) (by simpa using s2.mono (fun _ h => h) (fun k hk => r3.block k (hw.frz k hk) (hS k))) r4
            have hform : ∃ a n c, z = .slice a n c := by obtain ⟨ad, c, e, _⟩ := r2.any; exact ⟨ad, _, c, e⟩
            exact ⟨z, w', _, _, β', r1, h, x1, x2, ⟨x3, hform⟩, x4, r3.size⟩
          · obtain ⟨id, ty', a, xs, lo, n, dd, q, vs, hh, h2, h3, h4, h5, h6, h7, rfl⟩ := vwK_ok hw h hc
            clear h
            obtain ⟨g1, g2, g3, g4⟩ := sv_own h4 h5 h6 h7
            split at hh
            · rename_i e1 heq
              have e1 := Nat.eq_of_beq_eq_true e1
              subst e1
              obtain ⟨hb, h⟩ := hh
              have hab := eqSh_eq heq
              have hsz : ie.n = a.size := by rw [hn, hab]
              rw [g3] at hb
              obtain ⟨z, w', r1, r2, r3, r4⟩ := append_own (ty := ty) hk hte hsz hby g1 (by rw [← hab]; exact s1) s3 hb
              have hx' : ∀ k, F k → w'.heap[k]? = w.heap[k]? := fun k hk => r3.block k (hw.frz k hk) fun hs => (hw.own _ (look_mem h2) k (by rw [h3]; exact own_bk' (g4 k hs))).2.1 hk
              obtain ⟨β', x1, x2, x3, x4⟩ := hw.turn h2 h3 g4 r3 (ys := (xs.drop lo).take n ++ castL heq ys) (by rw [List.length_append, castL_len, g3]; exact r2) ((g2.mono (fun _ h => h) hx').app ((castL_rdl heq s2).mono (fun _ h => h) hx')) r4
              have hform : ∃ a n c, z = .slice a n c := by obtain ⟨ad, c, e, _⟩ := r2.any; exact ⟨ad, _, c, e⟩
              exact ⟨z, w', _, _, β', r1, h, x1, x2, ⟨x3, hform⟩, x4, r3.size⟩
            · exact hh.elim
        · exact h.elim
      · exact h.elim
    · exact h.elim
  · exact h.elim
end
end Go.Proofs.YtnbbooilapelmaaGreatDoor.V
