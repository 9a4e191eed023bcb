/-
  A symbolic run of a function's text: maps of scalars.
-/
import Derived.Test.YtnbbooilapelmaaGreatDoorKitVC
import Derived.MapKept
set_option linter.unusedVariables false
set_option linter.unusedSimpArgs false
namespace Go.Proofs.YtnbbooilapelmaaGreatDoor.V
open Go.RowKit Go.Proofs.YtnbbooilapelmaaGreatDoor
/-- Are two keys one? -/
def keyB : (a : Sh) → a.T → a.T → Bool
  | .int _, x, y => decide (x = y)
  | .bool, x, y => decide (x = y)
  | .str, x, y => decide (x = y)
  | _, _, _ => false
def keyS : Sh → Bool | .int _ => true | .bool => true | .str => true | _ => false
def kdSh : Kd → Option Sh | .int k => some (.int k) | .bool => some .bool | .str => some .str | _ => none
/-- What lies at a key. -/
def fndM (a b : Sh) : List (a.T × b.T) → a.T → Option b.T
  | [], _ => none
  | p :: r, k => if keyB a p.1 k = true then some p.2 else fndM a b r k
def putM (a b : Sh) : List (a.T × b.T) → a.T → b.T → List (a.T × b.T)
  | [], k, v => [(k, v)]
  | p :: r, k, v => if keyB a p.1 k = true then (k, v) :: r else p :: putM a b r k v
theorem keyB_iff {a : Sh} (h : keyS a = true) {x y : a.T} : keyB a x y = true ↔ x = y := by
  cases a <;> first | (simp [keyS] at h; done) | simp [keyB]
section
variable {w : World} {F : Nat → Prop}
theorem rd_key {a : Sh} (h : keyS a = true) {x y : a.T} {u v : Value} (h1 : RdC w F a x [u]) (h2 : RdC w F a y [v]) : x = y ↔ u = v := by
  cases a with
  | int k => obtain ⟨e1, _⟩ := h1; obtain ⟨e2, _⟩ := h2; cases e1; cases e2; simp
  | bool => cases h1; cases h2; simp
  | str => obtain ⟨e1, _⟩ := h1; obtain ⟨e2, _⟩ := h2; cases e1; cases e2; simp
  | _ => simp [keyS] at h
/-- The kind's description. -/
def kdDesc : Sh → Option TypeDesc
  | .int k => some (.int k) | .bool => some .bool | .str => some .string | _ => none
theorem isKey_rd {a : Sh} {d : TypeDesc} (hd : kdDesc a = some d) {x : a.T} {u : Value} (h1 : RdC w F a x [u]) : MapKept.IsKey d u := by
  cases a with
  | int k => obtain ⟨e1, _⟩ := h1; cases e1; cases hd; rfl
  | bool => cases h1; cases hd; trivial
  | str => obtain ⟨e1, _⟩ := h1; cases e1; cases hd; trivial
  | _ => cases hd
theorem ent_find {a b : Sh} (hs : keyS a = true) {d : TypeDesc} (hd : kdDesc a = some d) {k : a.T} {u : Value} (hk : RdC w F a k [u]) : ∀ {es : List MapEntry} {l : List (a.T × b.T)} (i : Nat), EntL F w a b es l →
    (fndM a b l k = none → Instr.findNow d u es i = some none ∧ ∀ (z : b.T) (y : Value) (c : Nat), RdC w F b z [y] → EntL F w a b (es ++ [⟨u, y, c⟩]) (putM a b l k z)) ∧
    (∀ v, fndM a b l k = some v → ∃ j e, Instr.findNow d u es i = some (some (i + j, e.val)) ∧ es[j]? = some e ∧ e.key = u ∧ RdC w F b v [e.val] ∧ ∀ (z : b.T) (y : Value), RdC w F b z [y] → EntL F w a b (es.set j { e with key := u, val := y }) (putM a b l k z))
  | [], [], i, _ => ⟨fun _ => ⟨rfl, fun z y c hz => ⟨⟨hk, hz⟩, trivial⟩⟩, fun v h => by cases h⟩
  | e :: es, p :: l, i, h => by
    obtain ⟨r, hr, hiff⟩ := MapKept.sameNow_of_keys (isKey_rd hd hk) (isKey_rd hd h.1.1)
    have hpk : p.1 = k ↔ e.key = u := rd_key hs h.1.1 hk
    cases r with
    | true =>
      have he : e.key = u := (hiff.1 rfl).symm
      have hb : keyB a p.1 k = true := (keyB_iff hs).2 (hpk.2 he)
      refine ⟨fun h0 => by simp [fndM, hb] at h0, fun v hv => ?_⟩
      simp only [fndM, hb, if_true, Option.some.injEq] at hv
      subst hv
      refine ⟨0, e, by simp [Instr.findNow, hr], rfl, he, h.1.2, fun z y hz => ?_⟩
      simp only [putM, hb, if_true]
      exact ⟨⟨hk, hz⟩, h.2⟩
    | false =>
      have he : e.key ≠ u := fun q => by have := hiff.2 q.symm; cases this
      have hb : ¬ keyB a p.1 k = true := fun q => he (hpk.1 ((keyB_iff hs).1 q))
      obtain ⟨i1, i2⟩ := ent_find (b := b) hs hd hk (i + 1) h.2
      refine ⟨fun h0 => ?_, fun v hv => ?_⟩
      · simp only [fndM, if_neg hb] at h0
        obtain ⟨j1, j2⟩ := i1 h0
        refine ⟨by simp [Instr.findNow, hr, j1], fun z y c hz => ?_⟩
        simp only [putM, if_neg hb]
        exact ⟨h.1, j2 z y c hz⟩
      · simp only [fndM, if_neg hb] at hv
        obtain ⟨j, e', j1, j2, j3, j4, j5⟩ := i2 v hv
        refine ⟨j + 1, e', by simp [Instr.findNow, hr, j1]; omega, by simpa using j2, j3, j4, fun z y hz => ?_⟩
        simp only [putM, if_neg hb]
        exact ⟨h.1, j5 z y hz⟩
end
section
variable (T : Tb)
def opMakeMap (t : TypeId) (st : St) (K : Rs → St → Prop) : Prop :=
  match T t with
  | some ti => (match ti.kd with
    | .map k e => (match T k, T e with
      | some ik, some ie => (match kdSh ik.kd, kdSh ie.kd with
        | some a, some b => K (.v (.one (.mv st.nx))) ⟨st.nx + 1, (st.nx, .mp a b []) :: st.h⟩
        | _, _ => False)
      | _, _ => False)
    | _ => False)
  | none => False
/-- m[k]; is it there? -/
def opLookup (t : TypeId) (x i : Option Rs) (ok : Bool) (st : St) (K : Rs → St → Prop) : Prop :=
  match T t, x, i with
  | some ti, some (.v (.one (.mv id))), some (.v (.one c)) => (match ti.kd, look st.h id with
    | .map k e, some (.xk (.mp a b l)) => (match T k, T e, unC a [c] with
      | some ik, some ie, some (key, []) => (match kdSh ik.kd, kdSh ie.kd, mkVl ie ie.zero with
        | some a', some b', some (.v z) => (match eqSh a' a, eqSh b' b, keyS a, solid c with
          | true, true, true, true => (∀ v, fndM a b l key = some v → K (match ok with | true => .tup [.one (hdM (mkC b v)), .one (.bl true)] | false => .v (.one (hdM (mkC b v)))) st) ∧
              (fndM a b l key = none → K (match ok with | true => .tup [z, .one (.bl false)] | false => .v z) st)
          | _, _, _, _ => False)
        | _, _, _ => False)
      | _, _, _ => False)
    | _, _ => False)
  | _, _, _ => False
where hdM : List CV → CV | c :: _ => c | [] => .any
def opMapUpd (t : TypeId) (x i y : Option Rs) (st : St) (K : Rs → St → Prop) : Prop :=
  match T t, x, i, y with
  | some ti, some (.v (.one (.mv id))), some (.v (.one c)), some (.v (.one d)) => (match ti.kd, look st.h id with
    | .map k e, some (.xk (.mp a b l)) => (match T k, unC a [c], unC b [d] with
      | some ik, some (key, []), some (v, []) => (match kdSh ik.kd with
        | some a' => (match eqSh a' a, keyS a, keyS b, solid c && solid d with
          | true, true, true, true => K (.v (.one .any)) ⟨st.nx, upd st.h id (.mp a b (putM a b l key v))⟩
          | _, _, _, _ => False)
        | none => False)
      | _, _, _ => False)
    | _, _ => False)
  | _, _, _, _ => False
end
section
variable {T : Tb} {P : Program} {B : Base} {β : Nat → Option Value} {F : Nat → Prop} {w : World} {st : St}
theorem kdSh_desc {ik : Ty} {k : TypeId} (h : TyOk P k ik) {a : Sh} (e : kdSh ik.kd = some a) : ∃ d, kdDesc a = some d ∧ P.underlying k = some d := by
  have := h.kd
  cases hk : ik.kd <;> rw [hk] at e this <;> simp only [kdSh] at e <;> cases e <;> exact ⟨_, rfl, this⟩
theorem opMakeMap_ok (hT : ∀ t i, T t = some i → TyOk P t i) {t : TypeId} {K : Rs → St → Prop} (h : opMakeMap T t st K) (hw : Sat B β F st w) :
    ∃ z w' st' r β', (Instr.makeMap t none).run P w = .ok z w' ∧ K r st' ∧ Ext β F w β' F w' ∧ Sat B β' F st' w' ∧ DnR β' F w' r z ∧ (∀ k, Gd st β F k → Gd st' β' F k ∧ w'.heap[k]? = w.heap[k]?) ∧ w.heap.size ≤ w'.heap.size := by
  unfold opMakeMap at h
  split at h
  case h_2 => exact h.elim
  split at h
  case h_2 => exact h.elim
  split at h
  case h_2 => exact h.elim
  split at h
  case h_2 => exact h.elim
  rename_i a b _ _
  obtain ⟨β', x1, x2, x3, x4⟩ := hw.newX (o := .map #[] 0) (v := .map (some w.heap.size)) (c := .mp a b []) rfl ⟨⟨_, rfl⟩, #[], 0, rfl, trivial⟩
  exact ⟨_, _, _, _, β', by simp [Instr.makeMap, Result.andThen], h, x1, x2, ⟨x3, _, rfl⟩, x4, by simp⟩
/-- One cell, by its shape. -/
theorem one_of {a : Sh} {c : CV} {x : a.T} (hso : solid c = true) (h : unC a [c] = some (x, [])) {u : Value} (hd : Dn β F w c u) : RdC w F a x [u] := by
  have hc : DnL β F w [c] [u] := ⟨[u], [], rfl, by cases c <;> first | exact ⟨u, rfl, hd, Dn.one rfl hd⟩ | simp [solid] at hso, rfl⟩
  obtain ⟨l1, l2, e, h1, h2⟩ := unC_ok h hc
  obtain rfl : l2 = [] := h2
  rw [List.append_nil] at e
  rw [e]; exact h1
theorem hdM_dn {a : Sh} {x : a.T} {u : Value} (h : RdC w F a x [u]) (hs : keyS a = true) : Dn β F w (opLookup.hdM (mkC a x)) u := by
  cases a with
  | int k => obtain ⟨e1, e2⟩ := h; cases e1; exact ⟨rfl, e2⟩
  | bool => cases h; exact ⟨rfl, trivial⟩
  | str => obtain ⟨e1, e2⟩ := h; cases e1; exact ⟨rfl, e2⟩
  | _ => simp [keyS] at hs
theorem kdSh_key {d : Kd} {a : Sh} (h : kdSh d = some a) : keyS a = true := by cases d <;> cases h <;> rfl
theorem zero_dn {t : TypeId} {i : Ty} (hi : TyOk P t i) {z : Vl} (h : mkVl i i.zero = some (.v z)) (ha : i.agg = false) : ∃ u, (∀ w', (zeroValue t).run P w' = .ok u w') ∧ DnV β F w z u := by
  obtain ⟨v, vs, h1, h2, h3⟩ := hi.zero β F w
  refine ⟨v, fun w' => run_zero h1 w', ?_⟩
  have hv : v.cells = #[v] := hi.zo ha v h1
  have hvs : vs = [v] := by have := h2.symm.trans hv; simpa using this
  subst hvs
  unfold mkVl at h
  rw [ha] at h
  split at h
  · rename_i e; cases e
  · split at h
    · cases h
    · rename_i c _ hz
      cases h
      rw [hz] at h3
      obtain ⟨a, b, e, h4, h5⟩ := h3
      obtain rfl : b = [] := h5
      rw [List.append_nil] at e
      subst e
      rename_i hr
      cases c <;> first | (obtain ⟨u, e, h6, _⟩ := h4; cases e; exact h6) | exact absurd rfl (hr _ _ _)
    · cases h
theorem kdSh_agg {t : TypeId} {i : Ty} (hi : TyOk P t i) {a : Sh} (h : kdSh i.kd = some a) : i.agg = false := by
  obtain ⟨d, hd, ha⟩ := hi.desc
  have := hi.kd
  cases hk : i.kd <;> rw [hk] at h this <;> simp only [kdSh] at h <;> cases h <;> (rw [this] at hd; cases hd; rw [← ha]; rfl)
theorem opLookup_ok (hT : ∀ t i, T t = some i → TyOk P t i) {t : TypeId} {x i : Option Rs} {ok : Bool} {K : Rs → St → Prop} (h : opLookup T t x i ok st K) (hw : Sat B β F st w) {u v : Value} (hx : ∀ r, x = some r → DnR β F w r u) (hi : ∀ r, i = some r → DnR β F w r v) :
    ∃ z r, (Instr.lookup t u v ok).run P w = .ok z w ∧ K r st ∧ DnR β F w r z := by
  unfold opLookup at h
  split at h
  case h_2 => exact h.elim
  rename_i ti id c hti
  split at h
  case h_2 => exact h.elim
  rename_i k e a b l hkd hl
  split at h
  case h_2 => exact h.elim
  rename_i ik ie key hik hie hkey
  split at h
  case h_2 => exact h.elim
  rename_i a' b' z ha' hb' hz
  split at h
  case h_2 => exact h.elim
  rename_i e1 e2 e3 e4
  have e1 := eqSh_eq e1
  have e2 := eqSh_eq e2
  subst e1; subst e2
  obtain ⟨hid, g, rfl⟩ := hx _ rfl
  have hc : Dn β F w c v := hi _ rfl
  have hkr := one_of e4 hkey hc
  have ht := (hT t ti hti).kd
  rw [hkd] at ht
  obtain ⟨d, hd, hu⟩ := kdSh_desc (hT k ik hik) ha'
  obtain ⟨v0, g0, o, h1, hg, h2, ⟨g', e5⟩, es, clock, e6, hent⟩ := hw.cks _ (look_mem hl)
  obtain rfl : v0 = .map (some g) := by rw [hid] at h1; cases h1; rfl
  obtain rfl : g = g0 := by simpa [bk] using hg
  subst e6
  obtain ⟨f1, f2⟩ := ent_find (b := b') e3 hd hkr 0 hent
  have hck := MapKept.run_checkKey (w := w) hu (isKey_rd hd hkr) es.isEmpty 9999
  cases hf : fndM a' b' l key with
  | none =>
    obtain ⟨u0, z1, z2⟩ := zero_dn (β := β) (F := F) (w := w) (hT e ie hie) hz (kdSh_agg (hT e ie hie) hb')
    have hrun : (Instr.lookup t (.map (some g)) v ok).run P w = .ok (if ok = true then .tuple #[u0, .bool false] else u0) w := by
      simp [Instr.lookup, run_underlying ht, MapKept.run_getObj_map h2, hck, MapKept.run_findKey hu (f1 hf).1, z1 w, Result.andThen]
    have hK := h.2 hf
    cases ok with
    | true => exact ⟨_, _, hrun, hK, [u0, .bool false], rfl, u0, _, rfl, z2, _, _, rfl, rfl, rfl⟩
    | false => exact ⟨_, _, hrun, hK, z2⟩
  | some y =>
    obtain ⟨j, e0, j1, j2, j3, j4, _⟩ := f2 y hf
    have hrun : (Instr.lookup t (.map (some g)) v ok).run P w = .ok (if ok = true then .tuple #[e0.val, .bool true] else e0.val) w := by
      simp [Instr.lookup, run_underlying ht, MapKept.run_getObj_map h2, hck, MapKept.run_findKey hu j1, Result.andThen]
    have hK := h.1 y hf
    have hz2 := hdM_dn (β := β) j4 (kdSh_key hb')
    cases ok with
    | true => exact ⟨_, _, hrun, hK, [e0.val, .bool true], rfl, e0.val, _, rfl, hz2, _, _, rfl, rfl, rfl⟩
    | false => exact ⟨_, _, hrun, hK, hz2⟩
theorem opMapUpd_ok (hT : ∀ t i, T t = some i → TyOk P t i) {t : TypeId} {x i y : Option Rs} {K : Rs → St → Prop} (h : opMapUpd T t x i y st K) (hw : Sat B β F st w) {u v z : Value} (hx : ∀ r, x = some r → DnR β F w r u) (hi : ∀ r, i = some r → DnR β F w r v) (hy : ∀ r, y = some r → DnR β F w r z) :
    ∃ w' r st', (Instr.mapUpdate t u v z).run P w = .ok () w' ∧ K r st' ∧ Ext β F w β F w' ∧ Sat B β F st' w' ∧ DnR β F w' r undef ∧ (∀ k, Gd st β F k → Gd st' β F k ∧ w'.heap[k]? = w.heap[k]?) ∧ w.heap.size ≤ w'.heap.size := by
  unfold opMapUpd at h
  split at h
  case h_2 => exact h.elim
  rename_i ti id c d' hti
  split at h
  case h_2 => exact h.elim
  rename_i k e a b l hkd hl
  split at h
  case h_2 => exact h.elim
  rename_i ik key val hik hkey hval
  split at h
  case h_2 => exact h.elim
  rename_i a' ha'
  split at h
  case h_2 => exact h.elim
  rename_i e1 e2 e3 e4
  have e1 := eqSh_eq e1
  subst e1
  simp only [Bool.and_eq_true] at e4
  obtain ⟨hid, g, rfl⟩ := hx _ rfl
  have hkr := one_of e4.1 hkey (show Dn β F w c v from hi _ rfl)
  have hvr := one_of e4.2 hval (show Dn β F w d' z from hy _ rfl)
  have ht := (hT t ti hti).kd
  rw [hkd] at ht
  obtain ⟨d, hd, hu⟩ := kdSh_desc (hT k ik hik) ha'
  obtain ⟨v0, g0, o, h1, hg, h2, ⟨g', e5⟩, es, clock, e6, hent⟩ := hw.cks _ (look_mem hl)
  obtain rfl : v0 = .map (some g) := by rw [hid] at h1; cases h1; rfl
  obtain rfl : g = g0 := by simpa [bk] using hg
  subst e6
  obtain ⟨f1, f2⟩ := ent_find (b := b) e2 hd hkr 0 hent
  have hck := MapKept.run_checkKey (w := w) hu (isKey_rd hd hkr) false 9999
  cases hf : fndM a' b l key with
  | none =>
    obtain ⟨j1, j2⟩ := f1 hf
    obtain ⟨x1, x2, x3⟩ := hw.goX (o := .map (es.push ⟨v, z, clock⟩) (clock + 1)) (c' := .mp a' b (putM a' b l key val)) hl hid hg ⟨⟨_, rfl⟩, _, _, rfl, by rw [Array.toList_push]; exact j2 val z clock hvr⟩
    refine ⟨_, _, _, ?_, h, x1, x2, trivial, x3, by simp⟩
    simp [Instr.mapUpdate, run_underlying ht, MapKept.run_getObj_map h2, hck, MapKept.run_findKey hu j1, MapKept.run_setObj_map _ h2, Result.andThen, World.goObj]
  | some y =>
    obtain ⟨j, e0, j1, j2, j3, j4, j5⟩ := f2 y hf
    rw [Nat.zero_add] at j1
    have hj : es[j]? = some e0 := by simpa using j2
    obtain ⟨x1, x2, x3⟩ := hw.goX (o := .map (es.modify j fun e => { e with key := v, val := z }) clock) (c' := .mp a' b (putM a' b l key val)) hl hid hg ⟨⟨_, rfl⟩, _, _, rfl, by
      have : (es.modify j fun e => { e with key := v, val := z }).toList = es.toList.set j { e0 with key := v, val := z } := by
        apply List.ext_getElem?
        intro q
        rw [Array.toList_modify, List.getElem?_modify, List.getElem?_set]
        by_cases hq : j = q
        · subst hq
          have hlt := (List.getElem?_eq_some_iff.1 j2).1
          simp only [if_true, j2, if_pos hlt]; rfl
        · simp [hq]
      rw [this]; exact j5 val z hvr⟩
    refine ⟨_, _, _, ?_, h, x1, x2, trivial, x3, by simp⟩
    simp [Instr.mapUpdate, run_underlying ht, MapKept.run_getObj_map h2, hck, MapKept.run_findKey hu j1, hj, j3, MapKept.run_keyThatStays (isKey_rd hd hkr), MapKept.run_setObj_map _ h2, Result.andThen, World.goObj]
end
end Go.Proofs.YtnbbooilapelmaaGreatDoor.V
