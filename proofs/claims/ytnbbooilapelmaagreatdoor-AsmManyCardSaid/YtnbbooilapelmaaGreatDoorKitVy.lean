/-
  A symbolic run of a function's text: slices that are made, written, copied, cleared.
-/
import Derived.Test.YtnbbooilapelmaaGreatDoorKitVw
import Derived.Laws.CopyRow
set_option linter.unusedVariables false
set_option linter.unusedSimpArgs false
namespace Go.Proofs.YtnbbooilapelmaaGreatDoor.V
open Go.RowKit Go.Proofs.YtnbbooilapelmaaGreatDoor
theorem add_lit' {b o n : Nat} : (⟨b, o, none⟩ : Addr).add n = ⟨b, o + n, none⟩ := by
  unfold Addr.add
  split
  · rename_i h; simp_all
  · rfl
theorem splice_cells {α : Type} (cur news : List α) (o p n : Nat) (hp : p + news.length ≤ n) (hc : o + n ≤ cur.length) :
    ((cur.take (o + p) ++ news ++ cur.drop (o + p + news.length)).drop o).take n = ((cur.drop o).take n).take p ++ news ++ ((cur.drop o).take n).drop (p + news.length) := by
  apply List.ext_getElem?
  intro i
  simp only [List.getElem?_take, List.getElem?_drop, List.getElem?_append, List.length_take, List.length_append, List.length_drop]
  grind
theorem own_write {w : World} {e : TypeId} {sz g o N cap : Nat} {vs : List Value} (h : Own w 0 e sz (.slice (some ⟨g, o, none⟩) N cap) N vs) (p : Nat) (news : List Value) (hp : p + news.length ≤ N * sz) :
    ∃ cur, w.heap[g]? = some (.cells cur e (0, 0)) ∧ o + p + news.length ≤ cur.size ∧
      Own (w.setRow g (cur.toList.take (o + p) ++ news ++ cur.toList.drop (o + p + news.length)).toArray) 0 e sz (.slice (some ⟨g, o, none⟩) N cap) N (vs.take p ++ news ++ vs.drop (p + news.length)) := by
  rcases h.2 with ⟨hv, _⟩ | ⟨g', o', cap', cur, hv, h1, h2, h3, h4, h5, h6⟩
  · cases hv
  · injection hv with e1 e2 e3
    injection e1 with e1
    injection e1 with e4 e5
    subst e4; subst e5; subst e3
    have hns : N * sz ≤ cap * sz := Nat.mul_le_mul_right _ h3
    have hlen := h.1
    refine ⟨cur, h2, by omega, ?_, .inr ⟨g, o, cap, _, rfl, h1, setRow_heap w g cur _ e _ h2, h3, h4, ?_, ?_⟩⟩
    · simp only [List.length_append, List.length_take, List.length_drop]; omega
    · simp only [List.size_toArray, List.length_append, List.length_take, List.length_drop, Array.length_toList]; omega
    · rw [← h6]
      exact splice_cells cur.toList news o p (N * sz) hp (by simp; omega)
section
variable {B : Base} {β : Nat → Option Value} {F : Nat → Prop} {w : World} {st : St}
theorem Sat.put (h : Sat B β F st w) {id : Nat} {ty : TypeId} {a : Sh} {xs ys : List a.T} {g o N cap : Nat} {arr : Array Value} {vs : List Value} (hl : look st.h id = some (.own ty a xs)) (hb : β id = some (.slice (some ⟨g, o, none⟩) N cap))
    (hown : Own (w.setRow g arr) 0 ty a.size (.slice (some ⟨g, o, none⟩) N cap) ys.length vs) (hrd : RdL w F a ys vs) : Ext β F w β F (w.setRow g arr) ∧ Sat B β F ⟨st.nx, upd st.h id (.own ty a ys)⟩ (w.setRow g arr) := by
  have hbk : bk (β id) = some g := by simp [hb, bk]
  obtain ⟨o1, o2, o3⟩ := h.own _ (look_mem hl) g hbk
  have hx : Ext β F w β F (w.setRow g arr) := ⟨fun _ _ h => h, fun _ h => h, fun k hk => setRow_other w g k _ (fun e => o2 (e ▸ hk))⟩
  refine ⟨hx, ⟨?_, h.fresh, fun p hp => ?_, fun p hp k hk => ?_, ?_, ⟨fun k hk => ?_, h.frz.gl.ext hx.f hx.k⟩, h.f1, h.f2, h.anc⟩⟩
  · exact ⟨h.only.os, h.only.tape, h.only.output, by simpa using h.only.size, fun k hk hs => (setRow_other w g k _ (fun e => by subst e; rcases o1 with o1 | o1; exact hs o1; omega)).trans (h.only.block k hk hs)⟩
  · rcases upd_other (R := fun a b => ∀ k, bk (β a) = some k → bk (β b) ≠ some k) h.sep hl hp with rfl | ⟨hp, hr⟩
    · exact ⟨_, vs, hb, hown, hrd.mono hx.f hx.k⟩
    · have hne : ∀ k, bk (β p.1) = some k → k ≠ g := fun k hk e => by
        subst e
        rcases hr with hr | hr
        · exact hr k hbk hk
        · exact hr k hk hbk
      have hc := h.cks p hp
      cases hq : p.2 with
      | blk cells ty =>
        rw [hq] at hc
        obtain ⟨g', vs', h1, h2, h3⟩ := hc
        exact ⟨g', vs', h1, by rw [setRow_other w g g' _ (hne g' (by simp [h1, bk]))]; exact h2, h3.ext hx⟩
      | own ty a xs =>
        rw [hq] at hc
        obtain ⟨v, vs', h1, h2, h3⟩ := hc
        refine ⟨v, vs', h1, h2.kept (fun k hk => setRow_other w g k _ (hne k ?_)), h3.mono hx.f hx.k⟩
        rw [h1]
        exact own_bk' hk
      | xk c => rw [hq] at hc; exact Xk.keep hx hc fun k hk => setRow_other w g k _ (hne k hk)
  · have : ∃ p' ∈ st.h, p'.1 = p.1 := by
      rcases upd_mem hp with e | hp
      · exact ⟨_, look_mem hl, by rw [e]⟩
      · exact ⟨p, hp, rfl⟩
    obtain ⟨p', hp', e⟩ := this
    rw [← e] at hk
    obtain ⟨h1, h2, h3⟩ := h.own p' hp' k hk
    exact ⟨h1, h2, by simpa using h3⟩
  · have := h.sep
    rw [pairwise_fst (R := fun a b => ∀ k, bk (β a) = some k → bk (β b) ≠ some k)] at this ⊢
    rw [upd_fst]
    exact this
  · simpa using h.frz k hk
end
theorem RdL.splice {w : World} {F : Nat → Prop} {a : Sh} {xs ys : List a.T} {vs ws : List Value} (h : RdL w F a xs vs) (k : RdL w F a ys ws) (lo : Nat) : RdL w F a (xs.take lo ++ ys ++ xs.drop (lo + ys.length)) (vs.take (lo * a.size) ++ ws ++ vs.drop (lo * a.size + ws.length)) := by
  have e : lo * a.size + ws.length = (lo + ys.length) * a.size := by rw [k.len, Nat.add_mul]
  rw [e]
  exact ((h.take lo).app k).app (h.drop _)
theorem set_splice {α : Type} {xs : List α} {i : Nat} (h : i < xs.length) (y : α) : xs.set i y = xs.take i ++ [y] ++ xs.drop (i + 1) := by
  rw [List.set_eq_take_append_cons_drop, if_pos h]; simp
theorem one_cell {k : IntKind} {e : Int} {cs : List Value} {d : List Int} {c n j : Nat} (h : (cs.drop c).take n = d.map (Value.int k)) (hj : j < n) (hd : d.length = n) (hc : c + n ≤ cs.length) :
    cs.take c ++ (d.take j ++ [e] ++ d.drop (j + 1)).map (Value.int k) ++ cs.drop (c + n) = cs.take (c + j) ++ [.int k e] ++ cs.drop (c + j + 1) := by
  have e1 : (d.take j).map (Value.int k) = ((cs.drop c).take n).take j := by rw [h, List.map_take]
  have e2 : (d.drop (j + 1)).map (Value.int k) = ((cs.drop c).take n).drop (j + 1) := by rw [h, List.map_drop]
  rw [List.map_append, List.map_append, e1, e2]
  apply List.ext_getElem?
  intro i
  simp only [List.map_cons, List.map_nil, List.getElem?_take, List.getElem?_drop, List.getElem?_append, List.length_take, List.length_append, List.length_drop, List.length_cons, List.length_nil]
  grind
theorem elem_splice {α : Type} (vs m : List α) (q sz c : Nat) (hc : c + m.length ≤ sz) (hv : q + sz ≤ vs.length) :
    vs.take (q + c) ++ m ++ vs.drop (q + c + m.length) = vs.take q ++ (((vs.drop q).take sz).take c ++ m ++ ((vs.drop q).take sz).drop (c + m.length)) ++ vs.drop (q + sz) := by
  apply List.ext_getElem?
  intro i
  simp only [List.getElem?_take, List.getElem?_drop, List.getElem?_append, List.length_take, List.length_append, List.length_drop]
  grind
theorem RdL.cut {w : World} {F : Nat → Prop} {a : Sh} : ∀ {xs : List a.T} {l : List Value}, RdL w F a xs l → ∀ (i : Nat) (y : a.T), xs[i]? = some y → RdC w F a y ((l.drop (i * a.size)).take a.size)
  | x :: xs, l, h, 0, y, hy => by
    obtain ⟨c, r, rfl, h1, h2⟩ := h
    obtain rfl : x = y := by simpa using hy
    rw [Nat.zero_mul, List.drop_zero, List.take_append, ← RdC.len _ _ h1]
    simpa using h1
  | x :: xs, l, h, i + 1, y, hy => by
    obtain ⟨c, r, rfl, h1, h2⟩ := h
    have := RdL.cut h2 i y (by simpa using hy)
    have hc : c.length = a.size := RdC.len _ _ h1
    rw [show (i + 1) * a.size = c.length + i * a.size by rw [hc, Nat.succ_mul]; omega, ← List.drop_drop, List.drop_left]
    exact this
theorem RdL.rep {w : World} {F : Nat → Prop} {a : Sh} {z : a.T} {vs : List Value} (h : RdC w F a z vs) : ∀ n, RdL w F a (List.replicate n z) (List.replicate n vs).flatten
  | 0 => rfl
  | n + 1 => by rw [List.replicate_succ, List.replicate_succ, List.flatten_cons]; exact ⟨vs, _, rfl, h, RdL.rep h n⟩
section
variable (T : Tb)
/-- The zero value of a type, as data. -/
def zeroD (i : Ty) (a : Sh) : Option a.T := match unC a i.zero with | some (z, []) => some z | _ => none
def opMake (t : TypeId) (x y : Option Rs) (st : St) (K : Rs → St → Prop) : Prop :=
  match T t, x, y with
  | some ti, some (.v (.one c)), some (.v (.one d)) => (match ti.kd, intV c, intV d with
    | .slice e, some (_, n), some (_, m) => (match T e with
      | some ie => (match ie.sh with
        | some a => (match Nat.beq ie.n a.size, Nat.blt 0 ie.n, Nat.ble 1 ie.by_, zeroD ie a with
          | true, true, true, some z => (m = n ∧ 0 ≤ n ∧ n * (ie.by_ : Int) ≤ 140737488355328) ∧ K (.v (.one (.sl st.nx))) ⟨st.nx + 1, (st.nx, .own e a (List.replicate n.toNat z)) :: st.h⟩
          | _, _, _, _ => False)
        | none => False)
      | none => False)
    | _, _, _ => False)
  | _, _, _ => False
/-- A read through a pointer to one number of an array. -/
def opLoadA (t : TypeId) (x : Option Rs) (st : St) (K : Rs → St → Prop) : Prop :=
  match T t with
  | none => False
  | some i => (match i.agg, Nat.beq i.n 1, x with
    | false, true, some (.v (.one (.ra a y c n j))) => (match runAt c n (mkC a y) with
      | some (k, d) => K (mkI k (d.getD j 0)) st
      | none => False)
    | false, true, some (.v (.one (.pa id off n j))) => (match look st.h id with
      | some (.blk cells _) => (match runAt off n cells with
        | some (k, d) => K (mkI k (d.getD j 0)) st
        | none => False)
      | _ => False)
    | false, true, some (.v (.one (.ea id sz ix c n j))) => (match look st.h id with
      | some (.own _ a xs) => (match Nat.beq sz a.size with
        | true => ix < xs.length ∧ ∀ y, xs[ix]? = some y → (match runAt c n (mkC a y) with
          | some (k, d) => K (mkI k (d.getD j 0)) st
          | none => False)
        | false => False)
      | _ => False)
    | _, _, _ => False)
/-- A store through a pointer into an element. -/
def opStoreE (t : TypeId) (x y : Option Rs) (st : St) (K : Rs → St → Prop) : Prop :=
  match T t with
  | none => False
  | some i => match x with
    | some (.v (.one (.ep id sz ix c))) => (match y with
      | some r => (match cellsOf r with
        | some vs => (match Nat.beq (cwid vs) i.n, look st.h id with
          | true, some (.own ty a xs) => (match Nat.beq sz a.size with
            | true => ix < xs.length ∧ ∀ z, xs[ix]? = some z → (match putSegs c vs (mkC a z) with
              | some l => (match unC a l with
                | some (z', []) => K (.v (.one .any)) ⟨st.nx, upd st.h id (.own ty a (xs.set ix z'))⟩
                | _ => False)
              | none => False)
            | false => False)
          | _, _ => False)
        | none => False)
      | none => False)
    | some (.v (.one (.ea id sz ix c n j))) => (match y with
      | some (.v (.one d)) => (match intV d, Nat.beq i.n 1, look st.h id with
        | some (k, e), true, some (.own ty a xs) => (match Nat.beq sz a.size with
          | true => ix < xs.length ∧ ∀ z, xs[ix]? = some z → (match runAt c n (mkC a z) with
            | some (k', d) => (match eqK k k', putSegs c [.run k' n (d.set j e)] (mkC a z) with
              | true, some l => (match unC a l with
                | some (z', []) => K (.v (.one .any)) ⟨st.nx, upd st.h id (.own ty a (xs.set ix z'))⟩
                | _ => False)
              | _, _ => False)
            | none => False)
          | false => False)
        | _, _, _ => False)
      | _ => False)
    | some (.v (.one (.pa id off n j))) => (match y with
      | some (.v (.one d)) => (match intV d, Nat.beq i.n 1, look st.h id with
        | some (k, e), true, some (.blk cells ty) => (match runAt off n cells with
          | some (k', d) => (match eqK k k', putSegs off [.run k' n (d.set j e)] cells with
            | true, some l => K (.v (.one .any)) ⟨st.nx, upd st.h id (.blk l ty)⟩
            | _, _ => False)
          | none => False)
        | _, _, _ => False)
      | _ => False)
    | _ => False
def opCopy (t : TypeId) (x y : Option Rs) (st : St) (K : Rs → St → Prop) : Prop :=
  match T t, x, y with
  | some ti, some (.v (.one c)), some (.v (.one d)) => (match ti.kd with
    | .slice e => (match T e with
      | some ie => srcK st d fun b ys => (match Nat.beq ie.n b.size with
        | true => vwK st c fun id ty a xs lo n _ => (match Nat.beq ty e, h : eqSh b a with
          | true, true => K (mkI .i64 ((min ys.length n : Nat) : Int)) ⟨st.nx, upd st.h id (.own ty a (xs.take lo ++ (castL h ys).take (min ys.length n) ++ xs.drop (lo + min ys.length n)))⟩
          | _, _ => False)
        | false => False)
      | none => False)
    | _ => False)
  | _, _, _ => False
def opClear (t : TypeId) (x : Option Rs) (st : St) (K : Rs → St → Prop) : Prop :=
  match T t, x with
  | some ti, some (.v (.one c)) => (match ti.kd with
    | .slice e => (match T e with
      | some ie => vwK st c fun id ty a xs lo n _ => (match Nat.beq ty e, Nat.beq ie.n a.size, zeroD ie a with
        | true, true, some z => K (.v (.one .any)) ⟨st.nx, upd st.h id (.own ty a (xs.take lo ++ List.replicate n z ++ xs.drop (lo + n)))⟩
        | _, _, _ => False)
      | none => False)
    | _ => False)
  | _, _ => False
end
section
variable {T : Tb} {P : Program} {B : Base} {β : Nat → Option Value} {F : Nat → Prop} {w : World} {st : St}
theorem zeroD_ok {i : Ty} {a : Sh} {z : a.T} (h : zeroD i a = some z) {vs : List Value} (hd : DnL β F w i.zero vs) : RdC w F a z vs := by
  unfold zeroD at h
  split at h
  · rename_i y hy
    cases h
    obtain ⟨l1, l2, rfl, h1, h2⟩ := unC_ok hy hd
    obtain rfl : l2 = [] := h2
    simpa using h1
  · cases h
theorem mkC_ls {a : Sh} {y : a.T} {l : List Value} (h : RdC w F a y l) : DnL β F w (mkC a y) l := mkC_dn h
theorem opMake_ok (hT : ∀ t i, T t = some i → TyOk P t i) {t : TypeId} {x y : Option Rs} {K : Rs → St → Prop} (h : opMake T t x y st K) (hw : Sat B β F st w) {u v : Value} (hx : ∀ r, x = some r → DnR β F w r u) (hy : ∀ r, y = some r → DnR β F w r v) :
    ∃ z w' r st' β', (Instr.makeSlice t u v).run P w = .ok z w' ∧ K r st' ∧ Ext β F w β' F w' ∧ Sat B β' F st' w' ∧ DnR β' F w' r z ∧ (∀ k, Gd st β F k → Gd st' β' F k ∧ w'.heap[k]? = w.heap[k]?) ∧ w.heap.size ≤ w'.heap.size := by
  unfold opMake at h
  split at h
  case h_2 => exact h.elim
  rename_i ti c d hti
  have hk := (hT t ti hti).kd
  split at h
  case h_2 => exact h.elim
  rename_i e kn n km m hkd hn hm
  rw [hkd] at hk
  obtain ⟨rfl, _⟩ := intV_dn hn (hx _ rfl)
  obtain ⟨rfl, _⟩ := intV_dn hm (hy _ rfl)
  split at h
  case h_2 => exact h.elim
  rename_i ie hie
  have hte := hT e ie hie
  split at h
  case h_2 => exact h.elim
  rename_i a hsh
  split at h
  case h_2 => exact h.elim
  rename_i z hsz hpos hby hz
  obtain ⟨⟨rfl, h0, hb⟩, h⟩ := h
  have hsz := Nat.eq_of_beq_eq_true hsz
  have hpos : 0 < ie.n := Nat.le_of_ble_eq_true hpos
  have hby := Nat.le_of_ble_eq_true hby
  obtain ⟨zv, zs, z1, z2, z3⟩ := hte.zero β F w
  have hrd := zeroD_ok hz z3
  have hzl : zs.length = a.size := RdC.len _ _ hrd
  obtain ⟨inf, hi1, hi2⟩ : ∃ i, P.info? e = some i ∧ i.zero = some zv := by
    cases hq : P.info? e with
    | none => simp [hq] at z1
    | some i => exact ⟨i, rfl, by simpa [hq] using z1⟩
  have hi3 : inf.size = ie.n := by simpa [hi1] using hte.size
  have hi4 : inf.bytes = ie.by_ := by simpa [hi1] using hte.by_
  have hnb : (0 : Int) ≤ (ie.by_ : Int) - 1 := by omega
  have hmul : m ≤ m * (ie.by_ : Int) := by
    have := Int.mul_nonneg h0 hnb
    rw [Int.mul_sub, Int.mul_one] at this
    omega
  have hr := run_make (P := P) w t e inf zv hk hi1 hi2 kn km m m h0 (Int.le_refl _) (by rw [hi4, Int.mul_comm]; omega) (by omega)
  have hcells : madeCells zv.cells (m.toNat * inf.size) = (List.replicate m.toNat zs).flatten.toArray := by
    rw [z2, hi3, hsz, ← hzl]
    have := init_cells zs (by omega) m.toNat
    apply Array.ext'
    rw [← this]
    rfl
  rw [hcells] at hr
  have hml : m.toNat ≤ maxLen := by simp [maxLen]; omega
  have hown := own_row (w := w) e (sz := a.size) (n := m.toNat) (ws := (List.replicate m.toNat zs).flatten) (by simp [hzl]) hml
  have hS : ∀ k, (fun _ : Nat => False) k → False := fun k hk => hk
  obtain ⟨β', x1, x2, x3, x4⟩ := hw.swap (h0 := st.h) (fun _ h => h) hw.sep ((Only.refl (fun _ => False) w).al (.cells (List.replicate m.toNat zs).flatten.toArray e)) (fun k hk => hk.elim) (xs := List.replicate m.toNat z) (by simpa using hown)
    ((RdL.rep hrd m.toNat).mono (fun _ h => h) (fun k hk => Below.heap_alloc _ _ _ (hw.frz k hk))) (fun k hk => .inr (new_blk hk))
  exact ⟨_, _, _, _, β', hr, h, x1, x2, ⟨x3, _, _, _, rfl⟩, x4, by simp⟩
theorem opLoadA_ok (hT : ∀ t i, T t = some i → TyOk P t i) {t : TypeId} {x : Option Rs} {K : Rs → St → Prop} (h : opLoadA T t x st K) (hw : Sat B β F st w) {u : Value} (hx : ∀ r, x = some r → DnR β F w r u) :
    ∃ v r, (Instr.loadAt t u).run P w = .ok v w ∧ K r st ∧ DnR β F w r v := by
  unfold opLoadA at h
  split at h
  · exact h.elim
  rename_i i hi
  have ht := hT t i hi
  split at h
  · rename_i a y c n j hag h1
    obtain ⟨hj, g, o, cs, rfl, h2, h3, h4⟩ := hx _ rfl
    split at h
    · rename_i k d hr
      obtain ⟨_, r1, r2, r3, r4⟩ := runAt_ok hr (mkC_dn (β := β) h3)
      obtain ⟨q1, q2⟩ := getD_ok (j := j) (by omega) r2
      refine ⟨_, _, run_load1 ht hag ?_, h, mkI_dn q1⟩
      rw [Nat.add_assoc]
      exact h4 _ _ (cell_of r3 hj q2)
    · exact h.elim
  · rename_i id off n j hag h1
    obtain ⟨hj, g, h2, rfl⟩ := hx _ rfl
    split at h
    · rename_i cells ty hl
      obtain ⟨g', vs, h3, h4, h5⟩ := hw.cks _ (look_mem hl)
      obtain rfl : g = g' := by rw [h2] at h3; cases h3; rfl
      split at h
      · rename_i k d hr
        obtain ⟨_, r1, r2, r3, r4⟩ := runAt_ok hr h5
        obtain ⟨q1, q2⟩ := getD_ok (j := j) (by omega) r2
        refine ⟨_, _, run_load1 ht hag ?_, h, mkI_dn q1⟩
        rw [cell_of_row w g _ _ ty (0, 0) h4]
        simpa using cell_of r3 hj q2
      · exact h.elim
    · exact h.elim
  · rename_i id sz ix c n j hag h1
    obtain ⟨hj, g, o, m, cap, h2, rfl⟩ := hx _ rfl
    split at h
    · rename_i ty a xs hl
      obtain ⟨v, vs, h3, h4, h5⟩ := hw.cks _ (look_mem hl)
      split at h
      case h_2 => exact h.elim
      rename_i hsz
      have hsz := Nat.eq_of_beq_eq_true hsz
      subst hsz
      obtain ⟨hlt, h⟩ := h
      have hy := List.getElem?_eq_getElem hlt
      have h := h _ hy
      split at h
      · rename_i k d hr
        obtain ⟨cs, c1, c2⟩ := h5.get ix _ hy
        obtain ⟨_, r1, r2, r3, r4⟩ := runAt_ok hr (mkC_dn (β := β) c1)
        obtain ⟨q1, q2⟩ := getD_ok (j := j) (by omega) r2
        rw [h2] at h3
        cases h3
        obtain ⟨g', o', cap', he, _, _, _, _, hcell, _⟩ := h4.form (by omega)
        injection he with he _ _
        injection he with he
        injection he with e1 e2
        subst e1; subst e2
        refine ⟨_, _, run_load1 ht hag ?_, h, mkI_dn q1⟩
        rw [show o + ix * a.size + c + j = o + (ix * a.size + (c + j)) by omega]
        exact hcell _ _ (c2 _ _ (cell_of r3 hj q2))
      · exact h.elim
    · exact h.elim
  · exact h.elim
/-- Cells of one's own are written. -/
theorem own_store (hw : Sat B β F st w) {id : Nat} {ty : TypeId} {a : Sh} {xs ys : List a.T} {g o N cap p : Nat} {vs news : List Value} (hl : look st.h id = some (.own ty a xs)) (hb : β id = some (.slice (some ⟨g, o, none⟩) N cap)) (h : Own w 0 ty a.size (.slice (some ⟨g, o, none⟩) N cap) xs.length vs)
    (hp : p + news.length ≤ xs.length * a.size) (h1 : ∀ z ∈ news, z.oneCell' = true) (hy : ys.length = xs.length) (hrd : RdL w F a ys (vs.take p ++ news ++ vs.drop (p + news.length))) :
    ∃ cur arr, w.heap[g]? = some (.cells cur ty (0, 0)) ∧ o + p + news.length ≤ cur.size ∧ arr = (cur.toList.take (o + p) ++ news ++ cur.toList.drop (o + p + news.length)).toArray ∧ Ext β F w β F (w.setRow g arr) ∧ Sat B β F ⟨st.nx, upd st.h id (.own ty a ys)⟩ (w.setRow g arr) := by
  have hN : N = xs.length := by
    rcases h.2 with ⟨hv, _⟩ | ⟨g', o', cap', cur, hv, _⟩
    · cases hv
    · injection hv
  subst hN
  obtain ⟨cur, c1, c2, c3⟩ := own_write h p news hp
  obtain ⟨x1, x2⟩ := hw.put hl hb (ys := ys) (by rw [hy]; exact c3) hrd
  exact ⟨cur, _, c1, c2, rfl, x1, x2⟩
theorem own_slice {ty : TypeId} {sz n : Nat} {v : Value} {vs : List Value} (h : Own w 0 ty sz v n vs) (hn : 0 < n) : ∃ g o cap, v = .slice (some ⟨g, o, none⟩) n cap := by
  obtain ⟨g, o, cap, e, _⟩ := h.form hn
  exact ⟨g, o, cap, e⟩
theorem segs_put {c : Nat} {vs cells l : List CV} (h : putSegs c vs cells = some l) {old ws : List Value} (hd : DnL β F w cells old) (hv : DnL β F w vs ws) : DnL β F w l (old.take c ++ ws ++ old.drop (c + ws.length)) ∧ c + ws.length ≤ old.length := putSegs_dn _ _ _ _ _ _ h hd hv
theorem elem_store (hw : Sat B β F st w) {id : Nat} {ty : TypeId} {a : Sh} {xs : List a.T} {g o N cap ix c : Nat} {vs ws : List Value} {z z' : a.T} (hl : look st.h id = some (.own ty a xs)) (hb : β id = some (.slice (some ⟨g, o, none⟩) N cap)) (h : Own w 0 ty a.size (.slice (some ⟨g, o, none⟩) N cap) xs.length vs) (hr : RdL w F a xs vs) (hlt : ix < xs.length) (hz : xs[ix]? = some z)
    {l : List CV} (hd : DnL β F w l ((((vs.drop (ix * a.size)).take a.size)).take c ++ ws ++ ((vs.drop (ix * a.size)).take a.size).drop (c + ws.length))) (hc : c + ws.length ≤ a.size) (hu : unC a l = some (z', [])) (h1 : ∀ z ∈ ws, z.oneCell' = true) :
    ∃ cur arr, w.heap[g]? = some (.cells cur ty (0, 0)) ∧ o + (ix * a.size + c) + ws.length ≤ cur.size ∧ arr = (cur.toList.take (o + (ix * a.size + c)) ++ ws ++ cur.toList.drop (o + (ix * a.size + c) + ws.length)).toArray ∧ Ext β F w β F (w.setRow g arr) ∧ Sat B β F ⟨st.nx, upd st.h id (.own ty a (xs.set ix z'))⟩ (w.setRow g arr) := by
  obtain ⟨l1, l2, e, h2, h3⟩ := unC_ok hu hd
  obtain rfl : l2 = [] := h3
  rw [List.append_nil] at e
  have hvl : vs.length = xs.length * a.size := hr.len
  have hmul : (ix + 1) * a.size ≤ xs.length * a.size := Nat.mul_le_mul_right _ hlt
  rw [Nat.succ_mul] at hmul
  have hl1 : l1.length = a.size := RdC.len _ _ h2
  refine own_store hw hl hb h (p := ix * a.size + c) (by omega) h1 (by simp) ?_
  rw [elem_splice vs ws (ix * a.size) a.size c hc (by omega), e, set_splice hlt]
  have := hr.splice (ys := [z']) (ws := l1) ⟨l1, [], by simp, h2, rfl⟩ ix
  rw [hl1] at this
  exact this
theorem opStoreE_ok (hT : ∀ t i, T t = some i → TyOk P t i) {t : TypeId} {x y : Option Rs} {K : Rs → St → Prop} (h : opStoreE T t x y st K) (hw : Sat B β F st w) {u v : Value} (hx : ∀ r, x = some r → DnR β F w r u) (hy : ∀ r, y = some r → DnR β F w r v) :
    ∃ w' st' r, (Instr.storeAt t u v).run P w = .ok () w' ∧ K r st' ∧ Ext β F w β F w' ∧ Sat B β F st' w' ∧ DnR β F w' r undef := by
  unfold opStoreE at h
  split at h
  · exact h.elim
  rename_i i hi
  have ht := hT t i hi
  split at h
  · rename_i id sz ix c
    obtain ⟨g, o, N, cap, b1, rfl⟩ := hx _ rfl
    split at h
    case h_2 => exact h.elim
    rename_i r
    split at h
    case h_2 => exact h.elim
    rename_i cs hcs
    split at h
    case h_2 => exact h.elim
    rename_i ty a xs hn hl
    have hn := Nat.eq_of_beq_eq_true hn
    split at h
    case h_2 => exact h.elim
    rename_i hsz
    have hsz := Nat.eq_of_beq_eq_true hsz
    subst hsz
    obtain ⟨hlt, h⟩ := h
    have hz := List.getElem?_eq_getElem hlt
    have h := h _ hz
    split at h
    case h_2 => exact h.elim
    rename_i l hp
    split at h
    case h_2 => exact h.elim
    rename_i z' hu
    obtain ⟨ws, c1, c2, _⟩ := cellsOf_dn hcs (hy _ rfl)
    obtain ⟨v', vs, g1, g2, g3⟩ := hw.cks _ (look_mem hl)
    rw [b1] at g1
    cases g1
    obtain ⟨s1, s2⟩ := segs_put hp (mkC_dn (β := β) (g3.cut ix _ hz)) c2
    have hvl : vs.length = xs.length * a.size := g3.len
    have hmul : (ix + 1) * a.size ≤ xs.length * a.size := Nat.mul_le_mul_right _ hlt
    rw [Nat.succ_mul] at hmul
    rw [List.length_take, List.length_drop] at s2
    obtain ⟨cur, arr, k1, k2, rfl, k3, k4⟩ := elem_store hw hl b1 g2 g3 hlt hz s1 (by omega) hu c2.one
    refine ⟨_, _, _, ?_, h, k3, k4, trivial⟩
    have := run_storeAt (off := o + (ix * a.size + c)) ht.size c1 (by rw [c2.len, hn]) c2.one k1 k2
    rw [Nat.add_assoc o]
    exact this
  · rename_i id sz ix c n j
    obtain ⟨hj, g, o, N, cap, b1, rfl⟩ := hx _ rfl
    split at h
    case h_2 => exact h.elim
    rename_i d
    split at h
    case h_2 => exact h.elim
    rename_i k e ty a xs he h1 hl
    have h1 := Nat.eq_of_beq_eq_true h1
    obtain ⟨rfl, her⟩ := intV_dn he (show Dn β F w d v from hy _ rfl)
    split at h
    case h_2 => exact h.elim
    rename_i hsz
    have hsz := Nat.eq_of_beq_eq_true hsz
    subst hsz
    obtain ⟨hlt, h⟩ := h
    have hz := List.getElem?_eq_getElem hlt
    have h := h _ hz
    split at h
    case h_2 => exact h.elim
    rename_i k' d' hr
    split at h
    case h_2 => exact h.elim
    rename_i l hk hp
    obtain rfl := eqK_eq hk
    split at h
    case h_2 => exact h.elim
    rename_i z' hu
    obtain ⟨v', vs, g1, g2, g3⟩ := hw.cks _ (look_mem hl)
    rw [b1] at g1
    cases g1
    have hcd := mkC_dn (β := β) (g3.cut ix _ hz)
    obtain ⟨r0, r1, r2, r3, r4⟩ := runAt_ok hr hcd
    have hd2 : DnL β F w [.run k n (d'.set j e)] ((d'.set j e).map (Value.int k)) := ⟨_, [], by simp, ⟨by simp [r1], rfl, fun y hy => by
      rcases List.mem_or_eq_of_mem_set hy with h | h
      · exact r2 y h
      · rw [h]; exact her⟩, rfl⟩
    obtain ⟨s1, s2⟩ := segs_put hp hcd hd2
    have hvl : vs.length = xs.length * a.size := g3.len
    have hmul : (ix + 1) * a.size ≤ xs.length * a.size := Nat.mul_le_mul_right _ hlt
    rw [Nat.succ_mul] at hmul
    have hcl : ((vs.drop (ix * a.size)).take a.size).length = a.size := by rw [List.length_take, List.length_drop]; omega
    have hlen : ((d'.set j e).map (Value.int k)).length = n := by simp [r1]
    -- one cell is written
    have hone : ((vs.drop (ix * a.size)).take a.size).take c ++ (d'.set j e).map (Value.int k) ++ ((vs.drop (ix * a.size)).take a.size).drop (c + ((d'.set j e).map (Value.int k)).length) =
        ((vs.drop (ix * a.size)).take a.size).take (c + j) ++ [.int k e] ++ ((vs.drop (ix * a.size)).take a.size).drop (c + j + [Value.int k e].length) := by
      rw [hlen, set_splice (by omega)]
      exact one_cell r3 hj r1 (by omega)
    rw [hone] at s1
    obtain ⟨cur, arr, k1, k2, rfl, k3, k4⟩ := elem_store hw hl b1 g2 g3 hlt hz s1 (by simp; omega) hu (by simp; rfl)
    refine ⟨_, _, _, ?_, h, k3, k4, trivial⟩
    have := run_storeAt (off := o + (ix * a.size + (c + j))) (vs := [.int k e]) ht.size (u := .int k e) rfl (by simp [h1]) (by simp; rfl) k1 k2
    rw [show o + ix * a.size + c + j = o + (ix * a.size + (c + j)) by omega]
    exact this
  · rename_i id off n j
    obtain ⟨hj, g, b1, rfl⟩ := hx _ rfl
    split at h
    case h_2 => exact h.elim
    rename_i d
    split at h
    case h_2 => exact h.elim
    rename_i k e cells ty he h1 hl
    have h1 := Nat.eq_of_beq_eq_true h1
    obtain ⟨rfl, her⟩ := intV_dn he (show Dn β F w d v from hy _ rfl)
    split at h
    case h_2 => exact h.elim
    rename_i k' d' hr
    split at h
    case h_2 => exact h.elim
    rename_i l hk hp
    obtain rfl := eqK_eq hk
    obtain ⟨g', vs, g1, g2, g3⟩ := hw.cks _ (look_mem hl)
    obtain rfl : g = g' := by rw [b1] at g1; cases g1; rfl
    obtain ⟨r0, r1, r2, r3, r4⟩ := runAt_ok hr g3
    have hd2 : DnL β F w [.run k n (d'.set j e)] ((d'.set j e).map (Value.int k)) := ⟨_, [], by simp, ⟨by simp [r1], rfl, fun y hy => by
      rcases List.mem_or_eq_of_mem_set hy with h | h
      · exact r2 y h
      · rw [h]; exact her⟩, rfl⟩
    obtain ⟨s1, s2⟩ := segs_put hp g3 hd2
    have hlen : ((d'.set j e).map (Value.int k)).length = n := by simp [r1]
    have hone : vs.take off ++ (d'.set j e).map (Value.int k) ++ vs.drop (off + ((d'.set j e).map (Value.int k)).length) = vs.take (off + j) ++ [.int k e] ++ vs.drop (off + j + [Value.int k e].length) := by
      rw [hlen, set_splice (by omega)]
      exact one_cell r3 hj r1 (by omega)
    rw [hone] at s1
    obtain ⟨q1, q2⟩ := hw.store hl b1 g2 s1
    have := run_storeAt (P := P) (off := off + j) (vs := [.int k e]) ht.size (u := .int k e) rfl (by simp [h1]) (by simp; rfl) g2 (by simp; omega)
    exact ⟨_, _, _, this, h, by simpa using q1, by simpa using q2, trivial⟩
  · exact h.elim
theorem upd_self {α : Type} : ∀ {l : List (Nat × α)} {n : Nat} {a : α}, look l n = some a → upd l n a = l
  | (k, b) :: r, n, a, h => by
    simp only [look] at h
    simp only [upd]
    split at h
    · rename_i hk; cases h; rw [if_pos hk, hk]
    · rename_i hk; rw [if_neg hk, upd_self h]
theorem run_copy {t t' ty e : TypeId} {sz : Nat} (hu : P.underlying t = some (.slice e)) (hs : (P.info? e).map (·.size) = some sz) {ad : Addr} {dLen dCap : Nat} {a2 : Addr} {m c : Nat} {cs : List Value} (hcs : cs.length = (min m dLen) * sz) (hsrc : ∀ j v, cs[j]? = some v → w.cell? (a2.add j) = some v)
    {w' : World} (hst : (storeCells ad cs 0).run P w = .ok () w') : (Builtin.copy_ #[t, t'] ty #[.slice (some ad) dLen dCap, .slice (some a2) m c]).run P w = .ok (goInt (min m dLen : Nat)) w' := by
  have hf := run_firstCells_some (P := P) w sz (min m dLen) a2 m c cs hcs hsrc
  simp only [Nat.min_def] at hf ⊢
  simp [Builtin.copy_, run_underlying hu, Builtin.lenOf, run_sizeOf' hs, Nat.min_def, hf, hst]
theorem run_copy0 {t t' ty e : TypeId} {sz : Nat} (hu : P.underlying t = some (.slice e)) (hs : (P.info? e).map (·.size) = some sz) {ad a2 : Option Addr} {dLen dCap m c : Nat} (h0 : min m dLen = 0) : (Builtin.copy_ #[t, t'] ty #[.slice ad dLen dCap, .slice a2 m c]).run P w = .ok (goInt 0) w := by
  have hf : (Builtin.firstCells sz 0 (.slice a2 m c)).run P w = .ok #[] w := by
    cases a2 with
    | none => exact run_firstCells_none (P := P) w _ _ _ _
    | some b => exact run_firstCells_some (P := P) w sz 0 b m c [] (by simp) (by simp)
  have h0' : Nat.min m dLen = 0 := h0
  cases ad with
  | none => simp [Builtin.copy_, run_underlying hu, Builtin.lenOf, run_sizeOf' hs, h0', hf]
  | some b => simp [Builtin.copy_, run_underlying hu, Builtin.lenOf, run_sizeOf' hs, h0', hf, storeCells]
theorem opCopy_ok (hT : ∀ t i, T t = some i → TyOk P t i) {t t' ty : TypeId} {x y : Option Rs} {K : Rs → St → Prop} (h : opCopy T t x y st K) (hw : Sat B β F st w) {u v : Value} (hx : ∀ r, x = some r → DnR β F w r u) (hy : ∀ r, y = some r → DnR β F w r v) :
    ∃ z w' r st', (Builtin.copy_ #[t, t'] ty #[u, v]).run P w = .ok z w' ∧ K r st' ∧ Ext β F w β F w' ∧ Sat B β F st' w' ∧ DnR β F w' r z := by
  unfold opCopy at h
  split at h
  case h_2 => exact h.elim
  rename_i ti c d hti
  have hk := (hT t ti hti).kd
  split at h
  case h_2 => exact h.elim
  rename_i e hkd
  rw [hkd] at hk
  split at h
  case h_2 => exact h.elim
  rename_i ie hie
  have hte := hT e ie hie
  obtain ⟨b, ys, news, h, s1, s2, s3⟩ := srcK_ok hw h (hy _ rfl)
  split at h
  case h_2 => exact h.elim
  rename_i hn
  have hn := Nat.eq_of_beq_eq_true hn
  obtain ⟨id, ty', a, xs, lo, n, dd, q, vs, hh, h2, h3, h4, h5, h6, h7, rfl⟩ := vwK_ok hw h (hx _ rfl)
  clear h
  split at hh
  case h_2 => exact hh.elim
  rename_i e1 heq
  have e1 := Nat.eq_of_beq_eq_true e1
  subst e1
  have hab := eqSh_eq heq
  have hsz : ie.n = a.size := by rw [hn, hab]
  have hinfo : (P.info? ty').map (·.size) = some a.size := by rw [hte.size, hsz]
  obtain ⟨s0, ad2, cap2, rfl, s5, s6, s7, s8⟩ := s1
  rw [hn.symm, hsz] at s0
  have hulen : ∃ ad cap, u = .slice ad n cap := by
    rcases h6 with ⟨_, _, rfl, rfl⟩ | ⟨g, o, len, cap, o', _, _, rfl, _⟩
    · exact ⟨_, _, rfl⟩
    · exact ⟨_, _, rfl⟩
  by_cases hz : min ys.length n = 0
  · obtain ⟨ad, cap, rfl⟩ := hulen
    refine ⟨_, w, _, _, run_copy0 hk hinfo hz, hh, Ext.refl _ _ _, ?_, ?_⟩
    · rw [hz]
      simp only [List.take_zero, List.append_nil, Nat.add_zero, List.take_append_drop]
      rw [upd_self h2]
      exact hw
    · rw [hz]; exact ⟨rfl, by show inR .i64 _; decide⟩
  · rcases h6 with ⟨_, _, rfl, rfl⟩ | ⟨g, o, len, cap, o', rfl, g1, rfl, g2, g3⟩
    · exact absurd (Nat.min_eq_right (Nat.zero_le _)) hz
    · have hnp : 0 < n ∧ 0 < ys.length := by omega
      obtain ⟨g', o2, rfl, s9, s10⟩ := s8 hnp.2
      rw [g2 (by omega)]
      have hcs : (news.take (min ys.length n * a.size)).length = min ys.length n * a.size := by
        rw [List.length_take, s0]
        exact Nat.min_eq_left (Nat.mul_le_mul_right _ (Nat.min_le_left _ _))
      have hmul : (lo + min ys.length n) * a.size ≤ xs.length * a.size := Nat.mul_le_mul_right _ (by omega)
      rw [Nat.add_mul] at hmul
      have hyl : ((castL heq ys).take (min ys.length n)).length = min ys.length n := by rw [List.length_take, castL_len]; omega
      have hsp := h5.splice (ys := (castL heq ys).take (min ys.length n)) (ws := news.take (min ys.length n * a.size)) ((castL_rdl heq s2).take _) lo
      rw [hyl] at hsp
      obtain ⟨cur, arr, c1, c2, rfl, c3, c4⟩ := own_store hw h2 h3 h4 (p := lo * a.size) (news := news.take (min ys.length n * a.size)) (by rw [hcs]; omega) (fun z hz => s3 z (List.mem_of_mem_take hz))
        (ys := xs.take lo ++ (castL heq ys).take (min ys.length n) ++ xs.drop (lo + min ys.length n)) (by simp only [List.length_append, List.length_take, List.length_drop, castL_len]; omega) hsp
      have hst := run_storeCells_at P g (o + lo * a.size) ty' (news.take (min ys.length n * a.size)) 0 cur w c1 (by simpa using c2) (fun z hz => s3 z (List.mem_of_mem_take hz))
      simp only [Nat.add_zero] at hst
      refine ⟨_, _, _, _, run_copy hk hinfo hcs (fun j v hj => ?_) hst, hh, c3, c4, ⟨rfl, ?_⟩⟩
      · rw [add_lit']
        exact s10 j v (by rw [List.getElem?_take] at hj; split at hj; exact hj; cases hj)
      · have : ys.length ≤ maxLen := by omega
        simp only [maxLen] at this
        show inR .i64 _
        simp only [inR]
        omega
theorem run_clear0 {t ty e : TypeId} (hu : P.underlying t = some (.slice e)) {ad : Option Addr} {c : Nat} : (Builtin.clear_ #[t] ty #[.slice ad 0 c]).run P w = .ok (.tuple #[]) w := by
  cases ad <;> simp [Builtin.clear_, run_underlying hu]
theorem run_clear {t ty e : TypeId} (hu : P.underlying t = some (.slice e)) {zv : Value} (hz : (zeroValue e).run P w = .ok zv w) {ad : Addr} {n c : Nat} (hn : 0 < n) {w' : World} (hst : (storeCells ad (Builtin.zeroCells zv.cells n).toList 0).run P w = .ok () w') :
    (Builtin.clear_ #[t] ty #[.slice (some ad) n c]).run P w = .ok (.tuple #[]) w' := by
  obtain ⟨m, rfl⟩ : ∃ m, n = m + 1 := ⟨n - 1, by omega⟩
  simp [Builtin.clear_, run_underlying hu, hz, hst]
theorem opClear_ok (hT : ∀ t i, T t = some i → TyOk P t i) {t ty : TypeId} {x : Option Rs} {K : Rs → St → Prop} (h : opClear T t x st K) (hw : Sat B β F st w) {u : Value} (hx : ∀ r, x = some r → DnR β F w r u) :
    ∃ z w' r st', (Builtin.clear_ #[t] ty #[u]).run P w = .ok z w' ∧ K r st' ∧ Ext β F w β F w' ∧ Sat B β F st' w' ∧ DnR β F w' r z := by
  unfold opClear at h
  split at h
  case h_2 => exact h.elim
  rename_i ti c hti
  have hk := (hT t ti hti).kd
  split at h
  case h_2 => exact h.elim
  rename_i e hkd
  rw [hkd] at hk
  split at h
  case h_2 => exact h.elim
  rename_i ie hie
  have hte := hT e ie hie
  obtain ⟨id, ty', a, xs, lo, n, dd, q, vs, hh, h2, h3, h4, h5, h6, h7, rfl⟩ := vwK_ok hw h (hx _ rfl)
  clear h
  split at hh
  case h_2 => exact hh.elim
  rename_i z e1 hsz hzd
  have e1 := Nat.eq_of_beq_eq_true e1
  subst e1
  have hsz := Nat.eq_of_beq_eq_true hsz
  obtain ⟨zv, zs, z1, z2, z3⟩ := hte.zero β F w
  have hrd := zeroD_ok hzd z3
  have hzl : zs.length = a.size := RdC.len _ _ hrd
  have hulen : ∃ ad cap, u = .slice ad n cap := by
    rcases h6 with ⟨_, _, rfl, rfl⟩ | ⟨g, o, len, cap, o', _, _, rfl, _⟩
    · exact ⟨_, _, rfl⟩
    · exact ⟨_, _, rfl⟩
  by_cases hz : n = 0
  · obtain ⟨ad, cap, rfl⟩ := hulen
    subst hz
    refine ⟨_, w, _, _, run_clear0 hk, hh, Ext.refl _ _ _, ?_, trivial⟩
    simp only [List.replicate_zero, List.append_nil, Nat.add_zero, List.take_append_drop]
    rw [upd_self h2]
    exact hw
  · rcases h6 with ⟨_, _, rfl, rfl⟩ | ⟨g, o, len, cap, o', rfl, g1, rfl, g2, g3⟩
    · exact absurd rfl hz
    · rw [g2 (by omega)]
      have hzc : (Builtin.zeroCells zv.cells n).toList = (List.replicate n zs).flatten := by
        by_cases hpos : 0 < zs.length
        · have := init_cells zs hpos n
          rw [← this]
          simp [Builtin.zeroCells, z2]
        · have hz0 : zs = [] := List.eq_nil_of_length_eq_zero (by omega)
          subst hz0
          simp [Builtin.zeroCells, z2]
      have hlen : (List.replicate n zs).flatten.length = n * a.size := by simp [hzl]
      have hmul : (lo + n) * a.size ≤ xs.length * a.size := Nat.mul_le_mul_right _ (by omega)
      rw [Nat.add_mul] at hmul
      have hsp := h5.splice (RdL.rep hrd n) lo
      rw [List.length_replicate] at hsp
      have hone : ∀ z ∈ (List.replicate n zs).flatten, z.oneCell' = true := RdL.one (RdL.rep hrd n)
      obtain ⟨cur, arr, c1, c2, rfl, c3, c4⟩ := own_store hw h2 h3 h4 (p := lo * a.size) (news := (List.replicate n zs).flatten) (by rw [hlen]; omega) hone
        (ys := xs.take lo ++ List.replicate n z ++ xs.drop (lo + n)) (by simp only [List.length_append, List.length_take, List.length_drop, List.length_replicate]; omega) hsp
      have hst := run_storeCells_at P g (o + lo * a.size) ty' (List.replicate n zs).flatten 0 cur w c1 (by simpa using c2) hone
      simp only [Nat.add_zero] at hst
      exact ⟨_, _, _, _, run_clear hk (run_zero z1 w) (by omega) (by rw [hzc]; exact hst), hh, c3, c4, trivial⟩
end
end Go.Proofs.YtnbbooilapelmaaGreatDoor.V
