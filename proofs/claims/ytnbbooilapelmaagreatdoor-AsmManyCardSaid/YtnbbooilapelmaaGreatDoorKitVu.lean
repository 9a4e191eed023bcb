/-
  A symbolic run of a function's text: indexing, stores and literals that take in slices.
-/
import Derived.Test.YtnbbooilapelmaaGreatDoorKitVM
set_option linter.unusedVariables false
set_option linter.unusedSimpArgs false
namespace Go.Proofs.YtnbbooilapelmaaGreatDoor.V
open Go.RowKit Go.Proofs.YtnbbooilapelmaaGreatDoor
section
variable (T : Tb)
/-- Does a run of numbers lie there? -/
def isRun (c n : Nat) (cells : List CV) : Bool := match runAt c n cells with | some _ => true | none => false
def arrIx (ti : Ty) (i : Option Rs) (K : Nat → Nat → Nat → Bool → Prop) : Prop :=
  match i, ti.el with
  | some (.v (.one d)), (n, el) => (match T el with
    | some ie => (match d with
      | .il _ (.ofNat z) => (match Nat.blt z n with | true => K n z ie.n true | false => False)
      | d => (match intV d, Nat.beq ie.n 1 with | some (_, e), true => (0 ≤ e ∧ e < (n : Int)) ∧ K n e.toNat 1 false | _, _ => False))
    | none => False)
  | _, _ => False
def opIndexAddr2 (t : TypeId) (x i : Option Rs) (st : St) (K : Rs → Prop) : Prop :=
  match T t, x with
  | some ti, some (.v (.one (.sv id sz lo n))) => (match ti.kd, i with
    | .slice el, some (.v (.one d)) => (match T el, intV d with
      | some ie, some (_, e) => (match Nat.beq ie.n sz with
        | true => (0 ≤ e ∧ e < (n : Int)) ∧ K (.v (.one (.ep id sz (lo + e.toNat) 0)))
        | false => False)
      | _, _ => False)
    | _, _ => False)
  | some ti, some (.v (.one (.ptr id off))) => arrIx T ti i fun n j sz lit => (match lit, (match look st.h id with | some (.blk cells _) => isRun off n cells | _ => false) with
    | true, false => K (.v (.one (.ptr id (off + j * sz))))
    | _, _ => (match Nat.beq sz 1 with | true => K (.v (.one (.pa id off n j))) | false => False))
  | some ti, some (.v (.one (.ep id sz ix c))) => arrIx T ti i fun n j sz' lit => (match Nat.beq sz' 1 with
    | true => K (.v (.one (.ea id sz ix c n j)))
    | false => K (.v (.one (.ep id sz ix (c + j * sz')))))
  | some ti, some (.v (.one (.rp a y c))) => arrIx T ti i fun n j sz' lit => (match isRun c n (mkC a y), Nat.beq sz' 1 with
    | true, true => K (.v (.one (.ra a y c n j)))
    | _, _ => (match lit with | true => K (.v (.one (.rp a y (c + j * sz')))) | false => False))
  | _, x => opIndexAddr T t x i st fun r _ => K r
end
section
variable {T : Tb} {P : Program} {B : Base} {β : Nat → Option Value} {F : Nat → Prop} {w : World} {st : St}
theorem arrIx_ok (hT : ∀ t i, T t = some i → TyOk P t i) {t : TypeId} {ti : Ty} (hti : T t = some ti) {i : Option Rs} {K : Nat → Nat → Nat → Bool → Prop} (h : arrIx T ti i K) {v : Value} (hi : ∀ r, i = some r → DnR β F w r v) :
    ∃ n j sz lit, K n j sz lit ∧ j < n ∧ ∀ (g off : Nat) w', (Instr.indexAt t (.pointer (some ⟨g, off, none⟩)) v).run P w' = .ok (.pointer (some ⟨g, off + j * sz, none⟩)) w' := by
  unfold arrIx at h
  split at h
  case h_2 => exact h.elim
  rename_i d n el hel
  split at h
  case h_2 => exact h.elim
  rename_i ie hie
  have hsz := (hT el ie hie).size
  have hd := hi _ rfl
  split at h
  · rename_i k z
    split at h
    case h_2 => exact h.elim
    rename_i hz
    have hz : z < n := by simpa using hz
    have he := (hT t ti hti).el (by rw [hel]; simp; omega)
    rw [hel] at he
    obtain ⟨rfl, _⟩ := hd
    refine ⟨_, _, _, _, h, hz, fun g off w' => ?_⟩
    simp [Instr.indexAt, asIntOf, run_underlying he.1, Instr.sureAddr, run_sizeOf' hsz, Addr.add_mid, hz]
  · split at h
    case h_2 => exact h.elim
    rename_i k e hv h1
    have h1 := Nat.eq_of_beq_eq_true h1
    obtain ⟨rfl, _⟩ := intV_dn hv hd
    obtain ⟨⟨e0, e1⟩, h⟩ := h
    have he := (hT t ti hti).el (by rw [hel]; simp; omega)
    rw [hel] at he
    refine ⟨_, _, _, _, h, by omega, fun g off w' => ?_⟩
    rw [h1] at hsz
    have e2 : 0 ≤ e ∧ e < (n : Int) := ⟨e0, e1⟩
    simp [Instr.indexAt, asIntOf, run_underlying he.1, Instr.sureAddr, run_sizeOf' hsz, Addr.add_mid, e2]
theorem opIndexAddr2_ok (hT : ∀ t i, T t = some i → TyOk P t i) {t : TypeId} {x i : Option Rs} {K : Rs → Prop} (h : opIndexAddr2 T t x i st K) (hw : Sat B β F st w) {u v : Value} (hx : ∀ r, x = some r → DnR β F w r u) (hi : ∀ r, i = some r → DnR β F w r v) :
    ∃ z r, (∀ w', (Instr.indexAt t u v).run P w' = .ok z w') ∧ K r ∧ DnR β F w r z := by
  unfold opIndexAddr2 at h
  split at h
  · rename_i ti id sz lo n hti
    have hk := (hT t ti hti).kd
    split at h
    case h_2 => exact h.elim
    rename_i el d hkd
    rw [hkd] at hk
    split at h
    case h_2 => exact h.elim
    rename_i ie k e hie hv
    split at h
    case h_2 => exact h.elim
    rename_i hn
    have hn := Nat.eq_of_beq_eq_true hn
    obtain ⟨⟨h0, h1⟩, h⟩ := h
    obtain ⟨rfl, _⟩ := intV_dn hv (show Dn β F w d v from hi _ rfl)
    have hsz := (hT el ie hie).size
    rw [hn] at hsz
    obtain ⟨q, b1, hs⟩ := hx _ rfl
    rcases hs with ⟨rfl, rfl, rfl, rfl⟩ | ⟨g, o, len, cap, o', rfl, hc, rfl, ho, _⟩
    · omega
    · rw [ho (by omega)]
      refine ⟨_, _, fun w' => run_indexAt hk hsz h0 h1 w', h, g, o, len, cap, b1, ?_⟩
      rw [Nat.add_mul]
      simp [Nat.add_assoc]
  · rename_i ti id off hti
    obtain ⟨g, b1, rfl⟩ := hx _ rfl
    obtain ⟨n, j, sz, lit, h, hj, hrun⟩ := arrIx_ok hT hti h hi
    split at h
    · exact ⟨_, _, hrun g off, h, g, b1, rfl⟩
    · split at h
      · rename_i h1
        have h1 := Nat.eq_of_beq_eq_true h1
        subst h1
        exact ⟨_, _, hrun g off, h, hj, g, b1, by rw [Nat.mul_one]⟩
      · exact h.elim
  · rename_i ti id sz ix c hti
    obtain ⟨g, o, m, cap, b1, rfl⟩ := hx _ rfl
    obtain ⟨n, j, sz', lit, h, hj, hrun⟩ := arrIx_ok hT hti h hi
    split at h
    · rename_i h1
      have h1 := Nat.eq_of_beq_eq_true h1
      subst h1
      exact ⟨_, _, hrun g _, h, hj, g, o, m, cap, b1, by rw [Nat.mul_one]⟩
    · exact ⟨_, _, hrun g _, h, g, o, m, cap, b1, by rw [Nat.add_assoc]⟩
  · rename_i ti a y c hti
    obtain ⟨g, o, cs, rfl, h2, h3, h4⟩ := hx _ rfl
    obtain ⟨n, j, sz', lit, h, hj, hrun⟩ := arrIx_ok hT hti h hi
    split at h
    · rename_i h0 h1
      have h1 := Nat.eq_of_beq_eq_true h1
      subst h1
      exact ⟨_, _, hrun g _, h, hj, g, o, cs, by rw [Nat.mul_one], h2, h3, h4⟩
    · split at h
      · exact ⟨_, _, hrun g _, h, g, o, cs, by rw [Nat.add_assoc], h2, h3, h4⟩
      · exact h.elim
  · obtain ⟨z, r, h1, h2, h3⟩ := opIndexAddr_ok hT h hw hx hi
    exact ⟨z, r, h1, h2, h3⟩
end
section
variable (T : Tb)
/-- x[:] of an array: its variable is read from then on. -/
def opSliceArr (t : TypeId) (id off : Nat) (st : St) (K : Rs → St → Prop) : Prop :=
  match T t with
  | some ti => (match ti.el, look st.h id with
    | (n, el), some (.blk [.run k m d] ty) => (match T el with
      | some ie => (match Nat.beq ie.n 1, Nat.beq m n, Nat.beq off 0, Nat.blt 0 n && Nat.ble n 65536 with
        | true, true, true, true => K (.v (.one (.rd (.int k) d))) ⟨st.nx, del st.h id⟩
        | _, _, _, _ => False)
      | none => False)
    | (n, el), some (.blk cells ty) => (match T el with
      | some ie => (match ie.sh with
        | some a => (match Nat.beq ie.n a.size, Nat.beq off 0, Nat.blt 0 n && Nat.ble n 65536, unL a n cells with
          | true, true, true, some xs => K (.v (.one (.rd a xs))) ⟨st.nx, del st.h id⟩
          | _, _, _, _ => False)
        | none => False)
      | none => False)
    | _, _ => False)
  | none => False
def opBuildSlice2 (t : TypeId) (n : Nat) (ps : List (Nat × Operand)) (ts : Sl) (ch : List (Nat × Bool)) (st : St) (K : Rs → St → Prop) : Prop :=
  match T t with
  | some ti => (match ti.kd with
    | .slice e => (match T e with
      | some ie => (match ie.sh with
        | some a => (match Nat.beq ie.n a.size, Nat.blt 0 ie.n, Nat.ble (n * ie.n) 16777216, fillP (slots ie.n e n 0) ts ch ps (repL ie.zero n) with
          | true, true, true, some l => frzL l st fun l' st' => (match unL a n l' with
            | some xs => K (.v (.one (.sl st'.nx))) ⟨st'.nx + 1, (st'.nx, .own e a xs) :: st'.h⟩
            | none => False)
          | _, _, _, _ => False)
        | none => False)
      | none => False)
    | _ => False)
  | none => False
/-- A store into an element: slices in it are read from then on. -/
def opStoreE2 (t : TypeId) (x y : Option Rs) (st : St) (K : Rs → St → Prop) : Prop :=
  match y with
  | some (.v v) => frzV v st fun v' st' => opStoreE T t x (some (.v v')) st' K
  | _ => False
/-- A store into a variable: a part of a slice is a slice of its own from then on. -/
def opStore2 (t : TypeId) (x y : Option Rs) (st : St) (K : Rs → St → Prop) : Prop :=
  match y with
  | some (.v (.one (.sv id sz lo n))) => (match look st.h id with
    | some (.own ty a xs) => (match Nat.beq sz a.size with
      | true => lo + n ≤ xs.length ∧ opStore T t x (some (.v (.one (.sl st.nx)))) ⟨st.nx + 1, (st.nx, .own ty a ((xs.drop lo).take n)) :: del st.h id⟩ K
      | false => False)
    | _ => False)
  | y => opStore T t x y st K
end
section
variable {T : Tb} {P : Program} {B : Base} {β : Nat → Option Value} {F : Nat → Prop} {w : World} {st : St}
theorem opBuildSlice2_ok (hT : ∀ t i, T t = some i → TyOk P t i) {t : TypeId} {n : Nat} {ps : Array (Nat × Operand)} {ts : Sl} {ch : List (Nat × Bool)} {a : Act} {K : Rs → St → Prop} (h : opBuildSlice2 T t n ps.toList ts ch st K) (hw : Sat B β F st w) (hg : gd ts ch = true) (hs : SlOk β F w ts a.tmps) :
    ∃ z w' r st' β' F', (Instr.buildSlice t n (ps.map fun p => (p.1, a.eval p.2))).run P w = .ok z w' ∧ K r st' ∧ Ext β F w β' F' w' ∧ Sat B β' F' st' w' ∧ DnR β' F' w' r z ∧ (∀ k, Gd st β F k → Gd st' β' F' k ∧ w'.heap[k]? = w.heap[k]?) ∧ w.heap.size ≤ w'.heap.size := by
  unfold opBuildSlice2 at h
  split at h
  · rename_i ti hti
    have hk := (hT t ti hti).kd
    split at h
    · rename_i e hkd
      rw [hkd] at hk
      split at h
      · rename_i ie hie
        have hte := hT e ie hie
        split at h
        · rename_i sh hsh
          split at h
          · rename_i l hn h0 hsm hf
            have hn := Nat.eq_of_beq_eq_true hn
            have h0 : 0 < ie.n := by simpa using h0
            have hsm := Nat.le_of_ble_eq_true hsm
            obtain ⟨l', st1, F', h, hzf, hfr⟩ := frzL_ok hw h
            have hw1 := hzf.2.1
            split at h
            · rename_i xs hxs
              obtain ⟨z, vs, z1, z2, z3⟩ := hte.zero β F w
              have hvl : vs.length = ie.n := by rw [z3.len, hte.zn]
              obtain ⟨ws, f1, f2⟩ := fillP_ok (place := fun i => some (i * ie.n, ie.n)) (fun i p hp => by rw [slots_get _ _ _ _ _ _ hp]; simp) hg hs ps.toList _ l _ hf (repL_dn z3 n)
              obtain ⟨u1, u2⟩ := unL_ok hxs (hfr _ f2)
              have hwl : ws.length = n * sh.size := by rw [u1.len, u2]
              cases hq : P.info? e with
              | none => simp [hq] at z1
              | some it =>
                have hz : it.zero = some z := by simpa [hq] using z1
                have hs1 : it.size = ie.n := by have := hte.size; simpa [hq] using this
                by_cases hn0 : n = 0
                · subst hn0
                  have hws : ws = [] := List.eq_nil_of_length_eq_zero (by simpa using hwl)
                  have hxs0 : xs = [] := List.eq_nil_of_length_eq_zero u2
                  subst hws; subst hxs0
                  have hrun : (Instr.buildSlice t 0 (ps.map fun p => (p.1, a.eval p.2))).run P w = .ok (.slice (some ⟨w.heap.size, 0, none⟩) 0 0) (w.alloc (.cells #[] e)) := by
                    have f1' : Instr.fill (fun i => some (i * it.size, it.size)) #[] (ps.toList.map fun p => (p.1, a.eval p.2)) = some #[] := by
                      rw [hs1]
                      simpa using f1
                    have e0 : (Array.range 0 : Array Nat) = #[] := rfl
                    simp only [Instr.buildSlice, Sem.run_bind, run_underlying hk, Result.andThen_ok, sizeOf, typeInfo, run_program, hq, Sem.run_pure]
                    simp [e0, f1', newRow]
                  obtain ⟨β', x1, x2, x3, x4⟩ := hw1.swap (h0 := st1.h) (fun _ h => h) hw1.sep (S := fun _ => False) ((Only.refl _ w).al (.cells (#[] : Array Value) e)) (fun k hk => hk.elim) (ty := e) (a := sh) (xs := []) (v := .slice (some ⟨w.heap.size, 0, none⟩) 0 0) (vs := []) (own_row e (by simp) (by unfold maxLen; omega)) rfl (fun k hk => .inr (new_blk hk))
                  exact ⟨_, _, _, _, β', F', hrun, h, hzf.ext.trans x1, x2, ⟨x3, _, _, _, rfl⟩, fun k hk => x4 k (hzf.2.2 k hk), by simp⟩
                · have hpos : ¬ n * it.size = 0 := by rw [hs1]; exact Nat.ne_of_gt (Nat.mul_pos (by omega) h0)
                  have hinit : ((Array.range (n * it.size)).map (z.cells[· % z.cells.size]!)) = ((List.replicate n vs).flatten).toArray := by
                    have := init_cells vs (by omega) n
                    rw [z2, hs1, ← hvl]
                    rw [← this]
                  have hrun := run_buildSlice (P := P) w t e n (ps.map fun p => (p.1, a.eval p.2)) ws.toArray it z hk hq hz (by rw [hs1]; omega) hpos (by rw [hinit, hs1, Array.toList_map]; exact f1)
                  have hx' : ∀ k, F' k → (w.alloc (.cells ws.toArray e)).heap[k]? = w.heap[k]? := fun k hk => Below.heap_alloc _ _ _ (hw1.frz k hk)
                  have hnm : n ≤ maxLen := by
                    have : n ≤ n * ie.n := Nat.le_mul_of_pos_right _ h0
                    unfold maxLen
                    omega
                  obtain ⟨β', x1, x2, x3, x4⟩ := hw1.swap (h0 := st1.h) (fun _ h => h) hw1.sep (S := fun _ => False) ((Only.refl _ w).al (.cells ws.toArray e)) (fun k hk => hk.elim) (ty := e) (a := sh) (xs := xs) (v := .slice (some ⟨w.heap.size, 0, none⟩) n n) (vs := ws) (by rw [u2]; exact own_row e hwl hnm) (u1.mono (fun _ h => h) hx') (fun k hk => .inr (new_blk hk))
                  exact ⟨_, _, _, _, β', F', hrun, h, hzf.ext.trans x1, x2, ⟨x3, _, _, _, rfl⟩, fun k hk => x4 k (hzf.2.2 k hk), by simp⟩
            · exact h.elim
          · exact h.elim
        · exact h.elim
      · exact h.elim
    · exact h.elim
  · exact h.elim
theorem opSliceArr_ok (hT : ∀ t i, T t = some i → TyOk P t i) {t : TypeId} {id off : Nat} {K : Rs → St → Prop} (h : opSliceArr T t id off st K) (hw : Sat B β F st w) {u : Value} (hx : DnR β F w (.v (.one (.ptr id off))) u) :
    ∃ z r st' F', (Instr.sliceAt t u none none none).run P w = .ok z w ∧ K r st' ∧ Fzd B β F st w F' st' ∧ DnR β F' w r z := by
  unfold opSliceArr at h
  split at h
  case h_2 => exact h.elim
  rename_i ti hti
  split at h
  case h_3 => exact h.elim
  case h_2 =>
    rename_i n el cells ty _ hel hl
    split at h
    case h_2 => exact h.elim
    rename_i ie hie
    split at h
    case h_2 => exact h.elim
    rename_i a hsh
    split at h
    case h_2 => exact h.elim
    rename_i xs h1 h2 h4 hxs
    have h1 := Nat.eq_of_beq_eq_true h1
    have h2 := Nat.eq_of_beq_eq_true h2
    subst h2
    rw [Bool.and_eq_true] at h4
    have h0 : 0 < n := Nat.le_of_ble_eq_true h4.1
    have h5 := Nat.le_of_ble_eq_true h4.2
    obtain ⟨g, b1, rfl⟩ := hx
    have he := (hT t ti hti).el (by rw [hel]; simp; omega)
    rw [hel] at he
    have hsz := (hT el ie hie).size
    obtain ⟨F', f1, f2, f3, f4, f5⟩ := hw.freeze hl
    obtain ⟨g', vs, b2, c2, c3⟩ := hw.cks _ (look_mem hl)
    obtain rfl : g = g' := by rw [b1] at b2; cases b2; rfl
    obtain ⟨d1, d2⟩ := unL_ok hxs c3
    refine ⟨.slice (some ⟨g, 0, none⟩) n n, _, _, F', ?_, h, ⟨f1, f4, f5⟩, some ⟨g, 0, none⟩, n, by rw [d2], by omega, by unfold maxLen; omega, fun e => (by cases e), fun _ => ⟨g, 0, rfl, f2 g (by simp [b1, bk]), fun i y hy => ?_⟩⟩
    · have hne : ¬ n = 0 := by omega
      simp [Instr.sliceAt, Instr.sliceBounds, run_underlying he.1, Instr.sureAddr, run_sizeOf' hsz, hne, Addr.add]
    · obtain ⟨cs, e1, e2⟩ := d1.get i y hy
      refine ⟨cs, e1.mono f1 (fun _ _ => rfl), fun j u hu => ?_⟩
      rw [cell_of_row w g _ _ ty (0, 0) c2, Nat.zero_add]
      simpa using e2 j u hu
  rename_i n el k m d ty hel hl
  split at h
  case h_2 => exact h.elim
  rename_i ie hie
  split at h
  case h_2 => exact h.elim
  rename_i h1 h2 h3 h4
  have h1 := Nat.eq_of_beq_eq_true h1
  have h2 := Nat.eq_of_beq_eq_true h2
  have h3 := Nat.eq_of_beq_eq_true h3
  subst h2; subst h3
  rw [Bool.and_eq_true] at h4
  have h0 : 0 < m := Nat.le_of_ble_eq_true h4.1
  have h5 := Nat.le_of_ble_eq_true h4.2
  obtain ⟨g, b1, rfl⟩ := hx
  have he := (hT t ti hti).el (by rw [hel]; simp; omega)
  rw [hel] at he
  have hsz := (hT el ie hie).size
  rw [h1] at hsz
  obtain ⟨F', f1, f2, f3, f4, f5⟩ := hw.freeze hl
  obtain ⟨g', vs, b2, c2, c3⟩ := hw.cks _ (look_mem hl)
  obtain rfl : g = g' := by rw [b1] at b2; cases b2; rfl
  obtain ⟨x, y, rfl, ⟨d1, rfl, d2⟩, d3⟩ := c3
  obtain rfl : y = [] := d3
  refine ⟨.slice (some ⟨g, 0, none⟩) m m, _, _, F', ?_, h, ⟨f1, f4, f5⟩, some ⟨g, 0, none⟩, m, by rw [d1], by omega, by unfold maxLen; omega, fun e => (by cases e), fun _ => ⟨g, 0, rfl, f2 g (by simp [b1, bk]), fun i y hy => ⟨[.int k y], ⟨rfl, d2 y (List.mem_of_getElem? hy)⟩, fun j u hu => ?_⟩⟩⟩
  · have e0 : (⟨g, 0, none⟩ : Addr).add 0 = ⟨g, 0, none⟩ := add_lit'
    have hne : ¬ m = 0 := by omega
    simp [Instr.sliceAt, Instr.sliceBounds, run_underlying he.1, Instr.sureAddr, run_sizeOf' hsz, hne, e0]
  · have hj : j = 0 := by
      have := (List.getElem?_eq_some_iff.1 hu).1
      simpa using this
    subst hj
    rw [cell_of_row w g _ _ ty (0, 0) c2]
    have : Sh.size (.int k) = 1 := rfl
    rw [this]
    simp at hu ⊢
    rw [hy]
    simpa using hu
theorem opStoreE2_ok (hT : ∀ t i, T t = some i → TyOk P t i) {t : TypeId} {x y : Option Rs} {K : Rs → St → Prop} (h : opStoreE2 T t x y st K) (hw : Sat B β F st w) {u v : Value} (hx : ∀ r, x = some r → DnR β F w r u) (hy : ∀ r, y = some r → DnR β F w r v) :
    ∃ w' st' r F', (Instr.storeAt t u v).run P w = .ok () w' ∧ K r st' ∧ Ext β F w β F' w' ∧ Sat B β F' st' w' ∧ DnR β F' w' r undef := by
  unfold opStoreE2 at h
  split at h
  case h_2 => exact h.elim
  rename_i v'
  obtain ⟨v2, st1, F', h, hz, hd⟩ := frzV_ok hw h
  obtain ⟨w', st', r, h1, h2, h3, h4, h5⟩ := opStoreE_ok hT h hz.2.1 (u := u) (v := v) (fun r hr => (hx r hr).ext hz.ext) (fun r hr => by cases hr; exact hd v (hy _ rfl))
  exact ⟨w', st', r, F', h1, h2, hz.ext.trans h3, h4, h5⟩
theorem opStore2_ok (hT : ∀ t i, T t = some i → TyOk P t i) {t : TypeId} {x y : Option Rs} {K : Rs → St → Prop} (h : opStore2 T t x y st K) (hw : Sat B β F st w) {u v : Value} (hx : ∀ r, x = some r → DnR β F w r u) (hy : ∀ r, y = some r → DnR β F w r v) :
    ∃ w' st' r β', (Instr.storeAt t u v).run P w = .ok () w' ∧ K r st' ∧ Ext β F w β' F w' ∧ Sat B β' F st' w' ∧ DnR β' F w' r undef := by
  unfold opStore2 at h
  split at h
  · rename_i id sz lo n
    split at h
    case h_2 => exact h.elim
    rename_i ty a xs hl
    split at h
    case h_2 => exact h.elim
    rename_i hsz
    have hsz := Nat.eq_of_beq_eq_true hsz
    subst hsz
    obtain ⟨hle, h⟩ := h
    obtain ⟨q, vs, g1, g2, g3⟩ := hw.cks _ (look_mem hl)
    obtain ⟨q', e, hs⟩ := hy _ rfl
    rw [g1] at e
    cases e
    obtain ⟨β', x1, x2, x3⟩ := hw.trim hl g1 g2 g3 hs hle
    have hform : ∃ a n c, v = .slice a n c := by
      rcases hs with ⟨_, _, _, rfl⟩ | ⟨g, o, len, cap, o', _, _, rfl, _⟩
      · exact ⟨_, _, _, rfl⟩
      · exact ⟨_, _, _, rfl⟩
    obtain ⟨w', st', r, h1, h2, h3, h4, h5⟩ := opStore_ok hT h x2 (u := u) (v := v) (fun r hr => (hx r hr).ext x1) (fun r hr => by cases hr; exact ⟨x3, hform⟩)
    exact ⟨w', st', r, β', h1, h2, x1.trans h3, h4, h5⟩
  · obtain ⟨w', st', r, h1, h2, h3, h4, h5⟩ := opStore_ok hT h hw hx hy
    exact ⟨w', st', r, β, h1, h2, h3, h4, h5⟩
end
end Go.Proofs.YtnbbooilapelmaaGreatDoor.V
