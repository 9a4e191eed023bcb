/-
  A symbolic run of a function's text: a range over a function; what the function answers.
-/
import Derived.Test.YtejeghfddnbhaaaKitVo
set_option linter.unusedVariables false
set_option linter.unusedSimpArgs false
namespace Go.Proofs.Ytejeghfddnbhaaa.V
open Go.RowKit Go.Proofs.Ytejeghfddnbhaaa
/-- Texts of rounds: no loops, no drawn orders, no deferred calls. -/
def plainC : Code → Bool
  | .skip => true
  | .region _ ops false => ops.toList.all (fun o => !(isDefer o))
  | .seq a b => plainC a && plainC b
  | .cond _ a b => plainC a && plainC b
  | .block _ a => plainC a
  | .exit _ => true
  | .ret => true
  | _ => false
def noRF : Code → Bool
  | .seq a b => noRF a && noRF b
  | .cond _ a b => noRF a && noRF b
  | .block _ a => noRF a
  | .loop a => noRF a
  | .scope a => noRF a
  | .rangeFunc .. => false
  | _ => true
section
variable {T : Tb} {sp : FuncId → Option Spec} {lp : Nat → Option LoopSp} {P : Program} {B : Base}
theorem exec_in {n r na : Nat} (hT : ∀ t i, T t = some i → TyOk P t i) (hsp : ∀ f S, sp f = some S → Valid P f S) :
    ∀ (c : Code) (ts : Sl) (st : St) (β : Nat → Option Value) (F : Nat → Prop) (a : Act) (w : World) (Qs : Exit → Sl → St → Prop) (Q : Exit → Act → World → Prop), plainC c = true → (∀ a w, ¬ Q .outgrown a w) →
      exec T sp (fun _ => none) na c ts st Qs → SlOk β F w ts a.tmps → Sat B β F st w →
      (∀ e ts' st' β' F' a' w', Qs e ts' st' → SlOk β' F' w' ts' a'.tmps → Sat B β' F' st' w' → Q e a' w') → c.wpIn (Fence.wide.inRound r) n P Q a w
  | .skip, ts, st, β, F, a, w, Qs, Q, hp, hL, h, hs, hw, hQ => wpIn_skip (hQ _ _ _ _ _ _ _ h hs hw)
  | .region id ops false, ts, st, β, F, a, w, Qs, Q, hp, hL, h, hs, hw, hQ =>
    wpIn_region_list (list_in (fun ⟨a, w, h⟩ => hL a w h) hp (opers_ok hT hsp ops.toList (clr ts) st β F a w h (clr_ok hs) hw fun ts' st' β' F' a' w' h1 _ h3 h4 _ => hQ _ _ _ _ _ _ _ h1 h3 h4))
  | .region id ops true, ts, st, β, F, a, w, Qs, Q, hp, hL, h, hs, hw, hQ => by cases hp
  | .seq x y, ts, st, β, F, a, w, Qs, Q, hp, hL, h, hs, hw, hQ => by
    simp only [plainC, Bool.and_eq_true] at hp
    unfold exec at h
    split at h
    · refine wpIn_seq (exec_in hT hsp x ts st β F a w _ _ hp.1 (fun a w h => hL a w h) h hs hw fun e ts' st' β' F' a' w' h1 h2 h3 => ?_)
      cases e with
      | normal => exact exec_in hT hsp y ts' st' β' F' a' w' _ _ hp.2 hL h1 h2 h3 hQ
      | _ => exact hQ _ _ _ _ _ _ _ h1 h2 h3
    · rename_i L hLp
      cases hLp
  | .cond c x y, ts, st, β, F, a, w, Qs, Q, hp, hL, h, hs, hw, hQ => by
    simp only [plainC, Bool.and_eq_true] at hp
    simp only [exec] at h
    split at h
    · rename_i cv hc
      have hcd := ev_dn hc rfl hs
      split at h
      · rename_i b hl hb
        refine wpIn_cond_split (boolV_dn hb hcd) (fun e => ?_) (fun e => ?_)
        · exact exec_in hT hsp x ts st β F a w _ _ hp.1 hL (h.1 e) hs hw hQ
        · exact exec_in hT hsp y ts st β F a w _ _ hp.2 hL (h.2 e) hs hw hQ
      · rename_i b hl hb
        refine wpIn_cond_split (boolV_dn hb hcd) (fun e => ?_) (fun e => ?_)
        · subst e; exact exec_in hT hsp x ts st β F a w _ _ hp.1 hL h hs hw hQ
        · subst e; exact exec_in hT hsp y ts st β F a w _ _ hp.2 hL h hs hw hQ
      · exact h.elim
    · exact h.elim
  | .block id x, ts, st, β, F, a, w, Qs, Q, hp, hL, h, hs, hw, hQ => by
    refine wpIn_block (exec_in hT hsp x ts st β F a w _ _ hp (fun a w h => hL a w h) h hs hw fun e ts' st' β' F' a' w' h1 h2 h3 => ?_)
    cases e with
    | exit i =>
      simp only [Exit.inBlock] at h1 ⊢
      split at h1
      · rename_i e
        rw [if_pos (Nat.eq_of_beq_eq_true e)]
        exact hQ _ _ _ _ _ _ _ h1 h2 h3
      · rename_i e
        rw [if_neg (Nat.ne_of_beq_eq_false e)]
        exact hQ _ _ _ _ _ _ _ h1 h2 h3
    | _ => exact hQ _ _ _ _ _ _ _ h1 h2 h3
  | .exit i, ts, st, β, F, a, w, Qs, Q, hp, hL, h, hs, hw, hQ => wpIn_exit (hQ _ _ _ _ _ _ _ h hs hw)
  | .ret, ts, st, β, F, a, w, Qs, Q, hp, hL, h, hs, hw, hQ => wpIn_ret (hQ _ _ _ _ _ _ _ h hs hw)
  | .loop c, ts, st, β, F, a, w, Qs, Q, hp, hL, h, hs, hw, hQ => by cases hp
  | .rangeFunc .., ts, st, β, F, a, w, Qs, Q, hp, hL, h, hs, hw, hQ => by cases hp
  | .scope _, ts, st, β, F, a, w, Qs, Q, hp, hL, h, hs, hw, hQ => by cases hp
  | .label _, ts, st, β, F, a, w, Qs, Q, hp, hL, h, hs, hw, hQ => by cases hp
  | .goto _, ts, st, β, F, a, w, Qs, Q, hp, hL, h, hs, hw, hQ => by cases hp
  | .refuse _, ts, st, β, F, a, w, Qs, Q, hp, hL, h, hs, hw, hQ => by cases hp
end
/-! ### Iterators: a list's elements with their places, the last one first -/
def downN : Nat → List Nat
  | 0 => []
  | n + 1 => n :: downN n
/-- The slice value holds cells, sz to an element. -/
def BackV (w : World) (v : Value) (sz : Nat) (cells : List (List Value)) : Prop :=
  ∃ ad cap, v = .slice ad cells.length cap ∧ cells.length ≤ cap ∧ cap ≤ maxLen ∧ ∀ (i : Nat) cs, cells[i]? = some cs → cs.length = sz ∧ ∃ g o, ad = some ⟨g, o, none⟩ ∧ g < w.heap.size ∧ w.rangeAt g (o + i * sz) cs
def bkEnc (cells : List (List Value)) (x : {i : Nat // i < cells.length}) : Array Value := #[.int .i64 (x.1 : Int), .agg (cells.getD x.1 []).toArray]
def IterOk (P : Program) (gf sz : Nat) : Prop :=
  CallOk P gf ∧ ∀ (n g : Nat) (v : Value) (cells : List (List Value)) (w : World) (K : Nat → Prop), g < w.heap.size → w.cell? ⟨g, 0, none⟩ = some v → BackV w v sz cells → K g → (∀ k, 0 < cells.length → v.ownBlock = some k → K k) →
    SeqStopsK Fence.wide n P gf #[.pointer (some ⟨g, 0, none⟩)] (bkEnc cells) (fun W W' => ∀ k, K k → W'.heap[k]? = W.heap[k]?) (fun xs => xs.map (·.1) = downN cells.length) (fun pre => pre.map (·.1) <+: downN cells.length) cells.length w
/-- What an iterator's box holds: the elements' shape, the elements, the slice's region, is it nil. -/
structure BkL where
  a : Sh
  xs : List a.T
  ks : List Nat
  nil : Bool
def backOf (st : St) : CV → Option BkL
  | .rd a xs => some ⟨a, xs, [], false⟩
  | .sl id => (match look st.h id with | some (.own _ a xs) => some ⟨a, xs, [id], false⟩ | _ => none)
  | .val (.slice none 0 0) => some ⟨.unit, [], [], true⟩
  | _ => none
theorem downN_len : ∀ n, (downN n).length = n
  | 0 => rfl
  | n + 1 => by simp [downN, downN_len n]
theorem downN_get : ∀ (n j : Nat) (i : Nat), (downN n)[j]? = some i → i + j + 1 = n
  | 0, j, i, h => by simp [downN] at h
  | n + 1, 0, i, h => by simp [downN] at h; omega
  | n + 1, j + 1, i, h => by
    simp [downN] at h
    have := downN_get n j i h
    omega
section
variable (T : Tb) (sp : FuncId → Option Spec) (lp : Nat → Option LoopSp) (na : Nat) (itr : Nat → Option Nat)
/-- The slots as a round begins. -/
def roundTs (ts : Sl) (p q i : Nat) (l : List CV) : Sl := (ts.put p ⟨[], mkI .i64 (i : Int)⟩).put q ⟨[], .v (.agg l)⟩
def bodyQ (st0 : St) (Iv : Nat → Prop) (i : Nat) (Qr : Exit → St → Prop) (e : Exit) (ts' : Sl) (st' : St) : Prop :=
  match e with
  | .normal => mtSt st0.nx ts' st' [] st0.h st0.nx ∧ (Iv (i + 1) → Iv i)
  | .ret => Iv (i + 1) → Qr .ret st'
  | .exit j => Iv (i + 1) → Qr (.exit j) st'
  | _ => False
def rounds (as bd : Code) (ts : Sl) (st0 : St) (p q : Nat) (L : BkL) (Iv : Nat → Prop) (Qr : Exit → St → Prop) : Prop :=
  ∀ (i : Nat) (y : L.a.T), L.xs[i]? = some y → exec T sp (fun _ => none) na as (roundTs ts p q i (mkC L.a y)) st0 fun e ts1 st1 => (match e with
    | .normal => mtSt st0.nx ts1 st1 [] st0.h st0.nx ∧ exec T sp (fun _ => none) na bd ts1 st1 (bodyQ st0 Iv i Qr)
    | _ => False)
def execR : Code → Sl → St → (Exit → Sl → St → Prop) → Prop
  | .seq a b, ts, st, Q => (match noRF a with
    | true => exec T sp lp na a ts st fun e ts' st' => (match e with | .normal => execR b ts' st' Q | e => Q e ts' st')
    | false => execR a ts st fun e ts' st' => (match e with | .normal => (match noRF b with | true => exec T sp lp na b ts' st' Q | false => False) | e => Q e ts' st'))
  | .block id a, ts, st, Q => execR a ts st fun e ts' st' => (match e with
    | .exit i => (match Nat.beq i id with | true => Q .normal ts' st' | false => Q (.exit i) ts' st')
    | e => Q e ts' st')
  | .rangeFunc g ps as bd, ts, st, Q => (match ev ts [] g, ps.toList, plainC as && plainC bd, Nat.beq ts.gm 0 with
    | some (.v (.one (.fn gf [(bx, 0)]))), [p, q], true, true => (match itr gf, look st.h bx with
      | some sz, some (.blk [c] _) => (match backOf st c with
        | some L => (match Nat.beq L.a.size sz || L.nil, Nat.ble na st.nx with
          | true, true => ∃ Iv : Nat → Prop, Iv L.xs.length ∧ rounds T sp na as bd ts ⟨st.nx, dropH (bx :: L.ks) st.h⟩ p q L Iv (fun e st' => Q e ts ⟨st'.nx, app (pickH (bx :: L.ks) st.h) st'.h⟩) ∧ (Iv 0 → Q .normal ts ⟨st.nx, app (pickH (bx :: L.ks) st.h) (dropH (bx :: L.ks) st.h)⟩)
          | _, _ => False)
        | none => False)
      | _, _ => False)
    | _, _, _, _ => False)
  | c, ts, st, Q => (match noRF c with | true => exec T sp lp na c ts st Q | false => False)
end
theorem lists_of {α : Type} {n : Nat} {p : Nat → α → Prop} (h : ∀ i, i < n → ∃ c, p i c) : ∃ l : List α, l.length = n ∧ ∀ i c, l[i]? = some c → p i c := by
  induction n generalizing p with
  | zero => exact ⟨[], rfl, fun i c hc => by simp at hc⟩
  | succ n ih =>
    obtain ⟨c, hc⟩ := h 0 (by omega)
    obtain ⟨l, h1, h2⟩ := ih (p := fun i c => p (i + 1) c) (fun i hi => h (i + 1) (by omega))
    refine ⟨c :: l, by simp [h1], fun i d hd => ?_⟩
    cases i with
    | zero => simp at hd; subst hd; exact hc
    | succ i => exact h2 i d (by simpa using hd)
section
variable {β : Nat → Option Value} {F : Nat → Prop} {w : World} {st : St} {B : Base}
theorem backOf_ok (hw : Sat B β F st w) {c : CV} {L : BkL} (h : backOf st c = some L) {v : Value} (hd : Dn β F w c v) {sz bx : Nat} (hz : (Nat.beq L.a.size sz || L.nil) = true) :
    L.xs.length ≤ maxLen ∧ ∃ cells, BackV w v sz cells ∧ cells.length = L.xs.length ∧ (∀ (i : Nat) cs y, cells[i]? = some cs → L.xs[i]? = some y → RdC w F L.a y cs) ∧ ∀ k, 0 < cells.length → v.ownBlock = some k → F k ∨ ∃ p ∈ pickH (bx :: L.ks) st.h, bk (β p.1) = some k := by
  unfold backOf at h
  split at h
  · rename_i a xs
    cases h
    simp only [Bool.or_false] at hz
    have hz := Nat.eq_of_beq_eq_true hz
    obtain ⟨ad, cap, e, h1, h2, h3, h4⟩ := hd
    obtain rfl : v = .slice ad xs.length cap := by simpa using e
    refine ⟨by simp only; omega, ?_⟩
    obtain ⟨cells, c1, c2⟩ := lists_of (n := xs.length) (p := fun i (cs : List Value) => ∃ y, xs[i]? = some y ∧ RdC w F a y cs ∧ ∃ g o, ad = some ⟨g, o, none⟩ ∧ F g ∧ w.rangeAt g (o + i * sz) cs) fun i hi => by
      obtain ⟨g, o, ha, hg, hc⟩ := h4 (by omega)
      obtain ⟨cs, d1, d2⟩ := hc i _ (List.getElem?_eq_getElem hi)
      exact ⟨cs, _, List.getElem?_eq_getElem hi, d1, g, o, ha, hg, fun j u hu => by rw [← hz]; exact d2 j u hu⟩
    refine ⟨cells, ⟨ad, cap, by rw [c1], by omega, h2, fun i cs hcs => ?_⟩, c1, fun i cs y hcs hy => ?_, fun k h0 hk => ?_⟩
    · obtain ⟨y, y1, y2, g, o, ha, hg, hr⟩ := c2 i cs hcs
      exact ⟨by rw [y2.len, hz], g, o, ha, hw.frz g hg, hr⟩
    · obtain ⟨y', y1, y2, _⟩ := c2 i cs hcs
      simp only at hy
      rw [hy] at y1; cases y1; exact y2
    · obtain ⟨g, o, ha, hg, hc⟩ := h4 (by omega)
      subst ha
      simp [Value.ownBlock] at hk
      exact .inl (hk ▸ hg)
  · rename_i id
    split at h
    · rename_i ty a xs hl
      cases h
      simp only [Bool.or_false] at hz
      have hz := Nat.eq_of_beq_eq_true hz
      obtain ⟨v', vs, h1, h2, h3⟩ := hw.cks _ (look_mem hl)
      obtain rfl : v = v' := by have := hd.1; rw [h1] at this; cases this; rfl
      obtain ⟨ad, cap, rfl, g1, g2⟩ := h2.any
      refine ⟨by simp only; omega, ?_⟩
      obtain ⟨cells, c1, c2⟩ := lists_of (n := xs.length) (p := fun i (cs : List Value) => ∃ y, xs[i]? = some y ∧ RdC w F a y cs ∧ ∃ g o, ad = some ⟨g, o, none⟩ ∧ g < w.heap.size ∧ w.rangeAt g (o + i * sz) cs) fun i hi => by
        obtain ⟨cs, d1, d2⟩ := h3.get i _ (List.getElem?_eq_getElem hi)
        obtain ⟨g, o, cap', he, _, _, _, hg, hcell, _⟩ := h2.form (by omega)
        injection he with e1 e2 e3
        exact ⟨cs, _, List.getElem?_eq_getElem hi, d1, g, o, e1, hg, fun j u hu => by rw [← hz, Nat.add_assoc]; exact hcell _ _ (d2 j u hu)⟩
      refine ⟨cells, ⟨ad, cap, by rw [c1], by omega, g2, fun i cs hcs => ?_⟩, c1, fun i cs y hcs hy => ?_, fun k h0 hk => .inr ⟨(id, .own ty a xs), ?_, ?_⟩⟩
      · obtain ⟨y, y1, y2, g, o, ha, hg, hr⟩ := c2 i cs hcs
        exact ⟨by rw [y2.len, hz], g, o, ha, hg, hr⟩
      · obtain ⟨y', y1, y2, _⟩ := c2 i cs hcs
        simp only at hy
        rw [hy] at y1; cases y1; exact y2
      · have hm := look_mem hl
        have : ∀ (l : List (Nat × Ck)) (p : Nat × Ck), p ∈ l → hasN p.1 [bx, id] = true → p ∈ pickH [bx, id] l := by
          intro l
          induction l with
          | nil => intro p hp; cases hp
          | cons q r ih =>
            intro p hp hh
            obtain ⟨qi, qc⟩ := q
            unfold pickH
            rcases List.mem_cons.1 hp with rfl | hp
            · rw [hh]; simp
            · split
              · exact List.mem_cons_of_mem _ (ih p hp hh)
              · exact ih p hp hh
        refine this _ _ hm ?_
        simp only [hasN]
        split
        · rfl
        · simp [Nat.beq_refl]
      · rw [h1]; exact own_bk hk
    · cases h
  · cases h
    obtain ⟨rfl, _⟩ := hd
    refine ⟨Nat.zero_le _, [], ⟨none, 0, rfl, Nat.le_refl _, Nat.zero_le _, fun i cs hcs => by simp at hcs⟩, rfl, fun i cs y hcs => by simp at hcs, fun k h0 hk => by simp [Value.ownBlock] at hk⟩
  · cases h
/-- The marks that a range over a function leaves. -/
def Mk (B : Base) (d : List Deferred) (w : World) : Prop := d = [] ∨ ∃ D, d = [{ target := .collected D, args := #[] }] ∧ B.w0.heap.size ≤ D ∧ w.heap[D]? = some (.deferred (some []))
section
variable {T : Tb} {sp : FuncId → Option Spec} {lp : Nat → Option LoopSp} {na : Nat} {itr : Nat → Option Nat} {P : Program}
theorem roundTs_ok {ts : Sl} {tmps : Array Value} (hg : ts.gm = 0) (hs : SlOk β F w ts tmps) {p q i : Nat} {l : List CV} {cs : List Value} (hi : i ≤ maxLen) (hd : DnL β F w l cs) :
    SlOk β F w (roundTs ts p q i l) ((tmps.setIfInBounds p (.int .i64 (i : Int))).setIfInBounds q (.agg cs.toArray)) := by
  have h1 : freeIn p ts = true := by unfold freeIn; rw [hg, tbk_eq]; simp
  have h2 := hs.put (d := p) (e := ⟨[], mkI .i64 (i : Int)⟩) (u := .int .i64 (i : Int)) h1 rfl (fun _ => mkI_dn (by
    have : (maxLen : Int) ≤ 9223372036854775807 := by decide
    simp only [inR]; omega)) (fun h => by cases h)
  have h3 : freeIn q (ts.put p ⟨[], mkI .i64 (i : Int)⟩) = true := by unfold freeIn Sl.put; simp only; rw [hg, tbk_eq]; simp
  exact h2.put (d := q) (e := ⟨[], .v (.agg l)⟩) h3 rfl (fun _ => ⟨cs, rfl, hd⟩) (fun h => by cases h)
theorem range_ok (hT : ∀ t i, T t = some i → TyOk P t i) (hsp : ∀ f S, sp f = some S → Valid P f S) (hit : ∀ g s, itr g = some s → IterOk P g s) {g : Operand} {ps : Array Tmp} {as bd : Code} {ts : Sl} {a : Act} {Qs : Exit → Sl → St → Prop} {Q : Exit → Act → World → Prop}
    (h : execR T sp lp B.na itr (.rangeFunc g ps as bd) ts st Qs) (hs : SlOk β F w ts a.tmps) (hw : Sat B β F st w) (hd : a.defers = [])
    (hQ : ∀ e ts' st' β' F' a' w', Qs e ts' st' → SlOk β' F' w' ts' a'.tmps → Sat B β' F' st' w' → Mk B a'.defers w' → Q e a' w') : (Code.rangeFunc g ps as bd).wp P Q a w := by
  unfold execR at h
  split at h
  case h_2 => exact h.elim
  rename_i gf bx p q hg hps hpl hgm
  split at h
  case h_2 => exact h.elim
  rename_i sz c ty hgf hlk
  split at h
  case h_2 => exact h.elim
  rename_i L hL
  split at h
  case h_2 => exact h.elim
  rename_i hz hna
  obtain ⟨Iv, i0, hR, hE⟩ := h
  have hna : B.na ≤ st.nx := hw.anc.1
  simp only [Bool.and_eq_true] at hpl
  have hgm := Nat.eq_of_beq_eq_true hgm
  have hps : ps = #[p, q] := by rw [← hps]
  subst hps
  obtain ⟨hce, hseq⟩ := hit _ _ hgf
  -- the iterator
  obtain ⟨lv, hgv, hlv⟩ : ∃ vs : List Value, a.eval g = .func (.func gf) #[] vs.toArray ∧ DnP β [(bx, 0)] vs := ev_dn hg rfl hs
  obtain ⟨gg, b, hb1, rfl, hb2⟩ := hlv
  obtain rfl : b = [] := hb2
  obtain ⟨gg', vs, hb3, hb4, hb5⟩ := hw.cks _ (look_mem hlk)
  obtain rfl : gg = gg' := by rw [hb1] at hb3; cases hb3; rfl
  obtain ⟨v1, v2, rfl, hv1, hv2⟩ := hb5
  obtain rfl : v2 = [] := hv2
  obtain ⟨v, rfl, hv, _⟩ : ∃ u, v1 = [u] ∧ Dn β F w c u ∧ u.oneCell' = true := by
    cases c <;> first | exact hv1 | (unfold backOf at hL; cases hL)
  obtain ⟨hmx, cells, hB, hlen, hcs, hown⟩ := backOf_ok (bx := bx) (sz := sz) hw hL hv hz
  have hpk : (bx, Ck.blk [c] ty) ∈ pickH (bx :: L.ks) st.h := by
    have : ∀ (l : List (Nat × Ck)) (r : Nat × Ck), r ∈ l → hasN r.1 (bx :: L.ks) = true → r ∈ pickH (bx :: L.ks) l := by
      intro l
      induction l with
      | nil => intro r hr; cases hr
      | cons q r ih =>
        intro r hr hh
        obtain ⟨qi, qc⟩ := q
        unfold pickH
        rcases List.mem_cons.1 hr with rfl | hr
        · rw [hh]; simp
        · split
          · exact List.mem_cons_of_mem _ (ih _ hr hh)
          · exact ih _ hr hh
    exact this _ _ (look_mem hlk) (by simp [hasN, Nat.beq_refl])
  have hw0 : Sat B β F ⟨st.nx, dropH (bx :: L.ks) st.h⟩ w := hw.subl (dropH_sub _ st.h)
  -- what the iterator reads stays
  have hK : ∀ k, (k = gg ∨ (0 < cells.length ∧ v.ownBlock = some k)) → k < w.heap.size ∧ ∀ β' F' st' W, Sat (reB st.nx β F ⟨st.nx, dropH (bx :: L.ks) st.h⟩ w) β' F' st' W → W.heap[k]? = w.heap[k]? := by
    intro k hk
    have key : (F k ∨ ∃ p ∈ pickH (bx :: L.ks) st.h, bk (β p.1) = some k) := by
      rcases hk with rfl | ⟨h0, hk⟩
      · exact .inr ⟨_, hpk, by rw [hb1]; rfl⟩
      · exact hown k h0 hk
    rcases key with hf | ⟨p, hp, hk⟩
    · exact ⟨hw.frz k hf, fun β' F' st' W S1 => unF hw0 S1 k hf⟩
    · exact ⟨(hw.own p ((pickH_sub _ st.h).subset hp) k hk).2.2, fun β' F' st' W S1 => aside_blk hw S1 hp hk⟩
  have hseq := hseq 2 gg v cells w (fun k => k = gg ∨ (0 < cells.length ∧ v.ownBlock = some k)) (hK gg (.inl rfl)).1 (by simp [World.cell?, hb4]) hB (.inl rfl) (fun k h0 hk => .inr ⟨h0, hk⟩)
  refine (wpIn_wide (n := 3)).1 ?_
  refine wpIn_rangeFunc_ownH (n := 3) (F := Fence.wide) rfl (by omega) hgv trivial (fun args w => run_callFunc hce args w) hseq (fun h k i hi => (k i hi).trans (h i hi)) (fun W l o o' hl _ _ _ k hk => World.putObj_heap_other (by have := (hK k hk).1; omega)) (Below.refl _ w) (fun _ => rfl)
    (fun pre W => (∃ β' F', Sat (reB st.nx β F ⟨st.nx, dropH (bx :: L.ks) st.h⟩ w) β' F' ⟨st.nx, dropH (bx :: L.ks) st.h⟩ W) ∧ (pre.map (·.1) <+: downN cells.length → Iv (cells.length - pre.length)))
    (fun c pre W => ∃ e st' β' F', ((c = .ret ∧ e = .ret) ∨ ∃ i, c = .exit i ∧ e = .exit i) ∧ Sat (reB st.nx β F ⟨st.nx, dropH (bx :: L.ks) st.h⟩ w) β' F' st' W ∧ (pre.map (·.1) <+: downN cells.length → Qs e ts ⟨st'.nx, app (pickH (bx :: L.ks) st.h) st'.h⟩))
    ?_ ?_ ⟨⟨β, F, reSat hw0 (Nat.le_refl _)⟩, fun _ => by rw [hlen]; exact i0⟩
    (fun x a' W => ∃ ts1 st1 β1 F1, exec T sp (fun _ => none) B.na bd ts1 st1 (bodyQ ⟨st.nx, dropH (bx :: L.ks) st.h⟩ Iv x.1 (fun e st' => Qs e ts ⟨st'.nx, app (pickH (bx :: L.ks) st.h) st'.h⟩)) ∧ SlOk β1 F1 W ts1 a'.tmps ∧ Sat (reB st.nx β F ⟨st.nx, dropH (bx :: L.ks) st.h⟩ w) β1 F1 st1 W)
    ?_ ?assign ?body ?done ?stop
  · rintro pre W W' row ⟨⟨β', F', S1⟩, hi⟩ hgr hr
    exact ⟨⟨β', F', S1.turnW ⟨row, hgr, hr⟩ (Nat.le_refl _)⟩, hi⟩
  · rintro c pre W W' row ⟨e, st', β', F', he, S1, hi⟩ hgr hr
    exact ⟨e, st', β', F', he, S1.turnW ⟨row, hgr, hr⟩ (Nat.le_refl _), hi⟩
  · rintro x a' _ W W' row ⟨ts1, st1, β1, F1, hx, h1, S1⟩ hgr hr
    exact ⟨ts1, st1, β1, F1, hx, h1.turn ⟨row, hgr, hr⟩, S1.turnW ⟨row, hgr, hr⟩ (Nat.le_refl _)⟩
  case assign =>
    rintro l pre x W K ⟨⟨β1, F1, S1⟩, hi⟩ hKK
    have hxl : x.1 < L.xs.length := by rw [← hlen]; exact x.2
    have hex := hR x.1 _ (List.getElem?_eq_getElem hxl)
    have x0 := unExt hw0 S1
    have hcx : cells.getD x.1 [] = cells[x.1]'x.2 := by rw [List.getD, List.getElem?_eq_getElem x.2]; rfl
    have hrd := (hcs x.1 _ _ (List.getElem?_eq_getElem x.2) (List.getElem?_eq_getElem hxl)).mono x0.f x0.k
    have hsl := roundTs_ok (p := p) (q := q) (i := x.1) (l := mkC L.a L.xs[x.1]) hgm (hs.ext x0) (by omega) (mkC_dn (β := β1) hrd)
    refine exec_in (n := 3 - 1 - 1) (B := reB st.nx β1 F1 ⟨st.nx, dropH (bx :: L.ks) st.h⟩ W) hT hsp as _ _ β1 F1 _ W _ _ hpl.1 (fun a w h => h) hex ?_ (reSat S1 (Nat.le_refl _)) ?_
    · have : (bkEnc cells x) = #[.int .i64 (x.1 : Int), .agg (cells[x.1]'x.2).toArray] := by unfold bkEnc; rw [hcx]
      rw [this]
      simpa using hsl
    · intro e ts1 st1 β2 F2 a2 W2 hm h2 S2
      cases e <;> simp only at hm <;> try exact hm.elim
      obtain ⟨hm, hbd⟩ := hm
      have S3 := unSat S1 (Nat.le_refl _) S2
      obtain ⟨β3, S4, _⟩ := mtSt_ok (B := reB st.nx β F ⟨st.nx, dropH (bx :: L.ks) st.h⟩ w) hm h2 S3
      refine hKK a2 W2 ⟨S2.only.size, fun k o _ hk ho => unN S1 S2 hk ho⟩ (fun k hk => ?_) ⟨⟨β3, F2, S4⟩, hi⟩ ⟨ts1, st1, β2, F2, hbd, h2, S3⟩
      rw [(hK k hk).2 _ _ _ _ S3, (hK k hk).2 _ _ _ _ S1]
  case body =>
    rintro l pre x a1 W _ _ ⟨_, hi⟩ ⟨ts1, st1, β1, F1, hex, h1, S1⟩ hpn
    refine exec_in (n := 3 - 1 - 1) (B := reB st.nx β1 F1 st1 W) hT hsp bd _ _ β1 F1 _ W _ _ hpl.2 (fun a w h => h) hex h1 (reSat S1 S1.anc.1) ?_
    intro e ts2 st2 β2 F2 a2 W2 hq h2 S2
    have S3 := unSat S1 (Nat.le_refl _) S2
    have kf : KeepsFrom w.heap.size W W2 := ⟨S2.only.size, fun k o _ hk ho => unN S1 S2 hk ho⟩
    have pos : (pre ++ [x]).map (·.1) <+: downN cells.length → pre.map (·.1) <+: downN cells.length ∧ cells.length - pre.length = x.1 + 1 ∧ cells.length - (pre ++ [x]).length = x.1 := by
      intro hp
      rw [List.map_append] at hp
      refine ⟨(List.prefix_append _ _).trans hp, ?_⟩
      have hg : (downN cells.length)[pre.length]? = some x.1 := by
        obtain ⟨t, ht⟩ := hp
        rw [← ht]
        simp
      have := downN_get _ _ _ hg
      simp only [List.length_append, List.length_cons, List.length_nil]
      omega
    cases e with
    | normal =>
      obtain ⟨hm, hst⟩ := hq
      obtain ⟨β3, S4, _⟩ := mtSt_ok (B := reB st.nx β F ⟨st.nx, dropH (bx :: L.ks) st.h⟩ w) hm h2 S3
      refine ⟨kf, fun k hk => ?_, ⟨β3, F2, S4⟩, fun hp => ?_⟩
      · rw [(hK k hk).2 _ _ _ _ S3, (hK k hk).2 _ _ _ _ S1]
      · obtain ⟨p1, p2, p3⟩ := pos hp
        have := hi p1
        rw [p2] at this
        rw [p3]
        exact hst this
    | ret =>
      refine ⟨kf, .ret, st2, β2, F2, .inl ⟨rfl, rfl⟩, S3, fun hp => ?_⟩
      obtain ⟨p1, p2, p3⟩ := pos hp
      have := hi p1
      rw [p2] at this
      exact hq this
    | exit i =>
      refine ⟨kf, .exit i, st2, β2, F2, .inr ⟨i, rfl, rfl⟩, S3, fun hp => ?_⟩
      obtain ⟨p1, p2, p3⟩ := pos hp
      have := hi p1
      rw [p2] at this
      exact hq this
    | _ => exact hq.elim
  case done =>
    rintro D xs W hD hxs ⟨⟨β1, F1, S1⟩, hi⟩ hDk
    have hl : xs.length = cells.length := by
      have := congrArg List.length hxs
      rw [downN_len] at this
      simpa using this
    have hi := hi (by rw [hxs]; exact List.prefix_refl _)
    rw [hl, Nat.sub_self] at hi
    exact hQ _ _ _ _ _ _ _ (hE hi) (hs.ext (unExt hw0 S1)) (aside_back hw S1) (.inr ⟨D, by simp [hd], Nat.le_trans hw.only.size hD, hDk⟩)
  case stop =>
    rintro D c pre W hD hp ⟨e, st', β', F', he, S1, hi⟩ hDk
    have hq := hi hp
    have fin := fun e' (hq : Qs e' ts ⟨st'.nx, app (pickH (bx :: L.ks) st.h) st'.h⟩) => hQ e' _ _ _ _ { a with defers := { target := .collected D, args := #[] } :: a.defers } _ hq (hs.ext (unExt hw0 S1)) (aside_back hw S1) (.inr ⟨D, by simp [hd], Nat.le_trans hw.only.size hD, hDk⟩)
    rcases he with ⟨rfl, rfl⟩ | ⟨i, rfl, rfl⟩
    · exact wpIn_ret (fin _ hq)
    · exact wpIn_exit (fin _ hq)
/-- The rest of a text, behind a range over a function: the mark stays. -/
theorem exec_mk (hm : P.follows .mixedOrders = true) (hT : ∀ t i, T t = some i → TyOk P t i) (hsp : ∀ f S, sp f = some S → Valid P f S) (c : Code) {ts : Sl} {a : Act} {Qs : Exit → Sl → St → Prop} {Q : Exit → Act → World → Prop}
    (h : exec T sp lp B.na c ts st Qs) (hs : SlOk β F w ts a.tmps) (hw : Sat B β F st w) (hd : Mk B a.defers w)
    (hQ : ∀ e ts' st' β' F' a' w', Qs e ts' st' → SlOk β' F' w' ts' a'.tmps → Sat B β' F' st' w' → Mk B a'.defers w' → Q e a' w') : c.wp P Q a w :=
  exec_okD (B := reB B.na β F st w) (ds := a.defers) hm hT hsp c ts st β F a w Qs Q h hs (reSat hw hw.anc.1) rfl fun e ts' st' β' F' a' w' h1 h2 h3 h4 =>
    hQ _ _ _ _ _ _ _ h1 h2 (unSat hw (Nat.le_refl _) h3) (by
      rw [h4]
      rcases hd with hd | ⟨D, d1, d2, d3⟩
      · exact .inl hd
      · exact .inr ⟨D, d1, d2, unN hw h3 d3 rfl⟩)
theorem execR_ok (hm : P.follows .mixedOrders = true) (hT : ∀ t i, T t = some i → TyOk P t i) (hsp : ∀ f S, sp f = some S → Valid P f S) (hit : ∀ g s, itr g = some s → IterOk P g s) :
    ∀ (c : Code) (ts : Sl) (st : St) (β : Nat → Option Value) (F : Nat → Prop) (a : Act) (w : World) (Qs : Exit → Sl → St → Prop) (Q : Exit → Act → World → Prop),
      execR T sp lp B.na itr c ts st Qs → SlOk β F w ts a.tmps → Sat B β F st w → a.defers = [] →
      (∀ e ts' st' β' F' a' w', Qs e ts' st' → SlOk β' F' w' ts' a'.tmps → Sat B β' F' st' w' → Mk B a'.defers w' → Q e a' w') → c.wp P Q a w
  | .seq x y, ts, st, β, F, a, w, Qs, Q, h, hs, hw, hd, hQ => by
    unfold execR at h
    split at h
    · refine wp_seq (exec_okD hm hT hsp x ts st β F a w _ _ h hs hw hd fun e ts' st' β' F' a' w' h1 h2 h3 h4 => ?_)
      cases e with
      | normal => exact execR_ok hm hT hsp hit y ts' st' β' F' a' w' _ _ h1 h2 h3 h4 hQ
      | _ => exact hQ _ _ _ _ _ _ _ h1 h2 h3 (.inl h4)
    · refine wp_seq (execR_ok hm hT hsp hit x ts st β F a w _ _ h hs hw hd fun e ts' st' β' F' a' w' h1 h2 h3 h4 => ?_)
      cases e with
      | normal =>
        simp only at h1
        split at h1
        · exact exec_mk hm hT hsp y h1 h2 h3 h4 hQ
        · exact h1.elim
      | _ => exact hQ _ _ _ _ _ _ _ h1 h2 h3 h4
  | .block id x, ts, st, β, F, a, w, Qs, Q, h, hs, hw, hd, hQ => by
    unfold execR at h
    refine wp_block (execR_ok hm hT hsp hit x ts st β F a w _ _ h hs hw hd fun e ts' st' β' F' a' w' h1 h2 h3 h4 => ?_)
    cases e with
    | exit i =>
      simp only [Exit.inBlock] at h1 ⊢
      split at h1
      · rename_i e
        rw [if_pos (Nat.eq_of_beq_eq_true e)]
        exact hQ _ _ _ _ _ _ _ h1 h2 h3 h4
      · rename_i e
        rw [if_neg (Nat.ne_of_beq_eq_false e)]
        exact hQ _ _ _ _ _ _ _ h1 h2 h3 h4
    | _ => exact hQ _ _ _ _ _ _ _ h1 h2 h3 h4
  | .rangeFunc g ps as bd, ts, st, β, F, a, w, Qs, Q, h, hs, hw, hd, hQ => range_ok hT hsp hit h hs hw hd hQ
  | .skip, ts, st, β, F, a, w, Qs, Q, h, hs, hw, hd, hQ => by
    unfold execR at h
    split at h
    · exact exec_mk hm hT hsp _ h hs hw (.inl hd) hQ
    · exact h.elim
  | .region _ _ _, ts, st, β, F, a, w, Qs, Q, h, hs, hw, hd, hQ => by
    unfold execR at h
    split at h
    · exact exec_mk hm hT hsp _ h hs hw (.inl hd) hQ
    · exact h.elim
  | .cond _ _ _, ts, st, β, F, a, w, Qs, Q, h, hs, hw, hd, hQ => by
    unfold execR at h
    split at h
    · exact exec_mk hm hT hsp _ h hs hw (.inl hd) hQ
    · exact h.elim
  | .loop _, ts, st, β, F, a, w, Qs, Q, h, hs, hw, hd, hQ => by
    unfold execR at h
    split at h
    · exact exec_mk hm hT hsp _ h hs hw (.inl hd) hQ
    · exact h.elim
  | .exit _, ts, st, β, F, a, w, Qs, Q, h, hs, hw, hd, hQ => by
    unfold execR at h
    split at h
    · exact exec_mk hm hT hsp _ h hs hw (.inl hd) hQ
    · exact h.elim
  | .ret, ts, st, β, F, a, w, Qs, Q, h, hs, hw, hd, hQ => by
    unfold execR at h
    split at h
    · exact exec_mk hm hT hsp _ h hs hw (.inl hd) hQ
    · exact h.elim
  | .scope _, ts, st, β, F, a, w, Qs, Q, h, hs, hw, hd, hQ => by
    unfold execR at h
    split at h
    · exact exec_mk hm hT hsp _ h hs hw (.inl hd) hQ
    · exact h.elim
  | .label _, ts, st, β, F, a, w, Qs, Q, h, hs, hw, hd, hQ => by
    unfold execR at h
    split at h
    · exact exec_mk hm hT hsp _ h hs hw (.inl hd) hQ
    · exact h.elim
  | .goto _, ts, st, β, F, a, w, Qs, Q, h, hs, hw, hd, hQ => by
    unfold execR at h
    split at h
    · exact exec_mk hm hT hsp _ h hs hw (.inl hd) hQ
    · exact h.elim
  | .refuse _, ts, st, β, F, a, w, Qs, Q, h, hs, hw, hd, hQ => by
    unfold execR at h
    split at h
    · exact exec_mk hm hT hsp _ h hs hw (.inl hd) hQ
    · exact h.elim
end
/-- The function's text, with ranges over functions. -/
def runR (T : Tb) (sp : FuncId → Option Spec) (lp : Nat → Option LoopSp) (na : Nat) (itr : Nat → Option Nat) (fn : Func) (args : List Vl) (st : St) (R : Rs → St → Prop) : Prop :=
  match fn.body with
  | some c => execR T sp lp na itr c (initTs fn.ntmps args) st fun e ts' st' => (match e with
    | .ret => (match resL T ts' st' fn.results.toList with | some l => R (mkRs l) st' | none => False)
    | .normal => (match resL T ts' st' fn.results.toList with | some l => R (mkRs l) st' | none => False)
    | _ => False)
  | none => False
section
variable {T : Tb} {sp : FuncId → Option Spec} {lp : Nat → Option LoopSp} {na : Nat} {itr : Nat → Option Nat} {P : Program}
theorem runR_ok (hm : P.follows .mixedOrders = true) (hT : ∀ t i, T t = some i → TyOk P t i) (hsp : ∀ f S, sp f = some S → Valid P f S) (hit : ∀ g s, itr g = some s → IterOk P g s) {f : FuncId} {fn : Func} (hf : P.funcs[f]? = some fn) {args : List Vl} {st : St} {R : Rs → St → Prop}
    (h : runR T sp lp na itr fn args st R) : CallsS P f na args st R := by
  intro B β F w vs hB hd hw
  subst hB
  unfold runR at h
  split at h
  · rename_i c hc
    refine (callsIn_wide (n := 0)).1 (callsIn_of_wp_marks hf hc trivial ?_)
    refine (wpIn_wide (n := 0)).2 ?_
    refine execR_ok hm hT hsp hit c _ st β F _ w _ _ h (initTs_ok hd) hw rfl fun e ts' st' β' F' a' w' h1 h2 h3 h4 => ?_
    have fin : ∀ l, resL T ts' st' fn.results.toList = some l → R (mkRs l) st' → LeavesInM Fence.wide 0 P fn a'.tmps (fun e w' => ∃ u r st' β' F', e = .returned u ∧ R r st' ∧ Sat B β' F' st' w' ∧ DnR β' F' w' r u) a'.defers .returning w' := by
      intro l hl hR
      have last : ∀ W, SlOk β' F' W ts' a'.tmps → Sat B β' F' st' W → ∃ v, (results fn a'.tmps).run P W = .ok v W ∧ ∃ u r st' β' F', Ending.returned v = .returned u ∧ R r st' ∧ Sat B β' F' st' W ∧ DnR β' F' W r u := by
        intro W h2 h3
        obtain ⟨us, g1, g2⟩ := resL_ok hT h2 h3 hl
        obtain ⟨u, g3, g4⟩ := results_ok (P := P) g1 g2
        exact ⟨u, g3, u, _, st', β', F', rfl, hR, h3, g4⟩
      rcases h4 with h4 | ⟨D, d1, d2, d3⟩
      · rw [h4]
        exact last w' h2 h3
      · rw [d1]
        have ht : Turns B.w0.heap.size w' (w'.putObj D (.deferred none)) := ⟨some D, grownBy_putObj' _ _ _, fun r e => by cases e; exact ⟨d2, _, d3, rfl⟩⟩
        exact ⟨by simp, .inl ⟨D, _, rfl, run_takeDeferred d3, last _ (h2.turn ht) (h3.turnW ht (Nat.le_refl _))⟩⟩
    cases e <;> simp only at h1 <;> first
      | exact h1.elim
      | (split at h1
         · rename_i l hl; exact fin l hl h1
         · exact h1.elim)
  · exact h.elim
theorem valid_PR {f : FuncId} (hc : CallOk P f) {t : PT}
    (h : alVs t.ps (fun K => alRs t.rg (fun K => K ()) K) fun x => t.pre x → rngVs (t.args x) → rngH (t.h x) → CallsS P f t.na (t.args x) ⟨t.na, t.h x⟩ (t.fin x)) : Valid P f (.full t.call) := by
  have h := alVs_ok (fun K h => alRs_ok (fun K (h : K ()) r => h) h) h
  have := valid_full3 hc (t := t.ft) (Fin := t.fin) (fun x r' st' hf => by
    obtain ⟨y, y1, y2⟩ := exVs_ok (fun K h => exRs_ok (fun K (h : K ()) => ⟨(), h⟩) h) hf
    exact ⟨y, y2, y1⟩) h
  exact ⟨this.1, fun args st K hS => this.2 args st K (PT.call_ft hS)⟩
theorem valid_any {f : FuncId} (hc : CallOk P f) {l : List PT} (h : ∀ t ∈ l, Valid P f (.full t.call)) : Valid P f (.full (callsP l)) := by
  refine ⟨hc, fun args st K hS => ?_⟩
  induction l with
  | nil => exact hS.elim
  | cons t r ih =>
    unfold callsP at hS
    split at hS
    · exact (h t (List.mem_cons_self ..)).2 args st K hS
    · exact ih (fun t ht => h t (List.mem_cons_of_mem _ ht)) hS
end
end
end Go.Proofs.Ytejeghfddnbhaaa.V
