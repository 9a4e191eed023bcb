/-
  A symbolic run of a function's text: operations with conditions, or that change the memory; regions.
-/
import Derived.Test.YtnbbooilapelmaaGreatDoorKitVu
import Derived.Test.YtnbbooilapelmaaGreatDoorKitVx
set_option linter.unusedVariables false
set_option linter.unusedSimpArgs false
namespace Go.Proofs.YtnbbooilapelmaaGreatDoor.V
open Go.RowKit Go.Proofs.YtnbbooilapelmaaGreatDoor
def opBinP (op : BinOp) (x y : Option Rs) (K : Rs → Prop) : Prop :=
  match x, y with
  | some (.v (.one c)), some (.v (.one d)) => (match intV c, intV d with
    | some (k, a), some (k', b) => (match op with
      | .shl => opShl (isLit c && isLit d) (isLit d) k a b K
      | .shr => opShr (isLit c && isLit d) (isLit d) k a b K
      | _ => (match eqK k k' with | true => opInt (isLit c && isLit d) op k a b K | false => False))
    | _, _ => (match op, c, d with
      | .add, .val (.string a), .val (.string b) => a.size + b.size ≤ maxLen ∧ K (.v (.one (.val (.string (a ++ b)))))
      | _, _, _ => False))
  | _, _ => False
/-- An element of several cells. -/
def idxAllW (e : Int) (w : Nat) (K : List CV → Prop) : Nat → Nat → List CV → Prop
  | _, 0, _ => True
  | j, n + 1, l => (e = (j : Int) → K (l.take w)) ∧ idxAllW e w K (j + 1) n (l.drop w)
def idxAll (e : Int) (K : CV → Prop) : Nat → List CV → Prop
  | _, [] => True
  | j, c :: r => (e = (j : Int) → K c) ∧ idxAll e K (j + 1) r
def flat1 : List CV → Bool
  | [] => true
  | .run .. :: _ => false
  | _ :: r => flat1 r
/-- An array by value, at a place. -/
def opIndexAgg (T : Tb) (t : TypeId) (l : List CV) (i : Option Rs) (K : Rs → Prop) : Prop :=
  match T t, i with
  | some ti, some (.v (.one d)) => (match intV d with
    | some (_, e) => (match ti.el with
      | (n, el) => (match T el with
        | some ie => (match ie.agg, Nat.beq ie.n 1, Nat.beq l.length n, Nat.blt 0 n, flat1 l with
          | false, true, true, true, true => (0 ≤ e ∧ e < (n : Int)) ∧ idxAll e (fun c => K (.v (.one c))) 0 l
          | false, true, _, _, _ => (match runAt 0 n l with
            | some (k, d) => (0 ≤ e ∧ e < (n : Int)) ∧ K (mkI k (d.getD e.toNat 0))
            | none => False)
          | true, _, _, true, true => (match Nat.beq l.length (n * ie.n), isLit d with
            | true, true => (0 ≤ e ∧ e < (n : Int)) ∧ K (.v (.agg ((l.drop (e.toNat * ie.n)).take ie.n)))
            | true, false => (0 ≤ e ∧ e < (n : Int)) ∧ idxAllW e ie.n (fun m => K (.v (.agg m))) 0 n l
            | false, _ => False)
          | _, _, _, _, _ => False)
        | none => False))
    | none => False)
  | _, _ => False
section
variable (T : Tb) (sp : FuncId → Option Spec)
def ptrVs : List (Nat × Nat) → List Vl
  | [] => []
  | (id, off) :: r => .one (.ptr id off) :: ptrVs r
/-- Arguments, and behind them what a closure has captured. -/
def appV : List Vl → List Vl → List Vl
  | [], m => m
  | a :: l, m => a :: appV l m
def appP (l : Option (List Vl)) (cap : List (Nat × Nat)) : Option (List Vl) := match l with | some l => some (appV l (ptrVs cap)) | none => none
def callF (f : FuncId) (l : Option (List Vl)) (st : St) (K : Rs → St → Prop) : Prop :=
  match sp f, l with
  | some (.tot S), some l => (match S l with
    | some r => K r st
    | none => (match S (lendVs st l) with
      | some r => (match cloR r with | some _ => K r st | none => False)
      | none => False))
  | some (.pre S), some l => frzVs l st fun l' st' => S l' fun r => K r st'
  | some (.full S), some l => S l st K
  | _, _ => False
def isNilS : Option Rs → Bool | some (.v (.one (.val (.slice none 0 0)))) => true | _ => false
/-- Is a slice nil? -/
def nilC (c : CV) (st : St) (K : Bool → Prop) : Prop :=
  match c with
  | .val (.slice none 0 0) => K true
  | .rd _ l => (l = [] → K true) ∧ K false
  | .sl id => (match look st.h id with | some (.own _ _ l) => (l = [] → K true) ∧ K false | _ => False)
  | .sv _ _ _ n => (n = 0 → K true) ∧ K false
  | _ => False
def opNilS (T : Tb) (op : BinOp) (t : TypeId) (c : CV) (st : St) (K : Rs → Prop) : Prop :=
  match T t with
  | some i => (match i.kd, op with
    | .slice _, .eql => nilC c st fun b => K (cmpR true b)
    | .slice _, .neq => nilC c st fun b => K (cmpR true (!b))
    | _, _ => False)
  | none => False
/-- What computes under a condition: no memory. -/
def stepP (o : Oper) (ch : List (Nat × Bool)) (ts : Sl) (st : St) (K : Rs → Prop) : Prop :=
  match o.op with
  | .binOp op t x y _ => (match isNilS (ev ts ch y), ev ts ch x with
    | true, some (.v (.one c)) => opNilS T op t c st K
    | _, x => opBinP op x (ev ts ch y) K)
  | .indexAddr t x i => opIndexAddr2 T t (ev ts ch x) (ev ts ch i) st K
  | .slice t x lo hi none => opSlice T t (ev ts ch x) (bndV ts ch lo) (bndV ts ch hi) st K
  | .index t x i => (match ev ts ch x with
    | some (.v (.agg l)) => opIndexAgg T t l (ev ts ch i) K
    | x => opIndex T t x (ev ts ch i) st fun r _ => K r)
  | _ => False
def isP (o : Oper) : Bool := match o.op with | .slice _ _ none none none => false | .binOp .. | .indexAddr .. | .index .. | .slice .. => true | _ => false
/-- Does it leave variables as they are? -/
def isA (o : Oper) : Bool :=
  match o.op with
  | .store .. => false
  | .call c => (match c.callee with
    | .value (.func f) => (match sp f with | some (.full _) => false | _ => true)
    | .value _ => false
    | .builtin .copy => false
    | .builtin .clear => false
    | _ => true)
  | _ => true
def opStep (o : Oper) (ch : List (Nat × Bool)) (ts : Sl) (st : St) (K : Rs → St → Prop) : Prop :=
  match o.op with
  | .box t x => opBox t (ev ts ch x) st K
  | .alloc t => opAlloc T t st K
  | .store t x y => (match ev ts ch x with
    | some (.v (.one (.ptr id off))) => opStore2 T t (some (.v (.one (.ptr id off)))) (ev ts ch y) st K
    | x => opStoreE2 T t x (ev ts ch y) st K)
  | .load t x => (match ev ts ch x with
    | some (.v (.one (.ea id sz ix c n j))) => opLoadA T t (some (.v (.one (.ea id sz ix c n j)))) st K
    | x => opLoadE T t x st K)
  | .makeSlice t x y => opMake T t (ev ts ch x) (ev ts ch y) st K
  | .range t x => opRange T t (ev ts ch x) st K
  | .next x true => opNext (ev ts ch x) st K
  | .makeMap t none => opMakeMap T t st K
  | .lookup t x i ok => opLookup T t (ev ts ch x) (ev ts ch i) ok st K
  | .mapUpdate t x i y => opMapUpd T t (ev ts ch x) (ev ts ch i) (ev ts ch y) st K
  | .slice t x lo hi m => (match ev ts ch x, lo, hi, m with
    | some (.v (.one (.ptr id off))), none, none, none => opSliceArr T t id off st K
    | _, _, _, _ => stepP T o ch ts st fun r => K r st)
  | .binOp .. => stepP T o ch ts st fun r => K r st
  | .indexAddr .. => stepP T o ch ts st fun r => K r st
  | .index .. => stepP T o ch ts st fun r => K r st
  | .buildSlice t n ps => opBuildSlice2 T t n ps.toList ts ch st K
  | .call c => (match c.callee with
    | .value (.func f) => callF sp f (argsOf ts ch c.args.toList) st K
    | .value (.tmp x) => (match ev ts ch (.tmp x) with
      | some (.v (.one (.val (.func (.func f) _ _)))) => callF sp f (argsOf ts ch c.args.toList) st K
      | some (.v (.one (.fn f cap))) => callF sp f (appP (argsOf ts ch c.args.toList) cap) st K
      | _ => False)
    | .builtin .append => (match c.argTypes.toList, c.args.toList with
      | [t, t'], [x, y] => (match Nat.beq t t' with | true => opAppend2 T t (ev ts ch x) (ev ts ch y) st K | false => False)
      | _, _ => False)
    | .builtin .copy => (match c.argTypes.toList, c.args.toList with
      | [t, _], [x, y] => opCopy T t (ev ts ch x) (ev ts ch y) st K
      | _, _ => False)
    | .builtin .clear => (match c.argTypes.toList, c.args.toList with
      | [t], [x] => opClear T t (ev ts ch x) st K
      | _, _ => False)
    | _ => False)
  | _ => False
end
section
variable {T : Tb} {sp : FuncId → Option Spec} {P : Program} {B : Base} {β : Nat → Option Value} {F : Nat → Prop} {w : World} {st : St}
theorem ptrVs_dn : ∀ {c : List (Nat × Nat)} {l : List Value}, DnP β c l → DnVs β F w (ptrVs c) l
  | [], l, h => h
  | (id, off) :: r, l, h => by obtain ⟨g, b, h1, rfl, h2⟩ := h; exact ⟨_, b, rfl, ⟨g, h1, rfl⟩, ptrVs_dn h2⟩
theorem appV_dn : ∀ {a b : List Vl} {l m : List Value}, DnVs β F w a l → DnVs β F w b m → DnVs β F w (appV a b) (l ++ m)
  | [], b, l, m, h, h' => by rw [show l = [] from h]; exact h'
  | v :: a, b, l, m, h, h' => by obtain ⟨x, r, rfl, h1, h2⟩ := h; exact ⟨x, r ++ m, rfl, h1, appV_dn h2 h'⟩
theorem opBinP_ok {op : BinOp} {x y : Option Rs} {K : Rs → Prop} (t : TypeId) (h : opBinP op x y K) {u v : Value} (hx : ∀ r, x = some r → DnR β F w r u) (hy : ∀ r, y = some r → DnR β F w r v) :
    ∃ z s, (∀ w', (binOp op t u v).run P w' = .ok z w') ∧ K s ∧ DnR β F w s z ∧ ∀ p q w', (eqGuard op t p q u v).run P w' = .ok () w' := by
  unfold opBinP at h
  split at h
  · rename_i c d
    split at h
    · rename_i k a k' b h1 h2
      obtain ⟨rfl, ra⟩ := intV_dn h1 (hx _ rfl)
      obtain ⟨rfl, rb⟩ := intV_dn h2 (hy _ rfl)
      have hg : ∀ p q w', (eqGuard op t p q (.int k a) (.int k' b)).run P w' = .ok () w' := fun p q w' => by cases op <;> simp [eqGuard]
      split at h
      · obtain ⟨v, s, h3, h4, h5⟩ := opShl_ok (P := P) (β := β) (F := F) (w := w) (k' := k') t h
        exact ⟨v, s, h3, h4, h5, hg⟩
      · obtain ⟨v, s, h3, h4, h5⟩ := opShr_ok (P := P) (β := β) (F := F) (w := w) (k' := k') t h ra
        exact ⟨v, s, h3, h4, h5, hg⟩
      · split at h
        · rename_i he
          have := eqK_eq he
          subst this
          obtain ⟨v, s, h3, h4, h5⟩ := opInt_ok (P := P) (β := β) (F := F) (w := w) t h ra
          exact ⟨v, s, h3, h4, h5, hg⟩
        · exact h.elim
    · split at h
      · rename_i a b _
        obtain ⟨h1, h2⟩ := h
        obtain ⟨rfl, _⟩ := hx _ rfl
        obtain ⟨rfl, _⟩ := hy _ rfl
        have hm : (maxLen : Int) ≤ 9223372036854775807 := by decide
        refine ⟨.string (a ++ b), _, fun w' => ?_, h2, ⟨rfl, ?_⟩, fun p q w' => by simp [eqGuard]⟩
        · have := run_string_add_sum (P := P) w' a b (by omega)
          simpa [binOp] using this
        · show (a ++ b).size ≤ maxLen
          simpa using h1
      · exact h.elim
  · exact h.elim
theorem Sat.below (h : Sat B β F st w) {w' : World} (hb : Below w.heap.size w w') {F' : Nat → Prop} (hf : ∀ k, F k → F' k) (hf' : ∀ k, F' k → F k ∨ (w.heap.size ≤ k ∧ k < w'.heap.size)) : Ext β F w β F' w' ∧ Sat B β F' st w' := by
  have hx : Ext β F w β F' w' := ⟨fun _ _ h => h, hf, fun k hk => hb.block k (h.frz k hk)⟩
  refine ⟨hx, ⟨h.only.trans (Only.of_below hb), h.fresh, fun p hp => ?_, fun p hp k hk => ?_, h.sep, ⟨fun k hk => ?_, h.frz.gl.ext hx.f hx.k⟩, fun k hk => hf k (h.f1 k hk), fun k hk => ?_, h.anc⟩⟩
  · have hc := h.cks p hp
    cases hq : p.2 with
    | blk cells ty =>
      rw [hq] at hc
      obtain ⟨g, vs, h1, h2, h3⟩ := hc
      exact ⟨g, vs, h1, by rw [hb.block g (Array.getElem?_eq_some_iff.1 h2).1]; exact h2, h3.ext hx⟩
    | own ty a xs =>
      rw [hq] at hc
      obtain ⟨v, vs, h1, h2, h3⟩ := hc
      exact ⟨v, vs, h1, h2.below' hb, h3.mono hx.f hx.k⟩
    | xk c => rw [hq] at hc; exact Xk.keep hx hc fun k hk => hb.block k (h.own p hp k hk).2.2
  · obtain ⟨h1, h2, h3⟩ := h.own p hp k hk
    refine ⟨h1, fun h4 => ?_, Nat.lt_of_lt_of_le h3 hb.size⟩
    rcases hf' k h4 with h5 | h5
    · exact h2 h5
    · omega
  · rcases hf' k hk with h5 | h5
    · exact Nat.lt_of_lt_of_le (h.frz k h5) hb.size
    · exact h5.2
  · rcases hf' k hk with h5 | h5
    · exact h.f2 k h5
    · exact .inr (.inr (Nat.le_trans h.only.size h5.1))
theorem idxAll_ok {e : Int} {K : CV → Prop} : ∀ {l : List CV} {j : Nat}, idxAll e K j l → ∀ (i : Nat) c, l[i]? = some c → e = ((j + i : Nat) : Int) → K c
  | c :: r, j, h, 0, c', hc, he => by
    obtain rfl : c = c' := by simpa using hc
    exact h.1 (by simpa using he)
  | c :: r, j, h, i + 1, c', hc, he => idxAll_ok h.2 i c' (by simpa using hc) (by rw [he]; congr 1; omega)
theorem flat1_get : ∀ {l : List CV} {vs : List Value}, flat1 l = true → DnL β F w l vs → ∀ (i : Nat) c, l[i]? = some c → ∃ u, vs[i]? = some u ∧ Dn β F w c u
  | c :: r, vs, hf, hd, i, c', hc => by
    obtain ⟨a, b, rfl, h1, h2⟩ := hd
    have key : ∃ u, a = [u] ∧ Dn β F w c u ∧ flat1 r = true := by
      cases c <;> first | (simp [flat1] at hf; done) | (obtain ⟨u, e, h3, _⟩ := h1; exact ⟨u, e, h3, by simpa [flat1] using hf⟩)
    obtain ⟨u, rfl, h3, h4⟩ := key
    cases i with
    | zero => obtain rfl : c = c' := by simpa using hc
              exact ⟨u, rfl, h3⟩
    | succ i => simpa using flat1_get h4 h2 i c' (by simpa using hc)
theorem flat1_cut : ∀ {l : List CV} {vs : List Value}, flat1 l = true → DnL β F w l vs → (∀ n, DnL β F w (l.take n) (vs.take n)) ∧ ∀ a n, DnL β F w ((l.drop a).take n) ((vs.drop a).take n)
  | [], vs, hf, hd => by rw [show vs = [] from hd]; exact ⟨fun n => by simp [DnL], fun a n => by simp [DnL]⟩
  | c :: r, vs, hf, hd => by
    obtain ⟨a, b, rfl, h1, h2⟩ := hd
    have key : ∃ u, a = [u] ∧ flat1 r = true := by
      cases c <;> first | (simp [flat1] at hf; done) | (obtain ⟨u, e, h3, _⟩ := h1; exact ⟨u, e, by simpa [flat1] using hf⟩)
    obtain ⟨u, rfl, h4⟩ := key
    obtain ⟨k1, k2⟩ := flat1_cut h4 h2
    have t1 : ∀ n, DnL β F w ((c :: r).take n) (([u] ++ b).take n) := fun n => by
      cases n with
      | zero => simp [DnL]
      | succ n => exact ⟨[u], b.take n, by simp, h1, k1 n⟩
    refine ⟨t1, fun a n => ?_⟩
    cases a with
    | zero => exact t1 n
    | succ a => exact k2 a n
theorem idxAllW_ok {e : Int} {wd : Nat} {K : List CV → Prop} : ∀ {n j : Nat} {l : List CV}, idxAllW e wd K j n l → ∀ i, i < n → e = ((j + i : Nat) : Int) → K ((l.drop (i * wd)).take wd)
  | n + 1, j, l, h, 0, _, he => by simpa using h.1 (by simpa using he)
  | n + 1, j, l, h, i + 1, hi, he => by
    have := idxAllW_ok h.2 i (by omega) (by rw [he]; congr 1; omega)
    rw [List.drop_drop] at this
    rw [show (i + 1) * wd = wd + i * wd by rw [Nat.succ_mul]; omega]
    exact this
theorem opIndexAgg_ok (hT : ∀ t i, T t = some i → TyOk P t i) {t : TypeId} {l : List CV} {i : Option Rs} {K : Rs → Prop} (h : opIndexAgg T t l i K) {u v : Value} (hx : DnR β F w (.v (.agg l)) u) (hi : ∀ r, i = some r → DnR β F w r v) :
    ∃ z r, (∀ w', (Instr.index t u v).run P w' = .ok z w') ∧ K r ∧ DnR β F w r z := by
  unfold opIndexAgg at h
  split at h
  · rename_i ti d hti
    have hd := hi _ rfl
    split at h
    · rename_i k e hv
      obtain ⟨rfl, _⟩ := intV_dn hv hd
      split at h
      rename_i n el hel
      split at h
      · rename_i ie hie
        split at h
        · rename_i ha hn1 hln hn0 hfl
          have hn1 := Nat.eq_of_beq_eq_true hn1
          have hln := Nat.eq_of_beq_eq_true hln
          have hn0 : 0 < n := by simpa using hn0
          obtain ⟨⟨h0, h1⟩, h⟩ := h
          obtain ⟨vs, rfl, hd2⟩ := hx
          have hlt : e.toNat < l.length := by omega
          obtain ⟨u, g1, g2⟩ := flat1_get hfl hd2 e.toNat _ (List.getElem?_eq_getElem hlt)
          have he := (hT t ti hti).el (by rw [hel]; simp; omega)
          rw [hel] at he
          have hte := hT el ie hie
          have hsz := hte.size
          rw [hn1] at hsz
          obtain ⟨d, d1, d2⟩ := hte.desc
          refine ⟨u, _, ?_, idxAll_ok h e.toNat _ (List.getElem?_eq_getElem hlt) (by simp; omega), g2⟩
          intro w'
          have hagg : (isAgg el).run P w' = .ok false w' := by
            unfold isAgg
            rw [Sem.run_bind, run_underlying d1 w']
            rw [ha] at d2
            cases d <;> simp_all [isRowD]
          simp [Instr.index, asIntOf, run_underlying he.1, h0, h1, run_sizeOf' hsz, part, hagg, g1]
        · rename_i ha hn1 _
          have hn1 := Nat.eq_of_beq_eq_true hn1
          split at h
          · rename_i k' d' hr
            obtain ⟨⟨h0, h1⟩, h⟩ := h
            obtain ⟨vs, rfl, hd2⟩ := hx
            obtain ⟨_, r1, r2, r3, r4⟩ := runAt_ok hr hd2
            obtain ⟨q1, q2⟩ := getD_ok (j := e.toNat) (by omega) r2
            have he := (hT t ti hti).el (by rw [hel]; simp; omega)
            rw [hel] at he
            have hte := hT el ie hie
            have hsz := hte.size
            rw [hn1] at hsz
            obtain ⟨d, d1, d2⟩ := hte.desc
            have hcell := cell_of r3 (by omega) q2
            rw [Nat.zero_add] at hcell
            refine ⟨_, _, ?_, h, mkI_dn q1⟩
            intro w'
            have hagg : (isAgg el).run P w' = .ok false w' := by
              unfold isAgg
              rw [Sem.run_bind, run_underlying d1 w']
              rw [ha] at d2
              cases d <;> simp_all [isRowD]
            simp [Instr.index, asIntOf, run_underlying he.1, h0, h1, run_sizeOf' hsz, part, hagg, hcell]
          · exact h.elim
        · rename_i ha hn0 hfl
          have hn0 : 0 < n := by simpa using hn0
          obtain ⟨vs, rfl, hd2⟩ := hx
          have he := (hT t ti hti).el (by rw [hel]; simp; omega)
          rw [hel] at he
          have hte := hT el ie hie
          have hsz := hte.size
          obtain ⟨d', d1, d2⟩ := hte.desc
          have fin : 0 ≤ e → e < (n : Int) → K (.v (.agg ((l.drop (e.toNat * ie.n)).take ie.n))) → ∃ z r, (∀ w', (Instr.index t (.agg vs.toArray) (.int k e)).run P w' = .ok z w') ∧ K r ∧ DnR β F w r z := fun h0 h1 hK => by
            refine ⟨.agg ((vs.drop (e.toNat * ie.n)).take ie.n).toArray, _, fun w' => ?_, hK, ⟨_, rfl, (flat1_cut hfl hd2).2 _ _⟩⟩
            have hagg : (isAgg el).run P w' = .ok true w' := by
              unfold isAgg
              rw [Sem.run_bind, run_underlying d1 w']
              rw [ha] at d2
              cases d' <;> simp_all [isRowD]
            have hex : vs.toArray.extract (e.toNat * ie.n) (e.toNat * ie.n + ie.n) = ((vs.drop (e.toNat * ie.n)).take ie.n).toArray := by
              apply Array.ext'
              simp [List.extract_eq_take_drop]
            simp [Instr.index, asIntOf, run_underlying he.1, h0, h1, run_sizeOf' hsz, part, hagg, hex]
          split at h
          · exact fin h.1.1 h.1.2 h.2
          · have := idxAllW_ok h.2 e.toNat (by have := h.1; omega) (by have := h.1.1; simp; omega)
            exact fin h.1.1 h.1.2 this
          · exact h.elim
        · exact h.elim
      · exact h.elim
    · exact h.elim
  · exact h.elim
theorem gd_lt (hw : Sat B β F st w) {k : Nat} (h : Gd st β F k) : k < w.heap.size := by
  rcases h with h | ⟨p, hp, _, h2⟩
  · exact hw.frz k h
  · exact (hw.own p hp k h2).2.2
theorem run_eql_slice_nil {w : World} {t e : TypeId} {a : Option Addr} {l c : Nat} (h : P.underlying t = some (.slice e)) : (binOp .eql t (.slice a l c) (.slice none 0 0)).run P w = .ok (.bool a.isNone) w := by
  simp only [binOp]
  simp [run_equal_slice_nil w t e a l c h]
theorem isNilS_dn {y : Option Rs} (h : isNilS y = true) {v : Value} (hy : ∀ r, y = some r → DnR β F w r v) : v = .slice none 0 0 := by
  unfold isNilS at h
  split at h
  · exact (hy _ rfl).1
  · cases h
theorem nilC_ok {c : CV} {K : Bool → Prop} (h : nilC c st K) (hw : Sat B β F st w) {u : Value} (hd : Dn β F w c u) : ∃ ad n cp, u = .slice ad n cp ∧ K ad.isNone := by
  unfold nilC at h
  split at h
  · obtain ⟨rfl, _⟩ := hd; exact ⟨none, 0, 0, rfl, h⟩
  · rename_i sh l
    obtain ⟨ad, cap, e, _, _, _, hp⟩ := hd
    cases e
    refine ⟨ad, _, cap, rfl, ?_⟩
    cases ad with
    | none => refine h.1 ?_; cases l with
      | nil => rfl
      | cons x r => obtain ⟨g, o, e, _⟩ := hp (by simp); cases e
    | some _ => exact h.2
  · split at h
    · rename_i id ty b l hl
      obtain ⟨h1, ad, n, cp, rfl⟩ := hd
      obtain ⟨v, vs, h2, h3, h4⟩ := hw.cks _ (look_mem hl)
      rw [h1] at h2
      cases h2
      refine ⟨ad, n, cp, rfl, ?_⟩
      cases ad with
      | none => refine h.1 ?_; cases l with
        | nil => rfl
        | cons x r => obtain ⟨g, o, cap, e, _⟩ := h3.form (by simp); cases e
      | some _ => exact h.2
    · exact h.elim
  · obtain ⟨v, _, ⟨_, _, hn, rfl⟩ | ⟨g, o, len, cap, o', _, _, rfl, _⟩⟩ := hd
    · exact ⟨none, 0, 0, rfl, h.1 hn⟩
    · exact ⟨_, _, _, rfl, h.2⟩
  · exact h.elim
theorem opNilS_ok (hT : ∀ t i, T t = some i → TyOk P t i) {op : BinOp} {t : TypeId} {c : CV} {K : Rs → Prop} (h : opNilS T op t c st K) (hw : Sat B β F st w) {u v : Value} (hd : Dn β F w c u) (hv : v = .slice none 0 0) :
    ∃ z s, (∀ w', (binOp op t u v).run P w' = .ok z w') ∧ K s ∧ DnR β F w s z ∧ ∀ p q w', (eqGuard op t p q u v).run P w' = .ok () w' := by
  subst hv
  unfold opNilS at h
  split at h
  · rename_i i hi
    have hk := (hT t i hi).kd
    split at h
    · rename_i e hkd
      rw [hkd] at hk
      obtain ⟨ad, n, cp, rfl, hK⟩ := nilC_ok h hw hd
      exact ⟨_, _, fun w' => run_eql_slice_nil hk, hK, cmpR_dn _ _, fun p q w' => by simp [eqGuard]⟩
    · rename_i e hkd
      rw [hkd] at hk
      obtain ⟨ad, n, cp, rfl, hK⟩ := nilC_ok h hw hd
      exact ⟨_, _, fun w' => run_neq_slice_nil w' t e ad n cp hk, hK, cmpR_dn _ _, fun p q w' => by simp [eqGuard]⟩
    · exact h.elim
  · exact h.elim
theorem stepP_ok (hT : ∀ t i, T t = some i → TyOk P t i) {o : Oper} {ch : List (Nat × Bool)} {ts : Sl} {K : Rs → Prop} {a : Act} (h : stepP T o ch ts st K) (hg : gd ts ch = true) (hs : SlOk β F w ts a.tmps) (hw : Sat B β F st w) :
    ∃ r v, K r ∧ DnR β F w r v ∧ ∀ w', o.quietAt P a (Below w'.heap.size w') w' v := by
  have evd : ∀ x r, ev ts ch x = some r → DnR β F w r (a.eval x) := fun x r h => ev_dn h hg hs
  have val : ∀ {v : Value} {w' : World}, (execOp a.eval o).run P w' = .ok (.value v) w' → o.quietAt P a (Below w'.heap.size w') w' v := fun {v w'} h => by
    unfold Oper.quietAt; rw [h]; exact ⟨rfl, rfl⟩
  unfold stepP at h
  split at h
  · rename_i op t x y yt ho
    split at h
    · rename_i c hn hx
      obtain ⟨v, r, h1, h2, h3, h4⟩ := opNilS_ok hT h hw (evd x _ hx) (v := a.eval y) (isNilS_dn hn fun r hr => evd y r hr)
      exact ⟨r, v, h2, h3, fun w' => val (by simp [execOp, ho, h1, h4])⟩
    obtain ⟨v, r, h1, h2, h3, h4⟩ := opBinP_ok (P := P) t h (u := a.eval x) (v := a.eval y) (fun r hr => evd x r hr) (fun r hr => evd y r hr)
    exact ⟨r, v, h2, h3, fun w' => val (by simp [execOp, ho, h1, h4])⟩
  · rename_i t x i ho
    obtain ⟨v, r, h1, h2, h3⟩ := opIndexAddr2_ok hT h hw (u := a.eval x) (v := a.eval i) (fun r hr => evd x r hr) (fun r hr => evd i r hr)
    exact ⟨r, v, h2, h3, fun w' => val (by simp [execOp, ho, h1])⟩
  · rename_i t x lo hi ho
    obtain ⟨v, r, h1, h2, h3⟩ := opSlice_ok hT h hw (u := a.eval x) (fun r hr => evd x r hr) (vl := lo.map a.eval) (vh := hi.map a.eval) (fun b hb => bndV_ok hg hs hb) (fun b hb => bndV_ok hg hs hb)
    exact ⟨r, v, h2, h3, fun w' => val (by simp [execOp, ho, h1])⟩
  · rename_i t x i ho
    split at h
    · rename_i l hl
      obtain ⟨v, r, h1, h2, h3⟩ := opIndexAgg_ok (P := P) hT h (evd x _ hl) (v := a.eval i) (fun r hr => evd i r hr)
      exact ⟨r, v, h2, h3, fun w' => val (by simp [execOp, ho, h1])⟩
    · obtain ⟨v, r, h1, h2, h3⟩ := opIndex_ok hT h (u := a.eval x) (v := a.eval i) (fun r hr => evd x r hr) (fun r hr => evd i r hr)
      exact ⟨r, v, h2, h3, fun w' => val (by simp [execOp, ho, h1])⟩
  · exact h.elim
theorem opStep_ok (hT : ∀ t i, T t = some i → TyOk P t i) (hsp : ∀ f S, sp f = some S → Valid P f S) {o : Oper} {ch : List (Nat × Bool)} {ts : Sl} {K : Rs → St → Prop} {a : Act} {next : Act → World → Prop} {Q : Exit → Act → World → Prop}
    (h : opStep T sp o ch ts st K) (hg : gd ts ch = true) (hs : SlOk β F w ts a.tmps) (hw : Sat B β F st w)
    (hK : ∀ r st' β' F' w' u, K r st' → Ext β F w β' F' w' → Sat B β' F' st' w' → DnR β' F' w' r u → (isA sp o = true → (∀ k, Gd st β F k → Gd st' β' F' k ∧ w'.heap[k]? = w.heap[k]?) ∧ w.heap.size ≤ w'.heap.size) → next (a.put o.dst u) w') : o.wp P a w next Q := by
  have evd : ∀ x r, ev ts ch x = some r → DnR β F w r (a.eval x) := fun x r h => ev_dn h hg hs
  have gself : isA sp o = true → (∀ k, Gd st β F k → Gd st β F k ∧ w.heap[k]? = w.heap[k]?) ∧ w.heap.size ≤ w.heap.size := fun _ => ⟨fun k hk => ⟨hk, rfl⟩, Nat.le_refl _⟩
  have viaP : stepP T o ch ts st (fun r => K r st) → o.wp P a w next Q := fun h => by
    obtain ⟨r, v, h1, h2, h3⟩ := stepP_ok hT h hg hs hw
    exact quiet_wp (h3 w) (Below.refl _ _) fun w' hb => by
      obtain ⟨x1, x2⟩ := hw.below hb (fun _ h => h) (fun _ h => .inl h)
      exact hK _ _ _ _ _ _ h1 x1 x2 (h2.ext x1) fun _ => ⟨fun k hk => ⟨hk, hb.block k (gd_lt hw hk)⟩, hb.size⟩
  unfold opStep at h
  split at h
  · rename_i t x ho
    unfold opBox at h
    split at h
    · rename_i r hr
      split at h
      · rename_i l hl
        obtain ⟨vs, c1, c2, _⟩ := cellsOf_dn hl (evd x r hr)
        obtain ⟨β', x1, x2, x3, x4⟩ := hw.new t c2
        refine wp_val (u := .pointer (some ⟨w.heap.size, 0, none⟩)) (w' := w.alloc (.cells vs.toArray t)) ?_ (hK _ _ _ _ _ _ h x1 x2 ⟨_, x3, rfl⟩ fun _ => ⟨x4, by simp⟩)
        have := run_box (P := P) (w := w) t (a.eval x)
        rw [c1] at this
        simp [execOp, ho, this]
      · exact h.elim
    · exact h.elim
  · rename_i t ho
    unfold opAlloc at h
    split at h
    · rename_i i hi
      obtain ⟨z, vs, z1, z2, z3⟩ := (hT t i hi).zero β F w
      obtain ⟨β', x1, x2, x3, x4⟩ := hw.new t z3
      refine wp_val (u := .pointer (some ⟨w.heap.size, 0, none⟩)) (w' := w.alloc (.cells vs.toArray t)) ?_ (hK _ _ _ _ _ _ h x1 x2 ⟨_, x3, rfl⟩ fun _ => ⟨x4, by simp⟩)
      have := run_alloc (P := P) (w := w) z1 (.tuple #[])
      rw [z2] at this
      simp [execOp, ho, this]
    · exact h.elim
  · rename_i t x y ho
    split at h
    · rename_i id off hx
      obtain ⟨w', st', r, β', h1, h2, h3, h4, h5⟩ := opStore2_ok hT h hw (u := a.eval x) (v := a.eval y) (fun r hr => by cases hr; exact evd x _ hx) (fun r hr => evd y r hr)
      exact wp_skip (by simp [execOp, ho, h1]) (hK _ _ _ _ _ _ h2 h3 h4 h5 fun e => by simp [isA, ho] at e)
    · obtain ⟨w', st', r, F', h1, h2, h3, h4, h5⟩ := opStoreE2_ok hT h hw (u := a.eval x) (v := a.eval y) (fun r hr => evd x r hr) (fun r hr => evd y r hr)
      exact wp_skip (by simp [execOp, ho, h1]) (hK _ _ _ _ _ _ h2 h3 h4 h5 fun e => by simp [isA, ho] at e)
  · rename_i t x ho
    split at h
    · rename_i hx
      obtain ⟨v, r, h1, h2, h3⟩ := opLoadA_ok hT h hw (u := a.eval x) (fun r hr => by cases hr; exact evd x _ hx)
      exact wp_val (by simp [execOp, ho, h1]) (hK _ _ _ _ _ _ h2 (Ext.refl _ _ _) hw h3 gself)
    · obtain ⟨v, r, h1, h2, h3⟩ := opLoadE_ok hT h hw (u := a.eval x) (fun r hr => evd x r hr)
      exact wp_val (by simp [execOp, ho, h1]) (hK _ _ _ _ _ _ h2 (Ext.refl _ _ _) hw h3 gself)
  · rename_i t x y ho
    obtain ⟨z, w', r, st', β', h1, h2, h3, h4, h5, h6⟩ := opMake_ok hT h hw (u := a.eval x) (v := a.eval y) (fun r hr => evd x r hr) (fun r hr => evd y r hr)
    exact wp_val (w' := w') (u := z) (by simp [execOp, ho, h1]) (hK _ _ _ _ _ _ h2 h3 h4 h5 fun _ => h6)
  · rename_i t x ho
    obtain ⟨z, w', st', r, β', h1, h2, h3, h4, h5, h6⟩ := opRange_ok hT h hw (u := a.eval x) (fun r hr => evd x r hr)
    exact wp_val (w' := w') (u := z) (by simp [execOp, ho, h1]) (hK _ _ _ _ _ _ h2 h3 h4 h5 fun _ => h6)
  · rename_i x ho
    obtain ⟨z, w', st', r, h1, h2, h3, h4, h5, h6⟩ := opNext_ok (P := P) h hw o.type (u := a.eval x) (fun r hr => evd x r hr)
    exact wp_val (w' := w') (u := z) (by simp [execOp, ho, h1]) (hK _ _ _ _ _ _ h2 h3 h4 h5 fun _ => h6)
  · rename_i t ho
    obtain ⟨z, w', st', r, β', h1, h2, h3, h4, h5, h6⟩ := opMakeMap_ok hT h hw
    exact wp_val (w' := w') (u := z) (by simp [execOp, ho, h1]) (hK _ _ _ _ _ _ h2 h3 h4 h5 fun _ => h6)
  · rename_i t x i ok ho
    obtain ⟨z, r, h1, h2, h3⟩ := opLookup_ok hT h hw (u := a.eval x) (v := a.eval i) (fun r hr => evd x r hr) (fun r hr => evd i r hr)
    exact wp_val (u := z) (by simp [execOp, ho, h1]) (hK _ _ _ _ _ _ h2 (Ext.refl _ _ _) hw h3 gself)
  · rename_i t x i y ho
    obtain ⟨w', r, st', h1, h2, h3, h4, h5, h6⟩ := opMapUpd_ok hT h hw (u := a.eval x) (v := a.eval i) (z := a.eval y) (fun r hr => evd x r hr) (fun r hr => evd i r hr) (fun r hr => evd y r hr)
    exact wp_skip (by simp [execOp, ho, h1]) (hK _ _ _ _ _ _ h2 h3 h4 h5 fun _ => h6)
  · rename_i t x lo hi m ho
    split at h
    · rename_i id off hx
      obtain ⟨z, r, st', F', h1, h2, h3, h4⟩ := opSliceArr_ok hT h hw (evd x _ hx)
      exact wp_val (u := z) (by simp [execOp, ho, h1]) (hK _ _ _ _ _ _ h2 h3.ext h3.2.1 h4 fun _ => ⟨fun k hk => ⟨h3.2.2 k hk, rfl⟩, Nat.le_refl _⟩)
    · exact viaP h
  · exact viaP h
  · exact viaP h
  · exact viaP h
  · rename_i t n ps ho
    obtain ⟨z, w', r, st', β', F', h1, h2, h3, h4, h5, h6⟩ := opBuildSlice2_ok hT h hw hg hs
    refine wp_val (w' := w') (u := z) ?_ (hK _ _ _ _ _ _ h2 h3 h4 h5 fun _ => h6)
    have := h1
    simp [execOp, ho, this]
  · rename_i c ho
    have hrun : ∀ f (ex : List Value), CallOk P f → ((c.callee = .value (.func f) ∧ ex = []) ∨ ∃ x, c.callee = .value (.tmp x) ∧ a.eval (.tmp x) = .func (.func f) #[] ex.toArray) → (execOp a.eval o).run P w = .ok (.enter f (c.args.toList.map a.eval ++ ex).toArray) w := fun f ex hcall hc => by
      obtain ⟨cal, args, ats⟩ := c
      rw [show (args.toList.map a.eval ++ ex).toArray = args.map a.eval ++ ex.toArray from by rw [← Array.toList_map, ← List.append_toArray, Array.toArray_toList]]
      have hrc := run_callFunc hcall (#[] ++ args.map a.eval ++ ex.toArray) w
      rcases hc with ⟨rfl, rfl⟩ | ⟨x, rfl, hx⟩
      · simp only [execOp, ho, resolve, Sem.run_bind, Sem.run_pure, Result.andThen_ok, Act.eval, Deferred.ofValue, invoke]
        simpa using hrc
      · simp only [execOp, ho, resolve, Sem.run_bind, hx, Deferred.ofValue, Sem.run_pure, Result.andThen_ok, invoke]
        simpa using hrc
    have hcallF : ∀ f (ex : List Value) (lo : Option (List Vl)), ((c.callee = .value (.func f) ∧ ex = []) ∨ ∃ x, c.callee = .value (.tmp x) ∧ a.eval (.tmp x) = .func (.func f) #[] ex.toArray) → (∀ l, lo = some l → DnVs β F w l (c.args.toList.map a.eval ++ ex)) → callF sp f lo st K → o.wp P a w next Q := by
      intro f ex lo hc hlo h
      obtain ⟨lo2, rfl⟩ : ∃ y : Unit → Option (List Vl), y () = lo := ⟨fun _ => lo, rfl⟩
      unfold callF at h
      split at h
      · rename_i S l hS hl
        split at h
        · rename_i r hr
          obtain ⟨hcall, hv⟩ := hsp f _ hS
          obtain ⟨u, u1, u2⟩ := hv l r hr β F w _ hw.frz (hlo _ hl)
          unfold Oper.wp
          rw [hrun f ex hcall hc, Oper.upon_enter]
          refine (u2 w (fun _ _ => rfl) (Nat.le_refl _)).mono ?_
          rintro e w' ⟨rfl, hb⟩
          obtain ⟨x1, x2⟩ := hw.below hb (fun _ h => h) (fun _ h => .inl h)
          exact hK _ _ _ _ _ _ h x1 x2 (u1.ext x1) fun _ => ⟨fun k hk => ⟨hk, hb.block k (gd_lt hw hk)⟩, hb.size⟩
        · split at h
          · rename_i r hr
            split at h
            · rename_i m hm
              obtain ⟨hcall, hv⟩ := hsp f _ hS
              obtain ⟨u, u1, u2⟩ := hv _ r hr β (Lf β F st) w _ ⟨fun k hk => hk.lt hw, hw.frz.gl.ext (fun _ h => .inl h) (fun _ _ => rfl)⟩ (lendVs_ok hw (hlo _ hl))
              unfold Oper.wp
              rw [hrun f ex hcall hc, Oper.upon_enter]
              refine (u2 w (fun _ _ => rfl) (Nat.le_refl _)).mono ?_
              rintro e w' ⟨rfl, hb⟩
              obtain ⟨x1, x2⟩ := hw.below hb (fun _ h => h) (fun _ h => .inl h)
              exact hK _ _ _ _ _ _ h x1 x2 (noMemR_dn hm u1) fun _ => ⟨fun k hk => ⟨hk, hb.block k (gd_lt hw hk)⟩, hb.size⟩
            · exact h.elim
          · exact h.elim
      · rename_i S l hS hl
        obtain ⟨l', st1, F1, h, hz, hfr⟩ := frzVs_ok hw h
        obtain ⟨hcall, hv⟩ := hsp f _ hS
        unfold Oper.wp
        rw [hrun f ex hcall hc, Oper.upon_enter]
        refine (hv l' _ h β F1 w _ hz.2.1.frz (hfr _ (hlo _ hl))).mono ?_
        rintro e w' ⟨u, r, F', rfl, h1, h2, h3, h4, h5⟩
        obtain ⟨x1, x2⟩ := hz.2.1.below h2 h3 h4
        exact hK _ _ _ _ _ _ h1 (hz.ext.trans x1) x2 h5 fun _ => ⟨fun k hk => ⟨(hz.2.2 k hk).imp_left (h3 k), h2.block k (gd_lt hw hk)⟩, h2.size⟩
      · rename_i S l hS hl
        obtain ⟨hcall, hv⟩ := hsp f _ hS
        unfold Oper.wp
        rw [hrun f ex hcall hc, Oper.upon_enter]
        refine (hv l st K h B β F w _ hw (hlo _ hl)).mono ?_
        rintro e w' ⟨u, r, st', β', F', rfl, h1, h2, h3, h4⟩
        exact hK _ _ _ _ _ _ h1 h2 h3 h4 fun e => by
          rcases hc with ⟨hc, _⟩ | ⟨x, hc, _⟩
          · simp [isA, ho, hc, hS] at e
          · simp [isA, ho, hc] at e
      · exact h.elim
    split at h
    · rename_i f hc
      exact hcallF f [] _ (.inl ⟨hc, rfl⟩) (fun l hl => by rw [List.append_nil]; exact argsOf_dn hg hs hl) h
    · rename_i x hc
      split at h
      · rename_i f y z hx
        obtain ⟨e1, e2, e3⟩ := evd (.tmp x) _ hx
        subst e2; subst e3
        exact hcallF f [] _ (.inr ⟨x, hc, e1⟩) (fun l hl => by rw [List.append_nil]; exact argsOf_dn hg hs hl) h
      · rename_i f cap hx
        obtain ⟨vs, e1, hp⟩ := evd (.tmp x) _ hx
        refine hcallF f vs _ (.inr ⟨x, hc, e1⟩) (fun l hl => ?_) h
        unfold appP at hl
        split at hl
        · rename_i l' hl'
          cases hl
          exact appV_dn (argsOf_dn hg hs hl') (ptrVs_dn hp)
        · cases hl
      · exact h.elim
    · rename_i hc
      split at h
      · rename_i t t' x y h1 h2
        split at h
        · rename_i e
          have e := Nat.eq_of_beq_eq_true e
          subst e
          obtain ⟨z, w', r, st', β', h3, h4, h5, h6, h7, h8⟩ := opAppend2_ok (ty := o.type) hT h hw (u := a.eval x) (v := a.eval y) (fun r hr => evd x r hr) (fun r hr => evd y r hr)
          refine wp_val (w' := w') (u := z) ?_ (hK _ _ _ _ _ _ h4 h5 h6 h7 fun _ => h8)
          obtain ⟨cal, args, ats⟩ := c
          obtain rfl : cal = .builtin .append := hc
          obtain rfl : args = #[x, y] := by cases args; simp at h2; simp [h2]
          obtain rfl : ats = #[t, t] := by cases ats; simp at h1; simp [h1]
          simp only [execOp, ho, resolve, invoke, builtin, Sem.run_bind, Sem.run_pure, Result.andThen_ok, List.map_toArray, List.map_cons, List.map_nil, h3]
        · exact h.elim
      · exact h.elim
    · rename_i hc
      split at h
      · rename_i t t' x y h1 h2
        obtain ⟨z, w', r, st', h3, h4, h5, h6, h7⟩ := opCopy_ok (t' := t') (ty := o.type) hT h hw (u := a.eval x) (v := a.eval y) (fun r hr => evd x r hr) (fun r hr => evd y r hr)
        obtain ⟨cal, args, ats⟩ := c
        obtain rfl : cal = .builtin .copy := hc
        refine wp_val (w' := w') (u := z) ?_ (hK _ _ _ _ _ _ h4 h5 h6 h7 fun e => by simp [isA, ho] at e)
        obtain rfl : args = #[x, y] := by cases args; simp at h2; simp [h2]
        obtain rfl : ats = #[t, t'] := by cases ats; simp at h1; simp [h1]
        simp only [execOp, ho, resolve, invoke, builtin, Sem.run_bind, Sem.run_pure, Result.andThen_ok, List.map_toArray, List.map_cons, List.map_nil, h3]
      · exact h.elim
    · rename_i hc
      split at h
      · rename_i t x h1 h2
        obtain ⟨z, w', r, st', h3, h4, h5, h6, h7⟩ := opClear_ok (ty := o.type) hT h hw (u := a.eval x) (fun r hr => evd x r hr)
        obtain ⟨cal, args, ats⟩ := c
        obtain rfl : cal = .builtin .clear := hc
        refine wp_val (w' := w') (u := z) ?_ (hK _ _ _ _ _ _ h4 h5 h6 h7 fun e => by simp [isA, ho] at e)
        obtain rfl : args = #[x] := by cases args; simp at h2; simp [h2]
        obtain rfl : ats = #[t] := by cases ats; simp at h1; simp [h1]
        simp only [execOp, ho, resolve, invoke, builtin, Sem.run_bind, Sem.run_pure, Result.andThen_ok, List.map_toArray, List.map_cons, List.map_nil, h3]
      · exact h.elim
    · exact h.elim
  · exact h.elim
end
theorem boolR_dn {β : Nat → Option Value} {F : Nat → Prop} {w : World} {r : Rs} {b : Bool} (h : boolR r = some b) {u : Value} (hd : DnR β F w r u) : u = .bool b := by
  unfold boolR at h
  split at h
  · exact boolV_dn h hd
  · cases h
/-- A truth value that is written out. -/
def litB : Rs → Option Bool | .v (.one (.bl b)) => some b | _ => none
theorem litB_R {r : Rs} {b : Bool} (h : litB r = some b) : boolR r = some b := by
  unfold litB at h
  split at h
  · cases h; rfl
  · cases h
/-- A slot whose truth value is known from now on. -/
def setB (ts : Sl) (s : Nat) (e : En) (b : Bool) : Sl := ⟨ts.n, ts.gm, (s, ⟨e.ch, .v (.one (.bl b))⟩) :: ts.l⟩
theorem setB_get {ts : Sl} {s : Nat} {e : En} {b : Bool} (h : s < ts.n) (i : Nat) : (setB ts s e b).get i = if s = i then some ⟨e.ch, .v (.one (.bl b))⟩ else ts.get i := by
  unfold Sl.get setB
  by_cases hi : i < ts.n
  · simp only [blt_t hi, lkE_cons]
  · have h1 : ¬ s = i := by omega
    have : Nat.blt i ts.n = false := by
      cases hq : Nat.blt i ts.n with
      | false => rfl
      | true => exact absurd (Nat.le_of_ble_eq_true hq) hi
    simp only [this, if_neg h1]
theorem gd_setB {ts : Sl} {s : Nat} {e : En} {b : Bool} (he : ts.get s = some e) (hb : boolR e.v = some b) : ∀ ch : List (Nat × Bool), gd (setB ts s e b) ch = gd ts ch
  | [] => rfl
  | (t, want) :: r => by
    simp only [gd, gd_setB he hb r, setB_get (Sl.get_lt he)]
    by_cases h : s = t
    · subst h; rw [if_pos rfl, he]; simp only [hb]; rfl
    · rw [if_neg h]
theorem SlOk.setB {β : Nat → Option Value} {F : Nat → Prop} {w : World} {ts : Sl} {tmps : Array Value} (hs : SlOk β F w ts tmps) {s : Nat} {e : En} {b : Bool} (he : ts.get s = some e) (hb : boolR e.v = some b) : SlOk β F w (setB ts s e b) tmps := by
  refine ⟨hs.size, fun i e' h => ?_, fun i e' h p hp => ?_, hs.gl⟩
  · rw [setB_get (Sl.get_lt he)] at h
    by_cases hi : s = i
    · subst hi
      rw [if_pos rfl] at h
      cases h
      obtain ⟨u, h1, h2, h3⟩ := hs.at_ s e he
      exact ⟨u, h1, fun g => by rw [gd_setB he hb] at g; exact boolR_dn hb (h2 g), fun g => by rw [gd_setB he hb] at g; exact h3 g⟩
    · rw [if_neg hi] at h
      obtain ⟨u, h1, h2, h3⟩ := hs.at_ i e' h
      exact ⟨u, h1, fun g => by rw [gd_setB he hb] at g; exact h2 g, fun g => by rw [gd_setB he hb] at g; exact h3 g⟩
  · rw [setB_get (Sl.get_lt he)] at h
    by_cases hi : s = i
    · subst hi
      rw [if_pos rfl] at h
      cases h
      exact hs.use s e he p hp
    · rw [if_neg hi] at h
      exact hs.use i e' h p hp
def eqb : Bool → Bool → Bool | true, true | false, false => true | _, _ => false
theorem eqb_eq (a b : Bool) : eqb a b = (a == b) := by cases a <;> cases b <;> rfl
/-- Does what lies behind these guards surely not run? -/
def deadB (ts : Sl) : List (Nat × Bool) → Bool
  | [] => false
  | (s, want) :: r => (match deadB ts r with
    | true => true
    | false => (match ts.get s with
      | some e => (match litB e.v with | some b => !(eqb b want) | none => false)
      | none => false))
theorem deadB_ok {ts : Sl} : ∀ {ch : List (Nat × Bool)}, deadB ts ch = true → gd ts ch = false
  | (s, want) :: r, h => by
    simp only [deadB] at h
    simp only [gd]
    split at h
    · rename_i hr; rw [deadB_ok hr]; rfl
    · split at h
      · rename_i e he
        split at h
        · rename_i b hb
          rw [eqb_eq] at h
          simp only [he, litB_R hb]
          have : (b == want) = false := by simpa using h
          rw [this, Bool.and_false]
        · cases h
      · cases h
/-- All guards are known to hold. -/
def liveB (ts : Sl) : List (Nat × Bool) → Bool
  | [] => true
  | (s, want) :: r => (match liveB ts r with
    | true => (match ts.get s with
      | some e => (match litB e.v with | some b => eqb b want | none => false)
      | none => false)
    | false => false)
/-- Each way through the guards, the outermost first. -/
def rsv (ts : Sl) : List (Nat × Bool) → (Sl → Bool → Prop) → Prop
  | [], K => K ts true
  | (s, want) :: r, K => rsv ts r fun ts' live => (match live with
    | false => K ts' false
    | true => (match ts'.get s with
      | some e => (match chk r e.ch, litB e.v, boolR e.v with
        | true, some b, _ => K ts' (eqb b want)
        | true, none, some x => (x = true → K (setB ts' s e true) want) ∧ (x = false → K (setB ts' s e false) (!want))
        | _, _, _ => False)
      | none => False))
theorem rsv_ok {β : Nat → Option Value} {F : Nat → Prop} {w : World} {ts : Sl} {tmps : Array Value} (hs : SlOk β F w ts tmps) : ∀ {ch : List (Nat × Bool)} {K : Sl → Bool → Prop}, rsv ts ch K → ∃ ts' live, K ts' live ∧ SlOk β F w ts' tmps ∧ gd ts' ch = live ∧ ∀ c, gd ts' c = gd ts c
  | [], K, h => ⟨ts, true, h, hs, rfl, fun _ => rfl⟩
  | (s, want) :: r, K, h => by
    simp only [rsv] at h
    obtain ⟨ts', live, h1, h2, h3, h4⟩ := rsv_ok (ch := r) hs h
    split at h1
    · exact ⟨ts', false, h1, h2, by simp only [gd, h3, Bool.false_and], h4⟩
    · split at h1
      · rename_i e he
        split at h1
        · rename_i b hc hb
          refine ⟨ts', _, h1, h2, ?_, h4⟩
          simp only [gd, h3, he, litB_R hb, Bool.true_and, eqb_eq]
        · rename_i x hc hb hx
          cases x with
          | true =>
            refine ⟨_, want, h1.1 rfl, h2.setB he hx, ?_, fun c => (gd_setB he hx c).trans (h4 c)⟩
            rw [gd_setB he hx]
            simp only [gd, h3, he, hx, Bool.true_and]
            cases want <;> rfl
          | false =>
            refine ⟨_, !want, h1.2 rfl, h2.setB he hx, ?_, fun c => (gd_setB he hx c).trans (h4 c)⟩
            rw [gd_setB he hx]
            simp only [gd, h3, he, hx, Bool.true_and]
            cases want <;> rfl
        · exact h1.elim
      · exact h1.elim
def chainOf (ops : Array Oper) (ts : Sl) (o : Oper) : Option (List (Nat × Bool)) :=
  match o.guard with
  | none => some []
  | some (j, want) => (match (ops[j]?).bind (·.dst) with
    | some s => (match ts.get s with
      | some e => (match boolR e.v with
        | some _ => some ((s, want) :: e.ch)
        | none => (match deadB ts e.ch with | true => some ((s, want) :: e.ch) | false => none))
      | none => none)
    | none => none)
theorem chainOf_ok {β : Nat → Option Value} {F : Nat → Prop} {w : World} {ops : Array Oper} {ts : Sl} {o : Oper} {ch : List (Nat × Bool)} {tmps : Array Value} (h : chainOf ops ts o = some ch) (hs : SlOk β F w ts tmps) : Region.wanted o (yielded ops tmps) = gd ts ch := by
  unfold chainOf at h
  split at h
  · rename_i hg; cases h; simp [Region.wanted, hg, gd]
  · rename_i j want hg
    split at h
    · rename_i s hd
      split at h
      · rename_i e he
        split at h
        · rename_i b hb
          cases h
          obtain ⟨u, h1, h2, h3⟩ := hs.at_ s e he
          simp only [gd, he, hb]
          cases hc : gd ts e.ch with
          | true =>
            have := boolR_dn hb (h2 hc)
            subst this
            simp [Region.wanted, hg, yielded, hd, h1]
          | false =>
            have := h3 hc
            subst this
            simp [Region.wanted, hg, yielded, hd, h1, undef]
        · split at h
          · rename_i hdd
            cases h
            obtain ⟨u, h1, h2, h3⟩ := hs.at_ s e he
            have hc : gd ts e.ch = false := deadB_ok hdd
            have := h3 hc
            subst this
            simp only [gd, he, hc, Bool.false_and]
            simp [Region.wanted, hg, yielded, hd, h1, undef]
          · cases h
      · cases h
    · cases h
/-- One of two. -/
def pickV (c : Bool) (a b : CV) : Option Rs :=
  match a, b with
  | .bl true, b => (match boolV b with | some y => some (mkB (c || y)) | none => none)
  | a, .bl false => (match boolV a with | some x => some (mkB (c && x)) | none => none)
  | a, b => (match boolV a, boolV b with
    | some x, some y => some (mkB (if c then x else y))
    | _, _ => none)
theorem pickV_ok {β : Nat → Option Value} {F : Nat → Prop} {w : World} {c : Bool} {a b : CV} {r : Rs} (h : pickV c a b = some r) {u v : Value} (hu : c = true → Dn β F w a u) (hv : c = false → Dn β F w b v) : DnR β F w r (if c then u else v) := by
  unfold pickV at h
  split at h
  · split at h
    · rename_i y hy
      cases h
      cases c with
      | true => rw [if_pos rfl, show u = _ from hu rfl]; exact mkB_dn _
      | false => have := boolV_dn hy (hv rfl); subst this; exact mkB_dn _
    · cases h
  · split at h
    · rename_i y hy
      cases h
      cases c with
      | true => have := boolV_dn hy (hu rfl); subst this; exact mkB_dn _
      | false => rw [if_neg (by simp), show v = _ from hv rfl]; exact mkB_dn _
    · cases h
  · split at h
    · rename_i x y h1 h2
      cases h
      cases c with
      | true => have := boolV_dn h1 (hu rfl); subst this; exact mkB_dn _
      | false => have := boolV_dn h2 (hv rfl); subst this; exact mkB_dn _
    · cases h
def opPick (ts : Sl) (ch : List (Nat × Bool)) (c : Nat) (x y : Operand) : Option Rs :=
  match ts.get c with
  | some e => (match chk ch e.ch, litB e.v with
    | true, some true => ev ts ((c, true) :: ch) x
    | true, some false => ev ts ((c, false) :: ch) y
    | true, none => (match boolR e.v, ev ts ((c, true) :: ch) x, ev ts ((c, false) :: ch) y with
      | some b, some (.v (.one p)), some (.v (.one q)) => pickV b p q
      | _, _, _ => none)
    | false, _ => none)
  | none => none
theorem opPick_ok {β : Nat → Option Value} {F : Nat → Prop} {w : World} {ts : Sl} {ch : List (Nat × Bool)} {c : Nat} {x y : Operand} {r : Rs} {a : Act} (h : opPick ts ch c x y = some r) (hg : gd ts ch = true) (hs : SlOk β F w ts a.tmps) :
    ∃ b, a.eval (.tmp c) = .bool b ∧ DnR β F w r (if b then a.eval x else a.eval y) := by
  unfold opPick at h
  split at h
  · rename_i e he
    obtain ⟨u, h1, h2, _⟩ := hs.at_ c e he
    split at h
    · rename_i hc hb
      have hb := litB_R hb
      have h4 := boolR_dn hb (h2 (chk_gd hc hg))
      subst h4
      exact ⟨true, by simp [Act.eval, h1], ev_dn h (by simp only [gd, he, hb, hg]; rfl) hs⟩
    · rename_i hc hb
      have hb := litB_R hb
      have h4 := boolR_dn hb (h2 (chk_gd hc hg))
      subst h4
      exact ⟨false, by simp [Act.eval, h1], ev_dn h (by simp only [gd, he, hb, hg]; rfl) hs⟩
    · rename_i hc _
      split at h
      · rename_i b p q hb hx hy
        have h3 := h2 (chk_gd hc hg)
        have h4 := boolR_dn hb h3
        subst h4
        refine ⟨b, by simp [Act.eval, h1], pickV_ok h (fun e1 => ?_) (fun e1 => ?_)⟩
        · exact ev_dn hx (by simp only [gd, he, hb, hg, e1]; rfl) hs
        · exact ev_dn hy (by simp only [gd, he, hb, hg, e1]; rfl) hs
      · cases h
    · cases h
  · cases h
section
variable (T : Tb) (sp : FuncId → Option Spec)
/-- The result is laid down. -/
def fin (o : Oper) (ch : List (Nat × Bool)) (ts : Sl) (K : Sl → St → Prop) (r : Rs) (st : St) : Prop :=
  match o.dst with
  | some d => (match freeIn d ts, noUse d ch with
    | true, true => K (ts.put d ⟨ch, r⟩) st
    | _, _ => False)
  | none => K ts st
/-- What an operation yields without a condition. -/
def opV (o : Oper) (ch : List (Nat × Bool)) (ts : Sl) (st : St) : Option Rs :=
  match o.op with
  | .pick (.tmp c) x y => opPick ts ch c x y
  | _ => opT T sp o ch ts st
def oper (ops : Array Oper) (o : Oper) (ts : Sl) (st : St) (K : Sl → St → Prop) : Prop :=
  match chainOf ops ts o with
  | none => False
  | some ch => (match deadB ts ch with
    | true => fin o ch ts K (.v (.one .any)) st
    | false => (match opV T sp o ch ts st with
      | some r => fin o ch ts K r st
      | none => rsv ts ch fun ts' live => (match live with
        | true => (match opV T sp o ch ts' st with
          | some r => fin o ch ts' K r st
          | none => opStep T sp o ch ts' st (fin o ch ts' K))
        | false => fin o ch ts' K (.v (.one .any)) st)))
def opers (ops : Array Oper) : List Oper → Sl → St → (Sl → St → Prop) → Prop
  | [], ts, st, K => K ts st
  | o :: r, ts, st, K => oper T sp ops o ts st fun ts' st' => opers ops r ts' st' K
end
section
variable {T : Tb} {sp : FuncId → Option Spec} {P : Program} {B : Base} {β : Nat → Option Value} {F : Nat → Prop} {w : World} {st : St}
theorem fin_ok {o : Oper} {ch : List (Nat × Bool)} {ts : Sl} {K : Sl → St → Prop} {r : Rs} {u : Value} {tmps : Array Value} (h : fin o ch ts K r st) (hs : SlOk β F w ts tmps) (h1 : gd ts ch = true → DnR β F w r u) (h2 : gd ts ch = false → u = undef) (ds : List Deferred) :
    ∃ ts', K ts' st ∧ SlOk β F w ts' ((⟨tmps, ds⟩ : Act).put o.dst u).tmps := by
  unfold fin at h
  split at h
  · rename_i d hd
    split at h
    · rename_i hf hn
      exact ⟨_, h, by simp only [Act.put, hd]; exact hs.put hf hn h1 h2⟩
    · exact h.elim
  · rename_i hd
    exact ⟨_, h, by simp only [Act.put, hd]; exact hs⟩
theorem opV_ok (hT : ∀ t i, T t = some i → TyOk P t i) (hsp : ∀ f S, sp f = some S → Valid P f S) {o : Oper} {ch : List (Nat × Bool)} {ts : Sl} {r : Rs} {a : Act} (h : opV T sp o ch ts st = some r) (hg : gd ts ch = true) (hs : SlOk β F w ts a.tmps) (hw : Sat B β F st w) :
    ∃ v, DnR β F w r v ∧ (∀ w', (∀ k, Gd st β F k → w'.heap[k]? = w.heap[k]?) → w.heap.size ≤ w'.heap.size → o.quietAt P a (Below w'.heap.size w') w' v) ∧ (isR sp o = false → ∀ w', o.quietAt P a (Below w'.heap.size w') w' v) := by
  unfold opV at h
  split at h
  · rename_i c x y ho
    obtain ⟨b, h1, h2⟩ := opPick_ok h hg hs
    have all : ∀ w' : World, o.quietAt P a (Below w'.heap.size w') w' (if b then a.eval x else a.eval y) := fun w' => by
      unfold Oper.quietAt
      have : (execOp a.eval o).run P w' = .ok (.value (if b then a.eval x else a.eval y)) w' := by simp [execOp, ho, h1, asBool]
      rw [this]
      exact ⟨rfl, rfl⟩
    exact ⟨_, h2, fun w' _ _ => all w', fun _ => all⟩
  · exact opT_ok hT hsp h hg hs hw
theorem put_defers (a : Act) (d : Option Tmp) (u : Value) : (a.put d u).defers = a.defers := by cases d <;> rfl
theorem opers_ok (hT : ∀ t i, T t = some i → TyOk P t i) (hsp : ∀ f S, sp f = some S → Valid P f S) {ops : Array Oper} {Q : Exit → Act → World → Prop} {K : Sl → St → Prop} :
    ∀ (l : List Oper) (ts : Sl) (st : St) (β : Nat → Option Value) (F : Nat → Prop) (a : Act) (w : World), opers T sp ops l ts st K → SlOk β F w ts a.tmps → Sat B β F st w →
    (∀ ts' st' β' F' a' w', K ts' st' → Ext β F w β' F' w' → SlOk β' F' w' ts' a'.tmps → Sat B β' F' st' w' → a'.defers = a.defers → Q .normal a' w') → wpList P ops Q l a w
  | [], ts, st, β, F, a, w, h, hs, hw, hQ => hQ _ _ _ _ _ _ h (Ext.refl _ _ _) hs hw rfl
  | o :: r, ts, st, β, F, a, w, h, hs, hw, hQ => by
    refine wpList_step fun K' hK' => ?_
    have cont : ∀ {ts' st' β' F' a' w'}, opers T sp ops r ts' st' K → Ext β F w β' F' w' → SlOk β' F' w' ts' a'.tmps → Sat B β' F' st' w' → a'.defers = a.defers → K' a' w' := by
      intro ts' st' β' F' a' w' h1 h2 h3 h4 h5
      exact hK' _ _ (opers_ok hT hsp r ts' st' β' F' a' w' h1 h3 h4 (fun ts'' st'' β'' F'' a'' w'' g1 g2 g3 g4 g5 => hQ _ _ _ _ _ _ g1 (h2.trans g2) g3 g4 (g5.trans h5)))
    simp only [opers, oper] at h
    split at h
    · exact h.elim
    · rename_i ch hch
      rw [chainOf_ok hch hs]
      have quiet : ∀ {ts : Sl} {rr : Rs}, opV T sp o ch ts st = some rr → fin o ch ts (fun ts' st' => opers T sp ops r ts' st' K) rr st → SlOk β F w ts a.tmps → gd ts ch = true → o.wp P a w K' Q := by
        intro ts rr hv h hs hg
        obtain ⟨u, h1, h2, _⟩ := opV_ok hT hsp hv hg hs hw
        refine quiet_wp (h2 w (fun _ _ => rfl) (Nat.le_refl _)) (Below.refl _ _) fun w' hb => ?_
        obtain ⟨x1, x2⟩ := hw.below hb (fun _ h => h) (fun _ h => .inl h)
        obtain ⟨ts', f1, f2⟩ := fin_ok h (hs.ext x1) (fun _ => h1.ext x1) (fun e => by rw [hg] at e; cases e) a.defers
        exact cont f1 x1 f2 x2 (put_defers _ _ _)
      have dead : ∀ {ts : Sl} {rr : Rs}, fin o ch ts (fun ts' st' => opers T sp ops r ts' st' K) rr st → SlOk β F w ts a.tmps → gd ts ch = false → K' (a.put o.dst undef) w := by
        intro ts rr h hs hg
        obtain ⟨ts', f1, f2⟩ := fin_ok h hs (u := undef) (fun e => by rw [hg] at e; cases e) (fun _ => rfl) a.defers
        exact cont f1 (Ext.refl _ _ _) f2 hw (put_defers _ _ _)
      split at h
      · rename_i hd
        rw [deadB_ok hd, if_neg (by simp)]
        exact dead h hs (deadB_ok hd)
      · split at h
        · rename_i v hv
          split
          · rename_i hg
            exact quiet hv h hs hg
          · rename_i hg
            exact dead h hs (by simpa using hg)
        · obtain ⟨ts', live, h1, h2, h3, h4⟩ := rsv_ok hs h
          rw [← h4 ch, h3]

          split at h1
          · rw [if_pos rfl]
            split at h1
            · rename_i r hv
              exact quiet hv h1 h2 h3
            · refine opStep_ok hT hsp h1 h3 h2 hw fun r' st' β' F' w' u k1 k2 k3 k4 _ => ?_
              obtain ⟨ts'', f1, f2⟩ := fin_ok k1 (h2.ext k2) (fun _ => k4) (fun e => by rw [h3] at e; cases e) a.defers
              exact cont f1 k2 f2 k3 (put_defers _ _ _)
          · rw [if_neg (by simp)]
            exact dead h1 h2 h3
end
/-! ### Regions that draw their order -/
section
variable (T : Tb) (sp : FuncId → Option Spec)
def rsOf : Nat → List Oper → List Nat
  | _, [] => []
  | i, o :: r => (match isR sp o with | true => i :: rsOf (i + 1) r | false => rsOf (i + 1) r)
theorem rsOf_mem {l : List Oper} : ∀ {i j : Nat} {o : Oper}, l[j]? = some o → isR sp o = true → i + j ∈ rsOf sp i l := by
  induction l with
  | nil => intro i j o h; simp at h
  | cons x r ih =>
    intro i j o h hr
    cases j with
    | zero =>
      obtain rfl : x = o := by simpa using h
      simp [rsOf, hr]
    | succ j =>
      have := ih (i := i + 1) (j := j) (by simpa using h) hr
      rw [show i + (j + 1) = i + 1 + j by omega]
      simp only [rsOf]
      split
      · exact List.mem_cons_of_mem _ this
      · exact this
/-- How an operation is taken: with this value, by its own rule, not at all. -/
inductive Pk where
  | q (r : Rs) | p | d
/-- The first that may come up and only reads or computes. -/
def pickQ (tab : List OM) (rm : Nat) (ops : Array Oper) (lm : Nat) (ts : Sl) (st : St) (split : Bool) : List Nat → Option (Nat × Oper × List (Nat × Bool) × Pk)
  | [] => none
  | i :: r => (match ops[i]?, tab[i]? with
    | some o, some m => (match freeM lm i m tab 0, chainOf ops ts o with
      | true, some ch => (match deadB ts ch with
        | true => some (i, o, ch, .d)
        | false => (match !isR sp o || tbk rm i with
          | true => (match opV T sp o ch ts st with
            | some v => some (i, o, ch, .q v)
            | none => (match isP o && (split || liveB ts ch) with
              | true => some (i, o, ch, .p)
              | false => pickQ tab rm ops lm ts st split r))
          | false => pickQ tab rm ops lm ts st split r))
      | _, _ => pickQ tab rm ops lm ts st split r)
    | _, _ => pickQ tab rm ops lm ts st split r)
/-- Stuck, and where. -/
def bad (l : List Nat) : Prop := False ∧ l = l
def allP (p : Nat → Prop) : List Nat → Prop
  | [] => True
  | [i] => p i
  | i :: r => p i ∧ allP p r
theorem allP_mem {p : Nat → Prop} : ∀ {l : List Nat}, allP p l → ∀ i ∈ l, p i
  | [i], h, j, hj => by obtain rfl : j = i := by simpa using hj
                        exact h
  | i :: k :: r, h, j, hj => by
    rcases List.mem_cons.1 hj with rfl | hj
    · exact h.1
    · exact allP_mem (l := k :: r) h.2 j hj
def sig (tab : List OM) (rm : Nat) (ops : Array Oper) : Nat → Nat → Sl → St → (Sl → St → Prop) → Prop
  | 0, lm, ts, st, K => (match readyM tab lm 0 with | [] => K ts st | _ => False)
  | n + 1, lm, ts, st, K => (match readyM tab lm 0 with
    | [] => K ts st
    | k :: l => (match (match pickQ T sp tab rm ops lm ts st false (k :: l) with | some x => some x | none => pickQ T sp tab rm ops lm ts st true (k :: l)) with
      | some (i, o, ch, .q r) => fin o ch ts (fun ts' _ => forceN (Nat.lor (bit1 i) lm) fun lm => sig tab rm ops n lm ts' st K) r st
      | some (i, o, ch, .d) => fin o ch ts (fun ts' _ => forceN (Nat.lor (bit1 i) lm) fun lm => sig tab rm ops n lm ts' st K) (.v (.one .any)) st
      | some (i, o, ch, .p) => rsv ts ch fun ts2 live => (match live with
        | true => (match opV T sp o ch ts2 st with
          | some r => fin o ch ts2 (fun ts' _ => forceN (Nat.lor (bit1 i) lm) fun lm => sig tab rm ops n lm ts' st K) r st
          | none => stepP T o ch ts2 st fun r => fin o ch ts2 (fun ts' _ => forceN (Nat.lor (bit1 i) lm) fun lm => sig tab rm ops n lm ts' st K) r st)
        | false => fin o ch ts2 (fun ts' _ => forceN (Nat.lor (bit1 i) lm) fun lm => sig tab rm ops n lm ts' st K) (.v (.one .any)) st)
      | none => allP (fun i => (match ops[i]? with
        | some o => (match chainOf ops ts o with
          | some ch => rsv ts ch fun ts2 live => (match live with
            | true => (match opV T sp o ch ts2 st with
              | some r => fin o ch ts2 (fun ts' _ => forceN (Nat.lor (bit1 i) lm) fun lm => sig tab rm ops n lm ts' st K) r st
              | none => (match isA sp o || dwaitM tab rm i with
                | true => opStep T sp o ch ts2 st (fin o ch ts2 fun ts' st' => forceN (Nat.lor (bit1 i) lm) fun lm => sig tab rm ops n lm ts' st' K)
                | false => bad (k :: l)))
            | false => fin o ch ts2 (fun ts' _ => forceN (Nat.lor (bit1 i) lm) fun lm => sig tab rm ops n lm ts' st K) (.v (.one .any)) st)
          | none => bad (k :: l))
        | none => bad (k :: l))) (k :: l)))
/-- The reads that all that write wait for. -/
def tightM (tab : List OM) : List Oper → Nat → Nat → Nat
  | [], _, acc => acc
  | o :: r, j, acc => (match isA sp o, tab[j]? with
    | false, some m => tightM tab r (j + 1) (Nat.land acc (Nat.lor (bit1 j) (stepM (stepM m.d tab 0) tab 0)))
    | _, _ => tightM tab r (j + 1) acc)
end
section
variable {T : Tb} {sp : FuncId → Option Spec} {P : Program} {B : Base}
theorem pickQ_ok {ops : Array Oper} {rm lm : Nat} {ts : Sl} {st : St} {split : Bool} {l : List Nat} {i : Nat} {o : Oper} {ch : List (Nat × Bool)} {v : Pk} : pickQ T sp (ops.toList.map (omOf .any ops)) rm ops lm ts st split l = some (i, o, ch, v) →
    i ∈ l ∧ ops[i]? = some o ∧ freeM lm i (omOf .any ops o) (ops.toList.map (omOf .any ops)) 0 = true ∧ chainOf ops ts o = some ch ∧ (∀ r, v = .q r → opV T sp o ch ts st = some r) ∧ (v = .p → isP o = true) ∧ (v ≠ .d → isR sp o = true → tbk rm i = true) ∧ (v = .d → deadB ts ch = true) := by
  induction l with
  | nil => intro h; cases h
  | cons j r ih =>
    intro h
    have go : pickQ T sp (ops.toList.map (omOf .any ops)) rm ops lm ts st split r = some (i, o, ch, v) → i ∈ j :: r ∧ ops[i]? = some o ∧ freeM lm i (omOf .any ops o) (ops.toList.map (omOf .any ops)) 0 = true ∧ chainOf ops ts o = some ch ∧ (∀ r, v = .q r → opV T sp o ch ts st = some r) ∧ (v = .p → isP o = true) ∧ (v ≠ .d → isR sp o = true → tbk rm i = true) ∧ (v = .d → deadB ts ch = true) := fun h => by
      obtain ⟨h1, h2⟩ := ih h
      exact ⟨List.mem_cons_of_mem _ h1, h2⟩
    unfold pickQ at h
    cases ho : ops[j]? with
    | none => rw [ho] at h; exact go h
    | some o' =>
      have hm : (ops.toList.map (omOf .any ops))[j]? = some (omOf .any ops o') := by simp [ho]
      rw [ho, hm] at h
      dsimp only at h
      cases hf : freeM lm j (omOf .any ops o') (ops.toList.map (omOf .any ops)) 0 with
      | false => rw [hf] at h; exact go h
      | true =>
        rw [hf] at h
        cases hc : chainOf ops ts o' with
        | none => rw [hc] at h; exact go h
        | some ch' =>
          rw [hc] at h
          dsimp only at h
          cases hdd : deadB ts ch' with
          | true =>
            rw [hdd] at h
            cases h
            exact ⟨List.mem_cons_self, ho, hf, hc, fun r e => by (cases e), fun e => (by cases e), fun e => absurd rfl e, fun _ => hdd⟩
          | false =>
          rw [hdd] at h
          dsimp only at h
          cases hR : (!isR sp o' || tbk rm j) with
          | false => rw [hR] at h; exact go h
          | true =>
          rw [hR] at h
          have hR' : isR sp o' = true → tbk rm j = true := fun e => by rw [e] at hR; simpa using hR
          dsimp only at h
          cases hv : opV T sp o' ch' ts st with
          | some v' =>
            rw [hv] at h
            cases h
            exact ⟨List.mem_cons_self, ho, hf, hc, fun r e => by cases e; exact hv, fun e => (by cases e), fun _ => hR', fun e => (by cases e)⟩
          | none =>
            rw [hv] at h
            dsimp only at h
            cases hp : (isP o' && (split || liveB ts ch')) with
            | false => rw [hp] at h; exact go h
            | true =>
              rw [hp] at h
              cases h
              simp only [Bool.and_eq_true] at hp
              refine ⟨List.mem_cons_self, ho, hf, hc, ?_, fun _ => hp.1, fun _ => hR', fun e => (by cases e)⟩
              intro r e; cases e
theorem isP_R {o : Oper} (h : isP o = true) : isR sp o = false := by
  unfold isP at h
  unfold isR
  split at h <;> simp_all
theorem sig_ok (hT : ∀ t i, T t = some i → TyOk P t i) (hsp : ∀ f S, sp f = some S → Valid P f S) {ops : Array Oper} (hsel : Region.noSelect ops = true) {K : Sl → St → Prop} {ds : List Deferred} {rm : Nat} :
    ∀ (n : Nat) (listed : Array Bool) (lm : Nat) (ts : Sl) (st : St) (β : Nat → Option Value) (F : Nat → Prop) (a : Act) (w : World), sig T sp (ops.toList.map (omOf .any ops)) rm ops n lm ts st K → Rel ops listed lm → Cl .any ops listed → SlOk β F w ts a.tmps → Sat B β F st w → a.defers = ds →
      core P .any ops (rsB ops rm) (fun a' w' => ∃ ts' st' β' F', K ts' st' ∧ SlOk β' F' w' ts' a'.tmps ∧ Sat B β' F' st' w' ∧ a'.defers = ds) n listed (Gd st β F) a w := by
  intro n
  induction n with
  | zero =>
    intro listed lm ts st β F a w h hrel hcl hs hw hd
    simp only [sig] at h
    split at h
    · rename_i hr; exact ⟨readyM_nil hrel hr, ts, st, β, F, h, hs, hw, hd⟩
    · exact h.elim
  | succ n ih =>
    intro listed lm ts st β F a w h hrel hcl hs hw hd
    simp only [sig, forceN_eq] at h
    split at h
    · rename_i hr
      exact ⟨fun _ => ⟨ts, st, β, F, h, hs, hw, hd⟩, fun i hi => by rw [readyM_nil hrel hr] at hi; cases hi⟩
    · rename_i k l hr
      have wantedQ : ∀ {o : Oper} {ch : List (Nat × Bool)}, chainOf ops ts o = some ch → Region.wanted o (yielded ops a.tmps) = gd ts ch := fun hc => chainOf_ok hc hs
      have both : ∀ {x : Nat × Oper × List (Nat × Bool) × Pk}, (match pickQ T sp (ops.toList.map (omOf .any ops)) rm ops lm ts st false (k :: l) with | some x => some x | none => pickQ T sp (ops.toList.map (omOf .any ops)) rm ops lm ts st true (k :: l)) = some x → ∃ b, pickQ T sp (ops.toList.map (omOf .any ops)) rm ops lm ts st b (k :: l) = some x := by
        intro x hx
        split at hx
        · rename_i y hy; cases hx; exact ⟨false, hy⟩
        · exact ⟨true, hx⟩
      have first : ∀ {i : Nat} {o : Oper} {ch : List (Nat × Bool)} {ts2 : Sl} {r : Rs} {v : Value}, i ∈ k :: l → ops[i]? = some o → freeM lm i (omOf .any ops o) (ops.toList.map (omOf .any ops)) 0 = true → chainOf ops ts o = some ch → SlOk β F w ts2 a.tmps → gd ts2 ch = gd ts ch →
          (gd ts ch = true → DnR β F w r v ∧ ∀ w'', (i ∈ rsB ops rm → (∀ k, Gd st β F k → w''.heap[k]? = w.heap[k]?) ∧ w.heap.size ≤ w''.heap.size) → o.quietAt P a (Below w''.heap.size w'') w'' v) → (gd ts ch = false → v = undef) →
          fin o ch ts2 (fun ts' _ => sig T sp (ops.toList.map (omOf .any ops)) rm ops n (Nat.lor (bit1 i) lm) ts' st K) r st →
          core P .any ops (rsB ops rm) (fun a' w' => ∃ ts' st' β' F', K ts' st' ∧ SlOk β' F' w' ts' a'.tmps ∧ Sat B β' F' st' w' ∧ a'.defers = ds) (n + 1) listed (Gd st β F) a w := by
        intro i o ch ts2 r v p1 p2 p3 p4 hs2 hg2 h1 h2 h
        have hir : i ∈ Region.ready .any ops listed := (mem_readyM hrel).1 (by rw [hr]; exact p1)
        have hil : i < ops.size := (Array.getElem?_eq_some_iff.1 p2).1
        refine core_first (v := v) p2 (Region.noSelect_spec hsel) n listed _ a w (freeM_ok hrel p3) hir hcl (fun k hk => gd_lt hw hk) ?_ fun w' hb => ?_
        · cases hgd : gd ts ch with
          | true => exact .inl ⟨by rw [wantedQ p4, hgd], (h1 hgd).2⟩
          | false => exact .inr ⟨by rw [wantedQ p4, hgd], h2 hgd⟩
        · obtain ⟨x1, x2⟩ := hw.below hb (fun _ h => h) (fun _ h => .inl h)
          obtain ⟨ts', f1, f2⟩ := fin_ok h (hs2.ext x1) (fun e => (h1 (hg2 ▸ e)).1.ext x1) (fun e => h2 (hg2 ▸ e)) a.defers
          exact ih _ _ ts' st β F _ w' f1 (hrel.set hil) (hcl.set hir) f2 x2 ((put_defers _ _ _).trans hd)
      split at h
      · rename_i i o ch r hp
        obtain ⟨sb, hp⟩ := both hp
        obtain ⟨p1, p2, p3, p4, p5, _, p7, _⟩ := pickQ_ok hp
        have hil : i < ops.size := (Array.getElem?_eq_some_iff.1 p2).1
        have hv := p5 r rfl
        have p7 := p7 (by simp)
        cases hgd : gd ts ch with
        | true =>
          obtain ⟨u, h1, h2, h3⟩ := opV_ok hT hsp hv hgd hs hw
          refine first (v := u) p1 p2 p3 p4 hs rfl (fun _ => ⟨h1, fun w'' hc => ?_⟩) (fun e => by rw [hgd] at e; cases e) h
          cases hR : isR sp o with
          | true =>
            obtain ⟨c1, c2⟩ := hc (List.mem_filter.2 ⟨by simpa using hil, p7 hR⟩)
            exact h2 w'' c1 c2
          | false => exact h3 hR w''
        | false => exact first (v := undef) p1 p2 p3 p4 hs rfl (fun e => by rw [hgd] at e; cases e) (fun _ => rfl) h
      · rename_i i o ch hp
        obtain ⟨sb, hp⟩ := both hp
        obtain ⟨p1, p2, p3, p4, _, _, _, p8⟩ := pickQ_ok hp
        have hgd := deadB_ok (p8 rfl)
        exact first (v := undef) p1 p2 p3 p4 hs rfl (fun e => by rw [hgd] at e; cases e) (fun _ => rfl) h
      · rename_i i o ch hp
        obtain ⟨sb, hp⟩ := both hp
        obtain ⟨p1, p2, p3, p4, _, p6, p7, _⟩ := pickQ_ok hp
        have hil : i < ops.size := (Array.getElem?_eq_some_iff.1 p2).1
        obtain ⟨ts2, live, g1, g2, g3, g4⟩ := rsv_ok hs h
        split at g1
        · split at g1
          · rename_i r hv
            obtain ⟨u, h1, h2, h3⟩ := opV_ok hT hsp hv g3 g2 hw
            refine first (v := u) p1 p2 p3 p4 g2 (g4 ch) (fun _ => ⟨h1, fun w'' hc => ?_⟩) (fun e => by rw [← g4 ch, g3] at e; cases e) g1
            exact h3 (isP_R (p6 rfl)) w''
          · obtain ⟨r, u, h1, h2, h3⟩ := stepP_ok hT g1 g3 g2 hw
            exact first (v := u) p1 p2 p3 p4 g2 (g4 ch) (fun _ => ⟨h2, fun w'' _ => h3 w''⟩) (fun e => by rw [← g4 ch, g3] at e; cases e) h1
        · exact first (v := undef) p1 p2 p3 p4 g2 (g4 ch) (fun e => by rw [← g4 ch, g3] at e; cases e) (fun _ => rfl) g1
      · refine ⟨fun e => (by have := (mem_readyM (md := .any) hrel (j := k)).1 (by rw [hr]; simp); rw [e] at this; cases this), fun i hi => ?_⟩
        have h := allP_mem h i (by rw [← hr]; exact (mem_readyM hrel).2 hi)
        split at h
        · rename_i o ho
          have hil : i < ops.size := (Array.getElem?_eq_some_iff.1 ho).1
          split at h
          · rename_i ch hc
            obtain ⟨ts2, live, g1, g2, g3, g4⟩ := rsv_ok hs h
            unfold oneOp
            simp only [ho]
            rw [wantedQ hc, ← g4 ch, g3]
            split at g1
            · rw [if_pos rfl]
              split at g1
              · rename_i r hv
                obtain ⟨u, h1, h2, _⟩ := opV_ok hT hsp hv g3 g2 hw
                refine quiet_wp (h2 w (fun _ _ => rfl) (Nat.le_refl _)) (Below.refl _ _) fun w' hb => ?_
                refine ⟨Gd st β F, .inr ⟨fun k hk => ⟨hk, hb.block k (gd_lt hw hk)⟩, hb.size⟩, fun k hk => Nat.lt_of_lt_of_le (gd_lt hw hk) hb.size, fun w'' hb' => ?_⟩
                have hb := hb.trans (hb'.mono hb.size)
                obtain ⟨x1, x2⟩ := hw.below hb (fun _ h => h) (fun _ h => .inl h)
                obtain ⟨ts', f1, f2⟩ := fin_ok g1 (g2.ext x1) (fun _ => h1.ext x1) (fun e => by rw [g3] at e; cases e) a.defers
                exact ih _ _ ts' st β F _ w'' f1 (hrel.set hil) (hcl.set hi) f2 x2 ((put_defers _ _ _).trans hd)
              · split at g1
                · rename_i hA
                  refine opStep_ok hT hsp g1 g3 g2 hw fun r' st' β' F' w' u k1 k2 k3 k4 k5 => ?_
                  refine ⟨Gd st' β' F', ?_, fun k hk => gd_lt k3 hk, fun w'' hb => ?_⟩
                  · simp only [Bool.or_eq_true] at hA
                    rcases hA with hA | hA
                    · exact .inr (k5 hA)
                    · exact .inl (dwaitM_ok hA)
                  · obtain ⟨x1, x2⟩ := k3.below hb (fun _ h => h) (fun _ h => .inl h)
                    obtain ⟨ts', f1, f2⟩ := fin_ok k1 ((g2.ext k2).ext x1) (fun _ => k4.ext x1) (fun e => by rw [g3] at e; cases e) a.defers
                    exact ih _ _ ts' st' β' F' _ w'' f1 (hrel.set hil) (hcl.set hi) f2 x2 ((put_defers _ _ _).trans hd)
                · exact g1.1.elim
            · rw [if_neg (by simp)]
              refine ⟨Gd st β F, .inr ⟨fun k hk => ⟨hk, by simp⟩, by simp⟩, fun k hk => gd_lt hw hk, fun w'' hb => ?_⟩
              obtain ⟨x1, x2⟩ := hw.below hb (fun _ h => h) (fun _ h => .inl h)
              obtain ⟨ts', f1, f2⟩ := fin_ok g1 (g2.ext x1) (u := undef) (fun e => by rw [g3] at e; cases e) (fun _ => rfl) a.defers
              exact ih _ _ ts' st β F _ w'' f1 (hrel.set hil) (hcl.set hi) f2 x2 ((put_defers _ _ _).trans hd)
          · exact h.1.elim
        · exact h.1.elim
end
end Go.Proofs.YtnbbooilapelmaaGreatDoor.V
