/-
  A symbolic run of a function's text: the table of types, checked.
-/
import Derived.Test.YtnbbooilapelmaaGreatDoorKitVj
import Derived.DeepKeys2
set_option linter.unusedVariables false
set_option linter.unusedSimpArgs false
namespace Go.Proofs.YtnbbooilapelmaaGreatDoor.V
open Go.RowKit Go.Proofs.YtnbbooilapelmaaGreatDoor
def zeroC : CV → List Value → Option (List Value)
  | .il k z, .int k' z' :: r => if k = k' ∧ z = z' ∧ inR k z then some r else none
  | .bl b, .bool b' :: r => if b = b' then some r else none
  | .val (.string s), .string s' :: r => if s.size = 0 ∧ s'.size = 0 then some r else none
  | .val (.pointer none), .pointer none :: r => some r
  | .val (.slice none 0 0), .slice none 0 0 :: r => some r
  | .val (.map none), .map none :: r => some r
  | .val .nilFunc, .nilFunc :: r => some r
  | .val .nilIface, .nilIface :: r => some r
  | .run k n d, l => if d.length = n ∧ (∀ y ∈ d, inR k y) ∧ (l.take n).length = n ∧ ((l.take n).zip d).all (fun p => match p.1 with | .int k' z => decide (k' = k ∧ z = p.2) | _ => false) then some (l.drop n) else none
  | _, _ => none
def zeroL : List CV → List Value → Bool
  | [], [] => true
  | c :: r, l => (match zeroC c l with | some m => zeroL r m | none => false)
  | _, _ => false
theorem zip_int {k : IntKind} : ∀ {d : List Int} {l : List Value}, l.length = d.length → (l.zip d).all (fun p => match p.1 with | .int k' z => decide (k' = k ∧ z = p.2) | _ => false) = true → l = d.map (Value.int k)
  | [], [], _, _ => rfl
  | a :: d, v :: l, hl, h => by
    simp only [List.zip_cons_cons, List.all_cons, Bool.and_eq_true] at h
    have := zip_int (k := k) (d := d) (l := l) (by simpa using hl) h.2
    rw [List.map_cons, ← this]
    have h1 := h.1
    cases v <;> simp at h1
    rw [h1.1, h1.2]
theorem zeroC_ok {β : Nat → Option Value} {F : Nat → Prop} {w : World} {c : CV} {l m : List Value} (h : zeroC c l = some m) : ∃ a, l = a ++ m ∧ DnC β F w c a := by
  unfold zeroC at h
  split at h
  · split at h
    · rename_i k z k' z' r hc
      obtain ⟨rfl, rfl, hr⟩ := hc
      cases h
      exact ⟨[_], rfl, _, rfl, ⟨rfl, hr⟩, rfl⟩
    · cases h
  · split at h
    · rename_i hc; subst hc; cases h; exact ⟨[_], rfl, _, rfl, rfl, rfl⟩
    · cases h
  · split at h
    · rename_i s s' r hc
      cases h
      have e : s = s' := by
        have h1 : s.data = #[] := Array.eq_empty_of_size_eq_zero hc.1
        have h2 : s'.data = #[] := Array.eq_empty_of_size_eq_zero hc.2
        cases s; cases s'; simp_all
      subst e
      exact ⟨[_], rfl, _, rfl, ⟨rfl, by unfold vOk maxLen; omega⟩, rfl⟩
    · cases h
  · cases h; exact ⟨[_], rfl, _, rfl, ⟨rfl, trivial⟩, rfl⟩
  · cases h; exact ⟨[_], rfl, _, rfl, ⟨rfl, rfl, rfl⟩, rfl⟩
  · cases h; exact ⟨[_], rfl, _, rfl, ⟨rfl, trivial⟩, rfl⟩
  · cases h; exact ⟨[_], rfl, _, rfl, ⟨rfl, trivial⟩, rfl⟩
  · cases h; exact ⟨[_], rfl, _, rfl, ⟨rfl, trivial⟩, rfl⟩
  · split at h
    · rename_i k n d hc
      cases h
      obtain ⟨h1, h2, h3, h4⟩ := hc
      exact ⟨_, (List.take_append_drop n _).symm, h1, zip_int (by rw [h3, h1]) h4, h2⟩
    · cases h
  · cases h
theorem zeroL_ok {β : Nat → Option Value} {F : Nat → Prop} {w : World} : ∀ {c : List CV} {l : List Value}, zeroL c l = true → DnL β F w c l
  | [], [], _ => rfl
  | c :: r, l, h => by
    simp only [zeroL] at h
    split at h
    · rename_i m hm
      obtain ⟨a, e, hd⟩ := zeroC_ok (β := β) (F := F) (w := w) hm
      exact ⟨a, m, e, hd, zeroL_ok h⟩
    · cases h
/-! ### Kinds of cells -/
def kinds (P : Program) : Nat → TypeId → Option (List CKd)
  | 0, _ => none
  | d + 1, t => (match P.underlying t with
    | some (.int k) => some [.int k]
    | some .bool => some [.bool]
    | some .string => some [.str]
    | some (.array n e) => (match kinds P d e with
      | some ks => if ks.length = P.cellsOf e ∧ n * P.cellsOf e = P.cellsOf t then some (List.replicate n ks).flatten else none
      | none => none)
    | some (.struct fs) => (match (fs.toList.mapM fun f => kinds P d f.type) with
      | some l => if P.runs 0 fs.toList = some (P.cellsOf t) ∧ (fs.toList.map fun f => P.cellsOf f.type) = l.map List.length ∧ fs.all (·.name != "_") = true then some l.flatten else none
      | none => none)
    | _ => none)
theorem KdL.len : ∀ {ks : List CKd} {l : List Value}, KdL ks l → l.length = ks.length
  | [], l, h => by rw [show l = [] from h]; rfl
  | k :: r, l, h => by obtain ⟨v, m, rfl, _, h2⟩ := h; simp [KdL.len h2]
theorem KdL.split : ∀ {a b : List CKd} {l : List Value}, KdL (a ++ b) l → KdL a (l.take a.length) ∧ KdL b (l.drop a.length)
  | [], b, l, h => ⟨rfl, by simpa using h⟩
  | k :: a, b, l, h => by
    obtain ⟨v, m, rfl, h1, h2⟩ := h
    obtain ⟨h3, h4⟩ := KdL.split h2
    exact ⟨⟨v, _, by simp, h1, h3⟩, by simpa using h4⟩
theorem kinds_lits {P : Program} : ∀ (d : Nat) (t : TypeId) (ks : List CKd), kinds P d t = some ks → ∀ l, KdL ks l → ∃ L, P.keyLits d t l = some L
  | 0, t, ks, h => by simp [kinds] at h
  | d + 1, t, ks, h => by
    intro l hl
    simp only [kinds] at h
    unfold Program.keyLits
    split at h
    · rename_i k hu
      cases h
      obtain ⟨v, m, rfl, ⟨a, rfl, hr⟩, hm⟩ := hl
      rw [show m = [] from hm, hu]
      simp [inR_wf.1 hr]
    · rename_i hu
      cases h
      obtain ⟨v, m, rfl, ⟨a, rfl⟩, hm⟩ := hl
      rw [show m = [] from hm, hu]
      simp
    · rename_i hu
      cases h
      obtain ⟨v, m, rfl, ⟨a, rfl, hr⟩, hm⟩ := hl
      rw [show m = [] from hm, hu]
      simp [hr]
    · rename_i n e hu
      split at h
      · rename_i k0 hk
        split at h
        · rename_i hc
          cases h
          obtain ⟨c1, c2⟩ := hc
          have hlen : l.length = P.cellsOf t := by rw [hl.len, List.length_flatten]; simp [c1, ← c2]
          rw [hu]
          simp only [hlen, if_true]
          have : ∃ as, ((List.range n).mapM fun i => P.keyLits d e ((l.drop (i * P.cellsOf e)).take (P.cellsOf e))) = some as := by
            have key : ∀ (is : List Nat), (∀ i ∈ is, i < n) → ∃ as, (is.mapM fun i => P.keyLits d e ((l.drop (i * P.cellsOf e)).take (P.cellsOf e))) = some as := by
              intro is
              induction is with
              | nil => intro _; exact ⟨[], rfl⟩
              | cons i is ih =>
                intro hi
                obtain ⟨as, has⟩ := ih fun j hj => hi j (by simp [hj])
                have hin := hi i (by simp)
                have hseg : KdL k0 ((l.drop (i * P.cellsOf e)).take (P.cellsOf e)) := by
                  have h1 : (List.replicate n k0).flatten = (List.replicate i k0).flatten ++ (k0 ++ (List.replicate (n - i - 1) k0).flatten) := by
                    rw [← List.flatten_cons, ← List.replicate_succ, ← List.flatten_append, List.replicate_append_replicate]
                    congr 2
                    omega
                  rw [h1] at hl
                  obtain ⟨_, h2⟩ := hl.split
                  obtain ⟨h3, _⟩ := h2.split
                  rw [← c1]
                  simpa [List.length_flatten] using h3
                obtain ⟨L, hL⟩ := kinds_lits d e k0 hk _ hseg
                exact ⟨L :: as, by rw [List.mapM_cons, hL, has]; rfl⟩
            exact key _ fun i hi => by simpa using hi
          obtain ⟨as, has⟩ := this
          exact ⟨as.flatten, by rw [has]; rfl⟩
        · cases h
      · cases h
    · rename_i fs hu
      split at h
      · rename_i kl hk
        split at h
        · rename_i hc
          cases h
          obtain ⟨c1, c2, c3⟩ := hc
          have key : ∀ (gs : List Field) (kl : List (List CKd)) (off tot : Nat), (gs.mapM fun f => kinds P d f.type) = some kl → (gs.map fun f => P.cellsOf f.type) = kl.map List.length → P.runs off gs = some tot → ∀ l : List Value, l.length = tot → KdL kl.flatten (l.drop off) → (∃ as, (gs.mapM fun f => P.keyLits d f.type ((l.drop f.offset).take (P.cellsOf f.type))) = some as) := by
            intro gs
            induction gs with
            | nil => intro kl off tot h1 h2 h3 l h4 h5; exact ⟨[], rfl⟩
            | cons f gs ih =>
              intro kl off tot h1 h2 h3 l h4 h5
              rw [List.mapM_cons] at h1
              obtain ⟨k0, kl', hk0, hkl, rfl⟩ : ∃ k0 kl', kinds P d f.type = some k0 ∧ (gs.mapM fun f => kinds P d f.type) = some kl' ∧ k0 :: kl' = kl := by
                cases hk0 : kinds P d f.type with
                | none => simp [hk0] at h1
                | some k0 =>
                  cases hkl : (gs.mapM fun f => kinds P d f.type) with
                  | none => simp [hk0, hkl] at h1
                  | some kl' => simp [hk0, hkl] at h1; exact ⟨k0, kl', rfl, rfl, h1⟩
              simp only [List.map_cons, List.cons.injEq] at h2
              simp only [Program.runs] at h3
              split at h3
              · rename_i ho
                rw [List.flatten_cons] at h5
                obtain ⟨g1, g2⟩ := h5.split
                rw [← h2.1] at g1 g2
                obtain ⟨L, hL⟩ := kinds_lits d f.type k0 hk0 _ g1
                obtain ⟨as, has⟩ := ih kl' (off + P.cellsOf f.type) tot hkl h2.2 h3 l h4 (by rw [← List.drop_drop]; exact g2)
                exact ⟨L :: as, by rw [List.mapM_cons, ho, hL, has]; rfl⟩
              · cases h3
          have hlen : l.length = P.cellsOf t := by
            rw [hl.len, List.length_flatten]
            have tot : ∀ (gs : List Field) (off tot : Nat), P.runs off gs = some tot → off + (gs.map fun f => P.cellsOf f.type).sum = tot := by
              intro gs
              induction gs with
              | nil => intro off tot h; simp [Program.runs] at h; simp [h]
              | cons f gs ih =>
                intro off tot h
                simp only [Program.runs] at h
                split at h
                · have := ih _ _ h; simp only [List.map_cons, List.sum_cons]; omega
                · cases h
            have := tot _ _ _ c1
            rw [c2] at this
            simpa using this
          rw [hu]
          simp only [hlen, c3, and_self, if_true]
          obtain ⟨as, has⟩ := key fs.toList kl 0 _ hk c2 c1 l hlen (by simpa using hl)
          exact ⟨as.flatten, by rw [has]; rfl⟩
        · cases h
      · cases h
    · cases h
theorem eqk_ok {P : Program} {m : Nat} (hm : m ≤ 10000) {t : TypeId} {ks : List CKd} (hk : kinds P m t = some ks) (hkt : P.keyTypeAt m t = true) (htl : P.tiled m t = true) (hrow : ∃ d, P.underlying t = some d ∧ isRowD d = true) (w : World) (xs ys : List Value) (hx : KdL ks xs) (hy : KdL ks ys) :
    ∃ r, (Op.equal t (.agg xs.toArray) (.agg ys.toArray)).run P w = .ok r w ∧ (r = true ↔ xs = ys) := by
  obtain ⟨la, ha⟩ := kinds_lits m t ks hk xs hx
  obtain ⟨lb, hb⟩ := kinds_lits m t ks hk ys hy
  have hE := run_equalIn_deep (10000 - m) m t hkt
  rw [show 10000 - m + m = 10000 by omega] at hE
  obtain ⟨d, hu, hd⟩ := hrow
  have hf : ∀ (zs : List Value) L, P.keyLits m t zs = some L → (Value.agg zs.toArray).formed P t = true := fun zs L h => by
    cases m with
    | zero => simp [Program.keyLits] at h
    | succ m =>
      unfold Program.keyLits at h
      rw [hu] at h
      cases d <;> simp [isRowD] at hd <;> simp only at h <;> split at h <;> first | cases h | (rename_i hc; simp [Value.formed, hu, hc])
  obtain ⟨r, h1, h2⟩ := hE w m m (.agg xs.toArray) (.agg ys.toArray) la lb (hf xs la ha) (hf ys lb hb) (by simpa [Value.cells] using ha) (by simpa [Value.cells] using hb)
  refine ⟨r, h1, h2.trans ⟨fun e => ?_, fun e => ?_⟩⟩
  · rw [cells_of_lits m t htl m xs la ha, cells_of_lits m t htl m ys lb hb, e]
  · subst e; rw [ha] at hb; cases hb; rfl
def tripB : List (Nat × Nat × TypeId) → List (Nat × Nat × TypeId) → Bool
  | [], [] => true
  | (a, b, c) :: r, (a', b', c') :: s => Nat.beq a a' && (Nat.beq b b' && (Nat.beq c c' && tripB r s))
  | _, _ => false
theorem tripB_eq : ∀ {l m : List (Nat × Nat × TypeId)}, tripB l m = true → l = m
  | [], [], _ => rfl
  | (a, b, c) :: r, (a', b', c') :: s, h => by
    simp only [tripB, Bool.and_eq_true] at h
    rw [Nat.eq_of_beq_eq_true h.1, Nat.eq_of_beq_eq_true h.2.1, Nat.eq_of_beq_eq_true h.2.2.1, tripB_eq h.2.2.2]
def notAgg : Value → Bool | .agg _ => false | _ => true
theorem notAgg_cells {v : Value} (h : notAgg v = true) : v.cells = #[v] := by cases v <;> first | rfl | cases h
/-- The table's row, checked. -/
def tyB (P : Program) (t : TypeId) (i : Ty) : Bool :=
  (match P.info? t, P.underlying t with
  | some ti, some d => Nat.beq ti.size i.n && (Nat.beq (cwid i.zero) i.n && Nat.beq ti.bytes i.by_ && ((match ti.zero with | some v => zeroL i.zero v.cells.toList && (i.agg || notAgg v) | none => false) &&
      ((match isRowD d, i.agg with | true, true | false, false => true | _, _ => false) &&
      ((match i.flds, d with | [], _ => true | _ :: _, .struct fs => tripB (fs.toList.map (fun f => (f.offset, P.cellsOf f.type, f.type))) i.flds && i.flds.all (fun p => !(Nat.beq p.2.1 0)) | _, _ => false) &&
      ((match i.el.1, d with | 0, _ => true | n + 1, .array m e => Nat.beq (n + 1) m && (Nat.beq e i.el.2 && (P.info? e).isSome) | _, _ => false) &&
      ((match i.kd, d with
        | .int k, .int k' => eqK k k'
        | .bool, .bool | .str, .string | .oth, _ => true
        | .slice e, .slice e' => Nat.beq e e'
        | .ptr e, .pointer e' => Nat.beq e e'
        | .map k e, .map k' e' => Nat.beq k k' && Nat.beq e e'
        | _, _ => false) &&
      (match i.eqk with
        | none => true
        | some ks => (match kinds P 12 t with | some ks' => eqCKs ks' ks | none => false) && (P.keyTypeAt 12 t && (P.tiled 12 t && (isRowD d && !(P.eqGuardType P.depth t)))))))))))
  | _, _ => false)
theorem tyB_ok {P : Program} {t : TypeId} {i : Ty} (h : tyB P t i = true) : TyOk P t i := by
  unfold tyB at h
  split at h
  · rename_i ti d hi hd
    simp only [Bool.and_eq_true] at h
    obtain ⟨h1, ⟨h0, h2⟩, h3, h4, h5, h6, h7, h8⟩ := h
    refine ⟨by simp [hi, Nat.eq_of_beq_eq_true h1], Nat.eq_of_beq_eq_true h0, fun β F w => ?_, ⟨d, hd, ?_⟩, fun hf => ?_, fun he => ?_, by simp [hi, Nat.eq_of_beq_eq_true h2], ?_, fun ha v hv => ?_, fun ks hk => ?_⟩
    · split at h3
      · rename_i v hv
        simp only [Bool.and_eq_true] at h3
        exact ⟨v, v.cells.toList, by simp [hi, hv], by simp, zeroL_ok h3.1⟩
      · cases h3
    · split at h4 <;> simp_all
    · split at h5
      · rename_i e; exact absurd e hf
      · rename_i fs e
        simp only [Bool.and_eq_true] at h5
        exact ⟨fs, hd, tripB_eq h5.1, fun p hp => by have := List.all_eq_true.1 h5.2 p hp; exact Nat.ne_of_beq_eq_false (by simpa using this)⟩
      · cases h5
    · split at h6
      · rename_i e; exact absurd e he
      · rename_i n m e hn
        simp only [Bool.and_eq_true] at h6
        obtain rfl := Nat.eq_of_beq_eq_true h6.1
        obtain e2 := Nat.eq_of_beq_eq_true h6.2.1
        rw [hn, ← e2]
        exact ⟨hd, h6.2.2⟩
      · cases h6
    · split at h7
      · rename_i e; rw [e]; simp only; rw [hd, eqK_eq h7]
      · rename_i e; rw [e]; exact hd
      · rename_i e; rw [e]; exact hd
      · rename_i e; rw [e]; trivial
      · rename_i e; rw [e]; simp only; rw [hd, Nat.eq_of_beq_eq_true h7]
      · rename_i e; rw [e]; simp only; rw [hd, Nat.eq_of_beq_eq_true h7]
      · rename_i e; simp only [Bool.and_eq_true] at h7; rw [e]; simp only; rw [hd, Nat.eq_of_beq_eq_true h7.1, Nat.eq_of_beq_eq_true h7.2]
      · cases h7
    · have hz : ti.zero = some v := by simpa [hi] using hv
      rw [hz] at h3
      simp only [Bool.and_eq_true, ha, Bool.false_or] at h3
      exact notAgg_cells h3.2
    · rw [hk] at h8
      simp only [Bool.and_eq_true, Bool.not_eq_true'] at h8
      obtain ⟨g1, g2, g3, g4, g5⟩ := h8
      split at g1
      · rename_i ks' hks
        have := eqCKs_eq g1
        subst this
        exact ⟨g5, fun w xs ys hx hy => eqk_ok (by omega) hks g2 g3 ⟨d, hd, g4⟩ w xs ys hx hy⟩
      · cases g1
  · cases h
end Go.Proofs.YtnbbooilapelmaaGreatDoor.V
