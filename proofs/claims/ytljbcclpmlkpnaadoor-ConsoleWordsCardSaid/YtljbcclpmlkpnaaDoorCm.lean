import Derived.KernelRfl
import Derived.Test.YtljbcclpmlkpnaaDoorCl
namespace Go.Proofs.YtljbcclpmlkpnaaDoor.V
open Go.RowKit Go.Proofs.YtljbcclpmlkpnaaDoor
set_option linter.unusedSimpArgs false
set_option pp.deepTerms true
set_option pp.maxSteps 200000
theorem cutL_app : ∀ (a b : List UInt8), cutL (a ++ 32 :: b) = cutL a ++ cutL b
  | [], b => by simp [cutL]
  | c :: a, b => by
    have ih := cutL_app a b
    rw [List.cons_append, cutL, cutL, ih]
    split
    · rw [List.cons_append]
    · cases h : cutL a with
      | nil => exact absurd h (cutL_ne a)
      | cons w l => rfl
theorem wd_app (s y : ByteArray) : wd (s ++ (sp ++ y)) = wd s ++ wd y := by
  rw [wd, app_list, app_list, show sp.data.toList ++ y.data.toList = 32 :: y.data.toList from rfl, cutL_app, List.map_append]; rfl
def noSp (w : ByteArray) : Prop := 32 ∉ w.data.toList
theorem wd_one {w : ByteArray} (h : noSp w) : wd w = [w] := by
  rw [wd, cutL_none h, List.map_cons, mkW_data]; rfl
theorem wd_join : ∀ l : List ByteArray, l ≠ [] → (∀ w ∈ l, noSp w) → wd (joinB l sp) = l
  | [], h, _ => absurd rfl h
  | [w], _, h => by rw [join1, wd_one (h w (by simp))]
  | a :: b :: r, _, h => by
    rw [join_more, wd_app, wd_one (h a (by simp)), wd_join (b :: r) (by simp) (fun w hw => h w (by simp [hw]))]; rfl
theorem join_cut : ∀ L : List UInt8, Lib.join (cutL L) [32] = L
  | [] => by rw [cutL, Lib.join_one]
  | c :: L => by
    have ih := join_cut L
    rw [cutL]
    split
    · rename_i hc
      cases h : cutL L with
      | nil => exact absurd h (cutL_ne L)
      | cons w l => rw [h] at ih; rw [join_cons2, ih, hc]; rfl
    · cases h : cutL L with
      | nil => exact absurd h (cutL_ne L)
      | cons w l =>
        rw [h] at ih
        cases l with
        | nil => rw [Lib.join_one] at ih ⊢; rw [ih]
        | cons x l => rw [join_cons2] at ih ⊢; rw [← ih]; rfl
theorem join_wd (s : ByteArray) : joinB (wd s) sp = s := by
  apply ba_ext
  rw [joinB_list, wd, List.map_map]
  have : ((fun x : ByteArray => x.data.toList) ∘ mkW) = id := by funext l; exact mkW_list l
  rw [this, List.map_id]
  exact join_cut _
theorem dec_noSp (n : Int) : noSp (decB n) := by
  intro h
  rw [decB_list, Lib.itoa] at h
  split at h
  · rcases List.mem_cons.1 h with h | h
    · exact absurd h (by decide)
    · have := digs_all _ _ h; exact absurd this (by decide)
  · have := digs_all _ _ h; exact absurd this (by decide)
theorem numO_dec {n : Int} (h0 : -9223372036854775808 ≤ n) (h1 : n ≤ 9223372036854775807) : numO (decB n) = some n := by
  rw [numO_n1 (by rw [numB_dec h0 h1]), numB_dec h0 h1]
theorem numO_inv {w : ByteArray} {n : Int} (h : numO w = some n) : w = decB n := by
  rw [numO] at h
  split at h
  · rename_i h2; cases h; exact numB_ok h2
  · cases h
theorem names_noSp : ∀ w ∈ namesL, noSp w := by unfold noSp; decide
theorem kinds_noSp : ∀ w ∈ kindsL, noSp w := by unfold noSp; decide
theorem nameA_at {k : Int} (h : 1 ≤ k ∧ k ≤ 10) : namesL[k.toNat]? = some (nameA k) := by
  rw [nameA, List.getD_eq_getElem?_getD, List.getElem?_eq_getElem (show k.toNat < namesL.length by show _ < 11; omega)]; rfl
theorem nameO_at {k : Int} (h : 1 ≤ k ∧ k ≤ 4) : kindsL[k.toNat]? = some (nameO k) := by
  rw [nameO, List.getD_eq_getElem?_getD, List.getElem?_eq_getElem (show k.toNat < kindsL.length by show _ < 5; omega)]; rfl
theorem kindA_name {k : Int} (h : 1 ≤ k ∧ k ≤ 10) : (kindA (nameA k) : Int) = k := by
  rw [kindA_eq (k := k.toNat) (by omega) (by omega) (nameA_at h)]; omega
theorem kindO_eq {k : Nat} {w : ByteArray} (h0 : 1 ≤ k) (h1 : k ≤ 4) (h : kindsL[k]? = some w) : kindO w = k := by
  have : k = 1 ∨ k = 2 ∨ k = 3 ∨ k = 4 := by omega
  rcases this with rfl | rfl | rfl | rfl <;> (cases h; decide)
theorem kindO_name {k : Int} (h : 1 ≤ k ∧ k ≤ 4) : (kindO (nameO k) : Int) = k := by
  rw [kindO_eq (k := k.toNat) (by omega) (by omega) (nameO_at h)]; omega
theorem idxF_at {l : List ByteArray} {w : ByteArray} : ∀ {n : Nat}, idxF l w n ≠ 0 → l[idxF l w n]? = some w ∧ idxF l w n ≤ n
  | 0, h => absurd rfl h
  | n + 1, h => by
    rw [idxF] at h ⊢
    split
    · rename_i e; exact ⟨e, Nat.le_refl _⟩
    · rename_i e
      rw [if_neg e] at h
      obtain ⟨h1, h2⟩ := idxF_at h
      exact ⟨h1, Nat.le_succ_of_le h2⟩
theorem act_noSp {a : AN} (h : goodA a = true) : ∀ w ∈ actWs a, noSp w := by
  have hk : 1 ≤ a.1 ∧ a.1 ≤ 10 := by
    rw [goodA] at h
    simp only [Bool.and_eq_true, decide_eq_true_eq] at h
    exact h.1
  intro w hw
  rw [actWs, List.mem_cons, List.mem_append] at hw
  rcases hw with rfl | hw | hw
  · exact names_noSp _ (List.mem_of_getElem? (nameA_at hk))
  · split at hw
    · rw [List.mem_singleton] at hw; rw [hw]; exact dec_noSp _
    · cases hw
  · split at hw
    · rw [List.mem_singleton] at hw; rw [hw]; exact dec_noSp _
    · cases hw
theorem good_bd {a : AN} (h : goodA a = true) : (1 ≤ a.1 ∧ a.1 ≤ 10) ∧ (0 ≤ a.2.1 ∧ a.2.1 < 8) ∧ (0 ≤ a.2.2 ∧ a.2.2 < 64) ∧ (coreK a.1 = false → a.2.1 = 0) ∧ (lineK a.1 = false → a.2.2 = 0) := by
  rw [goodA] at h
  simp only [mayF, Bool.and_eq_true, Bool.or_eq_true, decide_eq_true_eq] at h
  refine ⟨h.1, by omega, by omega, fun e => ?_, fun e => ?_⟩
  · rw [e] at h; simp at h; omega
  · rw [e] at h; simp at h; omega
/-- What the name is followed by is taken, and what is left is left. -/
theorem actK_app {k c l : Int} (hg : goodA (k, c, l) = true) (E : List ByteArray) : actK k ((if coreK k = true then [decB c] else []) ++ (if lineK k = true then [decB l] else []) ++ E) = if E = [] then some (k, c, l) else none := by
  obtain ⟨h1, h2, h3, h4, h5⟩ := good_bd hg
  dsimp only at h1 h2 h3 h4 h5
  have nc := numO_dec (n := c) (by omega) (by omega)
  have nl := numO_dec (n := l) (by omega) (by omega)
  cases hc : coreK k <;> cases hl : lineK k
  · have := h4 hc; have := h5 hl; subst c; subst l
    by_cases hE : E = [] <;> simp [actK, takeB, hc, hl, hg, hE]
  · have := h4 hc; subst c
    by_cases hE : E = [] <;> simp [actK, takeB, hc, hl, hg, hE, nl]
  · have := h5 hl; subst l
    by_cases hE : E = [] <;> simp [actK, takeB, hc, hl, hg, hE, nc]
  · by_cases hE : E = [] <;> simp [actK, takeB, hc, hl, hg, hE, nc, nl]
theorem actW_app {a : AN} (hg : goodA a = true) (E : List ByteArray) : actW (actWs a ++ E) = if E = [] then some a else none := by
  obtain ⟨k, c, l⟩ := a
  have hk := (good_bd hg).1
  have e := kindA_name hk
  rw [actWs, List.cons_append, actW, if_neg (by dsimp only at e hk ⊢; omega), e]
  exact actK_app hg E
theorem act_back {a : AN} (hg : goodA a = true) : actF (actLn a).1 = (a, 0) := by
  rw [actLn_in hg, actF, wd_join _ (by rw [actWs]; simp) (act_noSp hg)]
  have := actW_app hg []
  rw [List.append_nil, if_pos rfl] at this
  rw [this]; rfl
theorem act_more {a : AN} (hg : goodA a = true) (y : ByteArray) : (actF ((actLn a).1 ++ (sp ++ y))).2 = 320 := by
  rw [actLn_in hg, actF, wd_app, wd_join _ (by rw [actWs]; simp) (act_noSp hg), actW_app hg, if_neg]
  · rfl
  · intro e; exact cutL_ne _ (List.map_eq_nil_iff.1 e)
theorem act_ahead (s : ByteArray) : (actF (sp ++ s)).2 = 320 := by
  have e : sp ++ s = ⟨#[]⟩ ++ (sp ++ s) := by apply ba_ext; simp
  rw [e, actF, wd_app, show wd ⟨#[]⟩ = [⟨#[]⟩] from rfl, List.singleton_append, actW, if_pos (by decide)]; rfl
theorem takeB_inv {b : Bool} {r q : List ByteArray} {n : Int} (h : takeB b r = some (n, q)) : r = (if b = true then [decB n] else []) ++ q ∧ (b = false → n = 0) := by
  unfold takeB at h
  cases b with
  | false => cases h; simp
  | true =>
    simp only [if_true] at h
    cases r with
    | nil => cases h
    | cons w r =>
      obtain ⟨m, h1, h2⟩ := Option.map_eq_some_iff.1 h
      cases h2
      rw [numO_inv h1]; simp
theorem act_fwd {s : ByteArray} (h : (actF s).2 = 0) : goodA (actF s).1 = true ∧ (actLn (actF s).1) = (s, 0) := by
  rw [actF] at h ⊢
  cases hW : actW (wd s) with
  | none => rw [hW] at h; exact absurd h (by decide)
  | some a =>
    show goodA a = true ∧ actLn a = (s, 0)
    cases hd : wd s with
    | nil => rw [hd] at hW; cases hW
    | cons w r =>
      rw [hd, actW] at hW
      split at hW
      · cases hW
      · rename_i hk
        obtain ⟨g1, g2⟩ := idxF_at hk
        rw [actK] at hW
        obtain ⟨⟨c, q⟩, e1, hW⟩ := Option.bind_eq_some_iff.1 hW
        obtain ⟨⟨l, q2⟩, e2, hW⟩ := Option.bind_eq_some_iff.1 hW
        dsimp only at e1 e2 hW
        split at hW
        · rename_i hg
          cases hW
          obtain ⟨rfl, hg⟩ := hg
          obtain ⟨t1, _⟩ := takeB_inv e1
          obtain ⟨t2, _⟩ := takeB_inv e2
          refine ⟨hg, ?_⟩
          have hw : w = nameA (kindA w) := by
            rw [nameA, List.getD_eq_getElem?_getD, Int.toNat_natCast]
            show w = (namesL[kindA w]?).getD _
            rw [show namesL[kindA w]? = some w from g1]; rfl
          rw [actLn_in hg]
          congr 1
          rw [actWs]
          dsimp only
          rw [← hw]
          have : w :: ((if coreK (kindA w : Int) = true then [decB c] else []) ++ if lineK (kindA w : Int) = true then [decB l] else []) = wd s := by
            rw [hd, t1, t2]; simp
          rw [this, join_wd]
        · cases hW
structure GP (o : ON) : Prop where
  k : 1 ≤ o.1 ∧ o.1 ≤ 4
  w : -9223372036854775808 ≤ o.2.1 ∧ o.2.1 ≤ 9223372036854775807
  v : 0 ≤ o.2.2 ∧ o.2.2 < 2147483648
  r : o.1 = 1 → o.2.2 = 0
theorem gp_of {l : List ON} {b : Bool} (hr : rngT shT (l, b)) (h : goodT (l, b) = true) : ∀ o ∈ l, GP o := by
  have hG := go_of hr h
  intro o ho
  obtain ⟨h1, h2, h3⟩ := hG.o o ho
  rw [goodT] at h
  simp only [Bool.and_eq_true, decide_eq_true_eq, List.all_eq_true] at h
  have h4 := h.2 o ho
  rw [goodO] at h4
  simp only [Bool.and_eq_true, decide_eq_true_eq, Bool.not_eq_true', Bool.and_eq_false_iff, decide_eq_false_iff_not] at h4
  exact ⟨h1, h2, h3, fun e => by omega⟩
theorem tx_op {o : ON} (h : GP o) {E : List ByteArray} (hE : E ≠ []) : txW (opWs o ++ E) = addO o (txW E) := by
  obtain ⟨k, w, v⟩ := o
  have hk := h.k
  have hw := h.w
  have hv := h.v
  dsimp only at hk hw hv
  have e := kindO_name hk
  have nw := numO_dec hw.1 hw.2
  have nv := numO_dec (n := v) (by omega) (by omega)
  rw [opWs]
  by_cases k1 : k = 1
  · have := h.r k1
    dsimp only at this
    subst this; subst k1
    rw [if_pos rfl]
    simp only [List.cons_append, List.nil_append]
    rw [tx_k1 (by omega), if_neg hE, nw]; rfl
  · rw [if_neg k1]
    simp only [List.cons_append, List.nil_append]
    rw [tx_kN (by omega) (by omega), if_neg hE, nw, nv]
    simp only [Option.bind_some]
    rw [if_pos hv.1, e]
theorem tx_all {b : Bool} (E : List ByteArray) : ∀ {l : List ON}, (∀ o ∈ l, GP o) → txW (opsWs l ++ endW b :: E) = if E = [] then some (l, b) else none
  | [], _ => by
    cases E with
    | nil => cases b <;> rfl
    | cons a r =>
      rw [if_neg (by simp)]
      show txW (endW b :: a :: r) = none
      exact tx_k0 (by cases b <;> decide)
  | o :: l, h => by
    have ih := tx_all (b := b) E (fun o ho => h o (by simp [ho]) : ∀ o ∈ l, GP o)
    have e : opsWs (o :: l) ++ endW b :: E = opWs o ++ (opsWs l ++ endW b :: E) := by simp [opsWs]
    rw [e, tx_op (h o (by simp)) (by simp), ih]
    split <;> simp [addO]
theorem end_noSp (b : Bool) : noSp (endW b) := by unfold noSp; cases b <;> decide
theorem ops_noSp {l : List ON} (h : ∀ o ∈ l, GP o) : ∀ w ∈ opsWs l, noSp w := by
  intro w hw
  obtain ⟨o, ho, hw⟩ := List.mem_flatMap.1 hw
  rw [opWs, List.mem_cons, List.mem_cons] at hw
  rcases hw with rfl | rfl | hw
  · exact kinds_noSp _ (List.mem_of_getElem? (nameO_at (h o ho).k))
  · exact dec_noSp _
  · split at hw
    · cases hw
    · rw [List.mem_singleton] at hw; rw [hw]; exact dec_noSp _
theorem wd_tx {l : List ON} (h : ∀ o ∈ l, GP o) {x : ByteArray} (hx : noSp x) : wd (joinB (opsWs l ++ [x]) sp) = opsWs l ++ [x] := by
  refine wd_join _ (by simp) fun w hw => ?_
  rcases List.mem_append.1 hw with hw | hw
  · exact ops_noSp h w hw
  · rw [List.mem_singleton] at hw; rw [hw]; exact hx
theorem tx_back {l : List ON} {b : Bool} (hg : goodT (l, b) = true) (h : ∀ o ∈ l, GP o) : txF (txLn (l, b)).1 = ((l, b), 0) := by
  rw [txLn_in hg, txF, txWs]
  dsimp only
  rw [wd_tx h (end_noSp b)]
  have := tx_all (b := b) [] h
  rw [if_pos rfl] at this
  rw [this, txR, if_pos hg]
theorem tx_more {l : List ON} {b : Bool} (hg : goodT (l, b) = true) (h : ∀ o ∈ l, GP o) (y : ByteArray) : (txF ((txLn (l, b)).1 ++ (sp ++ y))).2 = 320 := by
  rw [txLn_in hg, txF, txWs]
  dsimp only
  rw [wd_app, wd_tx h (end_noSp b), List.append_assoc, List.singleton_append, tx_all _ h, if_neg]
  · rfl
  · intro e; exact cutL_ne _ (List.map_eq_nil_iff.1 e)
theorem tx_ahead (s : ByteArray) : (txF (sp ++ s)).2 = 320 := by
  have e : sp ++ s = ⟨#[]⟩ ++ (sp ++ s) := by apply ba_ext; simp
  rw [e, txF, wd_app, show wd ⟨#[]⟩ = [⟨#[]⟩] from rfl, List.singleton_append]
  cases h : wd s with
  | nil => exact absurd (List.map_eq_nil_iff.1 h) (cutL_ne _)
  | cons w r => rw [tx_k0 (by decide)]; rfl
theorem tx_none {l : List ON} (h : ∀ o ∈ l, GP o) {x : ByteArray} (hx : txW [x] = none) : txW (opsWs l ++ [x]) = none := by
  induction l with
  | nil => exact hx
  | cons o l ih =>
    have e : opsWs (o :: l) ++ [x] = opWs o ++ (opsWs l ++ [x]) := by simp [opsWs]
    rw [e, tx_op (h o (by simp)) (by simp), ih (fun o ho => h o (by simp [ho]))]; rfl
/-- The last word without its last letter. -/
def cutE (b : Bool) : ByteArray := if b = true then ⟨#[97, 98, 111, 114]⟩ else ⟨#[99, 111, 109, 109, 105]⟩
theorem tx_cut {l : List ON} {b : Bool} (hg : goodT (l, b) = true) (h : ∀ o ∈ l, GP o) : (txF ((txLn (l, b)).1.extract 0 ((txLn (l, b)).1.size - 1))).2 = 320 := by
  have e : (txLn (l, b)).1.extract 0 ((txLn (l, b)).1.size - 1) = joinB (opsWs l ++ [cutE b]) sp := by
    rw [txLn_in hg, txWs]
    dsimp only
    rw [join_sep, join_sep]
    apply ba_ext
    rw [extract_eq, mkW_list, app_list, app_list, ByteArray.size_append, ba_size, ba_size]
    cases b
    · show List.take ((_ + 6) - 1 - 0) _ = _
      rw [List.drop_zero, show (sepB (opsWs l)).data.toList.length + 6 - 1 - 0 = (sepB (opsWs l)).data.toList.length + 5 by omega, List.take_length_add_append]; rfl
    · show List.take ((_ + 5) - 1 - 0) _ = _
      rw [List.drop_zero, show (sepB (opsWs l)).data.toList.length + 5 - 1 - 0 = (sepB (opsWs l)).data.toList.length + 4 by omega, List.take_length_add_append]; rfl
  rw [e, txF, wd_tx h (by unfold noSp; cases b <;> decide), tx_none h (by cases b <;> rfl)]; rfl
theorem tx_inv : ∀ {W : List ByteArray} {t : TN}, txW W = some t → W = txWs t
  | [], t, h => by cases h
  | [w], t, h => by
    rw [txW] at h
    split at h
    · rename_i e; cases h; rw [e]; rfl
    · split at h
      · rename_i e; cases h; rw [e]; rfl
      · cases h
  | [_, _], t, h => by cases h
  | w :: a :: b :: r, t, h => by
    have nm : ∀ {n : Nat}, kindO w = n → n ≠ 0 → w = nameO (n : Int) := fun {n} e hn => by
      obtain ⟨g1, _⟩ := idxF_at (l := kindsL) (w := w) (n := 4) (by rw [show idxF kindsL w 4 = n from e]; exact hn)
      rw [nameO, List.getD_eq_getElem?_getD, Int.toNat_natCast, ← e]
      rw [show kindsL[kindO w]? = some w from g1]; rfl
    by_cases k1 : kindO w = 1
    · rw [tx_k1 k1, if_neg (by simp)] at h
      obtain ⟨n, e1, h⟩ := Option.bind_eq_some_iff.1 h
      rw [addO] at h
      obtain ⟨t', h1, rfl⟩ := Option.map_eq_some_iff.1 h
      have ih := tx_inv h1
      have e2 : txWs ((1, n, 0) :: t'.1, t'.2) = nameO 1 :: decB n :: txWs t' := by simp [txWs, opsWs, opWs]
      rw [e2, ← ih, ← numO_inv e1]
      exact congrArg (· :: a :: b :: r) (nm k1 (by decide))
    · by_cases k0 : kindO w = 0
      · rw [tx_k0 k0] at h; cases h
      rw [tx_kN k0 k1] at h
      split at h
      · cases h
      obtain ⟨n, e1, h⟩ := Option.bind_eq_some_iff.1 h
      obtain ⟨v, e2, h⟩ := Option.bind_eq_some_iff.1 h
      split at h
      · rw [addO] at h
        obtain ⟨t', h1, rfl⟩ := Option.map_eq_some_iff.1 h
        have ih := tx_inv h1
        have e3 : txWs (((kindO w : Int), n, v) :: t'.1, t'.2) = nameO (kindO w) :: decB n :: decB v :: txWs t' := by
          have : ¬ (kindO w : Int) = 1 := by omega
          simp [txWs, opsWs, opWs, this]
        rw [e3, ← ih, ← numO_inv e1, ← numO_inv e2]
        exact congrArg (· :: a :: b :: r) (nm rfl k0)
      · cases h
theorem tx_fwd {s : ByteArray} (h : (txF s).2 = 0) : txLn (txF s).1 = (s, 0) := by
  rw [txF] at h ⊢
  cases hW : txW (wd s) with
  | none => rw [hW] at h; exact absurd h (by decide)
  | some t =>
    rw [hW, txR] at h
    split at h
    · rename_i hg
      rw [txR, if_pos hg]
      dsimp only
      rw [txLn_in hg, ← tx_inv hW, join_wd]
    · exact absurd h (by decide)
theorem act_sz {a : AN} (hc : -9223372036854775808 ≤ a.2.1 ∧ a.2.1 ≤ 9223372036854775807) (hl : -9223372036854775808 ≤ a.2.2 ∧ a.2.2 ≤ 9223372036854775807) : (actLn a).1.size ≤ 1000 := by
  by_cases hg : goodA a = true
  · rw [actLn_in hg]
    have hws : ∀ w ∈ actWs a, ByteArray.size w ≤ 21 := by
      intro w hw
      rw [actWs, List.mem_cons, List.mem_append] at hw
      rcases hw with rfl | hw | hw
      · exact Nat.le_trans (nameA_size _) (by decide)
      · split at hw
        · rw [List.mem_singleton] at hw; rw [hw]; exact decB_size hc.1 hc.2
        · cases hw
      · split at hw
        · rw [List.mem_singleton] at hw; rw [hw]; exact decB_size hl.1 hl.2
        · cases hw
    have h1 := jsize _ hws
    have h2 : (actWs a).length ≤ 3 := by
      rw [actWs, List.length_cons, List.length_append]
      split <;> split <;> simp
    dsimp only
    omega
  · rw [actLn, if_neg hg]; exact Nat.zero_le _
theorem tx_sz {l : List ON} {b : Bool} (hr : rngT shT (l, b)) : (txLn (l, b)).1.size ≤ 2000 := by
  by_cases hg : goodT (l, b) = true
  · have hG := go_of hr hg
    rw [txLn_in hg, txWs]
    dsimp only
    rw [join_sep, ByteArray.size_append]
    have h1 := sep_sz hG
    have h2 : (endW b).size ≤ 6 := by cases b <;> decide
    omega
  · rw [txLn, if_neg hg]; exact Nat.zero_le _
theorem act_ok {a : AN} (h : ((actLn a).2 == 0) = true) : goodA a = true := by
  by_cases hg : goodA a = true
  · exact hg
  · rw [actLn, if_neg hg] at h; exact absurd h (by decide)
theorem tx_ok {t : TN} (h : ((txLn t).2 == 0) = true) : goodT t = true := by
  by_cases hg : goodT t = true
  · exact hg
  · rw [txLn, if_neg hg] at h; exact absurd h (by decide)
theorem back_law : ∀ x, rngTup [pA, pT, pS] x → ∃ lp, runF Tbl (spL M9) lp 0 Tryd.f5 (enVs [pA, pT, pS] x) ⟨0, []⟩ fun r' st' => fzR st' (mkB true) r' := by
  rintro ⟨⟨(k : Int), (c : Int), (l : Int)⟩, ⟨(O : List ON), (b : Bool)⟩, (s : ByteArray)⟩ hr
  refine ⟨noLoop, ?_⟩
  refine Eq.mp (by kernel_rfl : (((decide ((↑O.length : Int) > (50 : Int)) || decide ((↑s.size : Int) > (3000 : Int))) = true → true = true ∧ True) ∧ ((decide ((↑O.length : Int) > (50 : Int)) || decide ((↑s.size : Int) > (3000 : Int))) = false → (((actLn (k, c, l)).snd == (0 : Int)) = true → (actLn (k, c, l)).fst.size ≤ (1000000 : Nat) ∧ ∀ (y : Tup (pA :: pI :: ([] : List PS))), y = actF (actLn (k, c, l)).fst → ((y.snd != (0 : Int) || !(y.fst.fst == k && (y.fst.snd.fst == c && y.fst.snd.snd == l))) = true → false = true ∧ True) ∧ ((y.snd != (0 : Int) || !(y.fst.fst == k && (y.fst.snd.fst == c && y.fst.snd.snd == l))) = false → (((txLn (O, b)).snd == (0 : Int)) = true → (txLn (O, b)).fst.size ≤ (1000000 : Nat) ∧ ∀ (y : Tup (pT :: pI :: ([] : List PS))), y = txF (txLn (O, b)).fst → ((y.snd != (0 : Int) || !eqT ((y.fst.fst, y.fst.snd), O, b)) = true → false = true ∧ True) ∧ ((y.snd != (0 : Int) || !eqT ((y.fst.fst, y.fst.snd), O, b)) = false → s.size ≤ (1000000 : Nat) ∧ ∀ (y : Tup (pA :: pI :: ([] : List PS))), y = actF s → ((y.snd == (0 : Int)) = true → (((actLn (y.fst.fst, y.fst.snd.fst, y.fst.snd.snd)).snd != (0 : Int) || !(actLn (y.fst.fst, y.fst.snd.fst, y.fst.snd.snd)).fst.toList == s.toList) = true → false = true ∧ True) ∧ (((actLn (y.fst.fst, y.fst.snd.fst, y.fst.snd.snd)).snd != (0 : Int) || !(actLn (y.fst.fst, y.fst.snd.fst, y.fst.snd.snd)).fst.toList == s.toList) = false → s.size ≤ (1000000 : Nat) ∧ ∀ (y : Tup (pT :: pI :: ([] : List PS))), y = txF s → ((y.snd == (0 : Int)) = true → (((txLn (y.fst.fst, y.fst.snd)).snd != (0 : Int) || !(txLn (y.fst.fst, y.fst.snd)).fst.toList == s.toList) = true → false = true ∧ True) ∧ (((txLn (y.fst.fst, y.fst.snd)).snd != (0 : Int) || !(txLn (y.fst.fst, y.fst.snd)).fst.toList == s.toList) = false → true = true ∧ True)) ∧ ((y.snd == (0 : Int)) = false → true = true ∧ True))) ∧ ((y.snd == (0 : Int)) = false → s.size ≤ (1000000 : Nat) ∧ ∀ (y : Tup (pT :: pI :: ([] : List PS))), y = txF s → ((y.snd == (0 : Int)) = true → (((txLn (y.fst.fst, y.fst.snd)).snd != (0 : Int) || !(txLn (y.fst.fst, y.fst.snd)).fst.toList == s.toList) = true → false = true ∧ True) ∧ (((txLn (y.fst.fst, y.fst.snd)).snd != (0 : Int) || !(txLn (y.fst.fst, y.fst.snd)).fst.toList == s.toList) = false → true = true ∧ True)) ∧ ((y.snd == (0 : Int)) = false → true = true ∧ True)))) ∧ (((txLn (O, b)).snd == (0 : Int)) = false → s.size ≤ (1000000 : Nat) ∧ ∀ (y : Tup (pA :: pI :: ([] : List PS))), y = actF s → ((y.snd == (0 : Int)) = true → (((actLn (y.fst.fst, y.fst.snd.fst, y.fst.snd.snd)).snd != (0 : Int) || !(actLn (y.fst.fst, y.fst.snd.fst, y.fst.snd.snd)).fst.toList == s.toList) = true → false = true ∧ True) ∧ (((actLn (y.fst.fst, y.fst.snd.fst, y.fst.snd.snd)).snd != (0 : Int) || !(actLn (y.fst.fst, y.fst.snd.fst, y.fst.snd.snd)).fst.toList == s.toList) = false → s.size ≤ (1000000 : Nat) ∧ ∀ (y : Tup (pT :: pI :: ([] : List PS))), y = txF s → ((y.snd == (0 : Int)) = true → (((txLn (y.fst.fst, y.fst.snd)).snd != (0 : Int) || !(txLn (y.fst.fst, y.fst.snd)).fst.toList == s.toList) = true → false = true ∧ True) ∧ (((txLn (y.fst.fst, y.fst.snd)).snd != (0 : Int) || !(txLn (y.fst.fst, y.fst.snd)).fst.toList == s.toList) = false → true = true ∧ True)) ∧ ((y.snd == (0 : Int)) = false → true = true ∧ True))) ∧ ((y.snd == (0 : Int)) = false → s.size ≤ (1000000 : Nat) ∧ ∀ (y : Tup (pT :: pI :: ([] : List PS))), y = txF s → ((y.snd == (0 : Int)) = true → (((txLn (y.fst.fst, y.fst.snd)).snd != (0 : Int) || !(txLn (y.fst.fst, y.fst.snd)).fst.toList == s.toList) = true → false = true ∧ True) ∧ (((txLn (y.fst.fst, y.fst.snd)).snd != (0 : Int) || !(txLn (y.fst.fst, y.fst.snd)).fst.toList == s.toList) = false → true = true ∧ True)) ∧ ((y.snd == (0 : Int)) = false → true = true ∧ True))))) ∧ (((actLn (k, c, l)).snd == (0 : Int)) = false → (((txLn (O, b)).snd == (0 : Int)) = true → (txLn (O, b)).fst.size ≤ (1000000 : Nat) ∧ ∀ (y : Tup (pT :: pI :: ([] : List PS))), y = txF (txLn (O, b)).fst → ((y.snd != (0 : Int) || !eqT ((y.fst.fst, y.fst.snd), O, b)) = true → false = true ∧ True) ∧ ((y.snd != (0 : Int) || !eqT ((y.fst.fst, y.fst.snd), O, b)) = false → s.size ≤ (1000000 : Nat) ∧ ∀ (y : Tup (pA :: pI :: ([] : List PS))), y = actF s → ((y.snd == (0 : Int)) = true → (((actLn (y.fst.fst, y.fst.snd.fst, y.fst.snd.snd)).snd != (0 : Int) || !(actLn (y.fst.fst, y.fst.snd.fst, y.fst.snd.snd)).fst.toList == s.toList) = true → false = true ∧ True) ∧ (((actLn (y.fst.fst, y.fst.snd.fst, y.fst.snd.snd)).snd != (0 : Int) || !(actLn (y.fst.fst, y.fst.snd.fst, y.fst.snd.snd)).fst.toList == s.toList) = false → s.size ≤ (1000000 : Nat) ∧ ∀ (y : Tup (pT :: pI :: ([] : List PS))), y = txF s → ((y.snd == (0 : Int)) = true → (((txLn (y.fst.fst, y.fst.snd)).snd != (0 : Int) || !(txLn (y.fst.fst, y.fst.snd)).fst.toList == s.toList) = true → false = true ∧ True) ∧ (((txLn (y.fst.fst, y.fst.snd)).snd != (0 : Int) || !(txLn (y.fst.fst, y.fst.snd)).fst.toList == s.toList) = false → true = true ∧ True)) ∧ ((y.snd == (0 : Int)) = false → true = true ∧ True))) ∧ ((y.snd == (0 : Int)) = false → s.size ≤ (1000000 : Nat) ∧ ∀ (y : Tup (pT :: pI :: ([] : List PS))), y = txF s → ((y.snd == (0 : Int)) = true → (((txLn (y.fst.fst, y.fst.snd)).snd != (0 : Int) || !(txLn (y.fst.fst, y.fst.snd)).fst.toList == s.toList) = true → false = true ∧ True) ∧ (((txLn (y.fst.fst, y.fst.snd)).snd != (0 : Int) || !(txLn (y.fst.fst, y.fst.snd)).fst.toList == s.toList) = false → true = true ∧ True)) ∧ ((y.snd == (0 : Int)) = false → true = true ∧ True)))) ∧ (((txLn (O, b)).snd == (0 : Int)) = false → s.size ≤ (1000000 : Nat) ∧ ∀ (y : Tup (pA :: pI :: ([] : List PS))), y = actF s → ((y.snd == (0 : Int)) = true → (((actLn (y.fst.fst, y.fst.snd.fst, y.fst.snd.snd)).snd != (0 : Int) || !(actLn (y.fst.fst, y.fst.snd.fst, y.fst.snd.snd)).fst.toList == s.toList) = true → false = true ∧ True) ∧ (((actLn (y.fst.fst, y.fst.snd.fst, y.fst.snd.snd)).snd != (0 : Int) || !(actLn (y.fst.fst, y.fst.snd.fst, y.fst.snd.snd)).fst.toList == s.toList) = false → s.size ≤ (1000000 : Nat) ∧ ∀ (y : Tup (pT :: pI :: ([] : List PS))), y = txF s → ((y.snd == (0 : Int)) = true → (((txLn (y.fst.fst, y.fst.snd)).snd != (0 : Int) || !(txLn (y.fst.fst, y.fst.snd)).fst.toList == s.toList) = true → false = true ∧ True) ∧ (((txLn (y.fst.fst, y.fst.snd)).snd != (0 : Int) || !(txLn (y.fst.fst, y.fst.snd)).fst.toList == s.toList) = false → true = true ∧ True)) ∧ ((y.snd == (0 : Int)) = false → true = true ∧ True))) ∧ ((y.snd == (0 : Int)) = false → s.size ≤ (1000000 : Nat) ∧ ∀ (y : Tup (pT :: pI :: ([] : List PS))), y = txF s → ((y.snd == (0 : Int)) = true → (((txLn (y.fst.fst, y.fst.snd)).snd != (0 : Int) || !(txLn (y.fst.fst, y.fst.snd)).fst.toList == s.toList) = true → false = true ∧ True) ∧ (((txLn (y.fst.fst, y.fst.snd)).snd != (0 : Int) || !(txLn (y.fst.fst, y.fst.snd)).fst.toList == s.toList) = false → true = true ∧ True)) ∧ ((y.snd == (0 : Int)) = false → true = true ∧ True)))))) = _) ?_
  have hr' : ((-9223372036854775808 ≤ k ∧ k ≤ 9223372036854775807) ∧ (-9223372036854775808 ≤ c ∧ c ≤ 9223372036854775807) ∧ (-9223372036854775808 ≤ l ∧ l ≤ 9223372036854775807)) ∧ rngT shT (O, b) ∧ s.size ≤ maxLen := hr
  have asz := act_sz (a := (k, c, l)) hr'.1.2.1 hr'.1.2.2
  have ts := tx_sz hr'.2.1
  refine ⟨fun _ => ⟨rfl, trivial⟩, fun h => ?_⟩
  have hs : s.size ≤ 1000000 := by
    simp only [Bool.or_eq_false_iff, decide_eq_false_iff_not] at h
    omega
  refine ⟨fun h1 => ⟨by omega, fun y hy => ⟨fun q => ?_, fun q => ?_⟩⟩, fun h1 => ?_⟩
  · have hy : y = actF (actLn (k, c, l)).1 := hy
    rw [hy, act_back (act_ok h1)] at q
    simp at q
  · refine ⟨fun h2 => ⟨by omega, fun y hy => ⟨fun q => ?_, fun q => ?_⟩⟩, fun h2 => ?_⟩
    · have hg := tx_ok h2
      have hy : y = txF (txLn (O, b)).1 := hy
      rw [hy, tx_back hg (gp_of hr'.2.1 hg)] at q
      simp [eqT] at q
    · refine ⟨hs, fun y hy => ⟨fun h3 => ⟨fun q => ?_, fun q => ?_⟩, fun h3 => ?_⟩⟩
      · have hy : y = actF s := hy
        subst hy
        have e := (act_fwd (s := s) (by simpa using h3)).2
        rw [show actLn ((actF s).1.1, (actF s).1.2.1, (actF s).1.2.2) = (s, 0) from e] at q
        simp at q
      · refine ⟨hs, fun y hy => ⟨fun h4 => ⟨fun q => ?_, fun q => ⟨rfl, trivial⟩⟩, fun h4 => ⟨rfl, trivial⟩⟩⟩
        have hy : y = txF s := hy
        subst hy
        have e := tx_fwd (s := s) (by simpa using h4)
        rw [show txLn ((txF s).1.1, (txF s).1.2) = (s, 0) from e] at q
        simp at q
      · refine ⟨hs, fun y hy => ⟨fun h4 => ⟨fun q => ?_, fun q => ⟨rfl, trivial⟩⟩, fun h4 => ⟨rfl, trivial⟩⟩⟩
        have hy : y = txF s := hy
        subst hy
        have e := tx_fwd (s := s) (by simpa using h4)
        rw [show txLn ((txF s).1.1, (txF s).1.2) = (s, 0) from e] at q
        simp at q
    · refine ⟨hs, fun y hy => ⟨fun h3 => ⟨fun q => ?_, fun q => ?_⟩, fun h3 => ?_⟩⟩
      · have hy : y = actF s := hy
        subst hy
        have e := (act_fwd (s := s) (by simpa using h3)).2
        rw [show actLn ((actF s).1.1, (actF s).1.2.1, (actF s).1.2.2) = (s, 0) from e] at q
        simp at q
      · refine ⟨hs, fun y hy => ⟨fun h4 => ⟨fun q => ?_, fun q => ⟨rfl, trivial⟩⟩, fun h4 => ⟨rfl, trivial⟩⟩⟩
        have hy : y = txF s := hy
        subst hy
        have e := tx_fwd (s := s) (by simpa using h4)
        rw [show txLn ((txF s).1.1, (txF s).1.2) = (s, 0) from e] at q
        simp at q
      · refine ⟨hs, fun y hy => ⟨fun h4 => ⟨fun q => ?_, fun q => ⟨rfl, trivial⟩⟩, fun h4 => ⟨rfl, trivial⟩⟩⟩
        have hy : y = txF s := hy
        subst hy
        have e := tx_fwd (s := s) (by simpa using h4)
        rw [show txLn ((txF s).1.1, (txF s).1.2) = (s, 0) from e] at q
        simp at q
  · refine ⟨fun h2 => ⟨by omega, fun y hy => ⟨fun q => ?_, fun q => ?_⟩⟩, fun h2 => ?_⟩
    · have hg := tx_ok h2
      have hy : y = txF (txLn (O, b)).1 := hy
      rw [hy, tx_back hg (gp_of hr'.2.1 hg)] at q
      simp [eqT] at q
    · refine ⟨hs, fun y hy => ⟨fun h3 => ⟨fun q => ?_, fun q => ?_⟩, fun h3 => ?_⟩⟩
      · have hy : y = actF s := hy
        subst hy
        have e := (act_fwd (s := s) (by simpa using h3)).2
        rw [show actLn ((actF s).1.1, (actF s).1.2.1, (actF s).1.2.2) = (s, 0) from e] at q
        simp at q
      · refine ⟨hs, fun y hy => ⟨fun h4 => ⟨fun q => ?_, fun q => ⟨rfl, trivial⟩⟩, fun h4 => ⟨rfl, trivial⟩⟩⟩
        have hy : y = txF s := hy
        subst hy
        have e := tx_fwd (s := s) (by simpa using h4)
        rw [show txLn ((txF s).1.1, (txF s).1.2) = (s, 0) from e] at q
        simp at q
      · refine ⟨hs, fun y hy => ⟨fun h4 => ⟨fun q => ?_, fun q => ⟨rfl, trivial⟩⟩, fun h4 => ⟨rfl, trivial⟩⟩⟩
        have hy : y = txF s := hy
        subst hy
        have e := tx_fwd (s := s) (by simpa using h4)
        rw [show txLn ((txF s).1.1, (txF s).1.2) = (s, 0) from e] at q
        simp at q
    · refine ⟨hs, fun y hy => ⟨fun h3 => ⟨fun q => ?_, fun q => ?_⟩, fun h3 => ?_⟩⟩
      · have hy : y = actF s := hy
        subst hy
        have e := (act_fwd (s := s) (by simpa using h3)).2
        rw [show actLn ((actF s).1.1, (actF s).1.2.1, (actF s).1.2.2) = (s, 0) from e] at q
        simp at q
      · refine ⟨hs, fun y hy => ⟨fun h4 => ⟨fun q => ?_, fun q => ⟨rfl, trivial⟩⟩, fun h4 => ⟨rfl, trivial⟩⟩⟩
        have hy : y = txF s := hy
        subst hy
        have e := tx_fwd (s := s) (by simpa using h4)
        rw [show txLn ((txF s).1.1, (txF s).1.2) = (s, 0) from e] at q
        simp at q
      · refine ⟨hs, fun y hy => ⟨fun h4 => ⟨fun q => ?_, fun q => ⟨rfl, trivial⟩⟩, fun h4 => ⟨rfl, trivial⟩⟩⟩
        have hy : y = txF s := hy
        subst hy
        have e := tx_fwd (s := s) (by simpa using h4)
        rw [show txLn ((txF s).1.1, (txF s).1.2) = (s, 0) from e] at q
        simp at q
theorem act_pos {a : AN} (hg : goodA a = true) : 1 ≤ (actLn a).1.size := by
  rcases Nat.eq_zero_or_pos (actLn a).1.size with h | h
  · have e : (actLn a).1 = ⟨#[]⟩ := by
      apply ba_ext
      rw [← size_list] at h
      rw [List.length_eq_zero_iff.1 h]
    have := act_back hg
    rw [e] at this
    have h2 : (actF ⟨#[]⟩).2 = 320 := by decide
    rw [this] at h2
    exact absurd h2 (by simp)
  · exact h
theorem tx_pos {t : TN} (hg : goodT t = true) (h : ∀ o ∈ t.1, GP o) : 1 ≤ (txLn t).1.size := by
  rcases Nat.eq_zero_or_pos (txLn t).1.size with h0 | h0
  · have e : (txLn t).1 = ⟨#[]⟩ := by
      apply ba_ext
      rw [← size_list] at h0
      rw [List.length_eq_zero_iff.1 h0]
    have := tx_back (l := t.1) (b := t.2) hg h
    rw [show txLn (t.1, t.2) = txLn t from rfl, e] at this
    have h2 : (txF ⟨#[]⟩).2 = 320 := rfl
    rw [this] at h2
    exact absurd h2 (by simp)
  · exact h0
theorem words_law : ∀ x, rngTup [pA, pT, (false, .int .u8)] x → ∃ lp, runF Tbl (spL M9) lp 0 Tryd.f6 (enVs [pA, pT, (false, .int .u8)] x) ⟨0, []⟩ fun r' st' => fzR st' (mkB true) r' := by
  rintro ⟨⟨(k : Int), (c : Int), (l : Int)⟩, ⟨(O : List ON), (b : Bool)⟩, (n : Int)⟩ hr
  refine ⟨noLoop, ?_⟩
  refine Eq.mp (by kernel_rfl : ((decide ((↑O.length : Int) > (20 : Int)) = true → true = true ∧ True) ∧ (decide ((↑O.length : Int) > (20 : Int)) = false → (((actLn (k, c, l)).snd != (0 : Int) || (txLn (O, b)).snd != (0 : Int)) = true → true = true ∧ True) ∧ (((actLn (k, c, l)).snd != (0 : Int) || (txLn (O, b)).snd != (0 : Int)) = false → ((decide ((↑(actLn (k, c, l)).fst.size : Int) < (1 : Int)) || decide ((↑(txLn (O, b)).fst.size : Int) < (1 : Int))) = true → false = true ∧ True) ∧ ((decide ((↑(actLn (k, c, l)).fst.size : Int) < (1 : Int)) || decide ((↑(txLn (O, b)).fst.size : Int) < (1 : Int))) = false → (4 : Int) ≠ (0 : Int) ∧ ((0 : Int) ≤ n.tmod (4 : Int) ∧ n.tmod (4 : Int) < (↑(ByteArray.mk ((32 : UInt8) :: ([] : List UInt8)).toArray :: ByteArray.mk ((32 : UInt8) :: (32 : UInt8) :: ([] : List UInt8)).toArray :: ByteArray.mk ((32 : UInt8) :: (53 : UInt8) :: ([] : List UInt8)).toArray :: ByteArray.mk ((32 : UInt8) :: (120 : UInt8) :: ([] : List UInt8)).toArray :: ([] : List ByteArray)).length : Int)) ∧ (n.tmod (4 : Int)).toNat < (ByteArray.mk ((32 : UInt8) :: ([] : List UInt8)).toArray :: ByteArray.mk ((32 : UInt8) :: (32 : UInt8) :: ([] : List UInt8)).toArray :: ByteArray.mk ((32 : UInt8) :: (53 : UInt8) :: ([] : List UInt8)).toArray :: ByteArray.mk ((32 : UInt8) :: (120 : UInt8) :: ([] : List UInt8)).toArray :: ([] : List ByteArray)).length ∧ ∀ (y : ByteArray), (ByteArray.mk ((32 : UInt8) :: ([] : List UInt8)).toArray :: ByteArray.mk ((32 : UInt8) :: (32 : UInt8) :: ([] : List UInt8)).toArray :: ByteArray.mk ((32 : UInt8) :: (53 : UInt8) :: ([] : List UInt8)).toArray :: ByteArray.mk ((32 : UInt8) :: (120 : UInt8) :: ([] : List UInt8)).toArray :: ([] : List ByteArray))[(n.tmod (4 : Int)).toNat]? = some y → (actLn (k, c, l)).fst.size + y.size ≤ maxLen ∧ ((actLn (k, c, l)).fst ++ y).size ≤ (1000000 : Nat) ∧ ∀ (y_1 : Tup (pA :: pI :: ([] : List PS))), y_1 = actF ((actLn (k, c, l)).fst ++ y) → (ByteArray.mk ((32 : UInt8) :: ([] : List UInt8)).toArray).size + (actLn (k, c, l)).fst.size ≤ maxLen ∧ (ByteArray.mk ((32 : UInt8) :: ([] : List UInt8)).toArray ++ (actLn (k, c, l)).fst).size ≤ (1000000 : Nat) ∧ ∀ (y_2 : Tup (pA :: pI :: ([] : List PS))), y_2 = actF (ByteArray.mk ((32 : UInt8) :: ([] : List UInt8)).toArray ++ (actLn (k, c, l)).fst) → (txLn (O, b)).fst.size + y.size ≤ maxLen ∧ ((txLn (O, b)).fst ++ y).size ≤ (1000000 : Nat) ∧ ∀ (y_3 : Tup (pT :: pI :: ([] : List PS))), y_3 = txF ((txLn (O, b)).fst ++ y) → (ByteArray.mk ((32 : UInt8) :: ([] : List UInt8)).toArray).size + (txLn (O, b)).fst.size ≤ maxLen ∧ (ByteArray.mk ((32 : UInt8) :: ([] : List UInt8)).toArray ++ (txLn (O, b)).fst).size ≤ (1000000 : Nat) ∧ ∀ (y : Tup (pT :: pI :: ([] : List PS))), y = txF (ByteArray.mk ((32 : UInt8) :: ([] : List UInt8)).toArray ++ (txLn (O, b)).fst) → ((-9223372036854775808 : Int) ≤ (↑(txLn (O, b)).fst.size : Int) - (1 : Int) ∧ (↑(txLn (O, b)).fst.size : Int) - (1 : Int) ≤ (9223372036854775807 : Int)) ∧ ((0 : Int) ≤ (↑(txLn (O, b)).fst.size : Int) - (1 : Int) ∧ (↑(txLn (O, b)).fst.size : Int) - (1 : Int) ≤ (↑(txLn (O, b)).fst.size : Int)) ∧ ((txLn (O, b)).fst.extract (0 : Nat) ((0 : Nat) + ((↑(txLn (O, b)).fst.size : Int) - (1 : Int)).toNat)).size ≤ (1000000 : Nat) ∧ ∀ (y_4 : Tup (pT :: pI :: ([] : List PS))), y_4 = txF ((txLn (O, b)).fst.extract (0 : Nat) ((0 : Nat) + ((↑(txLn (O, b)).fst.size : Int) - (1 : Int)).toNat)) → ((y_1.snd == (320 : Int) && y_2.snd == (320 : Int) && y_3.snd == (320 : Int) && y.snd == (320 : Int) && y_4.snd == (320 : Int)) = true → true = true ∧ True) ∧ ((y_1.snd == (320 : Int) && y_2.snd == (320 : Int) && y_3.snd == (320 : Int) && y.snd == (320 : Int) && y_4.snd == (320 : Int)) = false → false = true ∧ True))))) = _) ?_
  have hr' : ((-9223372036854775808 ≤ k ∧ k ≤ 9223372036854775807) ∧ (-9223372036854775808 ≤ c ∧ c ≤ 9223372036854775807) ∧ (-9223372036854775808 ≤ l ∧ l ≤ 9223372036854775807)) ∧ rngT shT (O, b) ∧ (0 ≤ n ∧ n ≤ 255) := hr
  have asz := act_sz (a := (k, c, l)) hr'.1.2.1 hr'.1.2.2
  have ts := tx_sz hr'.2.1
  have hn := hr'.2.2
  have hmx : 10000 ≤ maxLen := by decide
  refine ⟨fun _ => ⟨rfl, trivial⟩, fun h => ⟨fun _ => ⟨rfl, trivial⟩, fun h1 => ?_⟩⟩
  rw [Bool.or_eq_false_iff] at h1
  have hA : goodA (k, c, l) = true := act_ok (by simpa using h1.1)
  have hT : goodT (O, b) = true := tx_ok (by simpa using h1.2)
  have hP := gp_of hr'.2.1 hT
  have pa := act_pos hA
  have pt := tx_pos hT hP
  refine ⟨fun h2 => ?_, fun _ => ?_⟩
  · exfalso
    simp only [Bool.or_eq_true, decide_eq_true_eq] at h2
    omega
  have hm : n.tmod 4 = n % 4 := Int.tmod_eq_emod_of_nonneg hn.1
  rw [hm]
  refine ⟨by decide, ⟨by omega, by show n % 4 < 4; omega⟩, by show (n % 4).toNat < 4; omega, fun y hy => ?_⟩
  have hy2 : ∃ y', y = sp ++ y' ∧ y.size ≤ 2 := by
    have := List.mem_of_getElem? hy
    simp only [List.mem_cons, List.not_mem_nil, or_false] at this
    rcases this with rfl | rfl | rfl | rfl
    · exact ⟨⟨#[]⟩, by apply ba_ext; rfl, by decide⟩
    · exact ⟨⟨#[32]⟩, by apply ba_ext; rfl, by decide⟩
    · exact ⟨⟨#[53]⟩, by apply ba_ext; rfl, by decide⟩
    · exact ⟨⟨#[120]⟩, by apply ba_ext; rfl, by decide⟩
  obtain ⟨y', e, hys⟩ := hy2
  have s1 : (ByteArray.mk (32 :: ([] : List UInt8)).toArray).size = 1 := rfl
  refine ⟨by omega, by rw [ByteArray.size_append]; omega, fun y1 q1 => ⟨by omega, by rw [ByteArray.size_append]; omega, fun y2 q2 => ⟨by omega, by rw [ByteArray.size_append]; omega, fun y3 q3 => ⟨by omega, by rw [ByteArray.size_append]; omega, fun y4 q4 => ⟨by omega, by omega, ?_, fun y5 q5 => ⟨fun _ => ⟨rfl, trivial⟩, fun q => ?_⟩⟩⟩⟩⟩⟩
  · rw [ByteArray.size_extract]; omega
  · exfalso
    have e5 : (txLn (O, b)).1.extract 0 (0 + (((txLn (O, b)).1.size : Int) - 1).toNat) = (txLn (O, b)).1.extract 0 ((txLn (O, b)).1.size - 1) := by
      rw [show 0 + (((txLn (O, b)).1.size : Int) - 1).toNat = (txLn (O, b)).1.size - 1 by omega]
    have r1 : y1.2 = 320 := by rw [show y1 = actF ((actLn (k, c, l)).1 ++ y) from q1, e]; exact act_more hA y'
    have r2 : y2.2 = 320 := by rw [show y2 = actF (sp ++ (actLn (k, c, l)).1) from q2]; exact act_ahead _
    have r3 : y3.2 = 320 := by rw [show y3 = txF ((txLn (O, b)).1 ++ y) from q3, e]; exact tx_more hT hP y'
    have r4 : y4.2 = 320 := by rw [show y4 = txF (sp ++ (txLn (O, b)).1) from q4]; exact tx_ahead _
    have r5 : y5.2 = 320 := by rw [show y5 = txF _ from q5, e5]; exact tx_cut hT hP
    rw [r1, r2, r3, r4, r5] at q
    exact absurd q (by decide)
section
variable {H : Type} {enc : TypeId × Value → H} {base : Nat} (W : World)
theorem back_walk (hg : GlOk (fun k => k < W.heap.size) W) (v0 v1 v2 : Value) (a0 : Arg enc Tryd.prog W base 24 v0) (a1 : Arg enc Tryd.prog W base 32 v1) (a2 : Arg enc Tryd.prog W base 9 v2) : Calls Tryd.prog 5 #[v0, v1, v2] W fun e w' => e = .returned (.bool true) ∧ Below W.heap.size W w' :=
  law_of (ps := [pA, pT, pS]) (ts := [24, 32, 9]) (vs := [v0, v1, v2]) mixed Tbl_ok M9_ok Tryd.func5 rfl (by kernel_rfl) ⟨a0, a1, a2, trivial⟩ back_law hg
theorem words_walk (hg : GlOk (fun k => k < W.heap.size) W) (v0 v1 v2 : Value) (a0 : Arg enc Tryd.prog W base 24 v0) (a1 : Arg enc Tryd.prog W base 32 v1) (a2 : Arg enc Tryd.prog W base 5 v2) : Calls Tryd.prog 6 #[v0, v1, v2] W fun e w' => e = .returned (.bool true) ∧ Below W.heap.size W w' :=
  law_of (ps := [pA, pT, (false, .int .u8)]) (ts := [24, 32, 5]) (vs := [v0, v1, v2]) mixed Tbl_ok M9_ok Tryd.func6 rfl (by kernel_rfl) ⟨a0, a1, a2, trivial⟩ words_law hg
end
end Go.Proofs.YtljbcclpmlkpnaaDoor.V
