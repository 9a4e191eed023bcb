import Derived.KernelRfl
import Derived.Test.YtigbhlkafmpgmaaSg
namespace Go.Proofs.Ytigbhlkafmpgmaa.V
open Go.RowKit Go.Proofs.Ytigbhlkafmpgmaa
set_option linter.unusedSimpArgs false
/-- The Ops that the law makes of Ops. -/
def mkO (x : ON) : ON := (3, (x.2.1.tmod 2 + 2).tmod 2, x.2.2.tmod 1000)
def mkT (t : TN) : TN := ((t.1.take 16).map mkO, t.2)
def addO (cur : List Int) (x : ON) : List Int := cur.set x.2.1.toNat (IntKind.u64.wrap (cur.getD x.2.1.toNat 0 + x.2.2))
/-- The words behind transactions, what each told. -/
def curF (room : Int) : List TN → List Int → List Int
  | [], m => m
  | t :: r, m => curF room r (allT m room t).1
def telF (room : Int) : List TN → List Int → List (List Int)
  | [], _ => []
  | t :: r, m => (allT m room t).2.1 :: telF room r (allT m room t).1
abbrev bx6 (t : TN) : List (Nat × Ck) := [(0, .own 25 shT []), (1, .blk [.sl 2, .val (.bool t.2)] 25)]
abbrev lp6 (l : List TN) (k : Int) : Nat → Option LoopSp := fun r => match r with
  | 6 => some { X := Nat, sl := fun i => [(0, .one (.rd shT l)), (5, .one (vi k)), (6, .one (.sl 0)), (7, .one (vi i))], h := fun i => [(0, .own 25 shT ((l.take i).map mkT))], nx := 1, inv := fun i => i ≤ l.length, mu := fun i => l.length - i }
  | 10 => some { X := Nat × Nat × TN, sl := fun x => [(0, .one (.rd shT l)), (5, .one (vi k)), (6, .one (.sl 0)), (7, .one (vi x.1)), (8, .one (.ptr 1 0)), (9, .one (vi x.2.1))], h := fun x => [(0, .own 25 shT ((l.take x.1).map mkT)), (1, .blk [.sl 2, .val (.bool x.2.2.2)] 25), (2, .own 39 shO ((x.2.2.1.take x.2.1).map mkO))], nx := 3, inv := fun x => l[x.1]? = some x.2.2 ∧ x.2.1 ≤ x.2.2.1.length ∧ x.2.1 ≤ 16, mu := fun x => 16 - x.2.1, ln := fun x => [(7, x.1)] }
  | 14 => k7 Unit (fun _ => [(5, .one (vi k)), (6, .one (.rd shT (l.map mkT)))]) (fun _ => []) 0 (fun _ => True) [0]
  | 19 => some { X := Nat, sl := fun i => [(5, .one (vi k)), (6, .one (.rd shT (l.map mkT))), (10, .one (.rd shU (curF k (l.map mkT) [5, 7]))), (11, .one (.rd shUs (telF k (l.map mkT) [5, 7]))), (13, .one (.ptr 1 0)), (14, .one (vi i))], h := fun i => [(1, .blk [.run .u64 2 (curF k ((l.take i).map mkT) [5, 7])] 46)], nx := 2, inv := fun i => i ≤ l.length, mu := fun i => l.length - i }
  | 27 => some { X := Nat, sl := fun i => [], h := fun i => [(1, .blk [.run .u64 2 (curF k ((l.take i).map mkT) [5, 7])] 46)], nx := 2, inv := fun i => i < l.length, mu := fun i => 0, cut := true, kp := [5, 6, 10, 11, 13, 14, 15], ln := fun i => [(14, i)] }
  | 28 => some { X := Nat × Nat, sl := fun x => [(5, .one (vi k)), (6, .one (.rd shT (l.map mkT))), (10, .one (.rd shU (curF k (l.map mkT) [5, 7]))), (11, .one (.rd shUs (telF k (l.map mkT) [5, 7]))), (13, .one (.ptr 1 0)), (14, .one (vi x.1)), (15, .one (vi ((telF k (l.map mkT) [5, 7]).getD x.1 []).length)), (17, .one (vi x.2))], h := fun x => [(1, .blk [.run .u64 2 (List.foldl addO (curF k ((l.take x.1).map mkT) [5, 7]) (((l.map mkT).getD x.1 ([], false)).1.take x.2))] 46)], nx := 2, inv := fun x => x.1 < l.length ∧ x.2 ≤ ((l.map mkT).getD x.1 ([], false)).1.length ∧ (0 < x.2 → ((telF k (l.map mkT) [5, 7]).getD x.1 []).getLast? = some 101), mu := fun x => 16 - x.2, ln := fun x => [(14, x.1)] }
  | _ => none
def modF (k n : Int) : Int := if n < 1 then 0 else (k.tmod n + n).tmod n
def mod2 (args : List Vl) : Option Rs := match args with
  | [.one (.val (.int .i64 k)), .one (.il .i64 z)] => (match decide (z = 2) with | true => some (mkI .i64 (modF k 2)) | false => none)
  | _ => none
theorem v15 : Valid Try.prog 15 (.tot mod2) := by
  refine valid_tot mixed Tbl_ok L6_ok Try.func15 call15 fun args r hS hr => ?_
  unfold mod2 at hS
  split at hS
  case h_2 => cases hS
  rename_i k z
  split at hS
  case h_2 => cases hS
  rename_i hz
  obtain rfl : z = 2 := of_decide_eq_true hz
  cases hS
  refine ⟨rfl, rfl, noLoop, ?_⟩
  refine Eq.mp (by kernel_rfl : ((2 : Int) ≠ (0 : Int) ∧ ((-9223372036854775808 : Int) ≤ k.tmod (2 : Int) + (2 : Int) ∧ k.tmod (2 : Int) + (2 : Int) ≤ (9223372036854775807 : Int)) ∧ (2 : Int) ≠ (0 : Int) ∧ (k.tmod (2 : Int) + (2 : Int)).tmod (2 : Int) = modF k (2 : Int) ∧ True) = _) ?_
  have hk : k.tmod 2 = 0 ∨ k.tmod 2 = 1 ∨ k.tmod 2 = -1 := by
    rcases Int.le_total 0 k with h | h
    · rw [Int.tmod_eq_emod_of_nonneg h]; omega
    · have h2 := Int.tmod_eq_emod_of_nonneg (a := -k) (b := 2) (by omega)
      rw [Int.neg_tmod] at h2
      omega
  exact ⟨by decide, by omega, by decide, rfl, trivial⟩
noncomputable abbrev L7 : List (Nat × Spec) := (15, .tot mod2) :: L6
theorem L7_all : ∀ p ∈ L7, Valid Try.prog p.1 p.2 := vcons v15 L6_all
theorem L7_ok : ∀ f S, spL L7 f = some S → Valid Try.prog f S := spL_ok L7_all
/-- Ops that only add to the first two words. -/
def AddT (t : TN) : Prop := t.1.length ≤ 16 ∧ ∀ x ∈ t.1, x.1 = 3 ∧ (x.2.1 = 0 ∨ x.2.1 = 1) ∧ 0 ≤ x.2.2 ∧ x.2.2 < 1000
theorem addO_len {cur : List Int} {x : ON} : (addO cur x).length = cur.length := by simp [addO]
theorem fold_add_len {ops : List ON} : ∀ {cur : List Int}, (ops.foldl addO cur).length = cur.length := by
  induction ops with
  | nil => intro cur; rfl
  | cons x r ih => intro cur; rw [List.foldl_cons, ih, addO_len]
theorem run_add {K : Nat} : ∀ {ops : List ON} {cur : List Int} {n : Nat} {tells : List Int}, (∀ x ∈ ops, x.1 = 3 ∧ (x.2.1 = 0 ∨ x.2.1 = 1)) → n ≤ K →
    (n + ops.length ≤ K → ∃ t', runS K 2 (ops.map toOp) cur n tells = (0, ops.foldl addO cur, t')) ∧ (K < n + ops.length → ∃ c' t', runS K 2 (ops.map toOp) cur n tells = (102, c', t'))
  | [], cur, n, tells, h, hn => ⟨fun _ => ⟨_, rfl⟩, fun h => by simp at h; omega⟩
  | (k, w, v) :: r, cur, n, tells, h, hn => by
    obtain ⟨h1, h2⟩ := h _ (List.mem_cons_self ..)
    dsimp only at h1 h2
    have hw : ¬ (w < 0 ∨ ((2 : Nat) : Int) ≤ w) := by omega
    have hu : runS K 2 (((k, w, v) :: r).map toOp) cur n tells = match stepS K cur n tells (toOp (k, w, v)) with | (true, cur', n', tells') => runS K 2 (r.map toOp) cur' n' tells' | (false, cur', _, tells') => (102, cur', tells') := by
      rw [List.map_cons, runS]
      exact if_neg hw
    rw [hu, stepS_to, if_neg (by omega), if_neg (by omega)]
    by_cases hk : (K : Int) ≤ n
    · rw [if_pos hk]
      exact ⟨fun h => by simp at h; omega, fun _ => ⟨_, _, rfl⟩⟩
    · rw [if_neg hk, if_neg (by omega), if_pos h1]
      obtain ⟨a, b⟩ := run_add (K := K) (ops := r) (cur := cur.set w.toNat (IntKind.u64.wrap (v + cur.getD w.toNat 0))) (n := n + 1) (tells := tells ++ [IntKind.u64.wrap (v + cur.getD w.toNat 0)]) (fun x hx => h x (List.mem_cons_of_mem _ hx)) (by omega)
      refine ⟨fun h => ?_, fun h => ?_⟩
      · obtain ⟨t', e⟩ := a (by simp at h; omega)
        refine ⟨t', ?_⟩
        simp only
        rw [e, List.foldl_cons]
        have : addO cur (k, w, v) = cur.set w.toNat (IntKind.u64.wrap (v + cur.getD w.toNat 0)) := by simp [addO, Int.add_comm]
        rw [this]
      · exact b (by simp at h; omega)
theorem addT_good {t : TN} (h : AddT t) : goodT (t.1.map toOp) = true := by
  obtain ⟨h1, h2⟩ := h
  simp only [goodT, Bool.and_eq_true, List.all_eq_true, decide_eq_true_eq, List.length_map]
  refine ⟨fun o ho => ?_, h1⟩
  obtain ⟨x, hx, rfl⟩ := List.mem_map.1 ho
  obtain ⟨a, b, c, d⟩ := h2 x hx
  simp only [goodO, toOp]
  exact decide_eq_true ⟨by omega, by omega, by omega, fun e => by omega, fun e => by omega⟩
theorem all_add {K : Nat} (hK : K ≤ 1000) {t : TN} (h : AddT t) {cur : List Int} (hc : cur.length = 2) :
    (allT cur K t).2.2 = 0 ∧ (allT cur K t).1.length = 2 ∧ (allT cur K t).2.1 ≠ [] ∧
    (allT cur K t).1 = (if K < t.1.length ∨ t.2 = true then cur else t.1.foldl addO cur) ∧
    (allT cur K t).2.1.getLast? = some (if K < t.1.length then 102 else if t.2 = true then 104 else 101) := by
  have g : Good8 cur K t := ⟨addT_good h, by omega⟩
  rw [g.eq]
  obtain ⟨a, b⟩ := run_add (K := K) (ops := t.1) (cur := cur) (n := 0) (tells := []) (fun x hx => ⟨(h.2 x hx).1, (h.2 x hx).2.1⟩) (by omega)
  simp only [ranS, outS, hc]
  by_cases hk : K < t.1.length
  · obtain ⟨c', t', e⟩ := b (by omega)
    rw [e]
    simp [endC, hk, hc]
  · obtain ⟨t', e⟩ := a (by omega)
    rw [e]
    cases ht : t.2 <;> simp [endC, hk, hc, fold_add_len]
theorem tel_len {K : Int} : ∀ {l : List TN} {m : List Int}, (telF K l m).length = l.length
  | [], m => rfl
  | t :: r, m => by simp [telF, tel_len]
theorem fold_F {K : Nat} (hK : K ≤ 1000) : ∀ {l : List TN} {m : List Int} {acc : List (List Int)}, (∀ t ∈ l, AddT t) → m.length = 2 → foldT K l m acc = (curF K l m, acc ++ telF K l m, 0) ∧ (curF K l m).length = 2
  | [], m, acc, h, hm => ⟨by simp [foldT, curF, telF], hm⟩
  | t :: r, m, acc, h, hm => by
    obtain ⟨e, hl, -⟩ := all_add hK (h t (List.mem_cons_self ..)) hm
    obtain ⟨a, b⟩ := fold_F hK (l := r) (m := (allT m K t).1) (acc := acc ++ [(allT m K t).2.1]) (fun x hx => h x (List.mem_cons_of_mem _ hx)) hl
    rw [foldT_step, if_pos e, a]
    exact ⟨by simp [curF, telF], b⟩
theorem cur_app {K : Int} : ∀ {l r : List TN} {m : List Int}, curF K (l ++ r) m = curF K r (curF K l m)
  | [], r, m => rfl
  | t :: l, r, m => by simp only [List.cons_append, curF, cur_app]
theorem cur_succ {K : Int} {l : List TN} {m : List Int} {i : Nat} {t : TN} (h : l[i]? = some t) : curF K (l.take (i + 1)) m = (allT (curF K (l.take i) m) K t).1 := by
  rw [List.take_add_one, h, cur_app]; rfl
theorem tel_get {K : Int} : ∀ {l : List TN} {m : List Int} {i : Nat} {t : TN}, l[i]? = some t → (telF K l m)[i]? = some (allT (curF K (l.take i) m) K t).2.1
  | x :: l, m, 0, t, h => by
    obtain rfl : x = t := by simpa using h
    rfl
  | x :: l, m, i + 1, t, h => by
    simp only [telF, List.getElem?_cons_succ, List.take_succ_cons, curF]
    exact tel_get (by simpa using h)
theorem mkT_add {t : TN} (h : ∀ x ∈ t.1, inR .u64 x.2.2) : AddT (mkT t) := by
  refine ⟨by simp [mkT]; omega, fun x hx => ?_⟩
  obtain ⟨y, hy, rfl⟩ := List.mem_map.1 hx
  have hv := h y (List.mem_of_mem_take hy)
  simp only [inR] at hv
  simp only [mkO]
  refine ⟨trivial, ?_, ?_⟩
  · have hk : y.2.1.tmod 2 = 0 ∨ y.2.1.tmod 2 = 1 ∨ y.2.1.tmod 2 = -1 := by
      rcases Int.le_total 0 y.2.1 with h | h
      · rw [Int.tmod_eq_emod_of_nonneg h]; omega
      · have h2 := Int.tmod_eq_emod_of_nonneg (a := -y.2.1) (b := 2) (by omega)
        rw [Int.neg_tmod] at h2
        omega
    rw [Int.tmod_eq_emod_of_nonneg (by omega)]
    omega
  · rw [Int.tmod_eq_emod_of_nonneg hv.1]; omega
theorem modF_2 (k : Int) : modF k 2 = (k.tmod 2 + 2).tmod 2 := rfl
theorem runS_tl {room : Int} {len : Nat} : ∀ {ops : List Op} {cur : List Int} {n : Nat} {tells : List Int}, (runS room len ops cur n tells).2.2.length ≤ tells.length + ops.length
  | [], cur, n, tells => by simp [runS]
  | o :: r, cur, n, tells => by
    have hs := stepS_len room cur n tells o
    unfold runS
    split
    · simp
    · split
      · rename_i c n' t' e
        rw [e] at hs
        have := runS_tl (room := room) (len := len) (ops := r) (cur := c) (n := n') (tells := t')
        simp at hs ⊢
        omega
      · rename_i c n' t' e
        rw [e] at hs
        simp at hs ⊢
        omega
theorem all_tl {K : Nat} (hK : K ≤ 1000) {t : TN} (h : AddT t) {cur : List Int} (hc : cur.length = 2) : (allT cur K t).2.1.length ≤ 17 := by
  have g : Good8 cur K t := ⟨addT_good h, by omega⟩
  rw [g.eq]
  have := runS_tl (room := (K : Int)) (len := cur.length) (ops := t.1.map toOp) (cur := cur) (n := 0) (tells := [])
  have h1 := h.1
  simp only [ranS, List.length_append, List.length_cons, List.length_nil, List.length_map] at this ⊢
  omega
theorem last_get {tl : List Int} {a b : Int} (h : tl.getLast? = some a) (h2 : tl[((tl.length : Int) - 1).toNat]? = some b) : b = a := by
  rw [List.getLast?_eq_getElem?] at h
  rw [show ((tl.length : Int) - 1).toNat = tl.length - 1 by omega, h] at h2
  exact (Option.some.inj h2).symm
theorem sums_law : ∀ x, rngTup [pTs, (false, .int .u8)] x → ∃ lp, runF Tbl (spL L7) lp 0 Try.f6 (enVs [pTs, (false, .int .u8)] x) ⟨0, []⟩ fun r' st' => fzR st' (mkB true) r' := by
  rintro ⟨(l : List TN), (n : Int)⟩ hr
  refine ⟨lp6 l (n.tmod 20), ?_⟩
  refine Eq.mp (by kernel_rfl : (((!((l.all fun (t : TN) => decide (t.fst.length ≤ (30 : Nat))) && decide (l.length ≤ (12 : Nat)))) = true → true = true ∧ True) ∧ ((!((l.all fun (t : TN) => decide (t.fst.length ≤ (30 : Nat))) && decide (l.length ≤ (12 : Nat)))) = false → (20 : Int) ≠ (0 : Int) ∧ ((∃ (x : Nat), x ≤ l.length ∧ l ≍ l ∧ n.tmod (20 : Int) = n.tmod (20 : Int) ∧ (0 : Int) = (↑x : Int) ∧ List.map mkT (List.take x l) = ([] : List (List (Int × Int × Int) × Bool)) ∧ True) ∧ ∀ (x : Nat), x ≤ l.length → (decide ((↑x : Int) < (↑l.length : Int)) = true → ((0 : Int) ≤ (↑x : Int) ∧ (↑x : Int) < (↑l.length : Int)) ∧ ∀ (y : List (Int × Int × Int) × Bool), l[(↑x : Int).toNat]? = some y → (∃ (x_1 : Nat × Nat × TN), (l[x_1.fst]? = some x_1.snd.snd ∧ x_1.snd.fst ≤ x_1.snd.snd.fst.length ∧ x_1.snd.fst ≤ (16 : Nat)) ∧ (↑x_1.fst : Int) = (↑x : Int) ∧ l ≍ l ∧ n.tmod (20 : Int) = n.tmod (20 : Int) ∧ (↑x : Int) = (↑x_1.fst : Int) ∧ (0 : Int) = (↑x_1.snd.fst : Int) ∧ List.map mkT (List.take x l) ≍ List.map mkT (List.take x_1.fst l) ∧ y.snd = x_1.snd.snd.snd ∧ List.map mkO (List.take x_1.snd.fst x_1.snd.snd.fst) = ([] : List (Int × Int × Int)) ∧ True) ∧ ∀ (x_1 : Nat × Nat × TN), l[x_1.fst]? = some x_1.snd.snd ∧ x_1.snd.fst ≤ x_1.snd.snd.fst.length ∧ x_1.snd.fst ≤ (16 : Nat) → (↑x_1.fst : Int) = (↑x : Int) → ((0 : Int) ≤ (↑x_1.fst : Int) ∧ (↑x_1.fst : Int) < (↑l.length : Int)) ∧ ∀ (y : List (Int × Int × Int) × Bool), l[(↑x_1.fst : Int).toNat]? = some y → ((decide ((↑x_1.snd.fst : Int) < (↑y.fst.length : Int)) && decide ((↑x_1.snd.fst : Int) < (16 : Int))) = true → ((0 : Int) ≤ (↑x_1.fst : Int) ∧ (↑x_1.fst : Int) < (↑l.length : Int)) ∧ ∀ (y : List (Int × Int × Int) × Bool), l[(↑x_1.fst : Int).toNat]? = some y → ((0 : Int) ≤ (↑x_1.snd.fst : Int) ∧ (↑x_1.snd.fst : Int) < (↑y.fst.length : Int)) ∧ ∀ (y_1 : Int × Int × Int), y.fst[(↑x_1.snd.fst : Int).toNat]? = some y_1 → ((0 : Int) ≤ (↑x_1.fst : Int) ∧ (↑x_1.fst : Int) < (↑l.length : Int)) ∧ ∀ (y : List (Int × Int × Int) × Bool), l[(↑x_1.fst : Int).toNat]? = some y → ((0 : Int) ≤ (↑x_1.snd.fst : Int) ∧ (↑x_1.snd.fst : Int) < (↑y.fst.length : Int)) ∧ ∀ (y_2 : Int × Int × Int), y.fst[(↑x_1.snd.fst : Int).toNat]? = some y_2 → (1000 : Int) ≠ (0 : Int) ∧ ((List.map mkO (List.take x_1.snd.fst x_1.snd.snd.fst)).length + (((3 : Int), modF y_1.snd.fst (2 : Int), y_2.snd.snd.tmod (1000 : Int)) :: ([] : List (Int × Int × Int))).length) * (24 : Nat) ≤ (140737488355328 : Nat) ∧ ((-9223372036854775808 : Int) ≤ (↑x_1.snd.fst : Int) + (1 : Int) ∧ (↑x_1.snd.fst : Int) + (1 : Int) ≤ (9223372036854775807 : Int)) ∧ ∃ (y : Nat × Nat × TN), (l[y.fst]? = some y.snd.snd ∧ y.snd.fst ≤ y.snd.snd.fst.length ∧ y.snd.fst ≤ (16 : Nat)) ∧ (↑y.fst : Int) = (↑x : Int) ∧ (16 : Nat) - y.snd.fst < (16 : Nat) - x_1.snd.fst ∧ l ≍ l ∧ n.tmod (20 : Int) = n.tmod (20 : Int) ∧ (↑x_1.fst : Int) = (↑y.fst : Int) ∧ (↑x_1.snd.fst : Int) + (1 : Int) = (↑y.snd.fst : Int) ∧ List.map mkT (List.take x_1.fst l) ≍ List.map mkT (List.take y.fst l) ∧ x_1.snd.snd.snd = y.snd.snd.snd ∧ List.map mkO (List.take x_1.snd.fst x_1.snd.snd.fst) ++ ((3 : Int), modF y_1.snd.fst (2 : Int), y_2.snd.snd.tmod (1000 : Int)) :: ([] : List (Int × Int × Int)) ≍ List.map mkO (List.take y.snd.fst y.snd.snd.fst) ∧ True) ∧ ((decide ((↑x_1.snd.fst : Int) < (↑y.fst.length : Int)) && decide ((↑x_1.snd.fst : Int) < (16 : Int))) = false → ((List.map mkT (List.take x_1.fst l)).length + ((List.map mkO (List.take x_1.snd.fst x_1.snd.snd.fst), x_1.snd.snd.snd) :: ([] : List (List (Int × Int × Int) × Bool))).length) * (32 : Nat) ≤ (140737488355328 : Nat) ∧ ((-9223372036854775808 : Int) ≤ (↑x_1.fst : Int) + (1 : Int) ∧ (↑x_1.fst : Int) + (1 : Int) ≤ (9223372036854775807 : Int)) ∧ ∃ (y : Nat), y ≤ l.length ∧ l.length - y < l.length - x ∧ l ≍ l ∧ n.tmod (20 : Int) = n.tmod (20 : Int) ∧ (↑x_1.fst : Int) + (1 : Int) = (↑y : Int) ∧ List.map mkT (List.take x_1.fst l) ++ (List.map mkO (List.take x_1.snd.fst x_1.snd.snd.fst), x_1.snd.snd.snd) :: ([] : List (List (Int × Int × Int) × Bool)) ≍ List.map mkT (List.take y l) ∧ True)) ∧ (decide ((↑x : Int) < (↑l.length : Int)) = false → ∃ (y : Unit), True ∧ l ≍ l ∧ n.tmod (20 : Int) = n.tmod (20 : Int) ∧ List.map mkT (List.take x l) ≍ List.map mkT l ∧ True)) ∧ ∀ (x : Unit), True → (((5 : Int) :: (7 : Int) :: ([] : List Int)).length ≤ (1000000 : Nat) ∧ (List.map mkT l).length ≤ (1000 : Nat)) ∧ ∀ (y : Tup (pUs :: pUss :: pI :: ([] : List PS))), y = foldT (n.tmod (20 : Int)) (List.map mkT l) ((5 : Int) :: (7 : Int) :: ([] : List Int)) ([] : List (List Int)) → ((y.snd.snd != (0 : Int) || (↑y.fst.length : Int) != (2 : Int) || (↑y.snd.fst.length : Int) != (↑(List.map mkT l).length : Int)) = true → false = true ∧ True) ∧ ((y.snd.snd != (0 : Int) || (↑y.fst.length : Int) != (2 : Int) || (↑y.snd.fst.length : Int) != (↑(List.map mkT l).length : Int)) = false → (∃ (x : Nat), x ≤ l.length ∧ n.tmod (20 : Int) = n.tmod (20 : Int) ∧ List.map mkT l ≍ List.map mkT l ∧ y.fst ≍ curF (n.tmod (20 : Int)) (List.map mkT l) ((5 : Int) :: (7 : Int) :: ([] : List Int)) ∧ y.snd.fst ≍ telF (n.tmod (20 : Int)) (List.map mkT l) ((5 : Int) :: (7 : Int) :: ([] : List Int)) ∧ (0 : Int) = (↑x : Int) ∧ (5 : Int) :: (7 : Int) :: ([] : List Int) = curF (n.tmod (20 : Int)) (List.map mkT (List.take x l)) ((5 : Int) :: (7 : Int) :: ([] : List Int)) ∧ True) ∧ ∀ (x : Nat), x ≤ l.length → (decide ((↑x : Int) < (↑(List.map mkT l).length : Int)) = true → ((0 : Int) ≤ (↑x : Int) ∧ (↑x : Int) < (↑(telF (n.tmod (20 : Int)) (List.map mkT l) ((5 : Int) :: (7 : Int) :: ([] : List Int))).length : Int)) ∧ ∀ (y : List Int), (telF (n.tmod (20 : Int)) (List.map mkT l) ((5 : Int) :: (7 : Int) :: ([] : List Int)))[(↑x : Int).toNat]? = some y → (decide ((↑y.length : Int) < (1 : Int)) = true → false = true ∧ True) ∧ (decide ((↑y.length : Int) < (1 : Int)) = false → ((0 : Int) ≤ (↑x : Int) ∧ (↑x : Int) < (↑(List.map mkT l).length : Int)) ∧ ∀ (y_1 : List (Int × Int × Int) × Bool), (List.map mkT l)[(↑x : Int).toNat]? = some y_1 → (((0 : Int) ≤ (↑x : Int) ∧ (↑x : Int) < (↑(telF (n.tmod (20 : Int)) (List.map mkT l) ((5 : Int) :: (7 : Int) :: ([] : List Int))).length : Int)) ∧ ∀ (y_2 : List Int), (telF (n.tmod (20 : Int)) (List.map mkT l) ((5 : Int) :: (7 : Int) :: ([] : List Int)))[(↑x : Int).toNat]? = some y_2 → ((-9223372036854775808 : Int) ≤ (↑y.length : Int) - (1 : Int) ∧ (↑y.length : Int) - (1 : Int) ≤ (9223372036854775807 : Int)) ∧ ((0 : Int) ≤ (↑y.length : Int) - (1 : Int) ∧ (↑y.length : Int) - (1 : Int) < (↑y_2.length : Int)) ∧ ∀ (y_3 : Int), y_2[((↑y.length : Int) - (1 : Int)).toNat]? = some y_3 → ((!decide ((↑y_1.fst.length : Int) > n.tmod (20 : Int)) == (y_3 == (102 : Int))) = true → false = true ∧ True) ∧ ((!decide ((↑y_1.fst.length : Int) > n.tmod (20 : Int)) == (y_3 == (102 : Int))) = false → ((0 : Int) ≤ (↑x : Int) ∧ (↑x : Int) < (↑(telF (n.tmod (20 : Int)) (List.map mkT l) ((5 : Int) :: (7 : Int) :: ([] : List Int))).length : Int)) ∧ ∀ (y_4 : List Int), (telF (n.tmod (20 : Int)) (List.map mkT l) ((5 : Int) :: (7 : Int) :: ([] : List Int)))[(↑x : Int).toNat]? = some y_4 → ((-9223372036854775808 : Int) ≤ (↑y.length : Int) - (1 : Int) ∧ (↑y.length : Int) - (1 : Int) ≤ (9223372036854775807 : Int)) ∧ ((0 : Int) ≤ (↑y.length : Int) - (1 : Int) ∧ (↑y.length : Int) - (1 : Int) < (↑y_4.length : Int)) ∧ ∀ (y_5 : Int), y_4[((↑y.length : Int) - (1 : Int)).toNat]? = some y_5 → ((!decide ((↑y_1.fst.length : Int) > n.tmod (20 : Int))) = true → ((0 : Int) ≤ (↑x : Int) ∧ (↑x : Int) < (↑(List.map mkT l).length : Int)) ∧ ∀ (y_6 : List (Int × Int × Int) × Bool), (List.map mkT l)[(↑x : Int).toNat]? = some y_6 → ((!(y_5 == (101 : Int)) == !y_6.snd) = true → false = true ∧ True) ∧ ((!(y_5 == (101 : Int)) == !y_6.snd) = false → ∃ (y_7 : Nat), y_7 < l.length ∧ (↑y_7 : Int) = (↑x : Int) ∧ n.tmod (20 : Int) = n.tmod (20 : Int) ∧ List.map mkT l ≍ List.map mkT l ∧ curF (n.tmod (20 : Int)) (List.map mkT l) ((5 : Int) :: (7 : Int) :: ([] : List Int)) ≍ curF (n.tmod (20 : Int)) (List.map mkT l) ((5 : Int) :: (7 : Int) :: ([] : List Int)) ∧ telF (n.tmod (20 : Int)) (List.map mkT l) ((5 : Int) :: (7 : Int) :: ([] : List Int)) ≍ telF (n.tmod (20 : Int)) (List.map mkT l) ((5 : Int) :: (7 : Int) :: ([] : List Int)) ∧ (↑x : Int) = (↑x : Int) ∧ (↑y.length : Int) = (↑y.length : Int) ∧ curF (n.tmod (20 : Int)) (List.map mkT (List.take x l)) ((5 : Int) :: (7 : Int) :: ([] : List Int)) = curF (n.tmod (20 : Int)) (List.map mkT (List.take y_7 l)) ((5 : Int) :: (7 : Int) :: ([] : List Int)) ∧ True)) ∧ ((!decide ((↑y_1.fst.length : Int) > n.tmod (20 : Int))) = false → ((!(y_5 == (101 : Int)) == false) = true → false = true ∧ True) ∧ ((!(y_5 == (101 : Int)) == false) = false → ∃ (y_6 : Nat), y_6 < l.length ∧ (↑y_6 : Int) = (↑x : Int) ∧ n.tmod (20 : Int) = n.tmod (20 : Int) ∧ List.map mkT l ≍ List.map mkT l ∧ curF (n.tmod (20 : Int)) (List.map mkT l) ((5 : Int) :: (7 : Int) :: ([] : List Int)) ≍ curF (n.tmod (20 : Int)) (List.map mkT l) ((5 : Int) :: (7 : Int) :: ([] : List Int)) ∧ telF (n.tmod (20 : Int)) (List.map mkT l) ((5 : Int) :: (7 : Int) :: ([] : List Int)) ≍ telF (n.tmod (20 : Int)) (List.map mkT l) ((5 : Int) :: (7 : Int) :: ([] : List Int)) ∧ (↑x : Int) = (↑x : Int) ∧ (↑y.length : Int) = (↑y.length : Int) ∧ curF (n.tmod (20 : Int)) (List.map mkT (List.take x l)) ((5 : Int) :: (7 : Int) :: ([] : List Int)) = curF (n.tmod (20 : Int)) (List.map mkT (List.take y_6 l)) ((5 : Int) :: (7 : Int) :: ([] : List Int)) ∧ True)))) ∧ ∀ (x_1 : Nat), x_1 < l.length → (↑x_1 : Int) = (↑x : Int) → (∃ (x_2 : Nat × Nat), (x_2.fst < l.length ∧ x_2.snd ≤ ((List.map mkT l).getD x_2.fst (([] : List ON), false)).fst.length ∧ ((0 : Nat) < x_2.snd → ((telF (n.tmod (20 : Int)) (List.map mkT l) ((5 : Int) :: (7 : Int) :: ([] : List Int))).getD x_2.fst ([] : List Int)).getLast? = some (101 : Int))) ∧ (↑x_2.fst : Int) = (↑x : Int) ∧ n.tmod (20 : Int) = n.tmod (20 : Int) ∧ List.map mkT l ≍ List.map mkT l ∧ curF (n.tmod (20 : Int)) (List.map mkT l) ((5 : Int) :: (7 : Int) :: ([] : List Int)) ≍ curF (n.tmod (20 : Int)) (List.map mkT l) ((5 : Int) :: (7 : Int) :: ([] : List Int)) ∧ telF (n.tmod (20 : Int)) (List.map mkT l) ((5 : Int) :: (7 : Int) :: ([] : List Int)) ≍ telF (n.tmod (20 : Int)) (List.map mkT l) ((5 : Int) :: (7 : Int) :: ([] : List Int)) ∧ (↑x : Int) = (↑x_2.fst : Int) ∧ (↑y.length : Int) = (↑((telF (n.tmod (20 : Int)) (List.map mkT l) ((5 : Int) :: (7 : Int) :: ([] : List Int))).getD x_2.fst ([] : List Int)).length : Int) ∧ (0 : Int) = (↑x_2.snd : Int) ∧ curF (n.tmod (20 : Int)) (List.map mkT (List.take x_1 l)) ((5 : Int) :: (7 : Int) :: ([] : List Int)) = List.foldl addO (curF (n.tmod (20 : Int)) (List.map mkT (List.take x_2.fst l)) ((5 : Int) :: (7 : Int) :: ([] : List Int))) (List.take x_2.snd ((List.map mkT l).getD x_2.fst (([] : List ON), false)).fst) ∧ True) ∧ ∀ (x_2 : Nat × Nat), x_2.fst < l.length ∧ x_2.snd ≤ ((List.map mkT l).getD x_2.fst (([] : List ON), false)).fst.length ∧ ((0 : Nat) < x_2.snd → ((telF (n.tmod (20 : Int)) (List.map mkT l) ((5 : Int) :: (7 : Int) :: ([] : List Int))).getD x_2.fst ([] : List Int)).getLast? = some (101 : Int)) → (↑x_2.fst : Int) = (↑x : Int) → ((0 : Int) ≤ (↑x_2.fst : Int) ∧ (↑x_2.fst : Int) < (↑(List.map mkT l).length : Int)) ∧ ∀ (y : List (Int × Int × Int) × Bool), (List.map mkT l)[(↑x_2.fst : Int).toNat]? = some y → (decide ((↑x_2.snd : Int) < (↑y.fst.length : Int)) = true → ((0 : Int) ≤ (↑x_2.fst : Int) ∧ (↑x_2.fst : Int) < (↑(telF (n.tmod (20 : Int)) (List.map mkT l) ((5 : Int) :: (7 : Int) :: ([] : List Int))).length : Int)) ∧ ∀ (y : List Int), (telF (n.tmod (20 : Int)) (List.map mkT l) ((5 : Int) :: (7 : Int) :: ([] : List Int)))[(↑x_2.fst : Int).toNat]? = some y → ((-9223372036854775808 : Int) ≤ (↑((telF (n.tmod (20 : Int)) (List.map mkT l) ((5 : Int) :: (7 : Int) :: ([] : List Int))).getD x_2.fst ([] : List Int)).length : Int) - (1 : Int) ∧ (↑((telF (n.tmod (20 : Int)) (List.map mkT l) ((5 : Int) :: (7 : Int) :: ([] : List Int))).getD x_2.fst ([] : List Int)).length : Int) - (1 : Int) ≤ (9223372036854775807 : Int)) ∧ ((0 : Int) ≤ (↑((telF (n.tmod (20 : Int)) (List.map mkT l) ((5 : Int) :: (7 : Int) :: ([] : List Int))).getD x_2.fst ([] : List Int)).length : Int) - (1 : Int) ∧ (↑((telF (n.tmod (20 : Int)) (List.map mkT l) ((5 : Int) :: (7 : Int) :: ([] : List Int))).getD x_2.fst ([] : List Int)).length : Int) - (1 : Int) < (↑y.length : Int)) ∧ ∀ (y_2 : Int), y[((↑((telF (n.tmod (20 : Int)) (List.map mkT l) ((5 : Int) :: (7 : Int) :: ([] : List Int))).getD x_2.fst ([] : List Int)).length : Int) - (1 : Int)).toNat]? = some y_2 → ((y_2 == (101 : Int)) = true → ((0 : Int) ≤ (↑x_2.fst : Int) ∧ (↑x_2.fst : Int) < (↑(List.map mkT l).length : Int)) ∧ ∀ (y : List (Int × Int × Int) × Bool), (List.map mkT l)[(↑x_2.fst : Int).toNat]? = some y → ((0 : Int) ≤ (↑x_2.snd : Int) ∧ (↑x_2.snd : Int) < (↑y.fst.length : Int)) ∧ ∀ (y_3 : Int × Int × Int), y.fst[(↑x_2.snd : Int).toNat]? = some y_3 → ((0 : Int) ≤ y_3.snd.fst ∧ y_3.snd.fst < (↑(2 : Nat) : Int)) ∧ ((0 : Int) ≤ (↑x_2.fst : Int) ∧ (↑x_2.fst : Int) < (↑(List.map mkT l).length : Int)) ∧ ∀ (y : List (Int × Int × Int) × Bool), (List.map mkT l)[(↑x_2.fst : Int).toNat]? = some y → ((0 : Int) ≤ (↑x_2.snd : Int) ∧ (↑x_2.snd : Int) < (↑y.fst.length : Int)) ∧ ∀ (y_4 : Int × Int × Int), y.fst[(↑x_2.snd : Int).toNat]? = some y_4 → ((0 : Int) ≤ y_3.snd.fst ∧ y_3.snd.fst < (↑(2 : Nat) : Int)) ∧ ((-9223372036854775808 : Int) ≤ (↑x_2.snd : Int) + (1 : Int) ∧ (↑x_2.snd : Int) + (1 : Int) ≤ (9223372036854775807 : Int)) ∧ ∃ (y : Nat × Nat), (y.fst < l.length ∧ y.snd ≤ ((List.map mkT l).getD y.fst (([] : List ON), false)).fst.length ∧ ((0 : Nat) < y.snd → ((telF (n.tmod (20 : Int)) (List.map mkT l) ((5 : Int) :: (7 : Int) :: ([] : List Int))).getD y.fst ([] : List Int)).getLast? = some (101 : Int))) ∧ (↑y.fst : Int) = (↑x : Int) ∧ (16 : Nat) - y.snd < (16 : Nat) - x_2.snd ∧ n.tmod (20 : Int) = n.tmod (20 : Int) ∧ List.map mkT l ≍ List.map mkT l ∧ curF (n.tmod (20 : Int)) (List.map mkT l) ((5 : Int) :: (7 : Int) :: ([] : List Int)) ≍ curF (n.tmod (20 : Int)) (List.map mkT l) ((5 : Int) :: (7 : Int) :: ([] : List Int)) ∧ telF (n.tmod (20 : Int)) (List.map mkT l) ((5 : Int) :: (7 : Int) :: ([] : List Int)) ≍ telF (n.tmod (20 : Int)) (List.map mkT l) ((5 : Int) :: (7 : Int) :: ([] : List Int)) ∧ (↑x_2.fst : Int) = (↑y.fst : Int) ∧ (↑((telF (n.tmod (20 : Int)) (List.map mkT l) ((5 : Int) :: (7 : Int) :: ([] : List Int))).getD x_2.fst ([] : List Int)).length : Int) = (↑((telF (n.tmod (20 : Int)) (List.map mkT l) ((5 : Int) :: (7 : Int) :: ([] : List Int))).getD y.fst ([] : List Int)).length : Int) ∧ (↑x_2.snd : Int) + (1 : Int) = (↑y.snd : Int) ∧ (List.foldl addO (curF (n.tmod (20 : Int)) (List.map mkT (List.take x_2.fst l)) ((5 : Int) :: (7 : Int) :: ([] : List Int))) (List.take x_2.snd ((List.map mkT l).getD x_2.fst (([] : List ON), false)).fst)).set y_3.snd.fst.toNat (IntKind.u64.wrap ((List.foldl addO (curF (n.tmod (20 : Int)) (List.map mkT (List.take x_2.fst l)) ((5 : Int) :: (7 : Int) :: ([] : List Int))) (List.take x_2.snd ((List.map mkT l).getD x_2.fst (([] : List ON), false)).fst)).getD y_3.snd.fst.toNat (0 : Int) + y_4.snd.snd)) = List.foldl addO (curF (n.tmod (20 : Int)) (List.map mkT (List.take y.fst l)) ((5 : Int) :: (7 : Int) :: ([] : List Int))) (List.take y.snd ((List.map mkT l).getD y.fst (([] : List ON), false)).fst) ∧ True) ∧ ((y_2 == (101 : Int)) = false → ((-9223372036854775808 : Int) ≤ (↑x_2.fst : Int) + (1 : Int) ∧ (↑x_2.fst : Int) + (1 : Int) ≤ (9223372036854775807 : Int)) ∧ ∃ (y : Nat), y ≤ l.length ∧ l.length - y < l.length - x ∧ n.tmod (20 : Int) = n.tmod (20 : Int) ∧ List.map mkT l ≍ List.map mkT l ∧ curF (n.tmod (20 : Int)) (List.map mkT l) ((5 : Int) :: (7 : Int) :: ([] : List Int)) ≍ curF (n.tmod (20 : Int)) (List.map mkT l) ((5 : Int) :: (7 : Int) :: ([] : List Int)) ∧ telF (n.tmod (20 : Int)) (List.map mkT l) ((5 : Int) :: (7 : Int) :: ([] : List Int)) ≍ telF (n.tmod (20 : Int)) (List.map mkT l) ((5 : Int) :: (7 : Int) :: ([] : List Int)) ∧ (↑x_2.fst : Int) + (1 : Int) = (↑y : Int) ∧ List.foldl addO (curF (n.tmod (20 : Int)) (List.map mkT (List.take x_2.fst l)) ((5 : Int) :: (7 : Int) :: ([] : List Int))) (List.take x_2.snd ((List.map mkT l).getD x_2.fst (([] : List ON), false)).fst) = curF (n.tmod (20 : Int)) (List.map mkT (List.take y l)) ((5 : Int) :: (7 : Int) :: ([] : List Int)) ∧ True)) ∧ (decide ((↑x_2.snd : Int) < (↑y.fst.length : Int)) = false → ((-9223372036854775808 : Int) ≤ (↑x_2.fst : Int) + (1 : Int) ∧ (↑x_2.fst : Int) + (1 : Int) ≤ (9223372036854775807 : Int)) ∧ ∃ (y : Nat), y ≤ l.length ∧ l.length - y < l.length - x ∧ n.tmod (20 : Int) = n.tmod (20 : Int) ∧ List.map mkT l ≍ List.map mkT l ∧ curF (n.tmod (20 : Int)) (List.map mkT l) ((5 : Int) :: (7 : Int) :: ([] : List Int)) ≍ curF (n.tmod (20 : Int)) (List.map mkT l) ((5 : Int) :: (7 : Int) :: ([] : List Int)) ∧ telF (n.tmod (20 : Int)) (List.map mkT l) ((5 : Int) :: (7 : Int) :: ([] : List Int)) ≍ telF (n.tmod (20 : Int)) (List.map mkT l) ((5 : Int) :: (7 : Int) :: ([] : List Int)) ∧ (↑x_2.fst : Int) + (1 : Int) = (↑y : Int) ∧ List.foldl addO (curF (n.tmod (20 : Int)) (List.map mkT (List.take x_2.fst l)) ((5 : Int) :: (7 : Int) :: ([] : List Int))) (List.take x_2.snd ((List.map mkT l).getD x_2.fst (([] : List ON), false)).fst) = curF (n.tmod (20 : Int)) (List.map mkT (List.take y l)) ((5 : Int) :: (7 : Int) :: ([] : List Int)) ∧ True))) ∧ (decide ((↑x : Int) < (↑(List.map mkT l).length : Int)) = false → ((0 : Int) ≤ (0 : Int) ∧ (0 : Int) < (↑(curF (n.tmod (20 : Int)) (List.map mkT l) ((5 : Int) :: (7 : Int) :: ([] : List Int))).length : Int)) ∧ ∀ (y : Int), (curF (n.tmod (20 : Int)) (List.map mkT l) ((5 : Int) :: (7 : Int) :: ([] : List Int)))[Int.toNat (0 : Int)]? = some y → ((y == (curF (n.tmod (20 : Int)) (List.map mkT (List.take x l)) ((5 : Int) :: (7 : Int) :: ([] : List Int))).getD (nat_lit 0) (0 : Int)) = true → ((0 : Int) ≤ (1 : Int) ∧ (1 : Int) < (↑(curF (n.tmod (20 : Int)) (List.map mkT l) ((5 : Int) :: (7 : Int) :: ([] : List Int))).length : Int)) ∧ ∀ (y : Int), (curF (n.tmod (20 : Int)) (List.map mkT l) ((5 : Int) :: (7 : Int) :: ([] : List Int)))[Int.toNat (1 : Int)]? = some y → (y == (curF (n.tmod (20 : Int)) (List.map mkT (List.take x l)) ((5 : Int) :: (7 : Int) :: ([] : List Int))).getD (nat_lit 1) (0 : Int) && true) = true ∧ True) ∧ ((y == (curF (n.tmod (20 : Int)) (List.map mkT (List.take x l)) ((5 : Int) :: (7 : Int) :: ([] : List Int))).getD (nat_lit 0) (0 : Int)) = false → false = true ∧ True))))) = _) ?_
  have r1 : ∀ t ∈ l, ∀ x ∈ t.1, inR .u64 x.2.2 := fun t ht x hx => ((hr.1.2 t ht).1.2 x hx).2.2
  have r2 : 0 ≤ n ∧ n ≤ 255 := hr.2
  refine ⟨fun _ => ⟨rfl, trivial⟩, fun h => ?_⟩
  obtain ⟨g1, g2⟩ : (∀ t ∈ l, t.1.length ≤ 30) ∧ l.length ≤ 12 := by
    simp only [Bool.not_eq_false', Bool.and_eq_true, List.all_eq_true, decide_eq_true_eq] at h
    exact h
  clear h hr
  obtain ⟨K, hK, hK2⟩ : ∃ K : Nat, n.tmod 20 = K ∧ K ≤ 1000 := ⟨(n.tmod 20).toNat, by rw [Int.tmod_eq_emod_of_nonneg r2.1]; omega, by rw [Int.tmod_eq_emod_of_nonneg r2.1]; omega⟩
  rw [hK]
  have hT : ∀ t ∈ l.map mkT, AddT t := fun t ht => by
    obtain ⟨x, hx, rfl⟩ := List.mem_map.1 ht
    exact mkT_add (r1 x hx)
  obtain ⟨fF, fL⟩ := fold_F hK2 (l := l.map mkT) (m := [5, 7]) (acc := []) hT rfl
  have hcl : ∀ i : Nat, (curF K ((l.take i).map mkT) [5, 7]).length = 2 := fun i => (fold_F hK2 (l := (l.take i).map mkT) (m := [5, 7]) (acc := []) (fun t ht => by
    obtain ⟨x, hx, rfl⟩ := List.mem_map.1 ht
    exact mkT_add (r1 x (List.mem_of_mem_take hx))) rfl).2
  refine ⟨by decide, ⟨⟨0, Nat.zero_le _, HEq.rfl, rfl, rfl, rfl, trivial⟩, fun i hi => ⟨fun h1 => ⟨by simp at h1; omega, fun t ht => ⟨⟨(i, 0, t), ⟨by rw [Int.toNat_natCast] at ht; exact ht, Nat.zero_le _, Nat.zero_le _⟩, rfl, HEq.rfl, rfl, rfl, rfl, HEq.rfl, rfl, rfl, trivial⟩, ?_⟩⟩, fun h1 => ?_⟩⟩, ?_⟩
  · rintro ⟨i2, j, t2⟩ ⟨q1, q2, q3⟩ e
    dsimp only at q1 q2 q3 e ⊢
    obtain rfl : i2 = i := by omega
    clear e
    simp only [decide_eq_true_eq] at h1
    rw [Int.toNat_natCast] at ht
    rw [ht] at q1
    cases q1
    refine ⟨by omega, fun y hy => ?_⟩
    rw [Int.toNat_natCast, ht] at hy
    cases hy
    refine ⟨fun h2 => ⟨by omega, fun y hy => ?_⟩, fun h2 => ⟨?_, by omega, i2 + 1, by omega, by omega, HEq.rfl, rfl, by simp, heq_of_eq ?_, trivial⟩⟩
    · rw [Int.toNat_natCast, ht] at hy
      cases hy
      simp only [Bool.and_eq_true, decide_eq_true_eq] at h2
      refine ⟨by omega, fun x hx => ⟨by omega, fun y hy => ?_⟩⟩
      rw [Int.toNat_natCast, ht] at hy
      cases hy
      refine ⟨by omega, fun y hy => ?_⟩
      rw [Int.toNat_natCast] at hx
      rw [Int.toNat_natCast, hx] at hy
      cases hy
      refine ⟨by decide, by simp; omega, by omega, (i2, j + 1, _), ⟨ht, by dsimp only; omega, by dsimp only; omega⟩, rfl, by dsimp only; omega, HEq.rfl, rfl, rfl, by simp, HEq.rfl, rfl, heq_of_eq ?_, trivial⟩
      dsimp only
      rw [List.take_add_one, hx]
      simp [mkO, modF_2]
    · simp; omega
    · rw [List.take_add_one, ht]
      have hj : t.1.take j = t.1.take 16 := by
        simp only [Bool.and_eq_false_iff, decide_eq_false_iff_not] at h2
        rcases h2 with h2 | h2
        · rw [List.take_of_length_le (by omega), List.take_of_length_le (by omega)]
        · rw [show j = 16 by omega]
      simp [mkT, hj]
  · simp only [decide_eq_false_iff_not] at h1
    exact ⟨(), trivial, HEq.rfl, rfl, heq_of_eq (by rw [List.take_of_length_le (by omega)]), trivial⟩
  intro _ _
  refine ⟨⟨by simp, by simp; omega⟩, ?_⟩
  intro zz0 qq0
  obtain rfl := qq0.symm
  rw [fF]
  have tl0 : (telF K (l.map mkT) [5, 7]).length = l.length := by rw [tel_len, List.length_map]
  refine ⟨fun h => ?_, fun _ => ⟨⟨0, Nat.zero_le _, rfl, HEq.rfl, HEq.rfl, HEq.rfl, rfl, rfl, trivial⟩, ?_⟩⟩
  · rw [fL] at h
    simp [tl0] at h
  intro i hi
  have at_ : ∀ t, (l.map mkT)[i]? = some t → AddT t ∧ (telF K (l.map mkT) [5, 7])[i]? = some (allT (curF K ((l.take i).map mkT) [5, 7]) K t).2.1 ∧ curF K ((l.take (i + 1)).map mkT) [5, 7] = (allT (curF K ((l.take i).map mkT) [5, 7]) K t).1 := fun t ht => by
    refine ⟨hT t (List.mem_of_getElem? ht), ?_, ?_⟩
    · rw [tel_get ht, List.map_take]
    · rw [List.map_take, List.map_take, cur_succ ht]
  refine ⟨fun h1 => ⟨?_, fun y hy => ?_⟩, fun h1 => ?_⟩
  · simp at h1; rw [tl0]; omega
  · have hil : i < l.length := by simpa using h1
    obtain ⟨t, ht⟩ : ∃ t, (l.map mkT)[i]? = some t := ⟨mkT l[i], by simp [hil]⟩
    obtain ⟨aT, hg, hs⟩ := at_ t ht
    obtain ⟨a1, a2, a3, a4, a5⟩ := all_add hK2 aT (hcl i)
    rw [Int.toNat_natCast] at hy
    rw [hg] at hy
    obtain rfl := Option.some.inj hy
    have y0 : 1 ≤ (allT (curF K ((l.take i).map mkT) [5, 7]) K t).2.1.length := by
      rcases Nat.eq_zero_or_pos (allT (curF K ((l.take i).map mkT) [5, 7]) K t).2.1.length with h | h
      · exact absurd (List.eq_nil_of_length_eq_zero h) a3
      · exact h
    have ym : (allT (curF K ((l.take i).map mkT) [5, 7]) K t).2.1.length ≤ 1000000 := by
      have := all_tl hK2 aT (hcl i)
      omega
    have gD : (telF K (l.map mkT) [5, 7]).getD i [] = (allT (curF K ((l.take i).map mkT) [5, 7]) K t).2.1 := by simp [List.getD, hg]
    have gT : (l.map mkT).getD i ([], false) = t := by simp only [List.getD, ht, Option.getD_some]
    refine ⟨fun h => by simp only [decide_eq_true_eq] at h; omega, fun _ => ⟨by simp; omega, fun t1 ht1 => ⟨?_, ?_⟩⟩⟩
    · rw [Int.toNat_natCast, ht] at ht1
      obtain rfl := Option.some.inj ht1
      refine ⟨by rw [tl0]; omega, fun y2 hy2 => ?_⟩
      rw [Int.toNat_natCast, hg] at hy2
      obtain rfl := Option.some.inj hy2
      refine ⟨by omega, by omega, fun y3 hy3 => ?_⟩
      obtain rfl := last_get a5 hy3
      refine ⟨fun h => ?_, fun _ => ⟨by rw [tl0]; omega, fun y4 hy4 => ?_⟩⟩
      · exfalso
        by_cases hk : K < t.1.length
        · simp [hk] at h
        · cases ht2 : t.2 <;> simp [hk, ht2] at h
      · rw [Int.toNat_natCast, hg] at hy4
        obtain rfl := Option.some.inj hy4
        refine ⟨by omega, by omega, fun y5 hy5 => ?_⟩
        obtain rfl := last_get a5 hy5
        refine ⟨fun hf => ⟨by simp; omega, fun t6 ht6 => ?_⟩, fun hf => ⟨fun h => ?_, fun _ => ⟨i, hil, rfl, rfl, HEq.rfl, HEq.rfl, HEq.rfl, rfl, rfl, rfl, trivial⟩⟩⟩
        · rw [Int.toNat_natCast, ht] at ht6
          obtain rfl := Option.some.inj ht6
          have hk : ¬ K < t.1.length := by simp at hf; omega
          refine ⟨fun h => ?_, fun _ => ⟨i, hil, rfl, rfl, HEq.rfl, HEq.rfl, HEq.rfl, rfl, rfl, rfl, trivial⟩⟩
          exfalso
          cases ht2 : t.2 <;> simp [hk, ht2] at h
        · exfalso
          have hk : K < t.1.length := by simp at hf; omega
          simp [hk] at h
    · intro i2 _ e
      obtain rfl : i2 = i := by omega
      clear e
      refine ⟨⟨(i2, 0), ⟨hil, Nat.zero_le _, fun h => absurd h (Nat.lt_irrefl _)⟩, rfl, rfl, HEq.rfl, HEq.rfl, HEq.rfl, rfl, by dsimp only; rw [gD], rfl, rfl, trivial⟩, ?_⟩
      rintro ⟨i3, j⟩ ⟨q1, q2, q3⟩ e
      dsimp only at q1 q2 q3 e ⊢
      obtain rfl : i3 = i2 := by omega
      clear e
      rw [gT] at q2 ⊢
      rw [gD] at q3 ⊢
      refine ⟨by simp; omega, fun t4 ht4 => ?_⟩
      rw [Int.toNat_natCast, ht] at ht4
      obtain rfl := Option.some.inj ht4
      refine ⟨fun h2 => ⟨by rw [tl0]; omega, fun y6 hy6 => ?_⟩, fun h2 => ?_⟩
      · rw [Int.toNat_natCast, hg] at hy6
        obtain rfl := Option.some.inj hy6
        refine ⟨by omega, by omega, fun y7 hy7 => ?_⟩
        obtain rfl := last_get a5 hy7
        refine ⟨fun h3 => ?_, fun h3 => ?_⟩
        · have h3 : (if K < t.1.length then (102 : Int) else if t.2 = true then 104 else 101) = 101 := by simpa using h3
          have hj : j < t.1.length := by simpa using h2
          refine ⟨by simp; omega, fun y8 hy8 => ?_⟩
          rw [Int.toNat_natCast, ht] at hy8
          obtain rfl := Option.some.inj hy8
          refine ⟨by omega, fun x hx => ?_⟩
          rw [Int.toNat_natCast] at hx
          obtain ⟨x1, x2, x3, x4⟩ := aT.2 x (List.mem_of_getElem? hx)
          refine ⟨by omega, by simp; omega, fun y9 hy9 => ?_⟩
          rw [Int.toNat_natCast, ht] at hy9
          obtain rfl := Option.some.inj hy9
          refine ⟨by omega, fun z hz => ?_⟩
          rw [Int.toNat_natCast, hx] at hz
          obtain rfl := Option.some.inj hz
          refine ⟨by omega, by omega, (i3, j + 1), ⟨hil, by dsimp only; rw [gT]; omega, fun _ => by dsimp only; rw [gD, a5, h3]⟩, rfl, by have := aT.1; dsimp only; omega, rfl, HEq.rfl, HEq.rfl, HEq.rfl, rfl, by dsimp only; rw [gD], by simp, ?_, trivial⟩
          dsimp only
          rw [gT, List.take_add_one, hx, List.foldl_append]
          simp [addO]
        · have h3 : ¬ (if K < t.1.length then (102 : Int) else if t.2 = true then 104 else 101) = 101 := by simpa using h3
          have hj : j = 0 := by
            rcases Nat.eq_zero_or_pos j with h | h
            · exact h
            · have := q3 h
              rw [a5] at this
              exact absurd (Option.some.inj this) h3
          subst hj
          refine ⟨by omega, i3 + 1, by omega, by omega, rfl, HEq.rfl, HEq.rfl, HEq.rfl, by simp, ?_, trivial⟩
          rw [hs, a4, if_pos]
          · rfl
          · by_cases hk : K < t.1.length
            · exact .inl hk
            · cases ht2 : t.2
              · simp [hk, ht2] at h3
              · exact .inr rfl
      · have hj : j = t.1.length := by simp at h2; omega
        refine ⟨by omega, i3 + 1, by omega, by omega, rfl, HEq.rfl, HEq.rfl, HEq.rfl, by simp, ?_, trivial⟩
        rw [hs, a4, hj, List.take_length]
        by_cases h0 : j = 0
        · have : t.1 = [] := List.eq_nil_of_length_eq_zero (by omega)
          rw [this]
          split <;> rfl
        · have h5 := q3 (by omega)
          rw [a5] at h5
          have h5 := Option.some.inj h5
          rw [if_neg]
          rintro (hk | hk)
          · rw [if_pos hk] at h5; cases h5
          · by_cases hk2 : K < t.1.length
            · rw [if_pos hk2] at h5; cases h5
            · rw [if_neg hk2, if_pos hk] at h5; cases h5
  · have hil : i = l.length := by simp at h1; omega
    have e : curF K ((l.take i).map mkT) [5, 7] = curF K (l.map mkT) [5, 7] := by rw [hil, List.take_length]
    rw [e, fL]
    refine ⟨by omega, fun y hy => ⟨fun _ => ⟨by omega, fun z hz => ?_⟩, fun h => ?_⟩⟩
    · have : (curF K (l.map mkT) [5, 7]).getD 1 0 = z := by
        have hz : (curF K (l.map mkT) [5, 7])[1]? = some z := hz
        simp [List.getD, hz]
      rw [this]
      simp
    · have : (curF K (l.map mkT) [5, 7]).getD 0 0 = y := by
        have hy : (curF K (l.map mkT) [5, 7])[0]? = some y := hy
        simp [List.getD, hy]
      rw [this] at h
      simp at h
end Go.Proofs.Ytigbhlkafmpgmaa.V
