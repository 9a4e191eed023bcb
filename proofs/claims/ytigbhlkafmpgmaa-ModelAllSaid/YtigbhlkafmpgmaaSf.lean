import Derived.KernelRfl
import Derived.Test.YtigbhlkafmpgmaaSe
namespace Go.Proofs.Ytigbhlkafmpgmaa.V
open Go.RowKit Go.Proofs.Ytigbhlkafmpgmaa
set_option linter.unusedSimpArgs false
noncomputable abbrev L6 : List (Nat × Spec) := (16, .pre (rS [pUs, pI, pTs, pIs] [pUs, pI] (fun x => List.length x.1 ≤ 1000000 ∧ List.length x.2.2.2 ≤ 1000) (fun x y => y = appT x.2.1 x.2.2.1 x.2.2.2 x.1))) :: L5
theorem L6_all : ∀ p ∈ L6, Valid Try.prog p.1 p.2 := vcons v16 L5_all
theorem L6_ok : ∀ f S, spL L6 f = some S → Valid Try.prog f S := spL_ok L6_all
theorem stepS_cl {room : Int} {cur : List Int} {n : Nat} {tells : List Int} {o : Op} : (stepS room cur n tells o).2.1.length = cur.length := by
  unfold stepS
  repeat' split
  all_goals simp
theorem runS_cl {room : Int} {len : Nat} : ∀ {ops : List Op} {cur : List Int} {n : Nat} {tells : List Int}, (runS room len ops cur n tells).2.1.length = cur.length
  | [], cur, n, tells => rfl
  | o :: r, cur, n, tells => by
    have hs := stepS_cl (room := room) (cur := cur) (n := n) (tells := tells) (o := o)
    unfold runS
    split
    · rfl
    · split
      · rename_i c n' t' e
        rw [e] at hs
        rw [runS_cl]; exact hs
      · rename_i c n' t' e
        rw [e] at hs
        exact hs
theorem allT_ok {m : List Int} {room : Int} {t : TN} (h : (allT m room t).2.2 = 0) : (allT m room t).1.length = m.length ∧ m.length ≤ 1000 := by
  unfold allT allS at h ⊢
  by_cases hg : goodT (t.1.map toOp) = true
  · rw [if_pos hg] at h ⊢
    by_cases hr : room < 0 ∨ 1000 < room ∨ 1000 < (m.length : Int)
    · rw [if_pos hr] at h; cases h
    · rw [if_neg hr]
      refine ⟨?_, by omega⟩
      show (outS _ _ _ _).length = _
      unfold outS
      split
      · exact runS_cl
      · rfl
  · rw [if_neg hg] at h; cases h
theorem foldT_acc {room : Int} : ∀ (l : List TN) (cur : List Int) (acc : List (List Int)), (foldT room l cur acc).1 = (foldT room l cur []).1 ∧ (foldT room l cur acc).2.2 = (foldT room l cur []).2.2
  | [], cur, acc => ⟨rfl, rfl⟩
  | t :: r, cur, acc => by
    unfold foldT
    by_cases h : (allT cur room t).2.2 = 0
    · rw [if_pos h, if_pos h]
      obtain ⟨a, b⟩ := foldT_acc (room := room) r (allT cur room t).1 (acc ++ [(allT cur room t).2.1])
      obtain ⟨c, d⟩ := foldT_acc (room := room) r (allT cur room t).1 ([] ++ [(allT cur room t).2.1])
      exact ⟨a.trans c.symm, b.trans d.symm⟩
    · rw [if_neg h, if_neg h]; exact ⟨rfl, rfl⟩
def goT (room : Int) (l : List TN) : List Int → List Int → List Int × Int
  | [], cur => (cur, 0)
  | k :: r, cur => if k < 0 ∨ k ≥ (l.length : Int) then (cur, 1) else if (allT cur room (l.getD k.toNat ([], false))).2.2 = 0 then goT room l r (allT cur room (l.getD k.toNat ([], false))).1 else ([], (allT cur room (l.getD k.toNat ([], false))).2.2)
theorem foldT_step {room : Int} {t : TN} {r : List TN} {cur : List Int} {acc : List (List Int)} : foldT room (t :: r) cur acc = if (allT cur room t).2.2 = 0 then foldT room r (allT cur room t).1 (acc ++ [(allT cur room t).2.1]) else ([], [], (allT cur room t).2.2) := rfl
theorem foldT_len {room : Int} : ∀ (l : List TN) (cur : List Int) (acc : List (List Int)), (foldT room l cur acc).2.1.length ≤ acc.length + l.length
  | [], cur, acc => by simp [foldT]
  | t :: r, cur, acc => by
    rw [foldT_step]
    split
    · have := foldT_len (room := room) r (allT cur room t).1 (acc ++ [(allT cur room t).2.1])
      simp at this ⊢
      omega
    · simp
theorem foldT_cons {room : Int} {t : TN} {r : List TN} {cur : List Int} : (foldT room (t :: r) cur []).1 = (if (allT cur room t).2.2 = 0 then (foldT room r (allT cur room t).1 []).1 else []) ∧ (foldT room (t :: r) cur []).2.2 = (if (allT cur room t).2.2 = 0 then (foldT room r (allT cur room t).1 []).2.2 else (allT cur room t).2.2) := by
  rw [foldT_step]
  by_cases h : (allT cur room t).2.2 = 0
  · rw [if_pos h, if_pos h, if_pos h]
    exact foldT_acc r (allT cur room t).1 ([] ++ [(allT cur room t).2.1])
  · rw [if_neg h, if_neg h, if_neg h]; exact ⟨rfl, rfl⟩
theorem appT_cons {room : Int} {l : List TN} {k : Int} {r : List Int} {m : List Int} (h : ¬ (k < 0 ∨ k ≥ (l.length : Int))) : appT room l (k :: r) m = if (allT m room (l.getD k.toNat ([], false))).2.2 = 0 then appT room l r (allT m room (l.getD k.toNat ([], false))).1 else ([], (allT m room (l.getD k.toNat ([], false))).2.2) := by
  unfold appT
  rw [pickT, if_neg h]
  obtain ⟨a, b⟩ := foldT_cons (room := room) (t := l.getD k.toNat ([], false)) (r := (pickT l r).1) (cur := m)
  rw [a, b]
  by_cases h0 : (allT m room (l.getD k.toNat ([], false))).2.2 = 0
  · rw [if_pos h0, if_pos h0, if_pos h0]
  · rw [if_neg h0, if_neg h0, if_neg h0, if_pos h0]
theorem app_go {room : Int} {l : List TN} : ∀ (which : List Int) (m : List Int), (appT room l which m).2 = (goT room l which m).2 ∧ ((goT room l which m).2 = 0 → (appT room l which m).1 = (goT room l which m).1) ∧ ((goT room l which m).2 ≠ 0 → (appT room l which m).1 = [])
  | [], m => ⟨rfl, fun _ => rfl, fun h => absurd rfl h⟩
  | k :: r, m => by
    by_cases h : k < 0 ∨ k ≥ (l.length : Int)
    · unfold appT goT
      rw [pickT, if_pos h, if_pos h]
      exact ⟨rfl, fun h => (by cases h), fun _ => rfl⟩
    · rw [appT_cons h, goT, if_neg h]
      by_cases h0 : (allT m room (l.getD k.toNat ([], false))).2.2 = 0
      · rw [if_pos h0, if_pos h0]
        exact app_go r _
      · rw [if_neg h0, if_neg h0]
        exact ⟨rfl, fun h => absurd h h0, fun _ => rfl⟩
structure I7 (l : List TN) (m : List Int) (k : Nat) (cur : List Int) (acc : List (List Int)) : Prop where
  le : k ≤ l.length
  eq : foldT 6 (l.drop k) cur acc = foldT 6 l m []
  n : acc.length = k
  c : cur.length = m.length
  b : 0 < k → m.length ≤ 1000
def b0 (m : List Int) : Int := if m.length > 1000 then 1 else 0
structure E7 (l : List TN) (m : List Int) (cur : List Int) (want : List (List Int)) (bad : Int) : Prop where
  e : (foldT 6 l m [] = (cur, want, 0) ∧ bad = b0 m ∧ (l.length ≠ 0 → b0 m = 0)) ∨ (foldT 6 l m [] = ([], [], bad) ∧ bad ≠ 0 ∧ l.length ≠ 0)
structure G7 (l : List TN) (m : List Int) (cur : List Int) (want : List (List Int)) (bad : Int) : Prop where
  e : (foldT 6 l m [] = (cur, want, 0) ∧ bad = 0) ∨ (foldT 6 l m [] = ([], [], bad) ∧ bad ≠ 0)
structure J7 (l : List TN) (which : List Int) (m : List Int) (i : Nat) (at_ : List Int) (g : Int) : Prop where
  le : i ≤ which.length
  e : (g = 0 ∧ goT 6 l (which.drop i) at_ = goT 6 l which m ∧ at_.length = m.length) ∨ (g ≠ 0 ∧ (goT 6 l which m).2 = g)
structure K7 (l : List TN) (which : List Int) (m : List Int) (at_ : List Int) (g : Int) : Prop where
  e : (g = 0 ∧ goT 6 l which m = (at_, 0)) ∨ (g ≠ 0 ∧ (goT 6 l which m).2 = g)
abbrev k7 (X : Type) (sl : X → List (Nat × Vl)) (h : X → List (Nat × Ck)) (nx : Nat) (inv : X → Prop) (kp : List Nat) : Option LoopSp := some { X := X, sl := sl, h := h, nx := nx, inv := inv, mu := fun _ => 0, cut := true, kp := kp }
abbrev lp7 (m : List Int) (l : List TN) (which : List Int) : Nat → Option LoopSp := fun r => match r with
  | 9 => k7 Unit (fun _ => [(10, .one (.rd shU m)), (12, .one (vi (b0 m)))]) (fun _ => []) 0 (fun _ => True) [0, 1, 2, 7, 8, 9, 11]
  | 10 => some { X := Nat × List Int × List (List Int), sl := fun x => [(0, .one (.rd shU m)), (1, .one (.rd shT l)), (2, .one (.rd (.int .i64) which)), (7, .one (.rd shU (foldT 6 l m []).1)), (8, .one (.rd shUs (foldT 6 l m []).2.1)), (9, .one (vi (foldT 6 l m []).2.2)), (10, .one (.rd shU x.2.1)), (11, .one (.sl 0)), (12, .one (vi (b0 m))), (13, .one (vi x.1))], h := fun x => [(0, .own 22 shUs x.2.2)], nx := 1, inv := fun x => I7 l m x.1 x.2.1 x.2.2, mu := fun x => l.length - x.1 }
  | 16 => k7 (List Int × List (List Int) × Int) (fun x => [(10, .one (.rd shU x.1)), (11, .one (.sl 0)), (12, .one (vi x.2.2))]) (fun x => [(0, .own 22 shUs x.2.1)]) 1 (fun x => E7 l m x.1 x.2.1 x.2.2) [0, 1, 2, 7, 8, 9]
  | 18 => k7 (List Int × List (List Int) × Int) (fun x => [(10, .one (.rd shU x.1)), (11, .one (.sl 0)), (12, .one (vi x.2.2))]) (fun x => [(0, .own 22 shUs x.2.1)]) 1 (fun x => G7 l m x.1 x.2.1 x.2.2) [0, 1, 2, 7, 8, 9]
  | 24 => some { X := Nat, sl := fun j => [(0, .one (.rd shU m)), (1, .one (.rd shT l)), (2, .one (.rd (.int .i64) which)), (8, .one (.rd shUs (foldT 6 l m []).2.1)), (11, .one (.sl 0)), (15, .one (vi j))], h := fun j => [(0, .own 22 shUs (foldT 6 l m []).2.1)], nx := 1, inv := fun j => j ≤ (foldT 6 l m []).2.1.length, mu := fun j => (foldT 6 l m []).2.1.length - j }
  | 28 => k7 Unit (fun _ => []) (fun _ => []) 0 (fun _ => True) [0, 1, 2]
  | 31 => some { X := Nat × List Int × Int, sl := fun x => [(1, .one (.rd shT l)), (2, .one (.rd (.int .i64) which)), (16, .one (.rd shU (appT 6 l which m).1)), (17, .one (vi (appT 6 l which m).2)), (18, .one (.rd shU x.2.1)), (19, .one (vi x.2.2)), (20, .one (vi x.1))], h := fun x => [], nx := 0, inv := fun x => J7 l which m x.1 x.2.1 x.2.2, mu := fun x => which.length - x.1 }
  | 37 => k7 (List Int × Int) (fun x => [(18, .one (.rd shU x.1)), (19, .one (vi x.2))]) (fun _ => []) 0 (fun x => K7 l which m x.1 x.2) [16, 17]
  | _ => none
theorem dropK {α : Type} {l : List α} {i : Nat} {o : α} (h : l[i]? = some o) : l.drop i = o :: l.drop (i + 1) := by
  obtain ⟨hi, rfl⟩ := List.getElem?_eq_some_iff.1 h
  exact List.drop_eq_getElem_cons hi
theorem all_law : ∀ x, rngTup [pUs, pTs, pIs] x → ∃ lp, runF Tbl (spL L6) lp 0 Try.f7 (enVs [pUs, pTs, pIs] x) ⟨0, []⟩ fun r' st' => fzR st' (mkB true) r' := by
  rintro ⟨(m : List Int), (l : List TN), (which : List Int)⟩ hr
  refine ⟨lp7 m l which, ?_⟩
  refine Eq.mp (by kernel_rfl : (((decide ((↑m.length : Int) > (1200 : Int)) || !((l.all fun (t : TN) => decide (t.fst.length ≤ (30 : Nat))) && decide (l.length ≤ (12 : Nat))) || decide ((↑which.length : Int) > (50 : Int))) = true → true = true ∧ True) ∧ ((decide ((↑m.length : Int) > (1200 : Int)) || !((l.all fun (t : TN) => decide (t.fst.length ≤ (30 : Nat))) && decide (l.length ≤ (12 : Nat))) || decide ((↑which.length : Int) > (50 : Int))) = false → (([] : List Int).length + m.length) * (8 : Nat) ≤ (140737488355328 : Nat) ∧ (l.length ≤ (1000 : Nat) ∧ ∀ (t : List (Int × Int × Int) × Bool), t ∈ l → t.fst.length ≤ (1000 : Nat)) ∧ ∀ (y : Tup (pTs :: ([] : List PS))), y = l → ((([] : List Int) ++ m).length ≤ (1000000 : Nat) ∧ List.length y ≤ (1000 : Nat)) ∧ ∀ (y_1 : Tup (pUs :: pUss :: pI :: ([] : List PS))), y_1 = foldT (6 : Int) y (([] : List Int) ++ m) ([] : List (List Int)) → (([] : List Int).length + m.length) * (8 : Nat) ≤ (140737488355328 : Nat) ∧ ((decide ((↑m.length : Int) > (1000 : Int)) = true → ∃ (y : Unit), True ∧ m ≍ m ∧ l ≍ l ∧ which ≍ which ∧ y_1.fst ≍ y_1.fst ∧ y_1.snd.fst ≍ y_1.snd.fst ∧ y_1.snd.snd = y_1.snd.snd ∧ Value.slice (none : Option Addr) (0 : Nat) (0 : Nat) = Value.slice (none : Option Addr) (0 : Nat) (0 : Nat) ∧ ([] : List Int) ++ m ≍ m ∧ (1 : Int) = b0 m ∧ True) ∧ (decide ((↑m.length : Int) > (1000 : Int)) = false → ∃ (y : Unit), True ∧ m ≍ m ∧ l ≍ l ∧ which ≍ which ∧ y_1.fst ≍ y_1.fst ∧ y_1.snd.fst ≍ y_1.snd.fst ∧ y_1.snd.snd = y_1.snd.snd ∧ Value.slice (none : Option Addr) (0 : Nat) (0 : Nat) = Value.slice (none : Option Addr) (0 : Nat) (0 : Nat) ∧ ([] : List Int) ++ m ≍ m ∧ (0 : Int) = b0 m ∧ True)) ∧ ∀ (x : Unit), True → ((∃ (x : Nat × List Int × List (List Int)), I7 l m x.fst x.snd.fst x.snd.snd ∧ m ≍ m ∧ l ≍ l ∧ which ≍ which ∧ y_1.fst ≍ (foldT (6 : Int) l m ([] : List (List Int))).fst ∧ y_1.snd.fst ≍ (foldT (6 : Int) l m ([] : List (List Int))).snd.fst ∧ y_1.snd.snd = (foldT (6 : Int) l m ([] : List (List Int))).snd.snd ∧ m ≍ x.snd.fst ∧ b0 m = b0 m ∧ (0 : Int) = (↑x.fst : Int) ∧ x.snd.snd = ([] : List (List Int)) ∧ True) ∧ ∀ (x : Nat × List Int × List (List Int)), I7 l m x.fst x.snd.fst x.snd.snd → (decide ((↑x.fst : Int) < (↑l.length : Int)) = true → ((0 : Int) ≤ (↑x.fst : Int) ∧ (↑x.fst : Int) < (↑l.length : Int)) ∧ ∀ (y : List (Int × Int × Int) × Bool), l[(↑x.fst : Int).toNat]? = some y → x.snd.fst.length ≤ (1000000 : Nat) ∧ ∀ (y_2 : Tup (pR :: ([] : List PS))), y_2 = allT x.snd.fst (6 : Int) (y.fst, y.snd) → ((y_2.snd.snd != (0 : Int)) = true → ∃ (y : List Int × List (List Int) × Int), E7 l m y.fst y.snd.fst y.snd.snd ∧ m ≍ m ∧ l ≍ l ∧ which ≍ which ∧ (foldT (6 : Int) l m ([] : List (List Int))).fst ≍ y_1.fst ∧ (foldT (6 : Int) l m ([] : List (List Int))).snd.fst ≍ y_1.snd.fst ∧ (foldT (6 : Int) l m ([] : List (List Int))).snd.snd = y_1.snd.snd ∧ x.snd.fst ≍ y.fst ∧ y_2.snd.snd = y.snd.snd ∧ x.snd.snd ≍ y.snd.fst ∧ True) ∧ ((y_2.snd.snd != (0 : Int)) = false → (x.snd.snd.length + (y_2.snd.fst :: ([] : List (List Int))).length) * (24 : Nat) ≤ (140737488355328 : Nat) ∧ ((-9223372036854775808 : Int) ≤ (↑x.fst : Int) + (1 : Int) ∧ (↑x.fst : Int) + (1 : Int) ≤ (9223372036854775807 : Int)) ∧ ∃ (y : Nat × List Int × List (List Int)), I7 l m y.fst y.snd.fst y.snd.snd ∧ l.length - y.fst < l.length - x.fst ∧ m ≍ m ∧ l ≍ l ∧ which ≍ which ∧ (foldT (6 : Int) l m ([] : List (List Int))).fst ≍ (foldT (6 : Int) l m ([] : List (List Int))).fst ∧ (foldT (6 : Int) l m ([] : List (List Int))).snd.fst ≍ (foldT (6 : Int) l m ([] : List (List Int))).snd.fst ∧ (foldT (6 : Int) l m ([] : List (List Int))).snd.snd = (foldT (6 : Int) l m ([] : List (List Int))).snd.snd ∧ y_2.fst ≍ y.snd.fst ∧ b0 m = b0 m ∧ (↑x.fst : Int) + (1 : Int) = (↑y.fst : Int) ∧ x.snd.snd ++ y_2.snd.fst :: ([] : List (List Int)) ≍ y.snd.snd ∧ True)) ∧ (decide ((↑x.fst : Int) < (↑l.length : Int)) = false → ∃ (y : List Int × List (List Int) × Int), E7 l m y.fst y.snd.fst y.snd.snd ∧ m ≍ m ∧ l ≍ l ∧ which ≍ which ∧ (foldT (6 : Int) l m ([] : List (List Int))).fst ≍ y_1.fst ∧ (foldT (6 : Int) l m ([] : List (List Int))).snd.fst ≍ y_1.snd.fst ∧ (foldT (6 : Int) l m ([] : List (List Int))).snd.snd = y_1.snd.snd ∧ x.snd.fst ≍ y.fst ∧ b0 m = y.snd.snd ∧ x.snd.snd ≍ y.snd.fst ∧ True)) ∧ ∀ (x : List Int × List (List Int) × Int), E7 l m x.fst x.snd.fst x.snd.snd → ((((↑l.length : Int) == (0 : Int)) = true → ∃ (y : List Int × List (List Int) × Int), G7 l m y.fst y.snd.fst y.snd.snd ∧ m ≍ m ∧ l ≍ l ∧ which ≍ which ∧ y_1.fst ≍ y_1.fst ∧ y_1.snd.fst ≍ y_1.snd.fst ∧ y_1.snd.snd = y_1.snd.snd ∧ x.fst ≍ y.fst ∧ (0 : Int) = y.snd.snd ∧ x.snd.fst ≍ y.snd.fst ∧ True) ∧ (((↑l.length : Int) == (0 : Int)) = false → ∃ (y : List Int × List (List Int) × Int), G7 l m y.fst y.snd.fst y.snd.snd ∧ m ≍ m ∧ l ≍ l ∧ which ≍ which ∧ y_1.fst ≍ y_1.fst ∧ y_1.snd.fst ≍ y_1.snd.fst ∧ y_1.snd.snd = y_1.snd.snd ∧ x.fst ≍ y.fst ∧ x.snd.snd = y.snd.snd ∧ x.snd.fst ≍ y.snd.fst ∧ True)) ∧ ∀ (x : List Int × List (List Int) × Int), G7 l m x.fst x.snd.fst x.snd.snd → (((x.snd.snd != (0 : Int)) = true → ((y_1.snd.snd != x.snd.snd || (↑y_1.fst.length : Int) != (0 : Int) || (↑y_1.snd.fst.length : Int) != (0 : Int)) = true → false = true ∧ True) ∧ ((y_1.snd.snd != x.snd.snd || (↑y_1.fst.length : Int) != (0 : Int) || (↑y_1.snd.fst.length : Int) != (0 : Int)) = false → ∃ (y : Unit), True ∧ m ≍ m ∧ l ≍ l ∧ which ≍ which ∧ True)) ∧ ((x.snd.snd != (0 : Int)) = false → ((y_1.snd.snd != (0 : Int) || !eqB y_1.fst x.fst || (↑y_1.snd.fst.length : Int) != (↑x.snd.fst.length : Int)) = true → false = true ∧ True) ∧ ((y_1.snd.snd != (0 : Int) || !eqB y_1.fst x.fst || (↑y_1.snd.fst.length : Int) != (↑x.snd.fst.length : Int)) = false → (∃ (x_1 : Nat), x_1 ≤ (foldT (6 : Int) l m ([] : List (List Int))).snd.fst.length ∧ m ≍ m ∧ l ≍ l ∧ which ≍ which ∧ y_1.snd.fst ≍ (foldT (6 : Int) l m ([] : List (List Int))).snd.fst ∧ (0 : Int) = (↑x_1 : Int) ∧ x.snd.fst ≍ (foldT (6 : Int) l m ([] : List (List Int))).snd.fst ∧ True) ∧ ∀ (x : Nat), x ≤ (foldT (6 : Int) l m ([] : List (List Int))).snd.fst.length → (decide ((↑x : Int) < (↑(foldT (6 : Int) l m ([] : List (List Int))).snd.fst.length : Int)) = true → ((0 : Int) ≤ (↑x : Int) ∧ (↑x : Int) < (↑(foldT (6 : Int) l m ([] : List (List Int))).snd.fst.length : Int)) ∧ ∀ (y : List Int), (foldT (6 : Int) l m ([] : List (List Int))).snd.fst[(↑x : Int).toNat]? = some y → ((0 : Int) ≤ (↑x : Int) ∧ (↑x : Int) < (↑(foldT (6 : Int) l m ([] : List (List Int))).snd.fst.length : Int)) ∧ (↑x : Int).toNat < (foldT (6 : Int) l m ([] : List (List Int))).snd.fst.length ∧ ∀ (y_2 : List Int), (foldT (6 : Int) l m ([] : List (List Int))).snd.fst[(↑x : Int).toNat]? = some y_2 → ((!eqB y y_2) = true → false = true ∧ True) ∧ ((!eqB y y_2) = false → ((-9223372036854775808 : Int) ≤ (↑x : Int) + (1 : Int) ∧ (↑x : Int) + (1 : Int) ≤ (9223372036854775807 : Int)) ∧ ∃ (y : Nat), y ≤ (foldT (6 : Int) l m ([] : List (List Int))).snd.fst.length ∧ (foldT (6 : Int) l m ([] : List (List Int))).snd.fst.length - y < (foldT (6 : Int) l m ([] : List (List Int))).snd.fst.length - x ∧ m ≍ m ∧ l ≍ l ∧ which ≍ which ∧ (foldT (6 : Int) l m ([] : List (List Int))).snd.fst ≍ (foldT (6 : Int) l m ([] : List (List Int))).snd.fst ∧ (↑x : Int) + (1 : Int) = (↑y : Int) ∧ (foldT (6 : Int) l m ([] : List (List Int))).snd.fst ≍ (foldT (6 : Int) l m ([] : List (List Int))).snd.fst ∧ True)) ∧ (decide ((↑x : Int) < (↑(foldT (6 : Int) l m ([] : List (List Int))).snd.fst.length : Int)) = false → ∃ (y : Unit), True ∧ m ≍ m ∧ l ≍ l ∧ which ≍ which ∧ True)))) ∧ ∀ (x : Unit), True → (([] : List Int).length + m.length) * (8 : Nat) ≤ (140737488355328 : Nat) ∧ (l.length ≤ (1000 : Nat) ∧ ∀ (t : List (Int × Int × Int) × Bool), t ∈ l → t.fst.length ≤ (1000 : Nat)) ∧ ∀ (y : Tup (pTs :: ([] : List PS))), y = l → (([] : List Int).length + which.length) * (8 : Nat) ≤ (140737488355328 : Nat) ∧ ((([] : List Int) ++ m).length ≤ (1000000 : Nat) ∧ (([] : List Int) ++ which).length ≤ (1000 : Nat)) ∧ ∀ (y_2 : Tup (pUs :: pI :: ([] : List PS))), y_2 = appT (6 : Int) y (([] : List Int) ++ which) (([] : List Int) ++ m) → (([] : List Int).length + m.length) * (8 : Nat) ≤ (140737488355328 : Nat) ∧ ((∃ (x : Nat × List Int × Int), J7 l which m x.fst x.snd.fst x.snd.snd ∧ l ≍ l ∧ which ≍ which ∧ y_2.fst ≍ (appT (6 : Int) l which m).fst ∧ y_2.snd = (appT (6 : Int) l which m).snd ∧ ([] : List Int) ++ m ≍ x.snd.fst ∧ (0 : Int) = x.snd.snd ∧ (0 : Int) = (↑x.fst : Int) ∧ True) ∧ ∀ (x : Nat × List Int × Int), J7 l which m x.fst x.snd.fst x.snd.snd → ((decide ((↑x.fst : Int) < (↑which.length : Int)) && x.snd.snd == (0 : Int)) = true → ((0 : Int) ≤ (↑x.fst : Int) ∧ (↑x.fst : Int) < (↑which.length : Int)) ∧ ∀ (y : Int), which[(↑x.fst : Int).toNat]? = some y → (decide (y < (0 : Int)) = true → ∃ (y : List Int × Int), K7 l which m y.fst y.snd ∧ (appT (6 : Int) l which m).fst ≍ y_2.fst ∧ (appT (6 : Int) l which m).snd = y_2.snd ∧ x.snd.fst ≍ y.fst ∧ (1 : Int) = y.snd ∧ True) ∧ (decide (y < (0 : Int)) = false → ((0 : Int) ≤ (↑x.fst : Int) ∧ (↑x.fst : Int) < (↑which.length : Int)) ∧ ∀ (y : Int), which[(↑x.fst : Int).toNat]? = some y → (decide (y ≥ (↑l.length : Int)) = true → ∃ (y : List Int × Int), K7 l which m y.fst y.snd ∧ (appT (6 : Int) l which m).fst ≍ y_2.fst ∧ (appT (6 : Int) l which m).snd = y_2.snd ∧ x.snd.fst ≍ y.fst ∧ (1 : Int) = y.snd ∧ True) ∧ (decide (y ≥ (↑l.length : Int)) = false → ((0 : Int) ≤ (↑x.fst : Int) ∧ (↑x.fst : Int) < (↑which.length : Int)) ∧ ∀ (y : Int), which[(↑x.fst : Int).toNat]? = some y → ((0 : Int) ≤ y ∧ y < (↑l.length : Int)) ∧ ∀ (y_3 : List (Int × Int × Int) × Bool), l[y.toNat]? = some y_3 → x.snd.fst.length ≤ (1000000 : Nat) ∧ ∀ (y : Tup (pR :: ([] : List PS))), y = allT x.snd.fst (6 : Int) (y_3.fst, y_3.snd) → ((-9223372036854775808 : Int) ≤ (↑x.fst : Int) + (1 : Int) ∧ (↑x.fst : Int) + (1 : Int) ≤ (9223372036854775807 : Int)) ∧ ∃ (y_4 : Nat × List Int × Int), J7 l which m y_4.fst y_4.snd.fst y_4.snd.snd ∧ which.length - y_4.fst < which.length - x.fst ∧ l ≍ l ∧ which ≍ which ∧ (appT (6 : Int) l which m).fst ≍ (appT (6 : Int) l which m).fst ∧ (appT (6 : Int) l which m).snd = (appT (6 : Int) l which m).snd ∧ y.fst ≍ y_4.snd.fst ∧ y.snd.snd = y_4.snd.snd ∧ (↑x.fst : Int) + (1 : Int) = (↑y_4.fst : Int) ∧ True))) ∧ ((decide ((↑x.fst : Int) < (↑which.length : Int)) && x.snd.snd == (0 : Int)) = false → ∃ (y : List Int × Int), K7 l which m y.fst y.snd ∧ (appT (6 : Int) l which m).fst ≍ y_2.fst ∧ (appT (6 : Int) l which m).snd = y_2.snd ∧ x.snd.fst ≍ y.fst ∧ x.snd.snd = y.snd ∧ True)) ∧ ∀ (x : List Int × Int), K7 l which m x.fst x.snd → ((x.snd != (0 : Int)) = true → (y_2.snd == x.snd && (↑y_2.fst.length : Int) == (0 : Int) && true) = true ∧ True) ∧ ((x.snd != (0 : Int)) = false → (y_2.snd == (0 : Int) && eqB y_2.fst x.fst && true) = true ∧ True))) = _) ?_
  have no : ∀ {p : Prop} {b : Bool}, b = false → b = true → p := fun h h' => by rw [h] at h'; cases h'
  refine ⟨fun _ => ⟨rfl, trivial⟩, fun h => ?_⟩
  obtain ⟨g1, g2, g3, g4⟩ : m.length ≤ 1200 ∧ (∀ t ∈ l, t.1.length ≤ 30) ∧ l.length ≤ 12 ∧ which.length ≤ 50 := by
    simp only [Bool.or_eq_false_iff, Bool.not_eq_false', Bool.and_eq_true, List.all_eq_true, decide_eq_true_eq, decide_eq_false_iff_not] at h
    obtain ⟨⟨h1, h2, h3⟩, h4⟩ := h
    exact ⟨by omega, h2, h3, by omega⟩
  clear h hr
  have g2' : ∀ t ∈ l, t.1.length ≤ 1000 := fun t ht => by have := g2 t ht; omega
  refine ⟨by simp; omega, ⟨by omega, g2'⟩, ?_⟩
  intro zz0 qq0
  obtain rfl := qq0.symm
  refine ⟨⟨by simp; omega, by omega⟩, ?_⟩
  intro zz0 qq0
  obtain rfl := qq0.symm
  dsimp only [List.nil_append]
  refine ⟨by simp; omega, ⟨fun h => ⟨(), trivial, HEq.rfl, HEq.rfl, HEq.rfl, HEq.rfl, HEq.rfl, rfl, rfl, HEq.rfl, ?_, trivial⟩, fun h => ⟨(), trivial, HEq.rfl, HEq.rfl, HEq.rfl, HEq.rfl, HEq.rfl, rfl, rfl, HEq.rfl, ?_, trivial⟩⟩, fun _ _ => ⟨⟨⟨(0, m, []), ⟨Nat.zero_le _, rfl, rfl, rfl, fun h => absurd h (Nat.lt_irrefl _)⟩, HEq.rfl, HEq.rfl, HEq.rfl, HEq.rfl, HEq.rfl, rfl, HEq.rfl, rfl, rfl, rfl, trivial⟩, ?_⟩, ?_⟩⟩
  · simp only [decide_eq_true_eq] at h
    rw [b0, if_pos (by omega)]
  · simp only [decide_eq_false_iff_not] at h
    rw [b0, if_neg (by omega)]
  · rintro ⟨k, cur, acc⟩ ⟨i1, i2, i3, i4, i5⟩
    dsimp only at i1 i2 i3 i4 i5 ⊢
    refine ⟨fun h1 => ⟨by simp at h1; omega, fun t ht => ⟨by omega, ?_⟩⟩, fun h1 => ?_⟩
    · simp only [decide_eq_true_eq] at h1
      rw [Int.toNat_natCast] at ht
      have hd : l.drop k = t :: l.drop (k + 1) := by
        obtain ⟨hi, rfl⟩ := List.getElem?_eq_some_iff.1 ht
        exact List.drop_eq_getElem_cons hi
      intro zz0 qq0
      obtain rfl := qq0.symm
      rw [hd, foldT] at i2
      refine ⟨fun h2 => ?_, fun h2 => ?_⟩
      · have h3 : (allT cur 6 t).2.2 ≠ 0 := by simpa using h2
        rw [if_neg h3] at i2
        exact ⟨(cur, acc, (allT cur 6 t).2.2), ⟨.inr ⟨i2.symm, h3, by omega⟩⟩, HEq.rfl, HEq.rfl, HEq.rfl, HEq.rfl, HEq.rfl, rfl, HEq.rfl, rfl, HEq.rfl, trivial⟩
      · have h3 : (allT cur 6 t).2.2 = 0 := by simpa using h2
        rw [if_pos h3] at i2
        obtain ⟨c1, c2⟩ := allT_ok h3
        exact ⟨by simp; omega, by omega, (k + 1, _, _), ⟨by omega, i2, by simp; omega, by rw [c1]; exact i4, fun _ => by omega⟩, by simp only; omega, HEq.rfl, HEq.rfl, HEq.rfl, HEq.rfl, HEq.rfl, rfl, HEq.rfl, rfl, by simp, HEq.rfl, trivial⟩
    · simp only [decide_eq_false_iff_not] at h1
      rw [List.drop_of_length_le (by omega), foldT] at i2
      refine ⟨(cur, acc, b0 m), ⟨.inl ⟨i2.symm, rfl, fun h => ?_⟩⟩, HEq.rfl, HEq.rfl, HEq.rfl, HEq.rfl, HEq.rfl, rfl, HEq.rfl, rfl, HEq.rfl, trivial⟩
      have := i5 (by omega)
      rw [b0, if_neg (by omega)]
  rintro ⟨cur, want, bad⟩ ⟨he⟩
  dsimp only at he ⊢
  refine ⟨⟨fun h => ⟨(cur, want, 0), ⟨?_⟩, HEq.rfl, HEq.rfl, HEq.rfl, HEq.rfl, HEq.rfl, rfl, HEq.rfl, rfl, HEq.rfl, trivial⟩, fun h => ⟨(cur, want, bad), ⟨?_⟩, HEq.rfl, HEq.rfl, HEq.rfl, HEq.rfl, HEq.rfl, rfl, HEq.rfl, rfl, HEq.rfl, trivial⟩⟩, ?_⟩
  · have h0 : l.length = 0 := by simpa using h
    rcases he with ⟨e1, e2, e3⟩ | ⟨e1, e2, e3⟩
    · exact .inl ⟨e1, rfl⟩
    · exact absurd h0 e3
  · have h0 : l.length ≠ 0 := by simpa using h
    rcases he with ⟨e1, e2, e3⟩ | ⟨e1, e2, e3⟩
    · exact .inl ⟨e1, by rw [e2]; exact e3 h0⟩
    · exact .inr ⟨e1, e2⟩
  clear he
  rintro ⟨cur, want, bad⟩ ⟨he⟩
  dsimp only at he ⊢
  refine ⟨⟨fun h => ?_, fun h => ?_⟩, fun _ _ => ?_⟩
  · have h : bad ≠ 0 := by simpa using h
    rcases he with ⟨e1, e2⟩ | ⟨e1, e2⟩
    · exact absurd e2 h
    · rw [e1]
      exact ⟨fun h => by simp at h, fun _ => ⟨(), trivial, HEq.rfl, HEq.rfl, HEq.rfl, trivial⟩⟩
  · have h : bad = 0 := by simpa using h
    rcases he with ⟨e1, e2⟩ | ⟨e1, e2⟩
    · rw [e1]
      refine ⟨fun h => by simp [eqB_self] at h, fun _ => ⟨⟨0, Nat.zero_le _, HEq.rfl, HEq.rfl, HEq.rfl, HEq.rfl, rfl, HEq.rfl, trivial⟩, fun j hj => ⟨fun h1 => ⟨by simp at h1; dsimp only; omega, fun y hy => ⟨by simp at h1; dsimp only; omega, by simp at h1; dsimp only; omega, fun z hz => ?_⟩⟩, fun _ => ⟨(), trivial, HEq.rfl, HEq.rfl, HEq.rfl, trivial⟩⟩⟩⟩
      simp only [decide_eq_true_eq] at h1
      rw [hy] at hz
      cases hz
      refine ⟨fun h => by simp [eqB_self] at h, fun _ => ?_⟩
      have hw := foldT_len (room := 6) l m []
      rw [e1] at hw
      have hw : want.length ≤ 0 + l.length := hw
      exact ⟨by omega, j + 1, by dsimp only; omega, by dsimp only; omega, HEq.rfl, HEq.rfl, HEq.rfl, HEq.rfl, by simp, HEq.rfl, trivial⟩
    · exact absurd h e2
  clear he
  refine ⟨by simp; omega, ⟨by omega, g2'⟩, ?_⟩
  intro zz0 qq0
  obtain rfl := qq0.symm
  refine ⟨by simp; omega, ⟨by omega, by omega⟩, ?_⟩
  intro zz0 qq0
  obtain rfl := qq0.symm
  obtain ⟨a1, a2, a3⟩ := app_go (room := 6) (l := l) which m
  refine ⟨by simp; omega, ⟨⟨(0, m, 0), ⟨Nat.zero_le _, .inl ⟨rfl, rfl, rfl⟩⟩, HEq.rfl, HEq.rfl, HEq.rfl, rfl, HEq.rfl, rfl, rfl, trivial⟩, ?_⟩, ?_⟩
  · rintro ⟨i, at_, g⟩ ⟨i1, i2⟩
    dsimp only at i1 i2 ⊢
    refine ⟨fun h => ?_, fun h => ?_⟩
    · simp only [Bool.and_eq_true, decide_eq_true_eq, beq_iff_eq] at h
      obtain ⟨h1, h2⟩ := h
      subst h2
      obtain ⟨-, e2, e3⟩ : (0 : Int) = 0 ∧ goT 6 l (which.drop i) at_ = goT 6 l which m ∧ at_.length = m.length := by
        rcases i2 with i2 | i2
        · exact i2
        · exact absurd rfl i2.1
      refine ⟨by omega, fun k hk => ⟨fun h3 => ?_, fun h3 => ⟨by omega, fun k2 hk2 => ?_⟩⟩⟩
      · have h3 : k < 0 := by simpa using h3
        rw [Int.toNat_natCast] at hk
        refine ⟨(at_, 1), ⟨.inr ⟨(by decide : (1 : Int) ≠ 0), ?_⟩⟩, HEq.rfl, rfl, HEq.rfl, rfl, trivial⟩
        rw [← e2, dropK hk, goT, if_pos (.inl h3)]
      · rw [hk] at hk2
        cases hk2
        rw [Int.toNat_natCast] at hk
        have h3 : ¬ k < 0 := by simpa using h3
        refine ⟨fun h4 => ?_, fun h4 => ⟨by omega, fun k3 hk3 => ?_⟩⟩
        · have h4 : k ≥ (l.length : Int) := by simpa using h4
          refine ⟨(at_, 1), ⟨.inr ⟨(by decide : (1 : Int) ≠ 0), ?_⟩⟩, HEq.rfl, rfl, HEq.rfl, rfl, trivial⟩
          rw [← e2, dropK hk, goT, if_pos (.inr h4)]
        · rw [Int.toNat_natCast, hk] at hk3
          cases hk3
          have h4 : ¬ k ≥ (l.length : Int) := by simpa using h4
          refine ⟨by omega, fun t ht => ⟨by omega, ?_⟩⟩
          intro zz0 qq0
          obtain rfl := qq0.symm
          have hd : l.getD k.toNat ([], false) = t := by simp [List.getD, ht]
          rw [dropK hk, goT, if_neg (by omega), hd] at e2
          by_cases h0 : (allT at_ 6 t).2.2 = 0
          · rw [if_pos h0] at e2
            exact ⟨by omega, (i + 1, (allT at_ 6 t).1, (allT at_ 6 t).2.2), ⟨by omega, .inl ⟨h0, e2, by rw [(allT_ok h0).1, e3]⟩⟩, by dsimp only; omega, HEq.rfl, HEq.rfl, HEq.rfl, rfl, HEq.rfl, rfl, by simp, trivial⟩
          · rw [if_neg h0] at e2
            exact ⟨by omega, (i + 1, (allT at_ 6 t).1, (allT at_ 6 t).2.2), ⟨by omega, .inr ⟨h0, by rw [← e2]⟩⟩, by dsimp only; omega, HEq.rfl, HEq.rfl, HEq.rfl, rfl, HEq.rfl, rfl, by simp, trivial⟩
    · simp only [Bool.and_eq_false_iff, decide_eq_false_iff_not, beq_eq_false_iff_ne, ne_eq] at h
      refine ⟨(at_, g), ⟨?_⟩, HEq.rfl, rfl, HEq.rfl, rfl, trivial⟩
      rcases i2 with ⟨e1, e2, e3⟩ | e
      · refine .inl ⟨e1, ?_⟩
        rw [← e2, List.drop_of_length_le (by rcases h with h | h; omega; exact absurd e1 h)]
        rfl
      · exact .inr e
  · rintro ⟨at_, g⟩ ⟨he⟩
    dsimp only at he ⊢
    refine ⟨fun h => ?_, fun h => ?_⟩
    · have h : g ≠ 0 := by simpa using h
      rcases he with ⟨e1, e2⟩ | ⟨e1, e2⟩
      · exact absurd e1 h
      · rw [a1, a3 (by rw [e2]; exact h), e2]
        simp
    · have h : g = 0 := by simpa using h
      rcases he with ⟨e1, e2⟩ | ⟨e1, e2⟩
      · rw [a1, a2 (by rw [e2]), e2]
        simp [eqB_self]
      · exact absurd h e1
end Go.Proofs.Ytigbhlkafmpgmaa.V
