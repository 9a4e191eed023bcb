import Derived.KernelRfl
import Derived.Test.YtigbhlkafmpgmaaSf
namespace Go.Proofs.Ytigbhlkafmpgmaa.V
open Go.RowKit Go.Proofs.Ytigbhlkafmpgmaa
set_option linter.unusedSimpArgs false
/-- The words of S are alike. -/
def Agr (S : Nat → Prop) (a b : List Int) : Prop := a.length = b.length ∧ ∀ j, S j → a[j]? = b[j]?
/-- The words that are none of S's are alike. -/
def Frm (S : Nat → Prop) (a b : List Int) : Prop := a.length = b.length ∧ ∀ j, ¬ S j → a[j]? = b[j]?
theorem Agr.getD {S : Nat → Prop} {a b : List Int} (h : Agr S a b) {j : Nat} (hj : S j) : a.getD j 0 = b.getD j 0 := by
  simp only [List.getD, h.2 j hj]
theorem Agr.set {S : Nat → Prop} {a b : List Int} (h : Agr S a b) (i : Nat) (v : Int) : Agr S (a.set i v) (b.set i v) := by
  refine ⟨by simp [h.1], fun j hj => ?_⟩
  rw [List.getElem?_set, List.getElem?_set, h.2 j hj, h.1]
theorem Frm.set {S : Nat → Prop} {a b : List Int} (h : Frm S a b) {i : Nat} (hi : S i) (v : Int) : Frm S (a.set i v) b := by
  refine ⟨by simp [h.1], fun j hj => ?_⟩
  rw [List.getElem?_set_ne (fun e => hj (by rw [← e]; exact hi))]
  exact h.2 j hj
theorem stepS_loc {S : Nat → Prop} {room : Int} {a b : List Int} {n : Nat} {tells : List Int} {o : Op} (h : Agr S a b) (ho : S o.w.toNat) :
    (stepS room a n tells o).1 = (stepS room b n tells o).1 ∧ Agr S (stepS room a n tells o).2.1 (stepS room b n tells o).2.1 ∧ (stepS room a n tells o).2.2 = (stepS room b n tells o).2.2 := by
  unfold stepS
  rw [h.getD ho]
  repeat' split
  all_goals first | exact ⟨rfl, h, rfl⟩ | exact ⟨rfl, h.set _ _, rfl⟩
theorem stepS_frm {S : Nat → Prop} {room : Int} {a : List Int} {n : Nat} {tells : List Int} {o : Op} {m : List Int} (h : Frm S a m) (ho : S o.w.toNat) : Frm S (stepS room a n tells o).2.1 m := by
  unfold stepS
  repeat' split
  all_goals first | exact h | exact h.set ho _
def Nm (ops : List Op) (j : Nat) : Prop := ∃ o ∈ ops, o.w = (j : Int)
theorem runS_loc {S : Nat → Prop} {room : Int} {len : Nat} : ∀ {ops : List Op} {a b : List Int} {n : Nat} {tells : List Int}, Agr S a b → (∀ o ∈ ops, 0 ≤ o.w → S o.w.toNat) →
    (runS room len ops a n tells).1 = (runS room len ops b n tells).1 ∧ Agr S (runS room len ops a n tells).2.1 (runS room len ops b n tells).2.1 ∧ (runS room len ops a n tells).2.2 = (runS room len ops b n tells).2.2
  | [], a, b, n, tells, h, hs => ⟨rfl, h, rfl⟩
  | o :: r, a, b, n, tells, h, hs => by
    unfold runS
    by_cases hw : o.w < 0 ∨ (len : Int) ≤ o.w
    · rw [if_pos hw, if_pos hw]; exact ⟨rfl, h, rfl⟩
    · rw [if_neg hw, if_neg hw]
      obtain ⟨s1, s2, s3⟩ := stepS_loc (room := room) (n := n) (tells := tells) h (hs o (List.mem_cons_self ..) (by omega))
      generalize stepS room a n tells o = x at s1 s2 s3 ⊢
      generalize stepS room b n tells o = y at s1 s2 s3 ⊢
      obtain ⟨b1, c1, n1, t1⟩ := x
      obtain ⟨b2, c2, n2, t2⟩ := y
      dsimp only at s1 s2 s3
      subst s1
      cases s3
      cases b1
      · exact ⟨rfl, s2, rfl⟩
      · exact runS_loc s2 fun o ho => hs o (List.mem_cons_of_mem _ ho)
theorem runS_frm {S : Nat → Prop} {room : Int} {len : Nat} {m : List Int} : ∀ {ops : List Op} {a : List Int} {n : Nat} {tells : List Int}, Frm S a m → (∀ o ∈ ops, 0 ≤ o.w → S o.w.toNat) → Frm S (runS room len ops a n tells).2.1 m
  | [], a, n, tells, h, hs => h
  | o :: r, a, n, tells, h, hs => by
    unfold runS
    by_cases hw : o.w < 0 ∨ (len : Int) ≤ o.w
    · rw [if_pos hw]; exact h
    · rw [if_neg hw]
      have s2 := stepS_frm (room := room) (n := n) (tells := tells) h (hs o (List.mem_cons_self ..) (by omega))
      generalize stepS room a n tells o = x at s2 ⊢
      obtain ⟨b1, c1, n1, t1⟩ := x
      cases b1
      · exact s2
      · exact runS_frm s2 fun o ho => hs o (List.mem_cons_of_mem _ ho)
/-- The names of a transaction. -/
def NmT (t : TN) (j : Nat) : Prop := ∃ x ∈ t.1, x.2.1 = (j : Int)
theorem nmT {t : TN} : ∀ o ∈ t.1.map toOp, 0 ≤ o.w → NmT t o.w.toNat := fun o ho h => by
  obtain ⟨x, hx, rfl⟩ := List.mem_map.1 ho
  have h : 0 ≤ x.2.1 := h
  exact ⟨x, hx, by show x.2.1 = ((x.2.1.toNat : Nat) : Int); omega⟩
structure Good8 (m : List Int) (room : Int) (t : TN) : Prop where
  g : goodT (t.1.map toOp) = true
  r : ¬ (room < 0 ∨ 1000 < room ∨ 1000 < (m.length : Int))
theorem Good8.eq {m : List Int} {room : Int} {t : TN} (h : Good8 m room t) : allT m room t = ((ranS m room (t.1.map toOp) t.2).2.1, (ranS m room (t.1.map toOp) t.2).2.2, 0) := by
  unfold allT allS
  rw [if_pos h.g, if_neg h.r]
theorem all_loc {m m' : List Int} {room : Int} {t : TN} (g : Good8 m room t) (g' : Good8 m' room t) (h : Agr (NmT t) m m') : (allT m room t).2.1 = (allT m' room t).2.1 ∧ Agr (NmT t) (allT m room t).1 (allT m' room t).1 := by
  rw [g.eq, g'.eq]
  obtain ⟨r1, r2, r3⟩ := runS_loc (room := room) (len := m.length) (n := 0) (tells := []) h (nmT (t := t))
  simp only [ranS, outS, ← h.1]
  rw [r1, r3]
  refine ⟨rfl, ?_⟩
  split
  · exact r2
  · exact h
theorem all_frm {m : List Int} {room : Int} {t : TN} (g : Good8 m room t) : Frm (NmT t) (allT m room t).1 m := by
  rw [g.eq]
  simp only [ranS, outS]
  split
  · exact runS_frm ⟨rfl, fun _ _ => rfl⟩ (nmT (t := t))
  · exact ⟨rfl, fun _ _ => rfl⟩
theorem commutes {m : List Int} {room : Int} {t u : TN} (hm : m.length = 8) (hr : room = 16) (ht : goodT (t.1.map toOp) = true) (hu : goodT (u.1.map toOp) = true) (hd : ∀ j, NmT t j → ¬ NmT u j) :
    (allT (allT m room t).1 room u).1 = (allT (allT m room u).1 room t).1 ∧ (allT m room t).2.1 = (allT (allT m room u).1 room t).2.1 ∧ (allT (allT m room t).1 room u).2.1 = (allT m room u).2.1 ∧ (allT m room t).2.2 = 0 ∧ (allT (allT m room t).1 room u).2.2 = 0 ∧ (allT m room u).2.2 = 0 ∧ (allT (allT m room u).1 room t).2.2 = 0 := by
  have gt : ∀ x : List Int, x.length = 8 → Good8 x room t := fun x hx => ⟨ht, by omega⟩
  have gu : ∀ x : List Int, x.length = 8 → Good8 x room u := fun x hx => ⟨hu, by omega⟩
  have ft := all_frm (gt m hm)
  have fu := all_frm (gu m hm)
  have lt : (allT m room t).1.length = 8 := ft.1.trans hm
  have lu : (allT m room u).1.length = 8 := fu.1.trans hm
  have ftu := all_frm (gu _ lt)
  have fut := all_frm (gt _ lu)
  have aT : Agr (NmT t) m (allT m room u).1 := ⟨by omega, fun j hj => (fu.2 j (hd j hj)).symm⟩
  have aU : Agr (NmT u) (allT m room t).1 m := ⟨by omega, fun j hj => ft.2 j fun h => hd j h hj⟩
  obtain ⟨t1, t2⟩ := all_loc (gt m hm) (gt _ lu) aT
  obtain ⟨u1, u2⟩ := all_loc (gu _ lt) (gu m hm) aU
  refine ⟨?_, t1, u1, by rw [(gt m hm).eq], by rw [(gu _ lt).eq], by rw [(gu m hm).eq], by rw [(gt _ lu).eq]⟩
  apply List.ext_getElem?
  intro j
  by_cases hj : NmT t j
  · rw [ftu.2 j (hd j hj), t2.2 j hj]
  · by_cases hk : NmT u j
    · rw [u2.2 j hk, fut.2 j hj]
    · rw [ftu.2 j hk, ft.2 j hj, fut.2 j hj, fu.2 j hk]
theorem fold2 {room : Int} {t u : TN} {m : List Int} : foldT room [t, u] m [] = if (allT m room t).2.2 = 0 then (if (allT (allT m room t).1 room u).2.2 = 0 then ((allT (allT m room t).1 room u).1, [(allT m room t).2.1, (allT (allT m room t).1 room u).2.1], 0) else ([], [], (allT (allT m room t).1 room u).2.2)) else ([], [], (allT m room t).2.2) := rfl
theorem e_bad {m : List Int} {t : TN} (hm : m.length = 8) (h : goodT (t.1.map toOp) = false) : (allT m 16 t).2.2 ≠ 0 := by
  unfold allT allS
  rw [if_neg (by simp [h])]
  decide
theorem e_good {m : List Int} {t : TN} (hm : m.length = 8) (h : goodT (t.1.map toOp) = true) : (allT m 16 t).2.2 = 0 ∧ (allT m 16 t).1.length = 8 := by
  have g : Good8 m 16 t := ⟨h, by omega⟩
  exact ⟨by rw [g.eq], (all_frm g).1.trans hm⟩
theorem fold2_bad {m : List Int} {t u : TN} (hm : m.length = 8) (h : goodT (t.1.map toOp) = false ∨ goodT (u.1.map toOp) = false) : (foldT 16 [t, u] m []).2.2 ≠ 0 := by
  rw [fold2]
  cases ht : goodT (t.1.map toOp) with
  | false => rw [if_neg (e_bad hm ht)]; exact e_bad hm ht
  | true =>
    obtain ⟨e1, e2⟩ := e_good hm ht
    rcases h with h | h
    · rw [ht] at h; cases h
    · rw [if_pos e1, if_neg (e_bad e2 h)]; exact e_bad e2 h
abbrev bx5 (t u : TN) : List (Nat × Ck) := [(0, .blk [.rd shO t.1, .val (.bool t.2)] 25), (1, .blk [.rd shO u.1, .val (.bool u.2)] 25)]
structure I5 (t u : TN) (i : Nat) : Prop where
  le : i ≤ t.1.length
  d : ∀ x ∈ t.1.take i, ∀ y ∈ u.1, x.2.1 ≠ y.2.1
structure I5b (t u : TN) (i k : Nat) : Prop where
  le : i < t.1.length
  d : ∀ x ∈ t.1.take i, ∀ y ∈ u.1, x.2.1 ≠ y.2.1
  lk : k ≤ u.1.length
  e : ∀ x, t.1[i]? = some x → ∀ y ∈ u.1.take k, x.2.1 ≠ y.2.1
abbrev lp5 (m : List Int) (t u : TN) : Nat → Option LoopSp := fun r => match r with
  | 4 => some { X := Nat, sl := fun i => [(0, .one (.rd shU m)), (4, .one (.ptr 0 0)), (5, .one (.ptr 1 0)), (7, .one (vi i))], h := fun i => bx5 t u, nx := 2, inv := fun i => I5 t u i, mu := fun i => t.1.length - i }
  | 7 => some { X := Nat × Nat, sl := fun x => [(0, .one (.rd shU m)), (4, .one (.ptr 0 0)), (5, .one (.ptr 1 0)), (7, .one (vi x.1)), (8, .one (vi x.2))], h := fun x => bx5 t u, nx := 2, inv := fun x => I5b t u x.1 x.2, mu := fun x => u.1.length - x.2, ln := fun x => [(7, x.1)] }
  | 12 => k7 Unit (fun _ => [(9, .one (.rd shU (foldT 16 [t, u] m []).1)), (10, .one (.rd shUs (foldT 16 [t, u] m []).2.1)), (11, .one (vi (foldT 16 [t, u] m []).2.2))]) (fun _ => bx5 t u) 2 (fun _ => True) [0, 4, 5]
  | 13 => k7 Unit (fun _ => [(12, .one (.rd shU (foldT 16 [u, t] m []).1)), (13, .one (.rd shUs (foldT 16 [u, t] m []).2.1)), (14, .one (vi (foldT 16 [u, t] m []).2.2))]) (fun _ => []) 0 (fun _ => True) [9, 10, 11]
  | _ => none
theorem comm_law : ∀ x, rngTup [pUs, pT, pT] x → ∃ lp, runF Tbl (spL L6) lp 0 Try.f5 (enVs [pUs, pT, pT] x) ⟨0, []⟩ fun r' st' => fzR st' (mkB true) r' := by
  rintro ⟨(m : List Int), (t : TN), (u : TN)⟩ hr
  refine ⟨lp5 m t u, ?_⟩
  refine Eq.mp (by kernel_rfl : ((((↑m.length : Int) != (8 : Int) || decide ((↑t.fst.length : Int) > (16 : Int)) || decide ((↑u.fst.length : Int) > (16 : Int))) = true → true = true ∧ True) ∧ (((↑m.length : Int) != (8 : Int) || decide ((↑t.fst.length : Int) > (16 : Int)) || decide ((↑u.fst.length : Int) > (16 : Int))) = false → (∃ (x : Nat), I5 t u x ∧ m ≍ m ∧ (0 : Int) = (↑x : Int) ∧ t.fst ≍ t.fst ∧ t.snd = t.snd ∧ u.fst ≍ u.fst ∧ u.snd = u.snd ∧ True) ∧ ∀ (x : Nat), I5 t u x → (decide ((↑x : Int) < (↑t.fst.length : Int)) = true → (∃ (x_1 : Nat × Nat), I5b t u x_1.fst x_1.snd ∧ (↑x_1.fst : Int) = (↑x : Int) ∧ m ≍ m ∧ (↑x : Int) = (↑x_1.fst : Int) ∧ (0 : Int) = (↑x_1.snd : Int) ∧ t.fst ≍ t.fst ∧ t.snd = t.snd ∧ u.fst ≍ u.fst ∧ u.snd = u.snd ∧ True) ∧ ∀ (x_1 : Nat × Nat), I5b t u x_1.fst x_1.snd → (↑x_1.fst : Int) = (↑x : Int) → (decide ((↑x_1.snd : Int) < (↑u.fst.length : Int)) = true → ((0 : Int) ≤ (↑x_1.fst : Int) ∧ (↑x_1.fst : Int) < (↑t.fst.length : Int)) ∧ ∀ (y : Int × Int × Int), t.fst[(↑x_1.fst : Int).toNat]? = some y → ((0 : Int) ≤ (↑x_1.snd : Int) ∧ (↑x_1.snd : Int) < (↑u.fst.length : Int)) ∧ ∀ (y_1 : Int × Int × Int), u.fst[(↑x_1.snd : Int).toNat]? = some y_1 → ((y.snd.fst == y_1.snd.fst) = true → true = true ∧ True) ∧ ((y.snd.fst == y_1.snd.fst) = false → ((-9223372036854775808 : Int) ≤ (↑x_1.snd : Int) + (1 : Int) ∧ (↑x_1.snd : Int) + (1 : Int) ≤ (9223372036854775807 : Int)) ∧ ∃ (y : Nat × Nat), I5b t u y.fst y.snd ∧ (↑y.fst : Int) = (↑x : Int) ∧ u.fst.length - y.snd < u.fst.length - x_1.snd ∧ m ≍ m ∧ (↑x_1.fst : Int) = (↑y.fst : Int) ∧ (↑x_1.snd : Int) + (1 : Int) = (↑y.snd : Int) ∧ t.fst ≍ t.fst ∧ t.snd = t.snd ∧ u.fst ≍ u.fst ∧ u.snd = u.snd ∧ True)) ∧ (decide ((↑x_1.snd : Int) < (↑u.fst.length : Int)) = false → ((-9223372036854775808 : Int) ≤ (↑x_1.fst : Int) + (1 : Int) ∧ (↑x_1.fst : Int) + (1 : Int) ≤ (9223372036854775807 : Int)) ∧ ∃ (y : Nat), I5 t u y ∧ t.fst.length - y < t.fst.length - x ∧ m ≍ m ∧ (↑x_1.fst : Int) + (1 : Int) = (↑y : Int) ∧ t.fst ≍ t.fst ∧ t.snd = t.snd ∧ u.fst ≍ u.fst ∧ u.snd = u.snd ∧ True)) ∧ (decide ((↑x : Int) < (↑t.fst.length : Int)) = false → ((((([] : List Int).length + m.length) * (8 : Nat) ≤ (140737488355328 : Nat) ∧ ((([] : List Int) ++ m).length ≤ (1000000 : Nat) ∧ ((t.fst, t.snd) :: (u.fst, u.snd) :: ([] : List (List (Int × Int × Int) × Bool))).length ≤ (1000 : Nat)) ∧ ∀ (y : Tup (pUs :: pUss :: pI :: ([] : List PS))), y = foldT (16 : Int) ((t.fst, t.snd) :: (u.fst, u.snd) :: ([] : List (List (Int × Int × Int) × Bool))) (([] : List Int) ++ m) ([] : List (List Int)) → ∃ (y_1 : Unit), True ∧ m ≍ m ∧ y.fst ≍ (foldT (16 : Int) (t :: u :: ([] : List TN)) m ([] : List (List Int))).fst ∧ y.snd.fst ≍ (foldT (16 : Int) (t :: u :: ([] : List TN)) m ([] : List (List Int))).snd.fst ∧ y.snd.snd = (foldT (16 : Int) (t :: u :: ([] : List TN)) m ([] : List (List Int))).snd.snd ∧ t.fst ≍ t.fst ∧ t.snd = t.snd ∧ u.fst ≍ u.fst ∧ u.snd = u.snd ∧ True) ∧ (([] : List Int).length + m.length) * (8 : Nat) ≤ (140737488355328 : Nat) ∧ ((([] : List Int) ++ m).length ≤ (1000000 : Nat) ∧ ((t.fst, t.snd) :: (u.fst, u.snd) :: ([] : List (List (Int × Int × Int) × Bool))).length ≤ (1000 : Nat)) ∧ ∀ (y : Tup (pUs :: pUss :: pI :: ([] : List PS))), y = foldT (16 : Int) ((t.fst, t.snd) :: (u.fst, u.snd) :: ([] : List (List (Int × Int × Int) × Bool))) (([] : List Int) ++ m) ([] : List (List Int)) → ∃ (y_1 : Unit), True ∧ m ≍ m ∧ y.fst ≍ (foldT (16 : Int) (t :: u :: ([] : List TN)) m ([] : List (List Int))).fst ∧ y.snd.fst ≍ (foldT (16 : Int) (t :: u :: ([] : List TN)) m ([] : List (List Int))).snd.fst ∧ y.snd.snd = (foldT (16 : Int) (t :: u :: ([] : List TN)) m ([] : List (List Int))).snd.snd ∧ t.fst ≍ t.fst ∧ t.snd = t.snd ∧ u.fst ≍ u.fst ∧ u.snd = u.snd ∧ True) ∧ (([] : List Int).length + m.length) * (8 : Nat) ≤ (140737488355328 : Nat) ∧ ((([] : List Int) ++ m).length ≤ (1000000 : Nat) ∧ ((t.fst, t.snd) :: (u.fst, u.snd) :: ([] : List (List (Int × Int × Int) × Bool))).length ≤ (1000 : Nat)) ∧ ∀ (y : Tup (pUs :: pUss :: pI :: ([] : List PS))), y = foldT (16 : Int) ((t.fst, t.snd) :: (u.fst, u.snd) :: ([] : List (List (Int × Int × Int) × Bool))) (([] : List Int) ++ m) ([] : List (List Int)) → ∃ (y_1 : Unit), True ∧ m ≍ m ∧ y.fst ≍ (foldT (16 : Int) (t :: u :: ([] : List TN)) m ([] : List (List Int))).fst ∧ y.snd.fst ≍ (foldT (16 : Int) (t :: u :: ([] : List TN)) m ([] : List (List Int))).snd.fst ∧ y.snd.snd = (foldT (16 : Int) (t :: u :: ([] : List TN)) m ([] : List (List Int))).snd.snd ∧ t.fst ≍ t.fst ∧ t.snd = t.snd ∧ u.fst ≍ u.fst ∧ u.snd = u.snd ∧ True) ∧ ∀ (x : Unit), True → ((((([] : List Int).length + m.length) * (8 : Nat) ≤ (140737488355328 : Nat) ∧ ((([] : List Int) ++ m).length ≤ (1000000 : Nat) ∧ ((u.fst, u.snd) :: (t.fst, t.snd) :: ([] : List (List (Int × Int × Int) × Bool))).length ≤ (1000 : Nat)) ∧ ∀ (y : Tup (pUs :: pUss :: pI :: ([] : List PS))), y = foldT (16 : Int) ((u.fst, u.snd) :: (t.fst, t.snd) :: ([] : List (List (Int × Int × Int) × Bool))) (([] : List Int) ++ m) ([] : List (List Int)) → ∃ (y_1 : Unit), True ∧ (foldT (16 : Int) (t :: u :: ([] : List TN)) m ([] : List (List Int))).fst ≍ (foldT (16 : Int) (t :: u :: ([] : List TN)) m ([] : List (List Int))).fst ∧ (foldT (16 : Int) (t :: u :: ([] : List TN)) m ([] : List (List Int))).snd.fst ≍ (foldT (16 : Int) (t :: u :: ([] : List TN)) m ([] : List (List Int))).snd.fst ∧ (foldT (16 : Int) (t :: u :: ([] : List TN)) m ([] : List (List Int))).snd.snd = (foldT (16 : Int) (t :: u :: ([] : List TN)) m ([] : List (List Int))).snd.snd ∧ y.fst ≍ (foldT (16 : Int) (u :: t :: ([] : List TN)) m ([] : List (List Int))).fst ∧ y.snd.fst ≍ (foldT (16 : Int) (u :: t :: ([] : List TN)) m ([] : List (List Int))).snd.fst ∧ y.snd.snd = (foldT (16 : Int) (u :: t :: ([] : List TN)) m ([] : List (List Int))).snd.snd ∧ True) ∧ (([] : List Int).length + m.length) * (8 : Nat) ≤ (140737488355328 : Nat) ∧ ((([] : List Int) ++ m).length ≤ (1000000 : Nat) ∧ ((u.fst, u.snd) :: (t.fst, t.snd) :: ([] : List (List (Int × Int × Int) × Bool))).length ≤ (1000 : Nat)) ∧ ∀ (y : Tup (pUs :: pUss :: pI :: ([] : List PS))), y = foldT (16 : Int) ((u.fst, u.snd) :: (t.fst, t.snd) :: ([] : List (List (Int × Int × Int) × Bool))) (([] : List Int) ++ m) ([] : List (List Int)) → ∃ (y_1 : Unit), True ∧ (foldT (16 : Int) (t :: u :: ([] : List TN)) m ([] : List (List Int))).fst ≍ (foldT (16 : Int) (t :: u :: ([] : List TN)) m ([] : List (List Int))).fst ∧ (foldT (16 : Int) (t :: u :: ([] : List TN)) m ([] : List (List Int))).snd.fst ≍ (foldT (16 : Int) (t :: u :: ([] : List TN)) m ([] : List (List Int))).snd.fst ∧ (foldT (16 : Int) (t :: u :: ([] : List TN)) m ([] : List (List Int))).snd.snd = (foldT (16 : Int) (t :: u :: ([] : List TN)) m ([] : List (List Int))).snd.snd ∧ y.fst ≍ (foldT (16 : Int) (u :: t :: ([] : List TN)) m ([] : List (List Int))).fst ∧ y.snd.fst ≍ (foldT (16 : Int) (u :: t :: ([] : List TN)) m ([] : List (List Int))).snd.fst ∧ y.snd.snd = (foldT (16 : Int) (u :: t :: ([] : List TN)) m ([] : List (List Int))).snd.snd ∧ True) ∧ (([] : List Int).length + m.length) * (8 : Nat) ≤ (140737488355328 : Nat) ∧ ((([] : List Int) ++ m).length ≤ (1000000 : Nat) ∧ ((u.fst, u.snd) :: (t.fst, t.snd) :: ([] : List (List (Int × Int × Int) × Bool))).length ≤ (1000 : Nat)) ∧ ∀ (y : Tup (pUs :: pUss :: pI :: ([] : List PS))), y = foldT (16 : Int) ((u.fst, u.snd) :: (t.fst, t.snd) :: ([] : List (List (Int × Int × Int) × Bool))) (([] : List Int) ++ m) ([] : List (List Int)) → ∃ (y_1 : Unit), True ∧ (foldT (16 : Int) (t :: u :: ([] : List TN)) m ([] : List (List Int))).fst ≍ (foldT (16 : Int) (t :: u :: ([] : List TN)) m ([] : List (List Int))).fst ∧ (foldT (16 : Int) (t :: u :: ([] : List TN)) m ([] : List (List Int))).snd.fst ≍ (foldT (16 : Int) (t :: u :: ([] : List TN)) m ([] : List (List Int))).snd.fst ∧ (foldT (16 : Int) (t :: u :: ([] : List TN)) m ([] : List (List Int))).snd.snd = (foldT (16 : Int) (t :: u :: ([] : List TN)) m ([] : List (List Int))).snd.snd ∧ y.fst ≍ (foldT (16 : Int) (u :: t :: ([] : List TN)) m ([] : List (List Int))).fst ∧ y.snd.fst ≍ (foldT (16 : Int) (u :: t :: ([] : List TN)) m ([] : List (List Int))).snd.fst ∧ y.snd.snd = (foldT (16 : Int) (u :: t :: ([] : List TN)) m ([] : List (List Int))).snd.snd ∧ True) ∧ ∀ (x : Unit), True → (((foldT (16 : Int) (t :: u :: ([] : List TN)) m ([] : List (List Int))).snd.snd != (0 : Int) || (foldT (16 : Int) (u :: t :: ([] : List TN)) m ([] : List (List Int))).snd.snd != (0 : Int)) = true → (((foldT (16 : Int) (t :: u :: ([] : List TN)) m ([] : List (List Int))).snd.snd != (0 : Int)) == ((foldT (16 : Int) (u :: t :: ([] : List TN)) m ([] : List (List Int))).snd.snd != (0 : Int)) && true) = true ∧ True) ∧ (((foldT (16 : Int) (t :: u :: ([] : List TN)) m ([] : List (List Int))).snd.snd != (0 : Int) || (foldT (16 : Int) (u :: t :: ([] : List TN)) m ([] : List (List Int))).snd.snd != (0 : Int)) = false → (((↑(foldT (16 : Int) (t :: u :: ([] : List TN)) m ([] : List (List Int))).snd.fst.length : Int) == (2 : Int) && (↑(foldT (16 : Int) (u :: t :: ([] : List TN)) m ([] : List (List Int))).snd.fst.length : Int) == (2 : Int) && eqB (foldT (16 : Int) (t :: u :: ([] : List TN)) m ([] : List (List Int))).fst (foldT (16 : Int) (u :: t :: ([] : List TN)) m ([] : List (List Int))).fst) = true → ((0 : Int) ≤ (0 : Int) ∧ (0 : Int) < (↑(foldT (16 : Int) (t :: u :: ([] : List TN)) m ([] : List (List Int))).snd.fst.length : Int)) ∧ ∀ (y : List Int), (foldT (16 : Int) (t :: u :: ([] : List TN)) m ([] : List (List Int))).snd.fst[Int.toNat (0 : Int)]? = some y → ((0 : Int) ≤ (1 : Int) ∧ (1 : Int) < (↑(foldT (16 : Int) (u :: t :: ([] : List TN)) m ([] : List (List Int))).snd.fst.length : Int)) ∧ ∀ (y_1 : List Int), (foldT (16 : Int) (u :: t :: ([] : List TN)) m ([] : List (List Int))).snd.fst[Int.toNat (1 : Int)]? = some y_1 → (eqB y y_1 = true → ((0 : Int) ≤ (1 : Int) ∧ (1 : Int) < (↑(foldT (16 : Int) (t :: u :: ([] : List TN)) m ([] : List (List Int))).snd.fst.length : Int)) ∧ ∀ (y : List Int), (foldT (16 : Int) (t :: u :: ([] : List TN)) m ([] : List (List Int))).snd.fst[Int.toNat (1 : Int)]? = some y → ((0 : Int) ≤ (0 : Int) ∧ (0 : Int) < (↑(foldT (16 : Int) (u :: t :: ([] : List TN)) m ([] : List (List Int))).snd.fst.length : Int)) ∧ ∀ (y_2 : List Int), (foldT (16 : Int) (u :: t :: ([] : List TN)) m ([] : List (List Int))).snd.fst[Int.toNat (0 : Int)]? = some y_2 → (eqB y y_2 && true) = true ∧ True) ∧ (eqB y y_1 = false → false = true ∧ True)) ∧ (((↑(foldT (16 : Int) (t :: u :: ([] : List TN)) m ([] : List (List Int))).snd.fst.length : Int) == (2 : Int) && (↑(foldT (16 : Int) (u :: t :: ([] : List TN)) m ([] : List (List Int))).snd.fst.length : Int) == (2 : Int) && eqB (foldT (16 : Int) (t :: u :: ([] : List TN)) m ([] : List (List Int))).fst (foldT (16 : Int) (u :: t :: ([] : List TN)) m ([] : List (List Int))).fst) = false → false = true ∧ True))))) = _) ?_
  refine ⟨fun _ => ⟨rfl, trivial⟩, fun h => ?_⟩
  have hm : m.length = 8 := by
    simp only [Bool.or_eq_false_iff, bne_eq_false_iff_eq] at h
    omega
  have hl : t.1.length ≤ 16 ∧ u.1.length ≤ 16 := by
    simp only [Bool.or_eq_false_iff, decide_eq_false_iff_not] at h
    omega
  clear h hr
  refine ⟨⟨0, ⟨Nat.zero_le _, fun x hx => by simp at hx⟩, HEq.rfl, rfl, HEq.rfl, rfl, HEq.rfl, rfl, trivial⟩, fun i hi => ⟨fun h1 => ⟨⟨(i, 0), ⟨by simp at h1; dsimp only; omega, hi.d, Nat.zero_le _, fun x _ y hy => by simp at hy⟩, rfl, HEq.rfl, rfl, rfl, HEq.rfl, rfl, HEq.rfl, rfl, trivial⟩, ?_⟩, fun h1 => ?_⟩⟩
  · rintro ⟨i2, k⟩ ⟨j1, j2, j3, j4⟩
    dsimp only at j1 j2 j3 j4 ⊢
    intro e
    obtain rfl : i2 = i := by omega
    clear e h1
    refine ⟨fun h1 => ⟨by omega, fun x hx => ⟨by simp at h1; omega, fun y hy => ⟨fun _ => ⟨rfl, trivial⟩, fun hne => ?_⟩⟩⟩, fun h1 => ?_⟩
    · simp only [decide_eq_true_eq] at h1
      rw [Int.toNat_natCast] at hx hy
      refine ⟨by omega, (i2, k + 1), ⟨j1, j2, by dsimp only; omega, fun x' hx' y' hy' => ?_⟩, rfl, by dsimp only; omega, HEq.rfl, rfl, by simp, HEq.rfl, rfl, HEq.rfl, rfl, trivial⟩
      dsimp only at hx' hy'
      rw [hx] at hx'
      cases hx'
      rw [List.take_add_one, hy] at hy'
      rcases List.mem_append.1 hy' with h | h
      · exact j4 x hx y' h
      · simp at h
        subst h
        simpa using hne
    · simp only [decide_eq_false_iff_not] at h1
      refine ⟨by omega, i2 + 1, ⟨by omega, fun x' hx' y' hy' => ?_⟩, by omega, HEq.rfl, by simp, HEq.rfl, rfl, HEq.rfl, rfl, trivial⟩
      rw [List.take_add_one] at hx'
      rcases List.mem_append.1 hx' with h | h
      · exact j2 x' h y' hy'
      · have hx : t.1[i2]? = some x' := by simpa using h
        exact j4 x' hx y' (by rw [List.take_of_length_le (by omega)]; exact hy')
  · simp only [decide_eq_false_iff_not] at h1
    have hd : ∀ j, NmT t j → ¬ NmT u j := by
      rintro j ⟨x, hx, ex⟩ ⟨y, hy, ey⟩
      have h := hi.d
      rw [List.take_of_length_le (by have := hi.le; omega)] at h
      exact h x hx y hy (ex.trans ey.symm)
    have P1 : (([] : List Int).length + m.length) * 8 ≤ 140737488355328 ∧ (([] ++ m).length ≤ 1000000 ∧ ((t.1, t.2) :: (u.1, u.2) :: ([] : List TN)).length ≤ 1000) := ⟨by simp; omega, by simp; omega, by simp⟩
    have P2 : (([] : List Int).length + m.length) * 8 ≤ 140737488355328 ∧ (([] ++ m).length ≤ 1000000 ∧ ((u.1, u.2) :: (t.1, t.2) :: ([] : List TN)).length ≤ 1000) := ⟨by simp; omega, by simp; omega, by simp⟩
    refine ⟨⟨⟨?a, ?a⟩, ?a⟩, fun _ _ => ⟨⟨⟨?b, ?b⟩, ?b⟩, fun _ _ => ?_⟩⟩
    case a =>
      refine ⟨P1.1, P1.2, ?_⟩
      intro zz0 qq0
      obtain rfl := qq0.symm
      exact ⟨(), trivial, HEq.rfl, HEq.rfl, HEq.rfl, rfl, HEq.rfl, rfl, HEq.rfl, rfl, trivial⟩
    case b =>
      refine ⟨P2.1, P2.2, ?_⟩
      intro zz0 qq0
      obtain rfl := qq0.symm
      exact ⟨(), trivial, HEq.rfl, HEq.rfl, rfl, HEq.rfl, HEq.rfl, rfl, trivial⟩
    by_cases hb : goodT (t.1.map toOp) = false ∨ goodT (u.1.map toOp) = false
    · have b1 := fold2_bad hm hb
      have b2 := fold2_bad hm hb.symm
      refine ⟨fun _ => ⟨?_, trivial⟩, fun h => ?_⟩
      · rw [show ((foldT 16 [t, u] m []).2.2 != 0) = true by simpa using b1, show ((foldT 16 [u, t] m []).2.2 != 0) = true by simpa using b2]
        rfl
      · rw [show ((foldT 16 [t, u] m []).2.2 != 0) = true by simpa using b1] at h
        simp at h
    · have ht : goodT (t.1.map toOp) = true := by
        cases h : goodT (t.1.map toOp) with
        | true => rfl
        | false => exact absurd (.inl h) hb
      have hu : goodT (u.1.map toOp) = true := by
        cases h : goodT (u.1.map toOp) with
        | true => rfl
        | false => exact absurd (.inr h) hb
      obtain ⟨c1, c2, c3, c4, c5, c6, c7⟩ := commutes (m := m) (room := 16) (t := t) (u := u) hm rfl ht hu hd
      have f1 := fold2 (room := 16) (t := t) (u := u) (m := m)
      have f2 := fold2 (room := 16) (t := u) (u := t) (m := m)
      rw [if_pos c4, if_pos c5] at f1
      rw [if_pos c6, if_pos c7] at f2
      rw [f1, f2]
      refine ⟨fun h => by simp at h, fun _ => ⟨fun _ => ⟨by simp, fun y hy => ⟨by simp, fun y1 hy1 => ?_⟩⟩, fun h => ?_⟩⟩
      · have hy : (allT m 16 t).2.1 = y := Option.some.inj hy
        have hy1 : (allT (allT m 16 u).1 16 t).2.1 = y1 := Option.some.inj hy1
        rw [← hy, ← hy1, c2]
        refine ⟨fun _ => ⟨by simp, fun y hy => ⟨by simp, fun y2 hy2 => ?_⟩⟩, fun h => ?_⟩
        · have hy : (allT (allT m 16 t).1 16 u).2.1 = y := Option.some.inj hy
          have hy2 : (allT m 16 u).2.1 = y2 := Option.some.inj hy2
          rw [← hy, ← hy2, c3, eqB_self]
          exact ⟨rfl, trivial⟩
        · rw [eqB_self] at h; cases h
      · rw [c1, eqB_self] at h
        simp at h
end Go.Proofs.Ytigbhlkafmpgmaa.V
