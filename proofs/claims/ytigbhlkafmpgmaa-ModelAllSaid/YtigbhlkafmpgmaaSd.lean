import Derived.KernelRfl
import Derived.Test.YtigbhlkafmpgmaaSc
namespace Go.Proofs.Ytigbhlkafmpgmaa.V
open Go.RowKit Go.Proofs.Ytigbhlkafmpgmaa
set_option linter.unusedSimpArgs false
noncomputable abbrev L4 : List (Nat × Spec) := (11, .pre (rS [pUs, pI, pT] [pR] (fun x => List.length x.1 ≤ 1000000) (fun x y => y = allT x.1 x.2.1 x.2.2))) :: L3
theorem L4_all : ∀ p ∈ L4, Valid Try.prog p.1 p.2 := vcons v11 L3_all
theorem L4_ok : ∀ f S, spL L4 f = some S → Valid Try.prog f S := spL_ok L4_all
abbrev shUs : Sh := .sl shU
abbrev pUss : PS := (false, .sl shUs)
abbrev pIs : PS := (false, .sl (.int .i64))
def foldT (room : Int) : List TN → List Int → List (List Int) → List Int × List (List Int) × Int
  | [], cur, acc => (cur, acc, 0)
  | t :: r, cur, acc => if (allT cur room t).2.2 = 0 then foldT room r (allT cur room t).1 (acc ++ [(allT cur room t).2.1]) else ([], [], (allT cur room t).2.2)
def pickT (l : List TN) : List Int → List TN × Bool
  | [] => ([], false)
  | k :: r => if k < 0 ∨ k ≥ (l.length : Int) then ([], true) else (l.getD k.toNat ([], false) :: (pickT l r).1, (pickT l r).2)
def appT (room : Int) (l : List TN) (which : List Int) (m : List Int) : List Int × Int :=
  if (foldT room (pickT l which).1 m []).2.2 ≠ 0 then ([], (foldT room (pickT l which).1 m []).2.2) else if (pickT l which).2 = true then ([], 1) else ((foldT room (pickT l which).1 m []).1, 0)
structure I13 (room : Int) (l : List TN) (m : List Int) (k : Nat) (cur : List Int) (acc : List (List Int)) : Prop where
  le : k ≤ l.length
  eq : foldT room (l.drop k) cur acc = foldT room l m []
  n : acc.length = k
abbrev lp13 (m : List Int) (room : Int) (l : List TN) : Nat → Option LoopSp := fun _ => some { X := Nat × List Int × List (List Int), sl := fun x => [(1, .one (vi room)), (6, .one (.rd shU x.2.1)), (7, .one (.sl 0)), (8, .one (vi 0)), (14, .one (.rd shT l)), (15, .one (vi l.length)), (16, .one (vi x.1))], h := fun x => [(0, .own 22 shUs x.2.2)], nx := 1, inv := fun x => I13 room l m x.1 x.2.1 x.2.2, mu := fun x => l.length - x.1 }
theorem v13 : Valid Try.prog 13 (.pre (rS [pUs, pI, pTs] [pUs, pUss, pI] (fun x => List.length x.1 ≤ 1000000 ∧ List.length x.2.2 ≤ 1000) (fun x y => y = foldT x.2.1 x.2.2 x.1 []))) := by
  refine rS_ok mixed Tbl_ok L4_ok Try.func13 call13 rfl ?_
  rintro ⟨(m : List Int), (room : Int), (l : List TN)⟩ hr hp
  refine ⟨lp13 m room l, ?_⟩
  refine Eq.mp (by kernel_rfl : (m.length ≤ (1000000 : Nat) ∧ ∀ (y : Tup (pUs :: ([] : List PS))), y = m → (∃ (x : Nat × List Int × List (List Int)), I13 room l m x.fst x.snd.fst x.snd.snd ∧ room = room ∧ y ≍ x.snd.fst ∧ (0 : Int) = (0 : Int) ∧ l ≍ l ∧ (↑l.length : Int) = (↑l.length : Int) ∧ (0 : Int) = (↑x.fst : Int) ∧ x.snd.snd = ([] : List (List Int)) ∧ True) ∧ ∀ (x : Nat × List Int × List (List Int)), I13 room l m x.fst x.snd.fst x.snd.snd → (decide ((↑x.fst : Int) < (↑l.length : Int)) = true → ((0 : Int) ≤ (↑x.fst : Int) ∧ (↑x.fst : Int) < (↑l.length : Int)) ∧ ∀ (y : List (Int × Int × Int) × Bool), l[(↑x.fst : Int).toNat]? = some y → (((allT x.snd.fst room (y.fst, y.snd)).snd.snd != (0 : Int)) = true → ∃ (y_1 : Tup (pUs :: pUss :: pI :: ([] : List PS))), y_1 = foldT room l m ([] : List (List Int)) ∧ y_1.fst = ([] : List Int) ∧ y_1.snd.fst = ([] : List (List Int)) ∧ (allT x.snd.fst room (y.fst, y.snd)).snd.snd = y_1.snd.snd ∧ True) ∧ (((allT x.snd.fst room (y.fst, y.snd)).snd.snd != (0 : Int)) = false → (x.snd.snd.length + ((allT x.snd.fst room (y.fst, y.snd)).snd.fst :: ([] : List (List Int))).length) * (24 : Nat) ≤ (140737488355328 : Nat) ∧ ((-9223372036854775808 : Int) ≤ (↑x.fst : Int) + (1 : Int) ∧ (↑x.fst : Int) + (1 : Int) ≤ (9223372036854775807 : Int)) ∧ ∃ (y_1 : Nat × List Int × List (List Int)), I13 room l m y_1.fst y_1.snd.fst y_1.snd.snd ∧ l.length - y_1.fst < l.length - x.fst ∧ room = room ∧ (allT x.snd.fst room (y.fst, y.snd)).fst ≍ y_1.snd.fst ∧ (allT x.snd.fst room (y.fst, y.snd)).snd.snd = (0 : Int) ∧ l ≍ l ∧ (↑l.length : Int) = (↑l.length : Int) ∧ (↑x.fst : Int) + (1 : Int) = (↑y_1.fst : Int) ∧ x.snd.snd ++ (allT x.snd.fst room (y.fst, y.snd)).snd.fst :: ([] : List (List Int)) ≍ y_1.snd.snd ∧ True)) ∧ (decide ((↑x.fst : Int) < (↑l.length : Int)) = false → ∃ (y : Tup (pUs :: pUss :: pI :: ([] : List PS))), y = foldT room l m ([] : List (List Int)) ∧ x.snd.fst ≍ y.fst ∧ x.snd.snd ≍ y.snd.fst ∧ (0 : Int) = y.snd.snd ∧ True)) = _) ?_
  obtain ⟨p1, p2⟩ : m.length ≤ 1000000 ∧ l.length ≤ 1000 := hp
  refine ⟨p1, ?_⟩
  intro zz0 qq0
  obtain rfl := qq0.symm
  refine ⟨⟨(0, m, []), ⟨Nat.zero_le _, rfl, rfl⟩, rfl, HEq.rfl, rfl, HEq.rfl, rfl, rfl, rfl, trivial⟩, ?_⟩
  rintro ⟨k, cur, acc⟩ ⟨i1, i2, i3⟩
  dsimp only at i1 i2 i3 ⊢
  refine ⟨fun h1 => ⟨by simp at h1; omega, fun t ht => ?_⟩, fun h1 => ?_⟩
  · simp only [decide_eq_true_eq] at h1
    rw [Int.toNat_natCast] at ht
    have hd : l.drop k = t :: l.drop (k + 1) := by
      obtain ⟨hi, rfl⟩ := List.getElem?_eq_some_iff.1 ht
      exact List.drop_eq_getElem_cons hi
    rw [hd, foldT] at i2
    refine ⟨fun h2 => ?_, fun h2 => ?_⟩
    · rw [if_neg (by simpa using h2)] at i2
      exact ⟨([], [], _), i2, rfl, rfl, rfl, trivial⟩
    · have h3 : (allT cur room t).2.2 = 0 := by simpa using h2
      rw [if_pos h3] at i2
      exact ⟨by simp; omega, by omega, (k + 1, _, _), ⟨by omega, i2, by simp; omega⟩, by simp only; omega, rfl, HEq.rfl, h3, HEq.rfl, rfl, by simp, HEq.rfl, trivial⟩
  · simp only [decide_eq_false_iff_not] at h1
    rw [List.drop_of_length_le (by omega), foldT] at i2
    rw [← i2]
    exact ⟨_, rfl, HEq.rfl, HEq.rfl, rfl, trivial⟩
theorem v8 : Valid Try.prog 8 (.tot (tS [] [pB] fun _ => true)) := by
  refine tS_ok mixed Tbl_ok L4_ok Try.func8 call8 rfl rfl rfl ?_
  rintro _ hr z rfl
  refine ⟨noLoop, ?_⟩
  refine Eq.mp (by kernel_rfl : ((((0 : Int) == (0 : Int) && (0 : Int) == (0 : Int)) = true → (eqB (outS (0 : Int) false ((3 : Int) :: (0 : Int) :: ([] : List Int)) ((((3 : Int) :: (0 : Int) :: ([] : List Int)).set (Int.toNat (0 : Int)) (IntKind.u64.wrap ((5 : Int) + ((3 : Int) :: (0 : Int) :: ([] : List Int)).getD (Int.toNat (0 : Int)) (0 : Int)))).set (Int.toNat (1 : Int)) (9 : Int))) ((8 : Int) :: (9 : Int) :: ([] : List Int)) = true → (eqB (([] : List Int) ++ IntKind.u64.wrap ((5 : Int) + ((3 : Int) :: (0 : Int) :: ([] : List Int)).getD (Int.toNat (0 : Int)) (0 : Int)) :: ([] : List Int) ++ (1 : Int) :: ([] : List Int) ++ endC (0 : Int) false :: ([] : List Int)) ((8 : Int) :: (1 : Int) :: (101 : Int) :: ([] : List Int)) = true → eqB (([] : List Int) ++ endC (102 : Int) false :: ([] : List Int)) ((102 : Int) :: ([] : List Int)) = true ∧ True) ∧ (eqB (([] : List Int) ++ IntKind.u64.wrap ((5 : Int) + ((3 : Int) :: (0 : Int) :: ([] : List Int)).getD (Int.toNat (0 : Int)) (0 : Int)) :: ([] : List Int) ++ (1 : Int) :: ([] : List Int) ++ endC (0 : Int) false :: ([] : List Int)) ((8 : Int) :: (1 : Int) :: (101 : Int) :: ([] : List Int)) = false → false = true ∧ True)) ∧ (eqB (outS (0 : Int) false ((3 : Int) :: (0 : Int) :: ([] : List Int)) ((((3 : Int) :: (0 : Int) :: ([] : List Int)).set (Int.toNat (0 : Int)) (IntKind.u64.wrap ((5 : Int) + ((3 : Int) :: (0 : Int) :: ([] : List Int)).getD (Int.toNat (0 : Int)) (0 : Int)))).set (Int.toNat (1 : Int)) (9 : Int))) ((8 : Int) :: (9 : Int) :: ([] : List Int)) = false → false = true ∧ True)) ∧ (((0 : Int) == (0 : Int) && (0 : Int) == (0 : Int)) = false → false = true ∧ True)) = _) ?_
  refine ⟨fun _ => ⟨fun _ => ⟨fun _ => ⟨eqB_true.2 (by decide), trivial⟩, fun h => (eqB_false.1 h (by decide)).elim⟩, fun h => (eqB_false.1 h (by decide)).elim⟩, fun h => absurd h (by decide)⟩
end Go.Proofs.Ytigbhlkafmpgmaa.V
