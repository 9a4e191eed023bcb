import Derived.KernelRfl
import Derived.Test.YtigbhlkafmpgmaaSd
namespace Go.Proofs.Ytigbhlkafmpgmaa.V
open Go.RowKit Go.Proofs.Ytigbhlkafmpgmaa
set_option linter.unusedSimpArgs false
noncomputable abbrev L5 : List (Nat × Spec) := (13, .pre (rS [pUs, pI, pTs] [pUs, pUss, pI] (fun x => List.length x.1 ≤ 1000000 ∧ List.length x.2.2 ≤ 1000) (fun x y => y = foldT x.2.1 x.2.2 x.1 []))) :: (8, .tot (tS [] [pB] fun _ => true)) :: L4
theorem L5_all : ∀ p ∈ L5, Valid Try.prog p.1 p.2 := vcons v13 (vcons v8 L4_all)
theorem L5_ok : ∀ f S, spL L5 f = some S → Valid Try.prog f S := spL_ok L5_all
structure I16 (l : List TN) (which : List Int) (i : Nat) (some_ : List TN) : Prop where
  le : i ≤ which.length
  eq : pickT l which = (some_ ++ (pickT l (which.drop i)).1, (pickT l (which.drop i)).2)
  n : some_.length = i
abbrev lp16 (m : List Int) (room : Int) (l : List TN) (which : List Int) : Nat → Option LoopSp := fun _ => some { X := Nat × List TN, sl := fun x => [(0, .one (.rd shU m)), (1, .one (vi room)), (2, .one (.rd shT l)), (10, .one (.sl 0)), (11, .one (.val (.bool false))), (17, .one (.rd (.int .i64) which)), (18, .one (vi which.length)), (19, .one (vi x.1))], h := fun x => [(0, .own 25 shT x.2)], nx := 1, inv := fun x => I16 l which x.1 x.2, mu := fun x => which.length - x.1 }
theorem out16 {room : Int} {l : List TN} {which : List Int} {m : List Int} {some_ : List TN} {bad : Bool} (h : pickT l which = (some_, bad)) :
    (((foldT room some_ m []).2.2 != 0) = true → ∃ y, y = appT room l which m ∧ y.1 = ([] : List Int) ∧ (foldT room some_ m []).2.2 = y.2 ∧ True) ∧
    (((foldT room some_ m []).2.2 != 0) = false → (bad = true → ∃ y, y = appT room l which m ∧ y.1 = ([] : List Int) ∧ 1 = y.2 ∧ True) ∧ (bad = false → ∃ y, y = appT room l which m ∧ HEq (foldT room some_ m []).1 y.1 ∧ 0 = y.2 ∧ True)) := by
  have e : appT room l which m = if (foldT room some_ m []).2.2 ≠ 0 then ([], (foldT room some_ m []).2.2) else if bad = true then ([], 1) else ((foldT room some_ m []).1, 0) := by
    unfold appT
    rw [h]
  rw [e]
  refine ⟨fun h1 => ?_, fun h1 => ⟨fun h2 => ?_, fun h2 => ?_⟩⟩
  · have h1 : (foldT room some_ m []).2.2 ≠ 0 := by simpa using h1
    rw [if_pos h1]
    exact ⟨_, rfl, rfl, rfl, trivial⟩
  · have h1 : ¬ (foldT room some_ m []).2.2 ≠ 0 := by simpa using h1
    rw [if_neg h1, if_pos h2]
    exact ⟨_, rfl, rfl, rfl, trivial⟩
  · have h1 : ¬ (foldT room some_ m []).2.2 ≠ 0 := by simpa using h1
    rw [if_neg h1, if_neg (by simp [h2])]
    exact ⟨_, rfl, HEq.rfl, rfl, trivial⟩
theorem v16 : Valid Try.prog 16 (.pre (rS [pUs, pI, pTs, pIs] [pUs, pI] (fun x => List.length x.1 ≤ 1000000 ∧ List.length x.2.2.2 ≤ 1000) (fun x y => y = appT x.2.1 x.2.2.1 x.2.2.2 x.1))) := by
  refine rS_ok mixed Tbl_ok L5_ok Try.func16 call16 rfl ?_
  rintro ⟨(m : List Int), (room : Int), (l : List TN), (which : List Int)⟩ hr hp
  refine ⟨lp16 m room l which, ?_⟩
  refine Eq.mp (by kernel_rfl : ((∃ (x : Nat × List TN), I16 l which x.fst x.snd ∧ m ≍ m ∧ room = room ∧ l ≍ l ∧ false = false ∧ which ≍ which ∧ (↑which.length : Int) = (↑which.length : Int) ∧ (0 : Int) = (↑x.fst : Int) ∧ x.snd = ([] : List (List (Int × Int × Int) × Bool)) ∧ True) ∧ ∀ (x : Nat × List TN), I16 l which x.fst x.snd → (decide ((↑x.fst : Int) < (↑which.length : Int)) = true → ((0 : Int) ≤ (↑x.fst : Int) ∧ (↑x.fst : Int) < (↑which.length : Int)) ∧ ∀ (y : Int), which[(↑x.fst : Int).toNat]? = some y → ((decide (y < (0 : Int)) || decide (y ≥ (↑l.length : Int))) = true → (m.length ≤ (1000000 : Nat) ∧ x.snd.length ≤ (1000 : Nat)) ∧ ∀ (y_1 : Tup (pUs :: pUss :: pI :: ([] : List PS))), y_1 = foldT room x.snd m ([] : List (List Int)) → ((y_1.snd.snd != (0 : Int)) = true → ∃ (y : Tup (pUs :: pI :: ([] : List PS))), y = appT room l which m ∧ y.fst = ([] : List Int) ∧ y_1.snd.snd = y.snd ∧ True) ∧ ((y_1.snd.snd != (0 : Int)) = false → ((decide (y < (0 : Int)) || decide (y ≥ (↑l.length : Int))) = true → ∃ (y : Tup (pUs :: pI :: ([] : List PS))), y = appT room l which m ∧ y.fst = ([] : List Int) ∧ (1 : Int) = y.snd ∧ True) ∧ ((decide (y < (0 : Int)) || decide (y ≥ (↑l.length : Int))) = false → ∃ (y : Tup (pUs :: pI :: ([] : List PS))), y = appT room l which m ∧ y_1.fst ≍ y.fst ∧ (0 : Int) = y.snd ∧ True))) ∧ ((decide (y < (0 : Int)) || decide (y ≥ (↑l.length : Int))) = false → ((0 : Int) ≤ y ∧ y < (↑l.length : Int)) ∧ ∀ (y_1 : List (Int × Int × Int) × Bool), l[y.toNat]? = some y_1 → (x.snd.length + ((y_1.fst, y_1.snd) :: ([] : List (List (Int × Int × Int) × Bool))).length) * (32 : Nat) ≤ (140737488355328 : Nat) ∧ ((-9223372036854775808 : Int) ≤ (↑x.fst : Int) + (1 : Int) ∧ (↑x.fst : Int) + (1 : Int) ≤ (9223372036854775807 : Int)) ∧ ∃ (y_2 : Nat × List TN), I16 l which y_2.fst y_2.snd ∧ which.length - y_2.fst < which.length - x.fst ∧ m ≍ m ∧ room = room ∧ l ≍ l ∧ (decide (y < (0 : Int)) || decide (y ≥ (↑l.length : Int))) = false ∧ which ≍ which ∧ (↑which.length : Int) = (↑which.length : Int) ∧ (↑x.fst : Int) + (1 : Int) = (↑y_2.fst : Int) ∧ x.snd ++ (y_1.fst, y_1.snd) :: ([] : List (List (Int × Int × Int) × Bool)) ≍ y_2.snd ∧ True)) ∧ (decide ((↑x.fst : Int) < (↑which.length : Int)) = false → (m.length ≤ (1000000 : Nat) ∧ x.snd.length ≤ (1000 : Nat)) ∧ ∀ (y : Tup (pUs :: pUss :: pI :: ([] : List PS))), y = foldT room x.snd m ([] : List (List Int)) → ((y.snd.snd != (0 : Int)) = true → ∃ (y_1 : Tup (pUs :: pI :: ([] : List PS))), y_1 = appT room l which m ∧ y_1.fst = ([] : List Int) ∧ y.snd.snd = y_1.snd ∧ True) ∧ ((y.snd.snd != (0 : Int)) = false → (false = true → ∃ (y : Tup (pUs :: pI :: ([] : List PS))), y = appT room l which m ∧ y.fst = ([] : List Int) ∧ (1 : Int) = y.snd ∧ True) ∧ (false = false → ∃ (y_1 : Tup (pUs :: pI :: ([] : List PS))), y_1 = appT room l which m ∧ y.fst ≍ y_1.fst ∧ (0 : Int) = y_1.snd ∧ True)))) = _) ?_
  obtain ⟨p1, p2⟩ : m.length ≤ 1000000 ∧ which.length ≤ 1000 := hp
  refine ⟨⟨(0, []), ⟨Nat.zero_le _, rfl, rfl⟩, HEq.rfl, rfl, HEq.rfl, rfl, HEq.rfl, rfl, rfl, rfl, trivial⟩, ?_⟩
  rintro ⟨i, sm⟩ ⟨i1, i2, i3⟩
  dsimp only at i1 i2 i3 ⊢
  refine ⟨fun h1 => ⟨by simp at h1; omega, fun k hk => ?_⟩, fun h1 => ⟨⟨p1, by omega⟩, ?_⟩⟩
  · rw [Int.toNat_natCast] at hk
    simp only [decide_eq_true_eq] at h1
    have hd : which.drop i = k :: which.drop (i + 1) := by
      obtain ⟨hi, rfl⟩ := List.getElem?_eq_some_iff.1 hk
      exact List.drop_eq_getElem_cons hi
    refine ⟨fun h2 => ⟨⟨p1, by omega⟩, ?_⟩, fun h2 => ?_⟩
    · have h3 : k < 0 ∨ k ≥ (l.length : Int) := by simpa using h2
      rw [hd, pickT, if_pos h3, List.append_nil] at i2
      intro zz0 qq0
      obtain rfl := qq0.symm
      rw [h2]
      exact out16 i2
    · have h3 : ¬ (k < 0 ∨ k ≥ (l.length : Int)) := by simpa using h2
      refine ⟨by omega, fun t ht => ⟨by simp; omega, by omega, (i + 1, sm ++ [t]), ⟨by omega, ?_, by simp; omega⟩, by simp only; omega, HEq.rfl, rfl, HEq.rfl, h2, HEq.rfl, rfl, by simp, HEq.rfl, trivial⟩⟩
      rw [hd, pickT, if_neg h3] at i2
      rw [i2]
      simp [List.getD, ht]
  · simp only [decide_eq_false_iff_not] at h1
    rw [List.drop_of_length_le (by omega), pickT, List.append_nil] at i2
    intro zz0 qq0
    obtain rfl := qq0.symm
    exact out16 i2
end Go.Proofs.Ytigbhlkafmpgmaa.V
