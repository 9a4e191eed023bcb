import Derived.KernelRfl
import Derived.Test.YteddnnljmdjfbaaEh
namespace Go.Proofs.Yteddnnljmdjfbaa.V
open Go.RowKit Go.Proofs.Yteddnnljmdjfbaa
set_option linter.unusedSimpArgs false
noncomputable abbrev M4 : List (Nat × Spec) := (18, .full (callsP [done1, done2])) :: (19, .full rdone1.call) :: (20, .tot (tS [pUs, pUs] [pB] fun x => eqB x.1 x.2)) :: (22, .pre (rS [pNs] [pUs] (fun l => List.length l ≤ 100000) (fun l y => y = codeF l))) :: M3
theorem M4_all : ∀ p ∈ M4, Valid Try.prog p.1 p.2 := vcons v18 (vcons v19 (vcons v20 (vcons v22 M3_all)))
theorem M4_ok : ∀ f S, spL M4 f = some S → Valid Try.prog f S := spL_ok M4_all
abbrev shS : Sh := .pair shi (.pair shi (.pair shI (.sl shI)))
abbrev SN := Int × Int × IN × List IN
abbrev pSts : PS := (false, .sl shS)
def fairF (l : List SN) : Bool := l.all (fun s => decide (s.2.2.2.length ≤ 100)) && decide (l.length ≤ 100)
abbrev lp7 (l : List SN) : Nat → Option LoopSp := fun _ => some { X := Nat, sl := fun k => [(0, .one (.rd shS l)), (3, .one (vi k))], h := fun k => [], nx := 0, inv := fun k => k ≤ l.length ∧ (l.take k).all (fun s => decide (s.2.2.2.length ≤ 100)) = true, mu := fun k => l.length - k }
theorem v7 : Valid Try.prog 7 (.tot (tS [pSts] [pB] fairF)) := by
  refine tS_ok mixed Tbl_ok M4_ok Try.func7 call7 rfl rfl rfl ?_
  intro (l : List SN) hr z hz
  subst hz
  refine ⟨lp7 l, ?_⟩
  refine Eq.mp (by kernel_rfl : ((∃ (x : Nat), (x ≤ l.length ∧ ((List.take x l).all fun (s : SN) => decide (s.snd.snd.snd.length ≤ (100 : Nat))) = true) ∧ l ≍ l ∧ (0 : Int) = (↑x : Int) ∧ True) ∧ ∀ (x : Nat), x ≤ l.length ∧ ((List.take x l).all fun (s : SN) => decide (s.snd.snd.snd.length ≤ (100 : Nat))) = true → (decide ((↑x : Int) < (↑l.length : Int)) = true → ((0 : Int) ≤ (↑x : Int) ∧ (↑x : Int) < (↑l.length : Int)) ∧ ∀ (y : Int × Int × (Int × Int × Int × Int × Int) × List (Int × Int × Int × Int × Int)), l[(↑x : Int).toNat]? = some y → (decide ((↑y.snd.snd.snd.length : Int) > (100 : Int)) = true → false = fairF l ∧ True) ∧ (decide ((↑y.snd.snd.snd.length : Int) > (100 : Int)) = false → ((-9223372036854775808 : Int) ≤ (↑x : Int) + (1 : Int) ∧ (↑x : Int) + (1 : Int) ≤ (9223372036854775807 : Int)) ∧ ∃ (y : Nat), (y ≤ l.length ∧ ((List.take y l).all fun (s : SN) => decide (s.snd.snd.snd.length ≤ (100 : Nat))) = true) ∧ l.length - y < l.length - x ∧ l ≍ l ∧ (↑x : Int) + (1 : Int) = (↑y : Int) ∧ True)) ∧ (decide ((↑x : Int) < (↑l.length : Int)) = false → decide ((↑l.length : Int) ≤ (100 : Int)) = fairF l ∧ True)) = _) ?_
  have hl : l.length ≤ maxLen := hr.1
  unfold maxLen at hl
  refine ⟨⟨0, ⟨by omega, by simp⟩, HEq.rfl, rfl, trivial⟩, fun k hk => ⟨fun h1 => ?_, fun h1 => ?_⟩⟩
  · simp only [decide_eq_true_eq] at h1
    refine ⟨by omega, fun s hs => ?_⟩
    rw [Int.toNat_natCast] at hs
    refine ⟨fun h2 => ⟨?_, trivial⟩, fun h2 => ⟨by omega, k + 1, ⟨by omega, ?_⟩, by omega, HEq.rfl, by simp, trivial⟩⟩
    · have : l.all (fun s => decide (s.2.2.2.length ≤ 100)) = false := by
        rw [List.all_eq_false]
        refine ⟨s, List.mem_of_getElem? hs, ?_⟩
        simp only [decide_eq_true_eq] at h2 ⊢
        omega
      rw [fairF, this]; rfl
    · simp only [decide_eq_false_iff_not] at h2
      rw [List.take_add_one, hs, List.all_append, hk.2]
      simp; omega
  · simp only [decide_eq_false_iff_not] at h1
    have hf := hk.2
    rw [List.take_of_length_le (by omega)] at hf
    refine ⟨?_, trivial⟩
    rw [fairF, hf, Bool.eq_iff_iff]
    simp
    omega
theorem v8 : Valid Try.prog 8 (.tot (tS [] [pB] fun _ => true)) := by
  refine tS_ok mixed Tbl_ok M4_ok Try.func8 call8 rfl rfl rfl ?_
  rintro _ hr z rfl
  refine ⟨noLoop, ?_⟩
  refine Eq.mp (by kernel_rfl : (([] : List Int).length ≤ (100000 : Nat) ∧ ∀ (x : Int) (x_1 : Bool) (x_2 : List (Int × Int × Int × Int × Int)) (x_3 : List Int) (x_4 : List (Int × Int)), x = (↑([] : List Int).length : Int) ∧ x_1 = false ∧ x_2 = ([] : List (Int × Int × Int × Int × Int)) ∧ x_3 = ([] : List Int) ++ (-1 : Int) :: ([] : List Int) ∧ x_4 = ([] : List (Int × Int)) → (x_2.length ≤ (100000 : Nat) ∧ x_4.length ≤ (100000 : Nat)) ∧ ∀ (x_5 : Bool) (x_6 : List (Int × Int × Int × Int × Int)) (x_7 : List Int) (x_8 : List (Int × Int)), (x_5 = (x_1 || !jok (17 : Int) x x_3) ∧ (x_6 = if jok (17 : Int) x x_3 = true then x_2 ++ ((17 : Int), (0 : Int), (0 : Int), (0 : Int), (0 : Int)) :: ([] : List (Int × Int × Int × Int × Int)) else x_2) ∧ x_7 = x_3 ∧ x_8 = if jok (17 : Int) x x_3 = true then x_4 ++ ((↑x_2.length : Int), x) :: ([] : List (Int × Int)) else x_4) → (x_6.length + (((0 : Int), (0 : Int), (0 : Int), (0 : Int), (0 : Int)) :: ([] : List (Int × Int × Int × Int × Int))).length) * (40 : Nat) ≤ (140737488355328 : Nat) ∧ True ∧ ∀ (x_9 : Bool) (x_10 : List (Int × Int × Int × Int × Int)) (x_11 : List Int) (x_12 : List (Int × Int)), x_9 = (x_5 || !fit x x_7) ∧ x_10 = x_6 ++ ((0 : Int), (0 : Int), (0 : Int), (0 : Int), (0 : Int)) :: ([] : List (Int × Int × Int × Int × Int)) ∧ (x_11 = if fit x x_7 = true then x_7.set x.toNat (↑(x_6 ++ ((0 : Int), (0 : Int), (0 : Int), (0 : Int), (0 : Int)) :: ([] : List (Int × Int × Int × Int × Int))).length : Int) else x_7) ∧ x_12 = x_8 → (x_10.length + (((22 : Int), (0 : Int), (0 : Int), (0 : Int), (0 : Int)) :: ([] : List (Int × Int × Int × Int × Int))).length) * (40 : Nat) ≤ (140737488355328 : Nat) ∧ ((∀ (j : JN), j ∈ x_12 → ((0 : Int) ≤ j.fst ∧ j.fst < (↑(x_10 ++ ((22 : Int), (0 : Int), (0 : Int), (0 : Int), (0 : Int)) :: ([] : List (Int × Int × Int × Int × Int))).length : Int)) ∧ (0 : Int) ≤ j.snd ∧ j.snd < (↑x_11.length : Int)) ∧ (x_10 ++ ((22 : Int), (0 : Int), (0 : Int), (0 : Int), (0 : Int)) :: ([] : List (Int × Int × Int × Int × Int))).length ≤ (100000 : Nat)) ∧ ∀ (x : Int) (x_13 : Bool) (x_14 : List (Int × Int × Int × Int × Int)) (x_15 : List Int) (x_16 : List (Int × Int)) (x_17 : List Int), (x_17, x) = doneB x_9 (x_10 ++ ((22 : Int), (0 : Int), (0 : Int), (0 : Int), (0 : Int)) :: ([] : List (Int × Int × Int × Int × Int))) x_11 x_12 ∧ x_13 = x_9 ∧ x_14 = x_10 ++ ((22 : Int), (0 : Int), (0 : Int), (0 : Int), (0 : Int)) :: ([] : List (Int × Int × Int × Int × Int)) ∧ x_15 = x_11 ∧ x_16 = x_12 → ((x == (0 : Int)) = true → True ∧ ∀ (x : Int) (x_18 : Bool) (x_19 : List (Int × Int × Int × Int × Int)) (x_20 : List Int) (x_21 : List (Int × Int)), x = (↑x_14.length : Int) ∧ x_18 = x_13 ∧ x_19 = x_14 ∧ x_20 = x_15 ∧ x_21 = x_16 → ((x == (3 : Int)) = true → (((17 : Int), (0 : Int), (0 : Int), (0 : Int), (2 : Int)) :: ((0 : Int), (0 : Int), (0 : Int), (0 : Int), (0 : Int)) :: ((22 : Int), (0 : Int), (0 : Int), (0 : Int), (0 : Int)) :: ([] : List (Int × Int × Int × Int × Int))).length ≤ (100000 : Nat) ∧ ∀ (y : Tup (pUs :: ([] : List PS))), y = codeF (((17 : Int), (0 : Int), (0 : Int), (0 : Int), (2 : Int)) :: ((0 : Int), (0 : Int), (0 : Int), (0 : Int), (0 : Int)) :: ((22 : Int), (0 : Int), (0 : Int), (0 : Int), (0 : Int)) :: ([] : List (Int × Int × Int × Int × Int))) → eqB x_17 y = true ∧ True) ∧ ((x == (3 : Int)) = false → false = true ∧ True)) ∧ ((x == (0 : Int)) = false → false = true ∧ True)) = _) ?_
  refine ⟨by simp, ?_⟩
  rintro _ _ _ _ _ ⟨rfl, rfl, rfl, rfl, rfl⟩
  refine ⟨⟨by simp, by simp⟩, ?_⟩
  rintro _ _ _ _ ⟨rfl, rfl, rfl, rfl⟩
  refine ⟨by decide, trivial, ?_⟩
  rintro _ _ _ _ ⟨rfl, rfl, rfl, rfl⟩
  refine ⟨by decide, ⟨by decide, by decide⟩, ?_⟩
  rintro e b l ms js o ⟨h, rfl, rfl, rfl, rfl⟩
  have h := Eq.trans h (show _ = (codeF [(17, 0, 0, 0, 2), (0, 0, 0, 0, 0), (22, 0, 0, 0, 0)], 0) from by kernel_rfl)
  cases h
  refine ⟨fun _ => ⟨trivial, ?_⟩, fun h => by simp at h⟩
  rintro _ _ _ _ _ ⟨rfl, rfl, rfl, rfl, rfl⟩
  refine ⟨fun _ => ⟨by decide, ?_⟩, fun h => absurd h (by decide)⟩
  rintro _ rfl
  exact ⟨eqB_self _, trivial⟩
end Go.Proofs.Yteddnnljmdjfbaa.V
