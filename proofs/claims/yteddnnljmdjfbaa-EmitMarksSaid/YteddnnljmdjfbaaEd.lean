import Derived.KernelRfl
import Derived.Test.YteddnnljmdjfbaaEc
namespace Go.Proofs.Yteddnnljmdjfbaa.V
open Go.RowKit Go.Proofs.Yteddnnljmdjfbaa
set_option linter.unusedSimpArgs false
def jump1 : PT where
  ps := [.one (.p 0 0), .agg [I, I, I, I, I], .one I]
  rg := bR
  na := 4
  rs := []
  out := [(0, .blk [.s 4, .s 2, .s 5, B] 30), (4, .own 36 shI), (2, .own 3 shi), (5, .own 59 shJ)]
  nx := 6
  pre := fun (_, _, _, _, _, _, _, l, _, js, _) => l.length ≤ 100000 ∧ js.length ≤ 100000
  post := fun (op, a, b, c, x, m, bad, l, ms, js, _) (bad', l', ms', js', _) => bad' = (bad || !jok op m ms) ∧ l' = (if jok op m ms = true then l ++ [(op, a, b, c, x)] else l) ∧ ms' = ms ∧ js' = (if jok op m ms = true then js ++ [((l.length : Int), m)] else js)
def jump2 : PT where
  ps := [.one .nil, .agg [I, I, I, I, I], .one I]
  rg := []
  na := 0
  rs := []
  out := []
  nx := 0
  pre := fun _ => True
  post := fun _ _ => True
theorem v15 : Valid Try.prog 15 (.full (callsP [jump1, jump2])) := by
  refine valid_Ps mixed Tbl_ok M2_ok Try.func15 call15 ⟨?a, ?b, trivial⟩
  case a =>
    intro (op : Int) (a : Int) (b : Int) (c : Int) (x : Int) (m : Int) (bad : Bool) (l : List IN) (ms : List Int) (js : List JN) hp hr hh
    refine ⟨noLoop, ?_⟩
    refine Eq.mp (by kernel_rfl : (((!(decide (m ≥ (0 : Int)) && decide (m < (↑ms.length : Int))) || decide (op < (17 : Int)) || decide (op > (20 : Int))) = true → ∃ (x_1 : Bool), ∃ (x_2 : List (Int × Int × Int × Int × Int)), ∃ (x_3 : List Int), ∃ (x_4 : List (Int × Int)), (true = x_1 ∧ l ≍ x_2 ∧ ms ≍ x_3 ∧ js ≍ x_4 ∧ True) ∧ x_1 = (bad || !jok op m ms) ∧ (x_2 = if jok op m ms = true then l ++ (op, a, b, c, x) :: ([] : List (Int × Int × Int × Int × Int)) else l) ∧ x_3 = ms ∧ x_4 = if jok op m ms = true then js ++ ((↑l.length : Int), m) :: ([] : List (Int × Int)) else js) ∧ ((!(decide (m ≥ (0 : Int)) && decide (m < (↑ms.length : Int))) || decide (op < (17 : Int)) || decide (op > (20 : Int))) = false → (js.length + (((↑l.length : Int), m) :: ([] : List (Int × Int))).length) * (16 : Nat) ≤ (140737488355328 : Nat) ∧ (l.length + ((op, a, b, c, x) :: ([] : List (Int × Int × Int × Int × Int))).length) * (40 : Nat) ≤ (140737488355328 : Nat) ∧ ∃ (x_1 : Bool), ∃ (x_2 : List (Int × Int × Int × Int × Int)), ∃ (x_3 : List Int), ∃ (x_4 : List (Int × Int)), (bad = x_1 ∧ l ++ (op, a, b, c, x) :: ([] : List (Int × Int × Int × Int × Int)) ≍ x_2 ∧ ms ≍ x_3 ∧ js ++ ((↑l.length : Int), m) :: ([] : List (Int × Int)) ≍ x_4 ∧ True) ∧ x_1 = (bad || !jok op m ms) ∧ (x_2 = if jok op m ms = true then l ++ (op, a, b, c, x) :: ([] : List (Int × Int × Int × Int × Int)) else l) ∧ x_3 = ms ∧ x_4 = if jok op m ms = true then js ++ ((↑l.length : Int), m) :: ([] : List (Int × Int)) else js)) = _) ?_
    have hp : l.length ≤ 100000 ∧ js.length ≤ 100000 := hp
    have hj : jok op m ms = !(!(decide (m ≥ 0) && decide (m < (ms.length : Int))) || decide (op < 17) || decide (op > 20)) := by
      rw [Bool.eq_iff_iff]
      simp [jok, isM, jmpF]
      try omega
    refine ⟨fun h => ?_, fun h => ?_⟩ <;> rw [h] at hj <;> rw [hj]
    · exact ⟨_, _, _, _, ⟨rfl, HEq.rfl, HEq.rfl, HEq.rfl, trivial⟩, by simp, rfl, rfl, rfl⟩
    · exact ⟨by simp; omega, by simp; omega, _, _, _, _, ⟨rfl, HEq.rfl, HEq.rfl, HEq.rfl, trivial⟩, by simp, rfl, rfl, rfl⟩
  case b =>
    intro op a b c x m hp hr hh
    refine ⟨noLoop, ?_⟩
    refine Eq.mp (by kernel_rfl : (True ∧ True) = _) ?_
    exact ⟨trivial, trivial⟩
end Go.Proofs.Yteddnnljmdjfbaa.V
