import Derived.KernelRfl
import Derived.Test.YteddnnljmdjfbaaEb
namespace Go.Proofs.Yteddnnljmdjfbaa.V
open Go.RowKit Go.Proofs.Yteddnnljmdjfbaa
set_option linter.unusedSimpArgs false
theorem c9 : CallOk Try.prog 9 := ⟨_, Try.func9, by kernel_rfl, by kernel_rfl⟩
abbrev M2 : List (Nat × Spec) := (13, .full (callsP [here1, here2])) :: (14, .full rhere1.call) :: (11, .full (callsP [mark1, mark2])) :: (12, .full rmark1.call) :: inl1 9 Try.f9 M1 :: M1
theorem M2_all : ∀ p ∈ M2, Valid Try.prog p.1 p.2 := vcons v13 (vcons v14 (vcons v11 (vcons v12 (vcons (valid_inl mixed Tbl_ok M1_ok Try.func9 c9 noLp) M1_all))))
theorem M2_ok : ∀ f S, spL M2 f = some S → Valid Try.prog f S := spL_ok M2_all
/-- Does a jump to that mark stand? -/
def jok (op m : Int) (ms : List Int) : Bool := isM m ms && jmpF op
def rjump1 : PT where
  ps := [.one (.p 0 0), .agg [I, I, I, I, I], .one I]
  rg := rR
  na := 3
  rs := []
  out := [(0, .blk [.s 3, .s 2, B] 34), (3, .own 56 shT), (2, .own 3 shi)]
  nx := 4
  pre := fun (_, _, _, _, _, _, _, l, _, _) => l.length ≤ 100000
  post := fun (op, a, b, c, x, m, bad, l, ms, _) (bad', l', ms', _) => bad' = (bad || !jok op m ms) ∧ l' = (if jok op m ms = true then l ++ [((op, a, b, c, x), m)] else l) ∧ ms' = ms
theorem v16 : Valid Try.prog 16 (.full rjump1.call) := by
  refine valid_P mixed Tbl_ok M2_ok Try.func16 call16 ?_
  intro (op : Int) (a : Int) (b : Int) (c : Int) (x : Int) (m : Int) (bad : Bool) (l : List TN) (ms : List Int) hp hr hh
  refine ⟨noLoop, ?_⟩
  refine Eq.mp (by kernel_rfl : (((decide (m < (0 : Int)) || decide (m ≥ (↑ms.length : Int)) || op != (17 : Int) && op != (18 : Int) && op != (19 : Int) && op != (20 : Int)) = true → ∃ (x_1 : Bool), ∃ (x_2 : List ((Int × Int × Int × Int × Int) × Int)), ∃ (x_3 : List Int), (true = x_1 ∧ l ≍ x_2 ∧ ms ≍ x_3 ∧ True) ∧ x_1 = (bad || !jok op m ms) ∧ (x_2 = if jok op m ms = true then l ++ ((op, a, b, c, x), m) :: ([] : List ((Int × Int × Int × Int × Int) × Int)) else l) ∧ x_3 = ms) ∧ ((decide (m < (0 : Int)) || decide (m ≥ (↑ms.length : Int)) || op != (17 : Int) && op != (18 : Int) && op != (19 : Int) && op != (20 : Int)) = false → (l.length + (((op, a, b, c, x), m) :: ([] : List ((Int × Int × Int × Int × Int) × Int))).length) * (48 : Nat) ≤ (140737488355328 : Nat) ∧ ∃ (x_1 : Bool), ∃ (x_2 : List ((Int × Int × Int × Int × Int) × Int)), ∃ (x_3 : List Int), (bad = x_1 ∧ l ++ ((op, a, b, c, x), m) :: ([] : List ((Int × Int × Int × Int × Int) × Int)) ≍ x_2 ∧ ms ≍ x_3 ∧ True) ∧ x_1 = (bad || !jok op m ms) ∧ (x_2 = if jok op m ms = true then l ++ ((op, a, b, c, x), m) :: ([] : List ((Int × Int × Int × Int × Int) × Int)) else l) ∧ x_3 = ms)) = _) ?_
  have hp : l.length ≤ 100000 := hp
  have hj : jok op m ms = !(decide (m < 0) || decide (m ≥ (ms.length : Int)) || op != 17 && op != 18 && op != 19 && op != 20) := by
    rw [Bool.eq_iff_iff]
    simp [jok, isM, jmpF]
    omega
  refine ⟨fun h => ?_, fun h => ?_⟩ <;> rw [h] at hj <;> rw [hj]
  · exact ⟨_, _, _, ⟨rfl, HEq.rfl, HEq.rfl, trivial⟩, by simp, rfl, rfl⟩
  · exact ⟨by simp; omega, _, _, _, ⟨rfl, HEq.rfl, HEq.rfl, trivial⟩, by simp, rfl, rfl⟩
end Go.Proofs.Yteddnnljmdjfbaa.V
