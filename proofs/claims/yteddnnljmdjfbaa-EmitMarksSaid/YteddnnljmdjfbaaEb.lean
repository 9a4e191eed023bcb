import Derived.KernelRfl
import Derived.Test.YteddnnljmdjfbaaEa
namespace Go.Proofs.Yteddnnljmdjfbaa.V
open Go.RowKit Go.Proofs.Yteddnnljmdjfbaa
set_option linter.unusedSimpArgs false
theorem c23 : CallOk Try.prog 23 := ⟨_, Try.func23, by kernel_rfl, by kernel_rfl⟩
abbrev M1 : List (Nat × Spec) := inl1 23 Try.f23 LE :: LE
theorem M1_all : ∀ p ∈ M1, Valid Try.prog p.1 p.2 := vcons (valid_inl mixed Tbl_ok LE_ok Try.func23 c23 noLp) L9_all
theorem M1_ok : ∀ f S, spL M1 f = some S → Valid Try.prog f S := spL_ok M1_all
def here1 : PT where
  ps := [.one (.p 0 0), .one I]
  rg := bR
  na := 4
  rs := []
  out := bR
  nx := 4
  pre := fun _ => True
  post := fun (m, bad, l, ms, js, _) (bad', l', ms', js', _) => bad' = (bad || !fit m ms) ∧ l' = l ∧ ms' = (if fit m ms = true then ms.set m.toNat l.length else ms) ∧ js' = js
def here2 : PT where
  ps := [.one .nil, .one I]
  rg := []
  na := 0
  rs := []
  out := []
  nx := 0
  pre := fun _ => True
  post := fun _ _ => True
theorem v13 : Valid Try.prog 13 (.full (callsP [here1, here2])) := by
  refine valid_Ps mixed Tbl_ok M1_ok Try.func13 call13 ⟨?a, ?b, trivial⟩
  case a =>
    intro (m : Int) (bad : Bool) (l : List IN) (ms : List Int) (js : List JN) hp hr hh
    refine ⟨noLoop, ?_⟩
    refine Eq.mp (by kernel_rfl : (((!(decide (m ≥ (0 : Int)) && decide (m < (↑ms.length : Int)))) = true → ∃ (x : Bool), ∃ (x_1 : List (Int × Int × Int × Int × Int)), ∃ (x_2 : List Int), ∃ (x_3 : List (Int × Int)), (true = x ∧ l ≍ x_1 ∧ ms ≍ x_2 ∧ js ≍ x_3 ∧ True) ∧ x = (bad || !fit m ms) ∧ x_1 = l ∧ (x_2 = if fit m ms = true then ms.set m.toNat (↑l.length : Int) else ms) ∧ x_3 = js) ∧ ((!(decide (m ≥ (0 : Int)) && decide (m < (↑ms.length : Int)))) = false → ((0 : Int) ≤ m ∧ m < (↑ms.length : Int)) ∧ m.toNat < ms.length ∧ ∀ (y : Int), ms[m.toNat]? = some y → (decide (y ≥ (0 : Int)) = true → ∃ (x : Bool), ∃ (x_1 : List (Int × Int × Int × Int × Int)), ∃ (x_2 : List Int), ∃ (x_3 : List (Int × Int)), (true = x ∧ l ≍ x_1 ∧ ms ≍ x_2 ∧ js ≍ x_3 ∧ True) ∧ x = (bad || !fit m ms) ∧ x_1 = l ∧ (x_2 = if fit m ms = true then ms.set m.toNat (↑l.length : Int) else ms) ∧ x_3 = js) ∧ (decide (y ≥ (0 : Int)) = false → ((0 : Int) ≤ m ∧ m < (↑ms.length : Int)) ∧ m.toNat < ms.length ∧ ∀ (z : Int), ms[m.toNat]? = some z → ∃ (x : Bool), ∃ (x_1 : List (Int × Int × Int × Int × Int)), ∃ (x_2 : List Int), ∃ (x_3 : List (Int × Int)), (bad = x ∧ l ≍ x_1 ∧ ms.set m.toNat (↑l.length : Int) ≍ x_2 ∧ js ≍ x_3 ∧ True) ∧ x = (bad || !fit m ms) ∧ x_1 = l ∧ (x_2 = if fit m ms = true then ms.set m.toNat (↑l.length : Int) else ms) ∧ x_3 = js))) = _) ?_
    refine ⟨fun h => ?_, fun h => ?_⟩
    · have hf : fit m ms = false := fit_out (by simp at h; omega)
      rw [hf]
      exact ⟨_, _, _, _, ⟨rfl, HEq.rfl, HEq.rfl, HEq.rfl, trivial⟩, by simp, rfl, rfl, rfl⟩
    · have hm : 0 ≤ m ∧ m < (ms.length : Int) := by simp at h; omega
      refine ⟨hm, by omega, fun y hy => ?_⟩
      have hf := fit_in hm hy
      refine ⟨fun h2 => ?_, fun h2 => ⟨hm, by omega, fun z hz => ?_⟩⟩
      · have : fit m ms = false := by rw [hf]; simp at h2 ⊢; omega
        rw [this]
        exact ⟨_, _, _, _, ⟨rfl, HEq.rfl, HEq.rfl, HEq.rfl, trivial⟩, by simp, rfl, rfl, rfl⟩
      · have : fit m ms = true := by rw [hf]; simp at h2 ⊢; omega
        rw [this]
        exact ⟨_, _, _, _, ⟨rfl, HEq.rfl, HEq.rfl, HEq.rfl, trivial⟩, by simp, rfl, rfl, rfl⟩
  case b =>
    intro m hp hr hh
    refine ⟨noLoop, ?_⟩
    refine Eq.mp (by kernel_rfl : (True ∧ True) = _) ?_
    exact ⟨trivial, trivial⟩
end Go.Proofs.Yteddnnljmdjfbaa.V
