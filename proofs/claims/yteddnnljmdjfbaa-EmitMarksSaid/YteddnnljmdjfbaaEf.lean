import Derived.KernelRfl
import Derived.Test.YteddnnljmdjfbaaEe
namespace Go.Proofs.Yteddnnljmdjfbaa.V
open Go.RowKit Go.Proofs.Yteddnnljmdjfbaa
set_option linter.unusedSimpArgs false
def clone1 : PT where
  ps := [.one (.s 0)]
  rg := [(0, .own 36 shI)]
  na := 1
  rs := [.one (.s 1)]
  out := [(0, .own 36 shI), (1, .own 36 shI)]
  nx := 2
  pre := fun (ls, _) => ls.length ≤ 100000
  post := fun (ls, _) (a, b, _) => a = ls ∧ b = ls
theorem c24 : CallOk Try.prog 24 := ⟨_, Try.func24, by kernel_rfl, by kernel_rfl⟩
theorem v24 : Valid Try.prog 24 (.full clone1.call) := by
  refine valid_P mixed Tbl_ok M2_ok Try.func24 c24 ?_
  intro (ls : List IN) hp hr hh
  refine ⟨noLoop, ?_⟩
  refine Eq.mp (by kernel_rfl : ((ls = ([] : List (Int × Int × Int × Int × Int)) → ∃ (x : List (Int × Int × Int × Int × Int)), ∃ (x_1 : List (Int × Int × Int × Int × Int)), (ls ≍ x ∧ x_1 = ([] : List (Int × Int × Int × Int × Int)) ∧ True) ∧ x = ls ∧ x_1 = ls) ∧ (([] : List (Int × Int × Int × Int × Int)).length + ls.length) * (40 : Nat) ≤ (140737488355328 : Nat) ∧ ∃ (x : List (Int × Int × Int × Int × Int)), ∃ (x_1 : List (Int × Int × Int × Int × Int)), (ls ≍ x ∧ ([] : List (Int × Int × Int × Int × Int)) ++ ls ≍ x_1 ∧ True) ∧ x = ls ∧ x_1 = ls) = _) ?_
  have hp : ls.length ≤ 100000 := hp
  refine ⟨?_, by simp; omega, _, _, ⟨HEq.rfl, HEq.rfl, trivial⟩, rfl, rfl⟩
  rintro rfl
  exact ⟨_, _, ⟨HEq.rfl, rfl, trivial⟩, rfl, rfl⟩
def len1 : PT where
  ps := [.one (.p 0 0)]
  rg := bR
  na := 4
  rs := [.one I]
  out := bR
  nx := 4
  pre := fun _ => True
  post := fun (bad, l, ms, js, _) (e, bad', l', ms', js', _) => e = l.length ∧ bad' = bad ∧ l' = l ∧ ms' = ms ∧ js' = js
def len2 : PT where
  ps := [.one .nil]
  rg := []
  na := 0
  rs := [.one I]
  out := []
  nx := 0
  pre := fun _ => True
  post := fun _ (e, _) => e = 0
theorem v17 : Valid Try.prog 17 (.full (callsP [len1, len2])) := by
  refine valid_Ps mixed Tbl_ok M2_ok Try.func17 call17 ⟨?a, ?b, trivial⟩
  case a =>
    intro (bad : Bool) (l : List IN) (ms : List Int) (js : List JN) hp hr hh
    refine ⟨noLoop, ?_⟩
    refine Eq.mp (by kernel_rfl : (∃ (x : Int), ∃ (x_1 : Bool), ∃ (x_2 : List (Int × Int × Int × Int × Int)), ∃ (x_3 : List Int), ∃ (x_4 : List (Int × Int)), ((↑l.length : Int) = x ∧ bad = x_1 ∧ l ≍ x_2 ∧ ms ≍ x_3 ∧ js ≍ x_4 ∧ True) ∧ x = (↑l.length : Int) ∧ x_1 = bad ∧ x_2 = l ∧ x_3 = ms ∧ x_4 = js) = _) ?_
    exact ⟨_, _, _, _, _, ⟨rfl, rfl, HEq.rfl, HEq.rfl, HEq.rfl, trivial⟩, rfl, rfl, rfl, rfl, rfl⟩
  case b =>
    intro hp hr hh
    refine ⟨noLoop, ?_⟩
    refine Eq.mp (by kernel_rfl : (∃ (x : Int), ((0 : Int) = x ∧ True) ∧ x = (0 : Int)) = _) ?_
    exact ⟨_, ⟨rfl, trivial⟩, rfl⟩
abbrev M3 : List (Nat × Spec) := (24, .full clone1.call) :: (17, .full (callsP [len1, len2])) :: (10, .full radd1.call) :: (15, .full (callsP [jump1, jump2])) :: (16, .full rjump1.call) :: M2
theorem M3_all : ∀ p ∈ M3, Valid Try.prog p.1 p.2 := vcons v24 (vcons v17 (vcons v10 (vcons v15 (vcons v16 M2_all))))
theorem M3_ok : ∀ f S, spL M3 f = some S → Valid Try.prog f S := spL_ok M3_all
end Go.Proofs.Yteddnnljmdjfbaa.V
