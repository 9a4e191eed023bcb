import Derived.KernelRfl
import Derived.Test.YteddnnljmdjfbaaIc
import Derived.Test.YteddnnljmdjfbaaKitVq
namespace Go.Proofs.Yteddnnljmdjfbaa.V
open Go.RowKit Go.Proofs.Yteddnnljmdjfbaa
set_option linter.unusedSimpArgs false
abbrev I : PC := .d (.int .i64)
abbrev B : PC := .d .bool
abbrev shJ : Sh := .pair (.int .i64) (.int .i64)
abbrev shT : Sh := .pair shI (.int .i64)
abbrev shi : Sh := .int .i64
abbrev JN := Int × Int
abbrev TN := IN × Int
/-- A builder: its block 0, instructions 1, marks 2, jumps 3. -/
abbrev bR : List (Nat × PR) := [(0, .blk [.s 1, .s 2, .s 3, B] 30), (1, .own 36 shI), (2, .own 3 shi), (3, .own 59 shJ)]
/-- The document's: its block 0, items 1, marks 2. -/
abbrev rR : List (Nat × PR) := [(0, .blk [.s 1, .s 2, B] 34), (1, .own 56 shT), (2, .own 3 shi)]
def mark1 : PT where
  ps := [.one (.p 0 0)]
  rg := bR
  na := 4
  rs := [.one I]
  out := [(0, .blk [.s 1, .s 4, .s 3, B] 30), (1, .own 36 shI), (4, .own 3 shi), (3, .own 59 shJ)]
  nx := 5
  pre := fun (_, _, ms, _, _) => ms.length ≤ 100000
  post := fun (bad, l, ms, js, _) (e, bad', l', ms', js', _) => e = ms.length ∧ bad' = bad ∧ l' = l ∧ ms' = ms ++ [-1] ∧ js' = js
def mark2 : PT where
  ps := [.one .nil]
  rg := []
  na := 0
  rs := [.one I]
  out := []
  nx := 0
  pre := fun _ => True
  post := fun _ (e, _) => e = -1
def rmark1 : PT where
  ps := [.one (.p 0 0)]
  rg := rR
  na := 3
  rs := [.one I]
  out := [(0, .blk [.s 1, .s 3, B] 34), (1, .own 56 shT), (3, .own 3 shi)]
  nx := 4
  pre := fun (_, _, ms, _) => ms.length ≤ 100000
  post := fun (bad, l, ms, _) (e, bad', l', ms', _) => e = ms.length ∧ bad' = bad ∧ l' = l ∧ ms' = ms ++ [-1]
abbrev LE : List (Nat × Spec) := L9
theorem LE_ok : ∀ f S, spL LE f = some S → Valid Try.prog f S := L9_ok
theorem v11 : Valid Try.prog 11 (.full (callsP [mark1, mark2])) := by
  refine valid_Ps mixed Tbl_ok LE_ok Try.func11 call11 ⟨?a, ?b, trivial⟩
  case a =>
    intro (bad : Bool) (l : List IN) (ms : List Int) (js : List JN) hp hr hh
    refine ⟨noLoop, ?_⟩
    refine Eq.mp (by kernel_rfl : ((ms.length + ((-1 : Int) :: ([] : List Int)).length) * (8 : Nat) ≤ (140737488355328 : Nat) ∧ ((-9223372036854775808 : Int) ≤ (↑(ms ++ (-1 : Int) :: ([] : List Int)).length : Int) - (1 : Int) ∧ (↑(ms ++ (-1 : Int) :: ([] : List Int)).length : Int) - (1 : Int) ≤ (9223372036854775807 : Int)) ∧ ∃ (x : Int), ∃ (x_1 : Bool), ∃ (x_2 : List (Int × Int × Int × Int × Int)), ∃ (x_3 : List Int), ∃ (x_4 : List (Int × Int)), ((↑(ms ++ (-1 : Int) :: ([] : List Int)).length : Int) - (1 : Int) = x ∧ bad = x_1 ∧ l ≍ x_2 ∧ ms ++ (-1 : Int) :: ([] : List Int) ≍ x_3 ∧ js ≍ x_4 ∧ True) ∧ x = (↑ms.length : Int) ∧ x_1 = bad ∧ x_2 = l ∧ x_3 = ms ++ (-1 : Int) :: ([] : List Int) ∧ x_4 = js) = _) ?_
    have hp : ms.length ≤ 100000 := hp
    refine ⟨(by simp; try omega), ⟨(by simp; try omega), (by simp; try omega)⟩, _, _, _, _, _, ⟨rfl, rfl, HEq.rfl, HEq.rfl, HEq.rfl, trivial⟩, by simp, rfl, rfl, rfl, rfl⟩
  case b =>
    intro hp hr hh
    refine ⟨noLoop, ?_⟩
    refine Eq.mp (by kernel_rfl : (∃ (x : Int), ((-1 : Int) = x ∧ True) ∧ x = (-1 : Int)) = _) ?_
    exact ⟨_, ⟨rfl, trivial⟩, rfl⟩
theorem v12 : Valid Try.prog 12 (.full rmark1.call) := by
  refine valid_P mixed Tbl_ok LE_ok Try.func12 call12 ?_
  intro (bad : Bool) (l : List TN) (ms : List Int) hp hr hh
  refine ⟨noLoop, ?_⟩
  refine Eq.mp (by kernel_rfl : ((ms.length + ((-1 : Int) :: ([] : List Int)).length) * (8 : Nat) ≤ (140737488355328 : Nat) ∧ ((-9223372036854775808 : Int) ≤ (↑(ms ++ (-1 : Int) :: ([] : List Int)).length : Int) - (1 : Int) ∧ (↑(ms ++ (-1 : Int) :: ([] : List Int)).length : Int) - (1 : Int) ≤ (9223372036854775807 : Int)) ∧ ∃ (x : Int), ∃ (x_1 : Bool), ∃ (x_2 : List ((Int × Int × Int × Int × Int) × Int)), ∃ (x_3 : List Int), ((↑(ms ++ (-1 : Int) :: ([] : List Int)).length : Int) - (1 : Int) = x ∧ bad = x_1 ∧ l ≍ x_2 ∧ ms ++ (-1 : Int) :: ([] : List Int) ≍ x_3 ∧ True) ∧ x = (↑ms.length : Int) ∧ x_1 = bad ∧ x_2 = l ∧ x_3 = ms ++ (-1 : Int) :: ([] : List Int)) = _) ?_
  have hp : ms.length ≤ 100000 := hp
  refine ⟨(by simp; try omega), ⟨(by simp; try omega), (by simp; try omega)⟩, _, _, _, _, ⟨rfl, rfl, HEq.rfl, HEq.rfl, trivial⟩, by simp, rfl, rfl, rfl⟩
def isM (m : Int) (ms : List Int) : Bool := decide (m ≥ 0) && decide (m < (ms.length : Int))
def fit (m : Int) (ms : List Int) : Bool := isM m ms && decide (ms.getD m.toNat 0 < 0)
def rhere1 : PT where
  ps := [.one (.p 0 0), .one I]
  rg := rR
  na := 3
  rs := []
  out := rR
  nx := 3
  pre := fun _ => True
  post := fun (m, bad, l, ms, _) (bad', l', ms', _) => bad' = (bad || !fit m ms) ∧ l' = l ∧ ms' = (if fit m ms = true then ms.set m.toNat l.length else ms)
theorem fit_out {m : Int} {ms : List Int} (h : ¬ (0 ≤ m ∧ m < (ms.length : Int))) : fit m ms = false := by
  have : isM m ms = false := by rw [← Bool.not_eq_true]; simp [isM]; omega
  simp [fit, this]
theorem fit_in {m y : Int} {ms : List Int} (h : 0 ≤ m ∧ m < (ms.length : Int)) (hy : ms[m.toNat]? = some y) : fit m ms = decide (y < 0) := by
  have : isM m ms = true := by simp [isM]; omega
  simp [fit, this, List.getD, hy]
theorem v14 : Valid Try.prog 14 (.full rhere1.call) := by
  refine valid_P mixed Tbl_ok LE_ok Try.func14 call14 ?_
  intro (m : Int) (bad : Bool) (l : List TN) (ms : List Int) hp hr hh
  refine ⟨noLoop, ?_⟩
  refine Eq.mp (by kernel_rfl : (((decide (m < (0 : Int)) || decide (m ≥ (↑ms.length : Int))) = true → ∃ (x : Bool), ∃ (x_1 : List ((Int × Int × Int × Int × Int) × Int)), ∃ (x_2 : List Int), (true = x ∧ l ≍ x_1 ∧ ms ≍ x_2 ∧ True) ∧ x = (bad || !fit m ms) ∧ x_1 = l ∧ x_2 = if fit m ms = true then ms.set m.toNat (↑l.length : Int) else ms) ∧ ((decide (m < (0 : Int)) || decide (m ≥ (↑ms.length : Int))) = false → ((0 : Int) ≤ m ∧ m < (↑ms.length : Int)) ∧ m.toNat < ms.length ∧ ∀ (y : Int), ms[m.toNat]? = some y → (decide (y ≥ (0 : Int)) = true → ∃ (x : Bool), ∃ (x_1 : List ((Int × Int × Int × Int × Int) × Int)), ∃ (x_2 : List Int), (true = x ∧ l ≍ x_1 ∧ ms ≍ x_2 ∧ True) ∧ x = (bad || !fit m ms) ∧ x_1 = l ∧ x_2 = if fit m ms = true then ms.set m.toNat (↑l.length : Int) else ms) ∧ (decide (y ≥ (0 : Int)) = false → ((0 : Int) ≤ m ∧ m < (↑ms.length : Int)) ∧ m.toNat < ms.length ∧ ∀ (z : Int), ms[m.toNat]? = some z → ∃ (x : Bool), ∃ (x_1 : List ((Int × Int × Int × Int × Int) × Int)), ∃ (x_2 : List Int), (bad = x ∧ l ≍ x_1 ∧ ms.set m.toNat (↑l.length : Int) ≍ x_2 ∧ True) ∧ x = (bad || !fit m ms) ∧ x_1 = l ∧ x_2 = if fit m ms = true then ms.set m.toNat (↑l.length : Int) else ms))) = _) ?_
  refine ⟨fun h => ?_, fun h => ?_⟩
  · have hf : fit m ms = false := fit_out (by simp at h; omega)
    rw [hf]
    exact ⟨_, _, _, ⟨rfl, HEq.rfl, HEq.rfl, trivial⟩, by simp, rfl, rfl⟩
  · have hm : 0 ≤ m ∧ m < (ms.length : Int) := by simp at h; omega
    refine ⟨hm, by omega, fun y hy => ?_⟩
    have hf := fit_in hm hy
    refine ⟨fun h2 => ?_, fun h2 => ⟨hm, by omega, fun z hz => ?_⟩⟩
    · have : fit m ms = false := by rw [hf]; simp at h2 ⊢; omega
      rw [this]
      exact ⟨_, _, _, ⟨rfl, HEq.rfl, HEq.rfl, trivial⟩, by simp, rfl, rfl⟩
    · have : fit m ms = true := by rw [hf]; simp at h2 ⊢; omega
      rw [this]
      exact ⟨_, _, _, ⟨rfl, HEq.rfl, HEq.rfl, trivial⟩, by simp, rfl, rfl⟩
end Go.Proofs.Yteddnnljmdjfbaa.V
