import Derived.KernelRfl
import Derived.Test.YteddnnljmdjfbaaEd
namespace Go.Proofs.Yteddnnljmdjfbaa.V
open Go.RowKit Go.Proofs.Yteddnnljmdjfbaa
set_option linter.unusedSimpArgs false
def radd1 : PT where
  ps := [.one (.p 0 0), .one (.d (.sl shI))]
  rg := rR
  na := 3
  rs := []
  out := [(0, .blk [.s 3, .s 2, B] 34), (3, .own 56 shT), (2, .own 3 shi)]
  nx := 4
  pre := fun (d, _, l, _, _) => List.length d ≤ 100000 ∧ l.length ≤ 100000
  post := fun (d, bad, l, ms, _) (bad', l', ms', _) => bad' = bad ∧ l' = l ++ List.map (fun i : IN => (i, (-1 : Int))) d ∧ ms' = ms
abbrev lp10 (d : List IN) (bad : Bool) (l : List TN) (ms : List Int) : Nat → Option LoopSp := fun _ => some { X := Nat, sl := fun k => [(0, .one (.ptr 0 0)), (1, .one (.rd shI d)), (4, .one (.val (.int .i64 (k : Int))))], h := fun k => [(0, .blk [.sl 3, .sl 2, .val (.bool bad)] 34), (3, .own 56 shT (l ++ List.map (fun i : IN => (i, (-1 : Int))) (d.take k))), (2, .own 3 shi ms)], nx := 4, inv := fun k => k ≤ d.length, mu := fun k => d.length - k }
theorem v10 : Valid Try.prog 10 (.full radd1.call) := by
  refine valid_P mixed Tbl_ok M2_ok Try.func10 call10 ?_
  intro (d : List IN) (bad : Bool) (l : List TN) (ms : List Int) hp hr hh
  refine ⟨lp10 d bad l ms, ?_⟩
  refine Eq.mp (by kernel_rfl : ((∃ (x : Nat), x ≤ d.length ∧ d ≍ d ∧ (0 : Int) = (↑x : Int) ∧ bad = bad ∧ l ≍ l ++ List.map (fun (i : IN) => (i, (-1 : Int))) (List.take x d) ∧ ms ≍ ms ∧ True) ∧ ∀ (x : Nat), x ≤ d.length → (decide ((↑x : Int) < (↑d.length : Int)) = true → ((0 : Int) ≤ (↑x : Int) ∧ (↑x : Int) < (↑d.length : Int)) ∧ ∀ (y : Int × Int × Int × Int × Int), d[(↑x : Int).toNat]? = some y → ((l ++ List.map (fun (i : IN) => (i, (-1 : Int))) (List.take x d)).length + (((y.fst, y.snd.fst, y.snd.snd.fst, y.snd.snd.snd.fst, y.snd.snd.snd.snd), (-1 : Int)) :: ([] : List ((Int × Int × Int × Int × Int) × Int))).length) * (48 : Nat) ≤ (140737488355328 : Nat) ∧ ((-9223372036854775808 : Int) ≤ (↑x : Int) + (1 : Int) ∧ (↑x : Int) + (1 : Int) ≤ (9223372036854775807 : Int)) ∧ ∃ (y_1 : Nat), y_1 ≤ d.length ∧ d.length - y_1 < d.length - x ∧ d ≍ d ∧ (↑x : Int) + (1 : Int) = (↑y_1 : Int) ∧ bad = bad ∧ l ++ List.map (fun (i : IN) => (i, (-1 : Int))) (List.take x d) ++ ((y.fst, y.snd.fst, y.snd.snd.fst, y.snd.snd.snd.fst, y.snd.snd.snd.snd), (-1 : Int)) :: ([] : List ((Int × Int × Int × Int × Int) × Int)) ≍ l ++ List.map (fun (i : IN) => (i, (-1 : Int))) (List.take y_1 d) ∧ ms ≍ ms ∧ True) ∧ (decide ((↑x : Int) < (↑d.length : Int)) = false → ∃ (x_1 : Bool), ∃ (x_2 : List ((Int × Int × Int × Int × Int) × Int)), ∃ (x_3 : List Int), (bad = x_1 ∧ l ++ List.map (fun (i : IN) => (i, (-1 : Int))) (List.take x d) ≍ x_2 ∧ ms ≍ x_3 ∧ True) ∧ x_1 = bad ∧ x_2 = l ++ List.map (fun (i : IN) => (i, (-1 : Int))) d ∧ x_3 = ms)) = _) ?_
  have hp : List.length d ≤ 100000 ∧ l.length ≤ 100000 := hp
  refine ⟨⟨0, by omega, HEq.rfl, rfl, rfl, heq_of_eq (by simp), HEq.rfl, trivial⟩, fun k hk => ⟨fun h1 => ?_, fun h1 => ?_⟩⟩
  · simp only [decide_eq_true_eq] at h1
    refine ⟨by omega, fun y hy => ⟨by simp; omega, by omega, k + 1, by omega, by omega, HEq.rfl, by simp, rfl, heq_of_eq ?_, HEq.rfl, trivial⟩⟩
    rw [Int.toNat_natCast] at hy
    rw [List.take_add_one, hy]
    simp
  · simp only [decide_eq_false_iff_not] at h1
    exact ⟨_, _, _, ⟨rfl, HEq.rfl, HEq.rfl, trivial⟩, rfl, by rw [List.take_of_length_le (by omega)], rfl⟩
end Go.Proofs.Yteddnnljmdjfbaa.V
