import Derived.KernelRfl
import Derived.Test.YteddnnljmdjfbaaEk
namespace Go.Proofs.Yteddnnljmdjfbaa.V
open Go.RowKit Go.Proofs.Yteddnnljmdjfbaa
set_option linter.unusedSimpArgs false
structure InvP (L : List SN) (i : Nat) (bad : Bool) (l : List IN) (ms : List Int) (js : List JN) (it : List TN) : Prop where
  le : i ≤ L.length
  rp : Rp l ms js it
  n : l.length ≤ 101 * i
  n2 : it.length = l.length
  n3 : ms.length ≤ i
  n4 : js.length ≤ i
abbrev PX := Nat × Bool × List IN × List Int × List JN × List TN
abbrev lp3 (L : List SN) : Nat → Option LoopSp := fun r => match Nat.beq r 5 with
  | true => some { X := PX, sl := fun x => [(0, .one (.rd shS L)), (3, .one (.ptr 0 0)), (4, .one (.ptr 4 0)), (5, .one (vi x.1))], h := fun x => bH x.2.1 x.2.2.1 x.2.2.2.1 x.2.2.2.2.1 ++ [(4, .blk [.sl 5, .sl 6, .val (.bool x.2.1)] 34), (5, .own 56 shT x.2.2.2.2.2), (6, .own 3 shi x.2.2.2.1)], nx := 7, inv := fun x => InvP L x.1 x.2.1 x.2.2.1 x.2.2.2.1 x.2.2.2.2.1 x.2.2.2.2.2, mu := fun x => L.length - x.1 }
  | false => none
theorem leafP {L : List SN} {i : Nat} {b : Bool} {l : List IN} {ms : List Int} {js : List JN} {it : List TN} {q : Int} (hq : q = (it.length : Int)) (hi : i < L.length) (hL : L.length ≤ 100) (h : InvP L (i + 1) b l ms js it) :
    True ∧ ∀ (x4 : Int) (x5 : Bool) (x6 : List IN) (x7 : List Int) (x8 : List JN), x4 = l.length ∧ x5 = b ∧ x6 = l ∧ x7 = ms ∧ x8 = js →
      ((x4 != q) = true → false = true ∧ True) ∧ ((x4 != q) = false → (-9223372036854775808 ≤ (i : Int) + 1 ∧ (i : Int) + 1 ≤ 9223372036854775807) ∧
        ∃ y : PX, InvP L y.1 y.2.1 y.2.2.1 y.2.2.2.1 y.2.2.2.2.1 y.2.2.2.2.2 ∧ L.length - y.1 < L.length - i ∧ HEq L L ∧ (i : Int) + 1 = y.1 ∧ x5 = y.2.1 ∧ HEq x6 y.2.2.1 ∧ HEq x7 y.2.2.2.1 ∧ HEq x8 y.2.2.2.2.1 ∧ b = y.2.1 ∧ HEq it y.2.2.2.2.2 ∧ HEq ms y.2.2.2.1 ∧ True) := by
  refine ⟨trivial, ?_⟩
  rintro _ _ _ _ _ ⟨rfl, rfl, rfl, rfl, rfl⟩
  refine ⟨fun h2 => ?_, fun _ => ⟨by omega, (i + 1, _, _, _, _, _), h, by simp only; omega, HEq.rfl, by simp, rfl, HEq.rfl, HEq.rfl, HEq.rfl, rfl, HEq.rfl, HEq.rfl, trivial⟩⟩
  rw [hq, h.n2] at h2
  simp at h2
theorem plays_law : ∀ x, rngTup [pSts] x → ∃ lp, runF Tbl (spL M5) lp 0 Try.f3 (enVs [pSts] x) ⟨0, []⟩ fun r' st' => fzR st' (mkB true) r' := by
  intro (L : List SN) hr
  refine ⟨lp3 L, ?_⟩
  refine Eq.mp (by kernel_rfl : (((!fairF L) = true → true = true ∧ True) ∧ ((!fairF L) = false → (∃ (x : PX), InvP L x.fst x.snd.fst x.snd.snd.fst x.snd.snd.snd.fst x.snd.snd.snd.snd.fst x.snd.snd.snd.snd.snd ∧ L ≍ L ∧ (0 : Int) = (↑x.fst : Int) ∧ false = x.snd.fst ∧ x.snd.snd.fst = ([] : List (Int × Int × Int × Int × Int)) ∧ x.snd.snd.snd.fst = ([] : List Int) ∧ x.snd.snd.snd.snd.fst = ([] : List (Int × Int)) ∧ false = x.snd.fst ∧ x.snd.snd.snd.snd.snd = ([] : List ((Int × Int × Int × Int × Int) × Int)) ∧ x.snd.snd.snd.fst = ([] : List Int) ∧ True) ∧ ∀ (x : PX), InvP L x.fst x.snd.fst x.snd.snd.fst x.snd.snd.snd.fst x.snd.snd.snd.snd.fst x.snd.snd.snd.snd.snd → (decide ((↑x.fst : Int) < (↑L.length : Int)) = true → ((0 : Int) ≤ (↑x.fst : Int) ∧ (↑x.fst : Int) < (↑L.length : Int)) ∧ ∀ (y : Int × Int × (Int × Int × Int × Int × Int) × List (Int × Int × Int × Int × Int)), L[(↑x.fst : Int).toNat]? = some y → ((y.fst == (0 : Int)) = true → (([] : List (Int × Int × Int × Int × Int)).length + y.snd.snd.snd.length) * (40 : Nat) ≤ (140737488355328 : Nat) ∧ (x.snd.snd.fst.length + (([] : List (Int × Int × Int × Int × Int)) ++ y.snd.snd.snd).length) * (40 : Nat) ≤ (140737488355328 : Nat) ∧ (y.snd.snd.snd.length ≤ (100000 : Nat) ∧ x.snd.snd.snd.snd.snd.length ≤ (100000 : Nat)) ∧ ∀ (x_1 : Bool) (x_2 : List ((Int × Int × Int × Int × Int) × Int)) (x_3 : List Int), x_1 = x.snd.fst ∧ x_2 = x.snd.snd.snd.snd.snd ++ List.map (fun (i : IN) => (i, (-1 : Int))) y.snd.snd.snd ∧ x_3 = x.snd.snd.snd.fst → (True ∧ ∀ (x_4 : Int) (x_5 : Bool) (x_6 : List (Int × Int × Int × Int × Int)) (x_7 : List Int) (x_8 : List (Int × Int)), x_4 = (↑(x.snd.snd.fst ++ (([] : List (Int × Int × Int × Int × Int)) ++ y.snd.snd.snd)).length : Int) ∧ x_5 = x.snd.fst ∧ x_6 = x.snd.snd.fst ++ (([] : List (Int × Int × Int × Int × Int)) ++ y.snd.snd.snd) ∧ x_7 = x.snd.snd.snd.fst ∧ x_8 = x.snd.snd.snd.snd.fst → ((x_4 != (↑x_2.length : Int)) = true → false = true ∧ True) ∧ ((x_4 != (↑x_2.length : Int)) = false → ((-9223372036854775808 : Int) ≤ (↑x.fst : Int) + (1 : Int) ∧ (↑x.fst : Int) + (1 : Int) ≤ (9223372036854775807 : Int)) ∧ ∃ (y : PX), InvP L y.fst y.snd.fst y.snd.snd.fst y.snd.snd.snd.fst y.snd.snd.snd.snd.fst y.snd.snd.snd.snd.snd ∧ L.length - y.fst < L.length - x.fst ∧ L ≍ L ∧ (↑x.fst : Int) + (1 : Int) = (↑y.fst : Int) ∧ x_5 = y.snd.fst ∧ x_6 ≍ y.snd.snd.fst ∧ x_7 ≍ y.snd.snd.snd.fst ∧ x_8 ≍ y.snd.snd.snd.snd.fst ∧ x_1 = y.snd.fst ∧ x_2 ≍ y.snd.snd.snd.snd.snd ∧ x_3 ≍ y.snd.snd.snd.fst ∧ True)) ∧ True ∧ ∀ (x_4 : Int) (x_5 : Bool) (x_6 : List (Int × Int × Int × Int × Int)) (x_7 : List Int) (x_8 : List (Int × Int)), x_4 = (↑(x.snd.snd.fst ++ (([] : List (Int × Int × Int × Int × Int)) ++ y.snd.snd.snd)).length : Int) ∧ x_5 = x.snd.fst ∧ x_6 = x.snd.snd.fst ++ (([] : List (Int × Int × Int × Int × Int)) ++ y.snd.snd.snd) ∧ x_7 = x.snd.snd.snd.fst ∧ x_8 = x.snd.snd.snd.snd.fst → ((x_4 != (↑x_2.length : Int)) = true → false = true ∧ True) ∧ ((x_4 != (↑x_2.length : Int)) = false → ((-9223372036854775808 : Int) ≤ (↑x.fst : Int) + (1 : Int) ∧ (↑x.fst : Int) + (1 : Int) ≤ (9223372036854775807 : Int)) ∧ ∃ (y : PX), InvP L y.fst y.snd.fst y.snd.snd.fst y.snd.snd.snd.fst y.snd.snd.snd.snd.fst y.snd.snd.snd.snd.snd ∧ L.length - y.fst < L.length - x.fst ∧ L ≍ L ∧ (↑x.fst : Int) + (1 : Int) = (↑y.fst : Int) ∧ x_5 = y.snd.fst ∧ x_6 ≍ y.snd.snd.fst ∧ x_7 ≍ y.snd.snd.snd.fst ∧ x_8 ≍ y.snd.snd.snd.snd.fst ∧ x_1 = y.snd.fst ∧ x_2 ≍ y.snd.snd.snd.snd.snd ∧ x_3 ≍ y.snd.snd.snd.fst ∧ True)) ∧ ((y.fst == (0 : Int)) = false → ((y.fst == (1 : Int)) = true → x.snd.snd.snd.fst.length ≤ (100000 : Nat) ∧ ∀ (x_1 : Int) (x_2 : Bool) (x_3 : List (Int × Int × Int × Int × Int)) (x_4 : List Int) (x_5 : List (Int × Int)), x_1 = (↑x.snd.snd.snd.fst.length : Int) ∧ x_2 = x.snd.fst ∧ x_3 = x.snd.snd.fst ∧ x_4 = x.snd.snd.snd.fst ++ (-1 : Int) :: ([] : List Int) ∧ x_5 = x.snd.snd.snd.snd.fst → x.snd.snd.snd.fst.length ≤ (100000 : Nat) ∧ ∀ (x_6 : Int) (x_7 : Bool) (x_8 : List ((Int × Int × Int × Int × Int) × Int)) (x_9 : List Int), x_6 = (↑x.snd.snd.snd.fst.length : Int) ∧ x_7 = x.snd.fst ∧ x_8 = x.snd.snd.snd.snd.snd ∧ x_9 = x.snd.snd.snd.fst ++ (-1 : Int) :: ([] : List Int) → ((x_1 != x_6) = true → false = true ∧ True) ∧ ((x_1 != x_6) = false → (True ∧ ∀ (x_10 : Int) (x_11 : Bool) (x_12 : List (Int × Int × Int × Int × Int)) (x_13 : List Int) (x_14 : List (Int × Int)), x_10 = (↑x_3.length : Int) ∧ x_11 = x_2 ∧ x_12 = x_3 ∧ x_13 = x_4 ∧ x_14 = x_5 → ((x_10 != (↑x_8.length : Int)) = true → false = true ∧ True) ∧ ((x_10 != (↑x_8.length : Int)) = false → ((-9223372036854775808 : Int) ≤ (↑x.fst : Int) + (1 : Int) ∧ (↑x.fst : Int) + (1 : Int) ≤ (9223372036854775807 : Int)) ∧ ∃ (y : PX), InvP L y.fst y.snd.fst y.snd.snd.fst y.snd.snd.snd.fst y.snd.snd.snd.snd.fst y.snd.snd.snd.snd.snd ∧ L.length - y.fst < L.length - x.fst ∧ L ≍ L ∧ (↑x.fst : Int) + (1 : Int) = (↑y.fst : Int) ∧ x_11 = y.snd.fst ∧ x_12 ≍ y.snd.snd.fst ∧ x_13 ≍ y.snd.snd.snd.fst ∧ x_14 ≍ y.snd.snd.snd.snd.fst ∧ x_7 = y.snd.fst ∧ x_8 ≍ y.snd.snd.snd.snd.snd ∧ x_9 ≍ y.snd.snd.snd.fst ∧ True)) ∧ True ∧ ∀ (x_10 : Int) (x_11 : Bool) (x_12 : List (Int × Int × Int × Int × Int)) (x_13 : List Int) (x_14 : List (Int × Int)), x_10 = (↑x_3.length : Int) ∧ x_11 = x_2 ∧ x_12 = x_3 ∧ x_13 = x_4 ∧ x_14 = x_5 → ((x_10 != (↑x_8.length : Int)) = true → false = true ∧ True) ∧ ((x_10 != (↑x_8.length : Int)) = false → ((-9223372036854775808 : Int) ≤ (↑x.fst : Int) + (1 : Int) ∧ (↑x.fst : Int) + (1 : Int) ≤ (9223372036854775807 : Int)) ∧ ∃ (y : PX), InvP L y.fst y.snd.fst y.snd.snd.fst y.snd.snd.snd.fst y.snd.snd.snd.snd.fst y.snd.snd.snd.snd.snd ∧ L.length - y.fst < L.length - x.fst ∧ L ≍ L ∧ (↑x.fst : Int) + (1 : Int) = (↑y.fst : Int) ∧ x_11 = y.snd.fst ∧ x_12 ≍ y.snd.snd.fst ∧ x_13 ≍ y.snd.snd.snd.fst ∧ x_14 ≍ y.snd.snd.snd.snd.fst ∧ x_7 = y.snd.fst ∧ x_8 ≍ y.snd.snd.snd.snd.snd ∧ x_9 ≍ y.snd.snd.snd.fst ∧ True))) ∧ ((y.fst == (1 : Int)) = false → ((y.fst == (2 : Int)) = true → True ∧ ∀ (x_1 : Bool) (x_2 : List (Int × Int × Int × Int × Int)) (x_3 : List Int) (x_4 : List (Int × Int)), x_1 = (x.snd.fst || !fit y.snd.fst x.snd.snd.snd.fst) ∧ x_2 = x.snd.snd.fst ∧ (x_3 = if fit y.snd.fst x.snd.snd.snd.fst = true then x.snd.snd.snd.fst.set y.snd.fst.toNat (↑x.snd.snd.fst.length : Int) else x.snd.snd.snd.fst) ∧ x_4 = x.snd.snd.snd.snd.fst → True ∧ ∀ (x_5 : Bool) (x_6 : List ((Int × Int × Int × Int × Int) × Int)) (x_7 : List Int), (x_5 = (x.snd.fst || !fit y.snd.fst x.snd.snd.snd.fst) ∧ x_6 = x.snd.snd.snd.snd.snd ∧ x_7 = if fit y.snd.fst x.snd.snd.snd.fst = true then x.snd.snd.snd.fst.set y.snd.fst.toNat (↑x.snd.snd.snd.snd.snd.length : Int) else x.snd.snd.snd.fst) → (True ∧ ∀ (x_8 : Int) (x_9 : Bool) (x_10 : List (Int × Int × Int × Int × Int)) (x_11 : List Int) (x_12 : List (Int × Int)), x_8 = (↑x_2.length : Int) ∧ x_9 = x_1 ∧ x_10 = x_2 ∧ x_11 = x_3 ∧ x_12 = x_4 → ((x_8 != (↑x_6.length : Int)) = true → false = true ∧ True) ∧ ((x_8 != (↑x_6.length : Int)) = false → ((-9223372036854775808 : Int) ≤ (↑x.fst : Int) + (1 : Int) ∧ (↑x.fst : Int) + (1 : Int) ≤ (9223372036854775807 : Int)) ∧ ∃ (y : PX), InvP L y.fst y.snd.fst y.snd.snd.fst y.snd.snd.snd.fst y.snd.snd.snd.snd.fst y.snd.snd.snd.snd.snd ∧ L.length - y.fst < L.length - x.fst ∧ L ≍ L ∧ (↑x.fst : Int) + (1 : Int) = (↑y.fst : Int) ∧ x_9 = y.snd.fst ∧ x_10 ≍ y.snd.snd.fst ∧ x_11 ≍ y.snd.snd.snd.fst ∧ x_12 ≍ y.snd.snd.snd.snd.fst ∧ x_5 = y.snd.fst ∧ x_6 ≍ y.snd.snd.snd.snd.snd ∧ x_7 ≍ y.snd.snd.snd.fst ∧ True)) ∧ True ∧ ∀ (x_8 : Int) (x_9 : Bool) (x_10 : List (Int × Int × Int × Int × Int)) (x_11 : List Int) (x_12 : List (Int × Int)), x_8 = (↑x_2.length : Int) ∧ x_9 = x_1 ∧ x_10 = x_2 ∧ x_11 = x_3 ∧ x_12 = x_4 → ((x_8 != (↑x_6.length : Int)) = true → false = true ∧ True) ∧ ((x_8 != (↑x_6.length : Int)) = false → ((-9223372036854775808 : Int) ≤ (↑x.fst : Int) + (1 : Int) ∧ (↑x.fst : Int) + (1 : Int) ≤ (9223372036854775807 : Int)) ∧ ∃ (y : PX), InvP L y.fst y.snd.fst y.snd.snd.fst y.snd.snd.snd.fst y.snd.snd.snd.snd.fst y.snd.snd.snd.snd.snd ∧ L.length - y.fst < L.length - x.fst ∧ L ≍ L ∧ (↑x.fst : Int) + (1 : Int) = (↑y.fst : Int) ∧ x_9 = y.snd.fst ∧ x_10 ≍ y.snd.snd.fst ∧ x_11 ≍ y.snd.snd.snd.fst ∧ x_12 ≍ y.snd.snd.snd.snd.fst ∧ x_5 = y.snd.fst ∧ x_6 ≍ y.snd.snd.snd.snd.snd ∧ x_7 ≍ y.snd.snd.snd.fst ∧ True)) ∧ ((y.fst == (2 : Int)) = false → ((y.fst == (3 : Int)) = true → (x.snd.snd.fst.length ≤ (100000 : Nat) ∧ x.snd.snd.snd.snd.fst.length ≤ (100000 : Nat)) ∧ ∀ (x_1 : Bool) (x_2 : List (Int × Int × Int × Int × Int)) (x_3 : List Int) (x_4 : List (Int × Int)), (x_1 = (x.snd.fst || !jok y.snd.snd.fst.fst y.snd.fst x.snd.snd.snd.fst) ∧ (x_2 = if jok y.snd.snd.fst.fst y.snd.fst x.snd.snd.snd.fst = true then x.snd.snd.fst ++ (y.snd.snd.fst.fst, y.snd.snd.fst.snd.fst, y.snd.snd.fst.snd.snd.fst, y.snd.snd.fst.snd.snd.snd.fst, y.snd.snd.fst.snd.snd.snd.snd) :: ([] : List (Int × Int × Int × Int × Int)) else x.snd.snd.fst) ∧ x_3 = x.snd.snd.snd.fst ∧ x_4 = if jok y.snd.snd.fst.fst y.snd.fst x.snd.snd.snd.fst = true then x.snd.snd.snd.snd.fst ++ ((↑x.snd.snd.fst.length : Int), y.snd.fst) :: ([] : List (Int × Int)) else x.snd.snd.snd.snd.fst) → x.snd.snd.snd.snd.snd.length ≤ (100000 : Nat) ∧ ∀ (x_5 : Bool) (x_6 : List ((Int × Int × Int × Int × Int) × Int)) (x_7 : List Int), x_5 = (x.snd.fst || !jok y.snd.snd.fst.fst y.snd.fst x.snd.snd.snd.fst) ∧ (x_6 = if jok y.snd.snd.fst.fst y.snd.fst x.snd.snd.snd.fst = true then x.snd.snd.snd.snd.snd ++ ((y.snd.snd.fst.fst, y.snd.snd.fst.snd.fst, y.snd.snd.fst.snd.snd.fst, y.snd.snd.fst.snd.snd.snd.fst, y.snd.snd.fst.snd.snd.snd.snd), y.snd.fst) :: ([] : List ((Int × Int × Int × Int × Int) × Int)) else x.snd.snd.snd.snd.snd) ∧ x_7 = x.snd.snd.snd.fst → (True ∧ ∀ (x_8 : Int) (x_9 : Bool) (x_10 : List (Int × Int × Int × Int × Int)) (x_11 : List Int) (x_12 : List (Int × Int)), x_8 = (↑x_2.length : Int) ∧ x_9 = x_1 ∧ x_10 = x_2 ∧ x_11 = x_3 ∧ x_12 = x_4 → ((x_8 != (↑x_6.length : Int)) = true → false = true ∧ True) ∧ ((x_8 != (↑x_6.length : Int)) = false → ((-9223372036854775808 : Int) ≤ (↑x.fst : Int) + (1 : Int) ∧ (↑x.fst : Int) + (1 : Int) ≤ (9223372036854775807 : Int)) ∧ ∃ (y : PX), InvP L y.fst y.snd.fst y.snd.snd.fst y.snd.snd.snd.fst y.snd.snd.snd.snd.fst y.snd.snd.snd.snd.snd ∧ L.length - y.fst < L.length - x.fst ∧ L ≍ L ∧ (↑x.fst : Int) + (1 : Int) = (↑y.fst : Int) ∧ x_9 = y.snd.fst ∧ x_10 ≍ y.snd.snd.fst ∧ x_11 ≍ y.snd.snd.snd.fst ∧ x_12 ≍ y.snd.snd.snd.snd.fst ∧ x_5 = y.snd.fst ∧ x_6 ≍ y.snd.snd.snd.snd.snd ∧ x_7 ≍ y.snd.snd.snd.fst ∧ True)) ∧ True ∧ ∀ (x_8 : Int) (x_9 : Bool) (x_10 : List (Int × Int × Int × Int × Int)) (x_11 : List Int) (x_12 : List (Int × Int)), x_8 = (↑x_2.length : Int) ∧ x_9 = x_1 ∧ x_10 = x_2 ∧ x_11 = x_3 ∧ x_12 = x_4 → ((x_8 != (↑x_6.length : Int)) = true → false = true ∧ True) ∧ ((x_8 != (↑x_6.length : Int)) = false → ((-9223372036854775808 : Int) ≤ (↑x.fst : Int) + (1 : Int) ∧ (↑x.fst : Int) + (1 : Int) ≤ (9223372036854775807 : Int)) ∧ ∃ (y : PX), InvP L y.fst y.snd.fst y.snd.snd.fst y.snd.snd.snd.fst y.snd.snd.snd.snd.fst y.snd.snd.snd.snd.snd ∧ L.length - y.fst < L.length - x.fst ∧ L ≍ L ∧ (↑x.fst : Int) + (1 : Int) = (↑y.fst : Int) ∧ x_9 = y.snd.fst ∧ x_10 ≍ y.snd.snd.fst ∧ x_11 ≍ y.snd.snd.snd.fst ∧ x_12 ≍ y.snd.snd.snd.snd.fst ∧ x_5 = y.snd.fst ∧ x_6 ≍ y.snd.snd.snd.snd.snd ∧ x_7 ≍ y.snd.snd.snd.fst ∧ True)) ∧ ((y.fst == (3 : Int)) = false → (True ∧ ∀ (x_1 : Int) (x_2 : Bool) (x_3 : List (Int × Int × Int × Int × Int)) (x_4 : List Int) (x_5 : List (Int × Int)), x_1 = (↑x.snd.snd.fst.length : Int) ∧ x_2 = x.snd.fst ∧ x_3 = x.snd.snd.fst ∧ x_4 = x.snd.snd.snd.fst ∧ x_5 = x.snd.snd.snd.snd.fst → ((x_1 != (↑x.snd.snd.snd.snd.snd.length : Int)) = true → false = true ∧ True) ∧ ((x_1 != (↑x.snd.snd.snd.snd.snd.length : Int)) = false → ((-9223372036854775808 : Int) ≤ (↑x.fst : Int) + (1 : Int) ∧ (↑x.fst : Int) + (1 : Int) ≤ (9223372036854775807 : Int)) ∧ ∃ (y : PX), InvP L y.fst y.snd.fst y.snd.snd.fst y.snd.snd.snd.fst y.snd.snd.snd.snd.fst y.snd.snd.snd.snd.snd ∧ L.length - y.fst < L.length - x.fst ∧ L ≍ L ∧ (↑x.fst : Int) + (1 : Int) = (↑y.fst : Int) ∧ x_2 = y.snd.fst ∧ x_3 ≍ y.snd.snd.fst ∧ x_4 ≍ y.snd.snd.snd.fst ∧ x_5 ≍ y.snd.snd.snd.snd.fst ∧ x.snd.fst = y.snd.fst ∧ x.snd.snd.snd.snd.snd ≍ y.snd.snd.snd.snd.snd ∧ x.snd.snd.snd.fst ≍ y.snd.snd.snd.fst ∧ True)) ∧ True ∧ ∀ (x_1 : Int) (x_2 : Bool) (x_3 : List (Int × Int × Int × Int × Int)) (x_4 : List Int) (x_5 : List (Int × Int)), x_1 = (↑x.snd.snd.fst.length : Int) ∧ x_2 = x.snd.fst ∧ x_3 = x.snd.snd.fst ∧ x_4 = x.snd.snd.snd.fst ∧ x_5 = x.snd.snd.snd.snd.fst → ((x_1 != (↑x.snd.snd.snd.snd.snd.length : Int)) = true → false = true ∧ True) ∧ ((x_1 != (↑x.snd.snd.snd.snd.snd.length : Int)) = false → ((-9223372036854775808 : Int) ≤ (↑x.fst : Int) + (1 : Int) ∧ (↑x.fst : Int) + (1 : Int) ≤ (9223372036854775807 : Int)) ∧ ∃ (y : PX), InvP L y.fst y.snd.fst y.snd.snd.fst y.snd.snd.snd.fst y.snd.snd.snd.snd.fst y.snd.snd.snd.snd.snd ∧ L.length - y.fst < L.length - x.fst ∧ L ≍ L ∧ (↑x.fst : Int) + (1 : Int) = (↑y.fst : Int) ∧ x_2 = y.snd.fst ∧ x_3 ≍ y.snd.snd.fst ∧ x_4 ≍ y.snd.snd.snd.fst ∧ x_5 ≍ y.snd.snd.snd.snd.fst ∧ x.snd.fst = y.snd.fst ∧ x.snd.snd.snd.snd.snd ≍ y.snd.snd.snd.snd.snd ∧ x.snd.snd.snd.fst ≍ y.snd.snd.snd.fst ∧ True)))))) ∧ (decide ((↑x.fst : Int) < (↑L.length : Int)) = false → ((∀ (j : JN), j ∈ x.snd.snd.snd.snd.fst → ((0 : Int) ≤ j.fst ∧ j.fst < (↑x.snd.snd.fst.length : Int)) ∧ (0 : Int) ≤ j.snd ∧ j.snd < (↑x.snd.snd.snd.fst.length : Int)) ∧ x.snd.snd.fst.length ≤ (100000 : Nat)) ∧ ∀ (x_1 : Int) (x_2 : Bool) (x_3 : List (Int × Int × Int × Int × Int)) (x_4 : List Int) (x_5 : List (Int × Int)) (x_6 : List Int), (x_6, x_1) = doneB x.snd.fst x.snd.snd.fst x.snd.snd.snd.fst x.snd.snd.snd.snd.fst ∧ x_2 = x.snd.fst ∧ x_3 = x.snd.snd.fst ∧ x_4 = x.snd.snd.snd.fst ∧ x_5 = x.snd.snd.snd.snd.fst → ((∀ (t : TN), t ∈ x.snd.snd.snd.snd.snd → t.snd < (↑x.snd.snd.snd.fst.length : Int)) ∧ x.snd.snd.snd.snd.snd.length ≤ (100000 : Nat)) ∧ ∀ (x_7 : Int) (x_8 : Bool) (x_9 : List ((Int × Int × Int × Int × Int) × Int)) (x_10 x_11 : List Int), (x_11, x_7) = doneR x.snd.fst x.snd.snd.snd.snd.snd x.snd.snd.snd.fst ∧ x_8 = x.snd.fst ∧ x_9 = x.snd.snd.snd.snd.snd ∧ x_10 = x.snd.snd.snd.fst → ((∀ (j : JN), j ∈ x_5 → ((0 : Int) ≤ j.fst ∧ j.fst < (↑x_3.length : Int)) ∧ (0 : Int) ≤ j.snd ∧ j.snd < (↑x_4.length : Int)) ∧ x_3.length ≤ (100000 : Nat)) ∧ ∀ (x : Int) (x_12 : Bool) (x_13 : List (Int × Int × Int × Int × Int)) (x_14 : List Int) (x_15 : List (Int × Int)) (x_16 : List Int), (x_16, x) = doneB x_2 x_3 x_4 x_5 ∧ x_12 = x_2 ∧ x_13 = x_3 ∧ x_14 = x_4 ∧ x_15 = x_5 → ((eqB x_6 x_11 && x_1 == x_7) = true → (eqB x_16 x_11 && x == x_1 && true) = true ∧ True) ∧ ((eqB x_6 x_11 && x_1 == x_7) = false → false = true ∧ True)))) = _) ?_
  refine ⟨fun _ => ⟨rfl, trivial⟩, fun hf => ?_⟩
  have hf : fairF L = true := by simpa using hf
  unfold fairF at hf
  rw [Bool.and_eq_true] at hf
  obtain ⟨f1, f2⟩ := hf
  have f2 : L.length ≤ 100 := by simpa using f2
  clear hr
  refine ⟨⟨(0, false, [], [], [], []), ⟨by omega, Rp.nil, by simp, rfl, by simp, by simp⟩, HEq.rfl, rfl, rfl, rfl, rfl, rfl, rfl, rfl, rfl, trivial⟩, ?_⟩
  rintro ⟨i, b, l, ms, js, it⟩ hI
  dsimp only at hI ⊢
  obtain ⟨h1, h2, h3, h4, h5, h6⟩ := hI
  have e1 : l.length ≤ 10100 := by omega
  refine ⟨fun hi => ⟨?_, fun y hy => ?_⟩, fun _ => ?_⟩
  · simp only [decide_eq_true_eq] at hi; omega
  · simp only [decide_eq_true_eq] at hi
    have hi : i < L.length := by omega
    rw [Int.toNat_natCast] at hy
    have hy2 : y.2.2.2.length ≤ 100 := by simpa using List.all_eq_true.1 f1 y (List.mem_of_getElem? hy)
    obtain ⟨kind, n, ⟨op, ia, ib, ic, m⟩, d⟩ := y
    dsimp only at hy2 ⊢
    clear hy f1
    simp only [List.nil_append]
    have hs : InvP L (i + 1) b l ms js it := ⟨by omega, h2, by omega, h4, by omega, by omega⟩
    refine ⟨fun _ => ⟨by simp; omega, by omega, ⟨by omega, by omega⟩, ?_⟩, fun _ => ⟨fun _ => ⟨by omega, ?_⟩, fun _ => ⟨fun _ => ⟨trivial, ?_⟩, fun _ => ⟨fun _ => ⟨⟨by omega, by omega⟩, ?_⟩, fun _ => ⟨leafP rfl hi f2 hs, leafP rfl hi f2 hs⟩⟩⟩⟩⟩
    · rintro zz0 zz1 zz2 ⟨qq0, qq1, qq2⟩
      obtain rfl := qq0.symm
      obtain rfl := qq1.symm
      obtain rfl := qq2.symm
      have hs : InvP L (i + 1) b (l ++ d) ms js (it ++ d.map fun i => (i, (-1 : Int))) := ⟨by omega, h2.add d, by simp; omega, by simp; omega, by omega, by omega⟩
      exact ⟨leafP rfl hi f2 hs, leafP rfl hi f2 hs⟩
    · rintro zz0 zz1 zz2 zz3 zz4 ⟨qq0, qq1, qq2, qq3, qq4⟩
      obtain rfl := qq0.symm
      obtain rfl := qq1.symm
      obtain rfl := qq2.symm
      obtain rfl := qq3.symm
      obtain rfl := qq4.symm
      refine ⟨by omega, ?_⟩
      rintro zz0 zz1 zz2 zz3 ⟨qq0, qq1, qq2, qq3⟩
      obtain rfl := qq0.symm
      obtain rfl := qq1.symm
      obtain rfl := qq2.symm
      obtain rfl := qq3.symm
      have hs : InvP L (i + 1) b l (ms ++ -1 :: []) js it := ⟨by omega, h2.mark _, by omega, by omega, by simp; omega, by omega⟩
      exact ⟨fun h => by simp at h, fun _ => ⟨leafP rfl hi f2 hs, leafP rfl hi f2 hs⟩⟩
    · rintro zz0 zz1 zz2 zz3 ⟨qq0, qq1, qq2, qq3⟩
      obtain rfl := qq0.symm
      obtain rfl := qq1.symm
      obtain rfl := qq2.symm
      obtain rfl := qq3.symm
      refine ⟨trivial, ?_⟩
      rintro zz0 zz1 zz2 ⟨qq0, qq1, qq2⟩
      obtain rfl := qq0.symm
      obtain rfl := qq1.symm
      obtain rfl := qq2.symm
      rw [h4]
      have hs : InvP L (i + 1) (b || !fit n ms) l (if fit n ms = true then ms.set n.toNat l.length else ms) js it := by
        refine ⟨by omega, ?_, by omega, by omega, ?_, by omega⟩
        · split
          · exact h2.set _ _
          · exact h2
        · split
          · simp; omega
          · omega
      exact ⟨leafP (by rw [h4]) hi f2 hs, leafP (by rw [h4]) hi f2 hs⟩
    · rintro zz0 zz1 zz2 zz3 ⟨qq0, qq1, qq2, qq3⟩
      obtain rfl := qq0.symm
      obtain rfl := qq1.symm
      obtain rfl := qq2.symm
      obtain rfl := qq3.symm
      refine ⟨by omega, ?_⟩
      rintro zz0 zz1 zz2 ⟨qq0, qq1, qq2⟩
      obtain rfl := qq0.symm
      obtain rfl := qq1.symm
      obtain rfl := qq2.symm
      have hs : InvP L (i + 1) (b || !jok op n ms) (if jok op n ms = true then l ++ [(op, ia, ib, ic, m)] else l) ms (if jok op n ms = true then js ++ [((l.length : Int), n)] else js) (if jok op n ms = true then it ++ [((op, ia, ib, ic, m), n)] else it) := by
        by_cases hj : jok op n ms = true
        · have hm : isM n ms = true := by rw [jok, Bool.and_eq_true] at hj; exact hj.1
          rw [if_pos hj, if_pos hj, if_pos hj]
          exact ⟨by omega, h2.jump _ _ hm, by simp; omega, by simp; omega, by omega, by simp; omega⟩
        · rw [if_neg hj, if_neg hj, if_neg hj]
          exact ⟨by omega, h2, by omega, h4, by omega, by omega⟩
      exact ⟨leafP rfl hi f2 hs, leafP rfl hi f2 hs⟩
  · refine ⟨⟨h2.jsOk, by omega⟩, ?_⟩
    rintro e z1 z2 z3 z4 o ⟨h7, q1, q2, q3, q4⟩
    obtain rfl := q1.symm
    obtain rfl := q2.symm
    obtain rfl := q3.symm
    obtain rfl := q4.symm
    refine ⟨⟨h2.ok, by omega⟩, ?_⟩
    rintro e2 _ _ _ o2 ⟨h8, rfl, rfl, rfl⟩
    refine ⟨⟨h2.jsOk, by omega⟩, ?_⟩
    rintro e3 _ _ _ _ o3 ⟨h9, rfl, rfl, rfl, rfl⟩
    rw [done_eq h2] at h7 h9
    have h10 := h7.trans h8.symm
    cases h10
    have h10 := h9.trans h8.symm
    cases h10
    simp [eqB_self]
end Go.Proofs.Yteddnnljmdjfbaa.V
