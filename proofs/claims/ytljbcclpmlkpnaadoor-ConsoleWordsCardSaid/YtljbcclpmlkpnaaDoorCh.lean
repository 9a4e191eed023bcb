import Derived.KernelRfl
import Derived.Test.YtljbcclpmlkpnaaDoorCg
namespace Go.Proofs.YtljbcclpmlkpnaaDoor.V
open Go.RowKit Go.Proofs.YtljbcclpmlkpnaaDoor
set_option linter.unusedSimpArgs false
set_option pp.deepTerms true
set_option pp.maxSteps 200000
abbrev M4 : List (Nat × Spec) := (11, .pre (rS [pS] [pT, pI] (fun x => ByteArray.size x ≤ 1000000) (fun x y => y = txF x))) :: M3
theorem M4_all : ∀ p ∈ M4, Valid Tryd.prog p.1 p.2 := vcons v11 M3_all
theorem M4_ok : ∀ f S, spL M4 f = some S → Valid Tryd.prog f S := spL_ok M4_all
def nextN (l : List ByteArray) (ok : Bool) : Int × List ByteArray × Bool := match l with
  | [] => (0, [], false)
  | w :: r => ((numB w).1, r, ok && (numB w).2)
def opF (w : ByteArray) (l : List ByteArray) (ok : Bool) : Int × Int × Int × List ByteArray × Bool :=
  let k := kindO w
  let p := nextN l (ok && decide (0 < k))
  if k = 1 then (1, p.1, 0, p.2.1, p.2.2) else
    let q := nextN p.2.1 p.2.2
    (k, p.1, IntKind.u64.wrap q.1, q.2.1, q.2.2 && decide (q.1 ≥ 0))
abbrev cI : PC := .d (.int .i64)
abbrev cU : PC := .d (.int .u64)
abbrev cB : PC := .d .bool
abbrev cS : PC := .d .str
abbrev cW : PC := .d (.sl .str)
def op29 : PT where
  ps := [.one (.p 0 0), .one cS]
  rg := [(0, .blk [cW, cB] 55)]
  na := 1
  rs := [.agg [cI, cI, cU]]
  out := [(0, .blk [cW, cB] 55)]
  nx := 1
  pre := fun (_, l, _, _) => ∀ w ∈ l, ByteArray.size w ≤ 1000000
  post := fun (w, l, ok, _) (k, n, v, l', ok', _) => (k, n, v, l', ok') = opF w l ok
abbrev lp29 (w : ByteArray) (l : List ByteArray) (ok : Bool) : Nat → Option LoopSp := fun r => match r with
  | 3 => some { X := Nat, sl := fun k => [(0, .one (.ptr 0 0)), (1, .one (.val (.string w))), (4, .one (.ptr 1 0)), (5, .one (.ptr 2 0)), (9, .agg opsV), (10, .one (vi k))], h := fun k => [(0, .blk [.rd .str l, .val (.bool ok)] 55), (1, .blk [vi 0, vi 0, .val (.int .u64 0)] 51), (2, .blk [vi (idxF kindsL w (k - 1)), vi 0, .val (.int .u64 0)] 51)], nx := 3, inv := fun k => k ≤ 5, mu := fun k => 5 - k }
  | _ => none
theorem v29 : Valid Tryd.prog 29 (.full op29.call) := by
  refine valid_P mixed Tbl_ok M4_ok Tryd.func29 call29 ?_
  intro (w : ByteArray) (l : List ByteArray) (ok : Bool) hp hr hh
  refine ⟨lp29 w l ok, ?_⟩
  refine Eq.mp (by kernel_rfl : ((∃ (x : Nat), x ≤ (5 : Nat) ∧ Value.string w = Value.string w ∧ opsV = opsV ∧ (0 : Int) = (↑x : Int) ∧ l ≍ l ∧ ok = ok ∧ (0 : Int) = (0 : Int) ∧ (0 : Int) = (0 : Int) ∧ (0 : Int) = (0 : Int) ∧ (0 : Int) = (↑(idxF kindsL w (x - (1 : Nat))) : Int) ∧ (0 : Int) = (0 : Int) ∧ (0 : Int) = (0 : Int) ∧ True) ∧ ∀ (x : Nat), x ≤ (5 : Nat) → (decide ((↑x : Int) < (5 : Int)) = true → ((0 : Int) ≤ (↑x : Int) ∧ (↑x : Int) < (↑(5 : Nat) : Int)) ∧ ((↑x : Int) = (↑(0 : Nat) : Int) → (((ByteArray.mk ([] : List UInt8).toArray).toList == w.toList && !w.toList == (ByteArray.mk ([] : List UInt8).toArray).toList) = true → ((-9223372036854775808 : Int) ≤ (↑x : Int) + (1 : Int) ∧ (↑x : Int) + (1 : Int) ≤ (9223372036854775807 : Int)) ∧ ∃ (y : Nat), y ≤ (5 : Nat) ∧ (5 : Nat) - y < (5 : Nat) - x ∧ Value.string w = Value.string w ∧ opsV = opsV ∧ (↑x : Int) + (1 : Int) = (↑y : Int) ∧ l ≍ l ∧ ok = ok ∧ (0 : Int) = (0 : Int) ∧ (0 : Int) = (0 : Int) ∧ (0 : Int) = (0 : Int) ∧ (↑x : Int) = (↑(idxF kindsL w (y - (1 : Nat))) : Int) ∧ (0 : Int) = (0 : Int) ∧ (0 : Int) = (0 : Int) ∧ True) ∧ (((ByteArray.mk ([] : List UInt8).toArray).toList == w.toList && !w.toList == (ByteArray.mk ([] : List UInt8).toArray).toList) = false → ((-9223372036854775808 : Int) ≤ (↑x : Int) + (1 : Int) ∧ (↑x : Int) + (1 : Int) ≤ (9223372036854775807 : Int)) ∧ ∃ (y : Nat), y ≤ (5 : Nat) ∧ (5 : Nat) - y < (5 : Nat) - x ∧ Value.string w = Value.string w ∧ opsV = opsV ∧ (↑x : Int) + (1 : Int) = (↑y : Int) ∧ l ≍ l ∧ ok = ok ∧ (0 : Int) = (0 : Int) ∧ (0 : Int) = (0 : Int) ∧ (0 : Int) = (0 : Int) ∧ (↑(idxF kindsL w (x - (1 : Nat))) : Int) = (↑(idxF kindsL w (y - (1 : Nat))) : Int) ∧ (0 : Int) = (0 : Int) ∧ (0 : Int) = (0 : Int) ∧ True)) ∧ ((↑x : Int) = (↑((0 : Nat) + (1 : Nat)) : Int) → (((ByteArray.mk ((114 : UInt8) :: (101 : UInt8) :: (97 : UInt8) :: (100 : UInt8) :: ([] : List UInt8)).toArray).toList == w.toList && !w.toList == (ByteArray.mk ([] : List UInt8).toArray).toList) = true → ((-9223372036854775808 : Int) ≤ (↑x : Int) + (1 : Int) ∧ (↑x : Int) + (1 : Int) ≤ (9223372036854775807 : Int)) ∧ ∃ (y : Nat), y ≤ (5 : Nat) ∧ (5 : Nat) - y < (5 : Nat) - x ∧ Value.string w = Value.string w ∧ opsV = opsV ∧ (↑x : Int) + (1 : Int) = (↑y : Int) ∧ l ≍ l ∧ ok = ok ∧ (0 : Int) = (0 : Int) ∧ (0 : Int) = (0 : Int) ∧ (0 : Int) = (0 : Int) ∧ (↑x : Int) = (↑(idxF kindsL w (y - (1 : Nat))) : Int) ∧ (0 : Int) = (0 : Int) ∧ (0 : Int) = (0 : Int) ∧ True) ∧ (((ByteArray.mk ((114 : UInt8) :: (101 : UInt8) :: (97 : UInt8) :: (100 : UInt8) :: ([] : List UInt8)).toArray).toList == w.toList && !w.toList == (ByteArray.mk ([] : List UInt8).toArray).toList) = false → ((-9223372036854775808 : Int) ≤ (↑x : Int) + (1 : Int) ∧ (↑x : Int) + (1 : Int) ≤ (9223372036854775807 : Int)) ∧ ∃ (y : Nat), y ≤ (5 : Nat) ∧ (5 : Nat) - y < (5 : Nat) - x ∧ Value.string w = Value.string w ∧ opsV = opsV ∧ (↑x : Int) + (1 : Int) = (↑y : Int) ∧ l ≍ l ∧ ok = ok ∧ (0 : Int) = (0 : Int) ∧ (0 : Int) = (0 : Int) ∧ (0 : Int) = (0 : Int) ∧ (↑(idxF kindsL w (x - (1 : Nat))) : Int) = (↑(idxF kindsL w (y - (1 : Nat))) : Int) ∧ (0 : Int) = (0 : Int) ∧ (0 : Int) = (0 : Int) ∧ True)) ∧ ((↑x : Int) = (↑((0 : Nat) + (1 : Nat) + (1 : Nat)) : Int) → (((ByteArray.mk ((119 : UInt8) :: (114 : UInt8) :: (105 : UInt8) :: (116 : UInt8) :: (101 : UInt8) :: ([] : List UInt8)).toArray).toList == w.toList && !w.toList == (ByteArray.mk ([] : List UInt8).toArray).toList) = true → ((-9223372036854775808 : Int) ≤ (↑x : Int) + (1 : Int) ∧ (↑x : Int) + (1 : Int) ≤ (9223372036854775807 : Int)) ∧ ∃ (y : Nat), y ≤ (5 : Nat) ∧ (5 : Nat) - y < (5 : Nat) - x ∧ Value.string w = Value.string w ∧ opsV = opsV ∧ (↑x : Int) + (1 : Int) = (↑y : Int) ∧ l ≍ l ∧ ok = ok ∧ (0 : Int) = (0 : Int) ∧ (0 : Int) = (0 : Int) ∧ (0 : Int) = (0 : Int) ∧ (↑x : Int) = (↑(idxF kindsL w (y - (1 : Nat))) : Int) ∧ (0 : Int) = (0 : Int) ∧ (0 : Int) = (0 : Int) ∧ True) ∧ (((ByteArray.mk ((119 : UInt8) :: (114 : UInt8) :: (105 : UInt8) :: (116 : UInt8) :: (101 : UInt8) :: ([] : List UInt8)).toArray).toList == w.toList && !w.toList == (ByteArray.mk ([] : List UInt8).toArray).toList) = false → ((-9223372036854775808 : Int) ≤ (↑x : Int) + (1 : Int) ∧ (↑x : Int) + (1 : Int) ≤ (9223372036854775807 : Int)) ∧ ∃ (y : Nat), y ≤ (5 : Nat) ∧ (5 : Nat) - y < (5 : Nat) - x ∧ Value.string w = Value.string w ∧ opsV = opsV ∧ (↑x : Int) + (1 : Int) = (↑y : Int) ∧ l ≍ l ∧ ok = ok ∧ (0 : Int) = (0 : Int) ∧ (0 : Int) = (0 : Int) ∧ (0 : Int) = (0 : Int) ∧ (↑(idxF kindsL w (x - (1 : Nat))) : Int) = (↑(idxF kindsL w (y - (1 : Nat))) : Int) ∧ (0 : Int) = (0 : Int) ∧ (0 : Int) = (0 : Int) ∧ True)) ∧ ((↑x : Int) = (↑((0 : Nat) + (1 : Nat) + (1 : Nat) + (1 : Nat)) : Int) → (((ByteArray.mk ((97 : UInt8) :: (100 : UInt8) :: (100 : UInt8) :: ([] : List UInt8)).toArray).toList == w.toList && !w.toList == (ByteArray.mk ([] : List UInt8).toArray).toList) = true → ((-9223372036854775808 : Int) ≤ (↑x : Int) + (1 : Int) ∧ (↑x : Int) + (1 : Int) ≤ (9223372036854775807 : Int)) ∧ ∃ (y : Nat), y ≤ (5 : Nat) ∧ (5 : Nat) - y < (5 : Nat) - x ∧ Value.string w = Value.string w ∧ opsV = opsV ∧ (↑x : Int) + (1 : Int) = (↑y : Int) ∧ l ≍ l ∧ ok = ok ∧ (0 : Int) = (0 : Int) ∧ (0 : Int) = (0 : Int) ∧ (0 : Int) = (0 : Int) ∧ (↑x : Int) = (↑(idxF kindsL w (y - (1 : Nat))) : Int) ∧ (0 : Int) = (0 : Int) ∧ (0 : Int) = (0 : Int) ∧ True) ∧ (((ByteArray.mk ((97 : UInt8) :: (100 : UInt8) :: (100 : UInt8) :: ([] : List UInt8)).toArray).toList == w.toList && !w.toList == (ByteArray.mk ([] : List UInt8).toArray).toList) = false → ((-9223372036854775808 : Int) ≤ (↑x : Int) + (1 : Int) ∧ (↑x : Int) + (1 : Int) ≤ (9223372036854775807 : Int)) ∧ ∃ (y : Nat), y ≤ (5 : Nat) ∧ (5 : Nat) - y < (5 : Nat) - x ∧ Value.string w = Value.string w ∧ opsV = opsV ∧ (↑x : Int) + (1 : Int) = (↑y : Int) ∧ l ≍ l ∧ ok = ok ∧ (0 : Int) = (0 : Int) ∧ (0 : Int) = (0 : Int) ∧ (0 : Int) = (0 : Int) ∧ (↑(idxF kindsL w (x - (1 : Nat))) : Int) = (↑(idxF kindsL w (y - (1 : Nat))) : Int) ∧ (0 : Int) = (0 : Int) ∧ (0 : Int) = (0 : Int) ∧ True)) ∧ ((↑x : Int) = (↑((0 : Nat) + (1 : Nat) + (1 : Nat) + (1 : Nat) + (1 : Nat)) : Int) → (((ByteArray.mk ((116 : UInt8) :: (97 : UInt8) :: (107 : UInt8) :: (101 : UInt8) :: ([] : List UInt8)).toArray).toList == w.toList && !w.toList == (ByteArray.mk ([] : List UInt8).toArray).toList) = true → ((-9223372036854775808 : Int) ≤ (↑x : Int) + (1 : Int) ∧ (↑x : Int) + (1 : Int) ≤ (9223372036854775807 : Int)) ∧ ∃ (y : Nat), y ≤ (5 : Nat) ∧ (5 : Nat) - y < (5 : Nat) - x ∧ Value.string w = Value.string w ∧ opsV = opsV ∧ (↑x : Int) + (1 : Int) = (↑y : Int) ∧ l ≍ l ∧ ok = ok ∧ (0 : Int) = (0 : Int) ∧ (0 : Int) = (0 : Int) ∧ (0 : Int) = (0 : Int) ∧ (↑x : Int) = (↑(idxF kindsL w (y - (1 : Nat))) : Int) ∧ (0 : Int) = (0 : Int) ∧ (0 : Int) = (0 : Int) ∧ True) ∧ (((ByteArray.mk ((116 : UInt8) :: (97 : UInt8) :: (107 : UInt8) :: (101 : UInt8) :: ([] : List UInt8)).toArray).toList == w.toList && !w.toList == (ByteArray.mk ([] : List UInt8).toArray).toList) = false → ((-9223372036854775808 : Int) ≤ (↑x : Int) + (1 : Int) ∧ (↑x : Int) + (1 : Int) ≤ (9223372036854775807 : Int)) ∧ ∃ (y : Nat), y ≤ (5 : Nat) ∧ (5 : Nat) - y < (5 : Nat) - x ∧ Value.string w = Value.string w ∧ opsV = opsV ∧ (↑x : Int) + (1 : Int) = (↑y : Int) ∧ l ≍ l ∧ ok = ok ∧ (0 : Int) = (0 : Int) ∧ (0 : Int) = (0 : Int) ∧ (0 : Int) = (0 : Int) ∧ (↑(idxF kindsL w (x - (1 : Nat))) : Int) = (↑(idxF kindsL w (y - (1 : Nat))) : Int) ∧ (0 : Int) = (0 : Int) ∧ (0 : Int) = (0 : Int) ∧ True)) ∧ True) ∧ (decide ((↑x : Int) < (5 : Int)) = false → (((↑l.length : Int) == (0 : Int)) = true → (ByteArray.mk ([] : List UInt8).toArray).size ≤ (1000000 : Nat) ∧ (((↑(idxF kindsL w (x - (1 : Nat))) : Int) != (1 : Int)) = true → (((↑l.length : Int) == (0 : Int)) = true → (ByteArray.mk ([] : List UInt8).toArray).size ≤ (1000000 : Nat) ∧ ∃ (x_1 : Int), ∃ (x_2 : Int), ∃ (x_3 : Int), ∃ (x_4 : List ByteArray), ∃ (x_5 : Bool), ((↑(idxF kindsL w (x - (1 : Nat))) : Int) = x_1 ∧ (0 : Int) = x_2 ∧ IntKind.u64.wrap (0 : Int) = x_3 ∧ l ≍ x_4 ∧ false = x_5 ∧ True) ∧ (x_1, x_2, x_3, x_4, x_5) = opF w l ok) ∧ (((↑l.length : Int) == (0 : Int)) = false → ((0 : Int) ≤ (0 : Int) ∧ (0 : Int) < (↑l.length : Int)) ∧ ∀ (y : ByteArray), l[Int.toNat (0 : Int)]? = some y → ((0 : Int) ≤ (1 : Int) ∧ (1 : Int) ≤ (↑l.length : Int)) ∧ y.size ≤ (1000000 : Nat) ∧ ∃ (x_1 : Int), ∃ (x_2 : Int), ∃ (x_3 : Int), ∃ (x_4 : List ByteArray), ∃ (x_5 : Bool), ((↑(idxF kindsL w (x - (1 : Nat))) : Int) = x_1 ∧ (0 : Int) = x_2 ∧ IntKind.u64.wrap (numB y).fst = x_3 ∧ List.drop (Int.toNat (1 : Int)) l ≍ x_4 ∧ false = x_5 ∧ True) ∧ (x_1, x_2, x_3, x_4, x_5) = opF w l ok)) ∧ (((↑(idxF kindsL w (x - (1 : Nat))) : Int) != (1 : Int)) = false → ∃ (x_1 : Int), ∃ (x_2 : Int), ∃ (x_3 : Int), ∃ (x_4 : List ByteArray), ∃ (x_5 : Bool), ((↑(idxF kindsL w (x - (1 : Nat))) : Int) = x_1 ∧ (0 : Int) = x_2 ∧ (0 : Int) = x_3 ∧ l ≍ x_4 ∧ false = x_5 ∧ True) ∧ (x_1, x_2, x_3, x_4, x_5) = opF w l ok)) ∧ (((↑l.length : Int) == (0 : Int)) = false → ((0 : Int) ≤ (0 : Int) ∧ (0 : Int) < (↑l.length : Int)) ∧ ∀ (y : ByteArray), l[Int.toNat (0 : Int)]? = some y → ((0 : Int) ≤ (1 : Int) ∧ (1 : Int) ≤ (↑l.length : Int)) ∧ y.size ≤ (1000000 : Nat) ∧ (((↑(idxF kindsL w (x - (1 : Nat))) : Int) != (1 : Int)) = true → (((↑(List.drop (Int.toNat (1 : Int)) l).length : Int) == (0 : Int)) = true → (ByteArray.mk ([] : List UInt8).toArray).size ≤ (1000000 : Nat) ∧ ∃ (x_1 : Int), ∃ (x_2 : Int), ∃ (x_3 : Int), ∃ (x_4 : List ByteArray), ∃ (x_5 : Bool), ((↑(idxF kindsL w (x - (1 : Nat))) : Int) = x_1 ∧ (numB y).fst = x_2 ∧ IntKind.u64.wrap (0 : Int) = x_3 ∧ List.drop (Int.toNat (1 : Int)) l ≍ x_4 ∧ false = x_5 ∧ True) ∧ (x_1, x_2, x_3, x_4, x_5) = opF w l ok) ∧ (((↑(List.drop (Int.toNat (1 : Int)) l).length : Int) == (0 : Int)) = false → ((0 : Int) ≤ (0 : Int) ∧ (0 : Int) < (↑(List.drop (Int.toNat (1 : Int)) l).length : Int)) ∧ ∀ (y_1 : ByteArray), (List.drop (Int.toNat (1 : Int)) l)[Int.toNat (0 : Int)]? = some y_1 → ((0 : Int) ≤ (1 : Int) ∧ (1 : Int) ≤ (↑(List.drop (Int.toNat (1 : Int)) l).length : Int)) ∧ y_1.size ≤ (1000000 : Nat) ∧ ∃ (x_1 : Int), ∃ (x_2 : Int), ∃ (x_3 : Int), ∃ (x_4 : List ByteArray), ∃ (x_5 : Bool), ((↑(idxF kindsL w (x - (1 : Nat))) : Int) = x_1 ∧ (numB y).fst = x_2 ∧ IntKind.u64.wrap (numB y_1).fst = x_3 ∧ List.drop (Int.toNat (1 : Int)) (List.drop (Int.toNat (1 : Int)) l) ≍ x_4 ∧ (ok && decide ((↑(idxF kindsL w (x - (1 : Nat))) : Int) > (0 : Int)) && (numB y).snd && (numB y_1).snd && decide ((numB y_1).fst ≥ (0 : Int))) = x_5 ∧ True) ∧ (x_1, x_2, x_3, x_4, x_5) = opF w l ok)) ∧ (((↑(idxF kindsL w (x - (1 : Nat))) : Int) != (1 : Int)) = false → ∃ (x_1 : Int), ∃ (x_2 : Int), ∃ (x_3 : Int), ∃ (x_4 : List ByteArray), ∃ (x_5 : Bool), ((↑(idxF kindsL w (x - (1 : Nat))) : Int) = x_1 ∧ (numB y).fst = x_2 ∧ (0 : Int) = x_3 ∧ List.drop (Int.toNat (1 : Int)) l ≍ x_4 ∧ (ok && decide ((↑(idxF kindsL w (x - (1 : Nat))) : Int) > (0 : Int)) && (numB y).snd) = x_5 ∧ True) ∧ (x_1, x_2, x_3, x_4, x_5) = opF w l ok)))) = _) ?_
  refine ⟨⟨0, by omega, rfl, rfl, rfl, HEq.rfl, rfl, rfl, rfl, rfl, rfl, rfl, rfl, trivial⟩, fun x hx => ⟨fun hk => ⟨by simp only [decide_eq_true_eq] at hk; omega, ?_, ?_, ?_, ?_, ?_, trivial⟩, fun hk => ?_⟩⟩
  · intro h0
    have h0 : x = 0 := by omega
    subst h0
    refine ⟨fun h => ?_, fun h => ⟨by omega, 0 + 1, by omega, by omega, rfl, rfl, rfl, HEq.rfl, rfl, rfl, rfl, rfl, rfl, rfl, rfl, trivial⟩⟩
    exfalso
    rw [Bool.and_eq_true] at h
    have e := bytes_eq.1 h.1
    subst e
    rw [toList_data] at h
    exact absurd h.2 (by decide)
  · intro h0
    have h0 : x = 1 := by omega
    subst h0
    refine ⟨fun h => ⟨by omega, 1 + 1, by omega, by omega, rfl, rfl, by simp, HEq.rfl, rfl, rfl, rfl, rfl, ?_, rfl, rfl, trivial⟩, fun h => ⟨by omega, 1 + 1, by omega, by omega, rfl, rfl, by simp, HEq.rfl, rfl, rfl, rfl, rfl, ?_, rfl, rfl, trivial⟩⟩
    · rw [Bool.and_eq_true] at h
      have e := bytes_eq.1 h.1
      rw [idx_step (k := 1) (by decide), if_pos (by rw [← e]; rfl)]
    · rw [idx_step (k := 1) (by decide), if_neg]
      intro e
      cases e
      simp only [toList_data] at h
      exact absurd h (by decide)
  · intro h0
    have h0 : x = 2 := by omega
    subst h0
    refine ⟨fun h => ⟨by omega, 2 + 1, by omega, by omega, rfl, rfl, by simp, HEq.rfl, rfl, rfl, rfl, rfl, ?_, rfl, rfl, trivial⟩, fun h => ⟨by omega, 2 + 1, by omega, by omega, rfl, rfl, by simp, HEq.rfl, rfl, rfl, rfl, rfl, ?_, rfl, rfl, trivial⟩⟩
    · rw [Bool.and_eq_true] at h
      have e := bytes_eq.1 h.1
      rw [idx_step (k := 2) (by decide), if_pos (by rw [← e]; rfl)]
    · rw [idx_step (k := 2) (by decide), if_neg]
      intro e
      cases e
      simp only [toList_data] at h
      exact absurd h (by decide)
  · intro h0
    have h0 : x = 3 := by omega
    subst h0
    refine ⟨fun h => ⟨by omega, 3 + 1, by omega, by omega, rfl, rfl, by simp, HEq.rfl, rfl, rfl, rfl, rfl, ?_, rfl, rfl, trivial⟩, fun h => ⟨by omega, 3 + 1, by omega, by omega, rfl, rfl, by simp, HEq.rfl, rfl, rfl, rfl, rfl, ?_, rfl, rfl, trivial⟩⟩
    · rw [Bool.and_eq_true] at h
      have e := bytes_eq.1 h.1
      rw [idx_step (k := 3) (by decide), if_pos (by rw [← e]; rfl)]
    · rw [idx_step (k := 3) (by decide), if_neg]
      intro e
      cases e
      simp only [toList_data] at h
      exact absurd h (by decide)
  · intro h0
    have h0 : x = 4 := by omega
    subst h0
    refine ⟨fun h => ⟨by omega, 4 + 1, by omega, by omega, rfl, rfl, by simp, HEq.rfl, rfl, rfl, rfl, rfl, ?_, rfl, rfl, trivial⟩, fun h => ⟨by omega, 4 + 1, by omega, by omega, rfl, rfl, by simp, HEq.rfl, rfl, rfl, rfl, rfl, ?_, rfl, rfl, trivial⟩⟩
    · rw [Bool.and_eq_true] at h
      have e := bytes_eq.1 h.1
      rw [idx_step (k := 4) (by decide), if_pos (by rw [← e]; rfl)]
    · rw [idx_step (k := 4) (by decide), if_neg]
      intro e
      cases e
      simp only [toList_data] at h
      exact absurd h (by decide)
  · have hx5 : x = 5 := by simp only [decide_eq_false_iff_not] at hk; omega
    subst hx5
    have hK : idxF kindsL w (5 - 1) = kindO w := rfl
    rw [hK]
    have hp : ∀ w ∈ l, ByteArray.size w ≤ 1000000 := hp
    clear hr hh hk hx
    have d0 : decide (((kindO w : Nat) : Int) > 0) = decide (0 < kindO w) := by simp
    rw [d0]
    refine ⟨fun h => ⟨by decide, fun h1 => ⟨fun h2 => ⟨by decide, _, _, _, _, _, ⟨rfl, rfl, rfl, HEq.rfl, rfl, trivial⟩, ?_⟩, fun h2 => absurd (h.symm.trans h2) (by decide)⟩, fun h1 => ⟨_, _, _, _, _, ⟨rfl, rfl, rfl, HEq.rfl, rfl, trivial⟩, ?_⟩⟩, fun h => ?_⟩
    · have hl : l = [] := List.length_eq_zero_iff.1 (by simp only [beq_iff_eq] at h; omega)
      subst hl
      have k1 : ¬ kindO w = 1 := fun e => by rw [e] at h1; exact absurd h1 (by decide)
      simp [opF, k1, nextN]
    · have hl : l = [] := List.length_eq_zero_iff.1 (by simp only [beq_iff_eq] at h; omega)
      subst hl
      have k1 : kindO w = 1 := by simp only [bne_eq_false_iff_eq] at h1; omega
      simp [opF, k1, nextN]
    · cases l with
      | nil => exact absurd h (by decide)
      | cons a r =>
        have ha : a.size ≤ 1000000 := hp a (by simp)
        refine ⟨by simp <;> omega, fun y hy => ?_⟩
        obtain rfl : a = y := Option.some.inj hy
        refine ⟨by simp <;> omega, ha, fun h1 => ?_, fun h1 => ⟨_, _, _, _, _, ⟨rfl, rfl, rfl, HEq.rfl, rfl, trivial⟩, ?_⟩⟩
        · have k1 : ¬ kindO w = 1 := fun e => by rw [e] at h1; exact absurd h1 (by decide)
          cases r with
          | nil => exact ⟨fun _ => ⟨by decide, _, _, _, _, _, ⟨rfl, rfl, rfl, HEq.rfl, rfl, trivial⟩, by simp [opF, k1, nextN]⟩, fun h => absurd h (by simp)⟩
          | cons b r =>
            have hb : b.size ≤ 1000000 := hp b (by simp)
            refine ⟨fun h => absurd h (by simp <;> omega), fun _ => ⟨by simp <;> omega, fun y hy => ?_⟩⟩
            obtain rfl : b = y := Option.some.inj hy
            exact ⟨by simp <;> omega, hb, _, _, _, _, _, ⟨rfl, rfl, rfl, HEq.rfl, rfl, trivial⟩, by simp [opF, k1, nextN]⟩
        · have k1 : kindO w = 1 := by simp only [bne_eq_false_iff_eq] at h1; omega
          simp [opF, k1, nextN]
end Go.Proofs.YtljbcclpmlkpnaaDoor.V
