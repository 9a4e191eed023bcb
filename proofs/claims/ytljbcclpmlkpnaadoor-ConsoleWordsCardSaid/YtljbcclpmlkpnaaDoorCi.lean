import Derived.KernelRfl
import Derived.Test.YtljbcclpmlkpnaaDoorCh
namespace Go.Proofs.YtljbcclpmlkpnaaDoor.V
open Go.RowKit Go.Proofs.YtljbcclpmlkpnaaDoor
set_option linter.unusedSimpArgs false
set_option pp.deepTerms true
set_option pp.maxSteps 200000
abbrev M5 : List (Nat × Spec) := (29, .full op29.call) :: M4
theorem M5_all : ∀ p ∈ M5, Valid Tryd.prog p.1 p.2 := vcons v29 M4_all
theorem M5_ok : ∀ f S, spL M5 f = some S → Valid Tryd.prog f S := spL_ok M5_all
theorem numO_n0 {a : ByteArray} (h : (numB a).2 = false) : numO a = none := by rw [numO, h]; rfl
theorem numO_n1 {a : ByteArray} (h : (numB a).2 = true) : numO a = some (numB a).1 := by rw [numO, h]; rfl
theorem opF_tx {w : ByteArray} {r : List ByteArray} (hc : w ≠ commitB) (ha : w ≠ abortB) {k n v : Int} {l' : List ByteArray} {ok' : Bool} (h : (k, n, v, l', ok') = opF w r true) :
    (ok' = true → txW (w :: r) = addO (k, n, v) (txW l')) ∧ (ok' = false → txW (w :: r) = none) ∧ l'.length ≤ r.length ∧ ∀ x ∈ l', x ∈ r := by
  rcases r with _ | ⟨a, r⟩
  · by_cases k1 : kindO w = 1 <;> simp [opF, k1, nextN] at h <;> obtain ⟨rfl, rfl, rfl, rfl, rfl⟩ := h <;> simp [txW, hc, ha]
  rcases hA : numB a with ⟨na, oa⟩
  by_cases k1 : kindO w = 1
  · simp [opF, k1, nextN, hA] at h
    obtain ⟨rfl, rfl, rfl, rfl, rfl⟩ := h
    refine ⟨fun e => ?_, fun e => ?_, by simp, fun x hx => by simp [hx]⟩
    · rw [tx_k1 k1, numO_n1 (by rw [hA]; exact e), hA]
      cases l' with
      | nil => simp [txW, addO]
      | cons b r => simp
    · rw [tx_k1 k1, numO_n0 (by rw [hA]; exact e)]
      simp
  · rcases r with _ | ⟨b, r⟩
    · simp [opF, k1, nextN, hA] at h
      obtain ⟨rfl, rfl, rfl, rfl, rfl⟩ := h
      refine ⟨fun e => (by cases e), fun _ => rfl, by simp, fun x hx => (by cases hx)⟩
    rcases hB : numB b with ⟨nb, ob⟩
    simp [opF, k1, nextN, hA, hB] at h
    obtain ⟨rfl, rfl, rfl, rfl, rfl⟩ := h
    refine ⟨fun e => ?_, fun e => ?_, by simp only [List.length_cons]; omega, fun x hx => by simp [hx]⟩
    · simp only [Bool.and_eq_true, decide_eq_true_eq] at e
      obtain ⟨⟨⟨e0, e1⟩, e2⟩, e3⟩ := e
      have hbd := numB_bd b
      rw [hB] at hbd
      rw [tx_kN (by omega) k1, numO_n1 (by rw [hA]; exact e1), numO_n1 (by rw [hB]; exact e2), hA, hB]
      simp only [Option.bind_some]
      rw [if_pos e3, show IntKind.u64.wrap nb = nb by rw [IntKind.wrap_u64]; dsimp only at hbd; omega]
      cases l' with
      | nil => simp [txW, addO]
      | cons c r => simp
    · by_cases k0 : kindO w = 0
      · exact tx_k0 k0
      rw [tx_kN k0 k1]
      by_cases hr : l' = []
      · rw [if_pos hr]
      rw [if_neg hr]
      cases oa with
      | false => rw [numO_n0 (by rw [hA])]; rfl
      | true =>
        rw [numO_n1 (by rw [hA]), hA]
        cases ob with
        | false => rw [numO_n0 (by rw [hB])]; rfl
        | true =>
          rw [numO_n1 (by rw [hB]), hB]
          simp only [Option.bind_some]
          rw [if_neg]
          intro h3
          simp [h3] at e
          omega
theorem tx_stop {s w : ByteArray} {O : List ON} {r : List ByteArray} {b : Bool} (hW : txW (wd s) = preO' O (txW (w :: r))) (hk : kindO w = 0) (hb : txW [w] = some ([], b)) :
    (decide ((r.length : Int) > 0) = true → ∃ y : TN × Int, y = txF s ∧ y.1.1 = [] ∧ false = y.1.2 ∧ 320 = y.2 ∧ True) ∧
    (decide ((r.length : Int) > 0) = false → ((!goodT (O, b)) = true → ∃ y : TN × Int, y = txF s ∧ y.1.1 = [] ∧ false = y.1.2 ∧ 320 = y.2 ∧ True) ∧ ((!goodT (O, b)) = false → ∃ y : TN × Int, y = txF s ∧ HEq O y.1.1 ∧ b = y.1.2 ∧ 0 = y.2 ∧ True)) := by
  refine ⟨fun h => ?_, fun h => ?_⟩
  · cases r with
    | nil => exact absurd h (by simp)
    | cons a l => exact tx_fail (by rw [hW, tx_k0 hk]; rfl)
  · have : r = [] := List.length_eq_zero_iff.1 (by simp only [decide_eq_false_iff_not] at h; omega)
    subst this
    exact tx_end (by rw [hW, hb]; simp [preO'])
abbrev QX := (List ByteArray × Bool) × List ON
structure I10 (W : List ByteArray) (x : QX) : Prop where
  tx : x.1.2 = true → txW W = preO' x.2 (txW x.1.1)
  no : x.1.2 = false → txW W = none
  mem : ∀ w ∈ x.1.1, w ∈ W
  ln : x.2.length + x.1.1.length + x.1.2.toNat ≤ W.length + 1
abbrev lp10 (s : ByteArray) : Nat → Option LoopSp := fun r => match r with
  | 3 => some { X := QX, sl := fun x => [(2, .one (.ptr 0 0)), (4, .one (.ptr 1 0)), (5, .one (.ptr 2 0))], h := fun x => [(0, .blk [.val (.slice none 0 0), .val (.bool false)] 32), (1, .blk [.rd .str x.1.1, .val (.bool x.1.2)] 55), (2, .blk [.sl 3, .val (.bool false)] 32), (3, .own 51 shO x.2)], nx := 4, inv := fun x => I10 (wd s) x, mu := fun x => x.1.1.length + x.1.2.toNat }
  | _ => none
theorem v10 : Valid Tryd.prog 10 (.pre (rS [pS] [pT, pI] (fun x => ByteArray.size x ≤ 1000000) (fun x y => y = txF x))) := by
  refine rS_ok mixed Tbl_ok M5_ok Tryd.func10 call10 rfl ?_
  rintro (s : ByteArray) hr hs
  refine ⟨lp10 s, ?_⟩
  refine Eq.mp (by kernel_rfl : (s.size ≤ (1000000 : Nat) ∧ ∀ (y : Tup (pSs :: ([] : List PS))), y = wd s → (∃ (x : QX), I10 (wd s) x ∧ Value.slice (none : Option Addr) (0 : Nat) (0 : Nat) = Value.slice (none : Option Addr) (0 : Nat) (0 : Nat) ∧ false = false ∧ y ≍ x.fst.fst ∧ true = x.fst.snd ∧ false = false ∧ x.snd = ([] : List (Int × Int × Int)) ∧ True) ∧ ∀ (x : QX), I10 (wd s) x → (x.fst.snd = true → (((↑x.fst.fst.length : Int) == (0 : Int)) = true → (((ByteArray.mk ([] : List UInt8).toArray).toList == (ByteArray.mk ((99 : UInt8) :: (111 : UInt8) :: (109 : UInt8) :: (109 : UInt8) :: (105 : UInt8) :: (116 : UInt8) :: ([] : List UInt8)).toArray).toList) = true → (((ByteArray.mk ([] : List UInt8).toArray).toList == (ByteArray.mk ((99 : UInt8) :: (111 : UInt8) :: (109 : UInt8) :: (109 : UInt8) :: (105 : UInt8) :: (116 : UInt8) :: ([] : List UInt8)).toArray).toList) = true → (decide ((↑x.fst.fst.length : Int) > (0 : Int)) = true → ∃ (y : Tup (pT :: pI :: ([] : List PS))), y = txF s ∧ y.fst.fst = ([] : List (Int × Int × Int)) ∧ false = y.fst.snd ∧ (320 : Int) = y.snd ∧ True) ∧ (decide ((↑x.fst.fst.length : Int) > (0 : Int)) = false → ((!goodT (x.snd, (ByteArray.mk ([] : List UInt8).toArray).toList == (ByteArray.mk ((97 : UInt8) :: (98 : UInt8) :: (111 : UInt8) :: (114 : UInt8) :: (116 : UInt8) :: ([] : List UInt8)).toArray).toList)) = true → ∃ (y : Tup (pT :: pI :: ([] : List PS))), y = txF s ∧ y.fst.fst = ([] : List (Int × Int × Int)) ∧ false = y.fst.snd ∧ (320 : Int) = y.snd ∧ True) ∧ ((!goodT (x.snd, (ByteArray.mk ([] : List UInt8).toArray).toList == (ByteArray.mk ((97 : UInt8) :: (98 : UInt8) :: (111 : UInt8) :: (114 : UInt8) :: (116 : UInt8) :: ([] : List UInt8)).toArray).toList)) = false → ∃ (y : Tup (pT :: pI :: ([] : List PS))), y = txF s ∧ x.snd ≍ y.fst.fst ∧ ((ByteArray.mk ([] : List UInt8).toArray).toList == (ByteArray.mk ((97 : UInt8) :: (98 : UInt8) :: (111 : UInt8) :: (114 : UInt8) :: (116 : UInt8) :: ([] : List UInt8)).toArray).toList) = y.fst.snd ∧ (0 : Int) = y.snd ∧ True))) ∧ (((ByteArray.mk ([] : List UInt8).toArray).toList == (ByteArray.mk ((99 : UInt8) :: (111 : UInt8) :: (109 : UInt8) :: (109 : UInt8) :: (105 : UInt8) :: (116 : UInt8) :: ([] : List UInt8)).toArray).toList) = false → ((∀ (w : ByteArray), w ∈ x.fst.fst → w.size ≤ (1000000 : Nat)) ∧ ∀ (x_1 x_2 x_3 : Int) (x_4 : List ByteArray) (x_5 : Bool), (x_1, x_2, x_3, x_4, x_5) = opF (ByteArray.mk ([] : List UInt8).toArray) x.fst.fst false → (x.snd.length + ((x_1, x_2, x_3) :: ([] : List (Int × Int × Int))).length) * (24 : Nat) ≤ (140737488355328 : Nat) ∧ ∃ (y : QX), I10 (wd s) y ∧ y.fst.fst.length + y.fst.snd.toNat < x.fst.fst.length + x.fst.snd.toNat ∧ Value.slice (none : Option Addr) (0 : Nat) (0 : Nat) = Value.slice (none : Option Addr) (0 : Nat) (0 : Nat) ∧ false = false ∧ x_4 ≍ y.fst.fst ∧ x_5 = y.fst.snd ∧ false = false ∧ x.snd ++ (x_1, x_2, x_3) :: ([] : List (Int × Int × Int)) ≍ y.snd ∧ True) ∧ (∀ (w : ByteArray), w ∈ x.fst.fst → w.size ≤ (1000000 : Nat)) ∧ ∀ (x_1 x_2 x_3 : Int) (x_4 : List ByteArray) (x_5 : Bool), (x_1, x_2, x_3, x_4, x_5) = opF (ByteArray.mk ([] : List UInt8).toArray) x.fst.fst false → ((x.snd.length + ((x_1, x_2, x_3) :: ([] : List (Int × Int × Int))).length) * (24 : Nat) ≤ (140737488355328 : Nat) ∧ ∃ (y : QX), I10 (wd s) y ∧ y.fst.fst.length + y.fst.snd.toNat < x.fst.fst.length + x.fst.snd.toNat ∧ Value.slice (none : Option Addr) (0 : Nat) (0 : Nat) = Value.slice (none : Option Addr) (0 : Nat) (0 : Nat) ∧ false = false ∧ x_4 ≍ y.fst.fst ∧ x_5 = y.fst.snd ∧ false = false ∧ x.snd ++ (x_1, x_2, x_3) :: ([] : List (Int × Int × Int)) ≍ y.snd ∧ True) ∧ (x.snd.length + ((x_1, x_2, x_3) :: ([] : List (Int × Int × Int))).length) * (24 : Nat) ≤ (140737488355328 : Nat) ∧ ∃ (y : QX), I10 (wd s) y ∧ y.fst.fst.length + y.fst.snd.toNat < x.fst.fst.length + x.fst.snd.toNat ∧ Value.slice (none : Option Addr) (0 : Nat) (0 : Nat) = Value.slice (none : Option Addr) (0 : Nat) (0 : Nat) ∧ false = false ∧ x_4 ≍ y.fst.fst ∧ x_5 = y.fst.snd ∧ false = false ∧ x.snd ++ (x_1, x_2, x_3) :: ([] : List (Int × Int × Int)) ≍ y.snd ∧ True)) ∧ (((ByteArray.mk ([] : List UInt8).toArray).toList == (ByteArray.mk ((99 : UInt8) :: (111 : UInt8) :: (109 : UInt8) :: (109 : UInt8) :: (105 : UInt8) :: (116 : UInt8) :: ([] : List UInt8)).toArray).toList) = false → (((ByteArray.mk ([] : List UInt8).toArray).toList == (ByteArray.mk ((97 : UInt8) :: (98 : UInt8) :: (111 : UInt8) :: (114 : UInt8) :: (116 : UInt8) :: ([] : List UInt8)).toArray).toList) = true → (decide ((↑x.fst.fst.length : Int) > (0 : Int)) = true → ∃ (y : Tup (pT :: pI :: ([] : List PS))), y = txF s ∧ y.fst.fst = ([] : List (Int × Int × Int)) ∧ false = y.fst.snd ∧ (320 : Int) = y.snd ∧ True) ∧ (decide ((↑x.fst.fst.length : Int) > (0 : Int)) = false → ((!goodT (x.snd, (ByteArray.mk ([] : List UInt8).toArray).toList == (ByteArray.mk ((97 : UInt8) :: (98 : UInt8) :: (111 : UInt8) :: (114 : UInt8) :: (116 : UInt8) :: ([] : List UInt8)).toArray).toList)) = true → ∃ (y : Tup (pT :: pI :: ([] : List PS))), y = txF s ∧ y.fst.fst = ([] : List (Int × Int × Int)) ∧ false = y.fst.snd ∧ (320 : Int) = y.snd ∧ True) ∧ ((!goodT (x.snd, (ByteArray.mk ([] : List UInt8).toArray).toList == (ByteArray.mk ((97 : UInt8) :: (98 : UInt8) :: (111 : UInt8) :: (114 : UInt8) :: (116 : UInt8) :: ([] : List UInt8)).toArray).toList)) = false → ∃ (y : Tup (pT :: pI :: ([] : List PS))), y = txF s ∧ x.snd ≍ y.fst.fst ∧ ((ByteArray.mk ([] : List UInt8).toArray).toList == (ByteArray.mk ((97 : UInt8) :: (98 : UInt8) :: (111 : UInt8) :: (114 : UInt8) :: (116 : UInt8) :: ([] : List UInt8)).toArray).toList) = y.fst.snd ∧ (0 : Int) = y.snd ∧ True))) ∧ (((ByteArray.mk ([] : List UInt8).toArray).toList == (ByteArray.mk ((97 : UInt8) :: (98 : UInt8) :: (111 : UInt8) :: (114 : UInt8) :: (116 : UInt8) :: ([] : List UInt8)).toArray).toList) = false → ((∀ (w : ByteArray), w ∈ x.fst.fst → w.size ≤ (1000000 : Nat)) ∧ ∀ (x_1 x_2 x_3 : Int) (x_4 : List ByteArray) (x_5 : Bool), (x_1, x_2, x_3, x_4, x_5) = opF (ByteArray.mk ([] : List UInt8).toArray) x.fst.fst false → (x.snd.length + ((x_1, x_2, x_3) :: ([] : List (Int × Int × Int))).length) * (24 : Nat) ≤ (140737488355328 : Nat) ∧ ∃ (y : QX), I10 (wd s) y ∧ y.fst.fst.length + y.fst.snd.toNat < x.fst.fst.length + x.fst.snd.toNat ∧ Value.slice (none : Option Addr) (0 : Nat) (0 : Nat) = Value.slice (none : Option Addr) (0 : Nat) (0 : Nat) ∧ false = false ∧ x_4 ≍ y.fst.fst ∧ x_5 = y.fst.snd ∧ false = false ∧ x.snd ++ (x_1, x_2, x_3) :: ([] : List (Int × Int × Int)) ≍ y.snd ∧ True) ∧ (∀ (w : ByteArray), w ∈ x.fst.fst → w.size ≤ (1000000 : Nat)) ∧ ∀ (x_1 x_2 x_3 : Int) (x_4 : List ByteArray) (x_5 : Bool), (x_1, x_2, x_3, x_4, x_5) = opF (ByteArray.mk ([] : List UInt8).toArray) x.fst.fst false → ((x.snd.length + ((x_1, x_2, x_3) :: ([] : List (Int × Int × Int))).length) * (24 : Nat) ≤ (140737488355328 : Nat) ∧ ∃ (y : QX), I10 (wd s) y ∧ y.fst.fst.length + y.fst.snd.toNat < x.fst.fst.length + x.fst.snd.toNat ∧ Value.slice (none : Option Addr) (0 : Nat) (0 : Nat) = Value.slice (none : Option Addr) (0 : Nat) (0 : Nat) ∧ false = false ∧ x_4 ≍ y.fst.fst ∧ x_5 = y.fst.snd ∧ false = false ∧ x.snd ++ (x_1, x_2, x_3) :: ([] : List (Int × Int × Int)) ≍ y.snd ∧ True) ∧ (x.snd.length + ((x_1, x_2, x_3) :: ([] : List (Int × Int × Int))).length) * (24 : Nat) ≤ (140737488355328 : Nat) ∧ ∃ (y : QX), I10 (wd s) y ∧ y.fst.fst.length + y.fst.snd.toNat < x.fst.fst.length + x.fst.snd.toNat ∧ Value.slice (none : Option Addr) (0 : Nat) (0 : Nat) = Value.slice (none : Option Addr) (0 : Nat) (0 : Nat) ∧ false = false ∧ x_4 ≍ y.fst.fst ∧ x_5 = y.fst.snd ∧ false = false ∧ x.snd ++ (x_1, x_2, x_3) :: ([] : List (Int × Int × Int)) ≍ y.snd ∧ True))) ∧ (((↑x.fst.fst.length : Int) == (0 : Int)) = false → ((0 : Int) ≤ (0 : Int) ∧ (0 : Int) < (↑x.fst.fst.length : Int)) ∧ ∀ (y : ByteArray), x.fst.fst[Int.toNat (0 : Int)]? = some y → ((0 : Int) ≤ (1 : Int) ∧ (1 : Int) ≤ (↑x.fst.fst.length : Int)) ∧ ((y.toList == (ByteArray.mk ((99 : UInt8) :: (111 : UInt8) :: (109 : UInt8) :: (109 : UInt8) :: (105 : UInt8) :: (116 : UInt8) :: ([] : List UInt8)).toArray).toList) = true → ((y.toList == (ByteArray.mk ((99 : UInt8) :: (111 : UInt8) :: (109 : UInt8) :: (109 : UInt8) :: (105 : UInt8) :: (116 : UInt8) :: ([] : List UInt8)).toArray).toList) = true → (decide ((↑(List.drop (Int.toNat (1 : Int)) x.fst.fst).length : Int) > (0 : Int)) = true → ∃ (y : Tup (pT :: pI :: ([] : List PS))), y = txF s ∧ y.fst.fst = ([] : List (Int × Int × Int)) ∧ false = y.fst.snd ∧ (320 : Int) = y.snd ∧ True) ∧ (decide ((↑(List.drop (Int.toNat (1 : Int)) x.fst.fst).length : Int) > (0 : Int)) = false → ((!goodT (x.snd, y.toList == (ByteArray.mk ((97 : UInt8) :: (98 : UInt8) :: (111 : UInt8) :: (114 : UInt8) :: (116 : UInt8) :: ([] : List UInt8)).toArray).toList)) = true → ∃ (y : Tup (pT :: pI :: ([] : List PS))), y = txF s ∧ y.fst.fst = ([] : List (Int × Int × Int)) ∧ false = y.fst.snd ∧ (320 : Int) = y.snd ∧ True) ∧ ((!goodT (x.snd, y.toList == (ByteArray.mk ((97 : UInt8) :: (98 : UInt8) :: (111 : UInt8) :: (114 : UInt8) :: (116 : UInt8) :: ([] : List UInt8)).toArray).toList)) = false → ∃ (y_1 : Tup (pT :: pI :: ([] : List PS))), y_1 = txF s ∧ x.snd ≍ y_1.fst.fst ∧ (y.toList == (ByteArray.mk ((97 : UInt8) :: (98 : UInt8) :: (111 : UInt8) :: (114 : UInt8) :: (116 : UInt8) :: ([] : List UInt8)).toArray).toList) = y_1.fst.snd ∧ (0 : Int) = y_1.snd ∧ True))) ∧ ((y.toList == (ByteArray.mk ((99 : UInt8) :: (111 : UInt8) :: (109 : UInt8) :: (109 : UInt8) :: (105 : UInt8) :: (116 : UInt8) :: ([] : List UInt8)).toArray).toList) = false → ((∀ (w : ByteArray), w ∈ List.drop (Int.toNat (1 : Int)) x.fst.fst → w.size ≤ (1000000 : Nat)) ∧ ∀ (x_1 x_2 x_3 : Int) (x_4 : List ByteArray) (x_5 : Bool), (x_1, x_2, x_3, x_4, x_5) = opF y (List.drop (Int.toNat (1 : Int)) x.fst.fst) x.fst.snd → (x.snd.length + ((x_1, x_2, x_3) :: ([] : List (Int × Int × Int))).length) * (24 : Nat) ≤ (140737488355328 : Nat) ∧ ∃ (y : QX), I10 (wd s) y ∧ y.fst.fst.length + y.fst.snd.toNat < x.fst.fst.length + x.fst.snd.toNat ∧ Value.slice (none : Option Addr) (0 : Nat) (0 : Nat) = Value.slice (none : Option Addr) (0 : Nat) (0 : Nat) ∧ false = false ∧ x_4 ≍ y.fst.fst ∧ x_5 = y.fst.snd ∧ false = false ∧ x.snd ++ (x_1, x_2, x_3) :: ([] : List (Int × Int × Int)) ≍ y.snd ∧ True) ∧ (∀ (w : ByteArray), w ∈ List.drop (Int.toNat (1 : Int)) x.fst.fst → w.size ≤ (1000000 : Nat)) ∧ ∀ (x_1 x_2 x_3 : Int) (x_4 : List ByteArray) (x_5 : Bool), (x_1, x_2, x_3, x_4, x_5) = opF y (List.drop (Int.toNat (1 : Int)) x.fst.fst) x.fst.snd → ((x.snd.length + ((x_1, x_2, x_3) :: ([] : List (Int × Int × Int))).length) * (24 : Nat) ≤ (140737488355328 : Nat) ∧ ∃ (y : QX), I10 (wd s) y ∧ y.fst.fst.length + y.fst.snd.toNat < x.fst.fst.length + x.fst.snd.toNat ∧ Value.slice (none : Option Addr) (0 : Nat) (0 : Nat) = Value.slice (none : Option Addr) (0 : Nat) (0 : Nat) ∧ false = false ∧ x_4 ≍ y.fst.fst ∧ x_5 = y.fst.snd ∧ false = false ∧ x.snd ++ (x_1, x_2, x_3) :: ([] : List (Int × Int × Int)) ≍ y.snd ∧ True) ∧ (x.snd.length + ((x_1, x_2, x_3) :: ([] : List (Int × Int × Int))).length) * (24 : Nat) ≤ (140737488355328 : Nat) ∧ ∃ (y : QX), I10 (wd s) y ∧ y.fst.fst.length + y.fst.snd.toNat < x.fst.fst.length + x.fst.snd.toNat ∧ Value.slice (none : Option Addr) (0 : Nat) (0 : Nat) = Value.slice (none : Option Addr) (0 : Nat) (0 : Nat) ∧ false = false ∧ x_4 ≍ y.fst.fst ∧ x_5 = y.fst.snd ∧ false = false ∧ x.snd ++ (x_1, x_2, x_3) :: ([] : List (Int × Int × Int)) ≍ y.snd ∧ True)) ∧ ((y.toList == (ByteArray.mk ((99 : UInt8) :: (111 : UInt8) :: (109 : UInt8) :: (109 : UInt8) :: (105 : UInt8) :: (116 : UInt8) :: ([] : List UInt8)).toArray).toList) = false → ((y.toList == (ByteArray.mk ((97 : UInt8) :: (98 : UInt8) :: (111 : UInt8) :: (114 : UInt8) :: (116 : UInt8) :: ([] : List UInt8)).toArray).toList) = true → (decide ((↑(List.drop (Int.toNat (1 : Int)) x.fst.fst).length : Int) > (0 : Int)) = true → ∃ (y : Tup (pT :: pI :: ([] : List PS))), y = txF s ∧ y.fst.fst = ([] : List (Int × Int × Int)) ∧ false = y.fst.snd ∧ (320 : Int) = y.snd ∧ True) ∧ (decide ((↑(List.drop (Int.toNat (1 : Int)) x.fst.fst).length : Int) > (0 : Int)) = false → ((!goodT (x.snd, y.toList == (ByteArray.mk ((97 : UInt8) :: (98 : UInt8) :: (111 : UInt8) :: (114 : UInt8) :: (116 : UInt8) :: ([] : List UInt8)).toArray).toList)) = true → ∃ (y : Tup (pT :: pI :: ([] : List PS))), y = txF s ∧ y.fst.fst = ([] : List (Int × Int × Int)) ∧ false = y.fst.snd ∧ (320 : Int) = y.snd ∧ True) ∧ ((!goodT (x.snd, y.toList == (ByteArray.mk ((97 : UInt8) :: (98 : UInt8) :: (111 : UInt8) :: (114 : UInt8) :: (116 : UInt8) :: ([] : List UInt8)).toArray).toList)) = false → ∃ (y_1 : Tup (pT :: pI :: ([] : List PS))), y_1 = txF s ∧ x.snd ≍ y_1.fst.fst ∧ (y.toList == (ByteArray.mk ((97 : UInt8) :: (98 : UInt8) :: (111 : UInt8) :: (114 : UInt8) :: (116 : UInt8) :: ([] : List UInt8)).toArray).toList) = y_1.fst.snd ∧ (0 : Int) = y_1.snd ∧ True))) ∧ ((y.toList == (ByteArray.mk ((97 : UInt8) :: (98 : UInt8) :: (111 : UInt8) :: (114 : UInt8) :: (116 : UInt8) :: ([] : List UInt8)).toArray).toList) = false → ((∀ (w : ByteArray), w ∈ List.drop (Int.toNat (1 : Int)) x.fst.fst → w.size ≤ (1000000 : Nat)) ∧ ∀ (x_1 x_2 x_3 : Int) (x_4 : List ByteArray) (x_5 : Bool), (x_1, x_2, x_3, x_4, x_5) = opF y (List.drop (Int.toNat (1 : Int)) x.fst.fst) x.fst.snd → (x.snd.length + ((x_1, x_2, x_3) :: ([] : List (Int × Int × Int))).length) * (24 : Nat) ≤ (140737488355328 : Nat) ∧ ∃ (y : QX), I10 (wd s) y ∧ y.fst.fst.length + y.fst.snd.toNat < x.fst.fst.length + x.fst.snd.toNat ∧ Value.slice (none : Option Addr) (0 : Nat) (0 : Nat) = Value.slice (none : Option Addr) (0 : Nat) (0 : Nat) ∧ false = false ∧ x_4 ≍ y.fst.fst ∧ x_5 = y.fst.snd ∧ false = false ∧ x.snd ++ (x_1, x_2, x_3) :: ([] : List (Int × Int × Int)) ≍ y.snd ∧ True) ∧ (∀ (w : ByteArray), w ∈ List.drop (Int.toNat (1 : Int)) x.fst.fst → w.size ≤ (1000000 : Nat)) ∧ ∀ (x_1 x_2 x_3 : Int) (x_4 : List ByteArray) (x_5 : Bool), (x_1, x_2, x_3, x_4, x_5) = opF y (List.drop (Int.toNat (1 : Int)) x.fst.fst) x.fst.snd → ((x.snd.length + ((x_1, x_2, x_3) :: ([] : List (Int × Int × Int))).length) * (24 : Nat) ≤ (140737488355328 : Nat) ∧ ∃ (y : QX), I10 (wd s) y ∧ y.fst.fst.length + y.fst.snd.toNat < x.fst.fst.length + x.fst.snd.toNat ∧ Value.slice (none : Option Addr) (0 : Nat) (0 : Nat) = Value.slice (none : Option Addr) (0 : Nat) (0 : Nat) ∧ false = false ∧ x_4 ≍ y.fst.fst ∧ x_5 = y.fst.snd ∧ false = false ∧ x.snd ++ (x_1, x_2, x_3) :: ([] : List (Int × Int × Int)) ≍ y.snd ∧ True) ∧ (x.snd.length + ((x_1, x_2, x_3) :: ([] : List (Int × Int × Int))).length) * (24 : Nat) ≤ (140737488355328 : Nat) ∧ ∃ (y : QX), I10 (wd s) y ∧ y.fst.fst.length + y.fst.snd.toNat < x.fst.fst.length + x.fst.snd.toNat ∧ Value.slice (none : Option Addr) (0 : Nat) (0 : Nat) = Value.slice (none : Option Addr) (0 : Nat) (0 : Nat) ∧ false = false ∧ x_4 ≍ y.fst.fst ∧ x_5 = y.fst.snd ∧ false = false ∧ x.snd ++ (x_1, x_2, x_3) :: ([] : List (Int × Int × Int)) ≍ y.snd ∧ True)))) ∧ (x.fst.snd = false → ∃ (y : Tup (pT :: pI :: ([] : List PS))), y = txF s ∧ y.fst.fst = ([] : List (Int × Int × Int)) ∧ false = y.fst.snd ∧ (320 : Int) = y.snd ∧ True)) = _) ?_
  have hs : s.size ≤ 1000000 := hs
  have hlen := wd_len s
  refine ⟨hs, fun y hy => ?_⟩
  have hy : y = wd s := hy
  subst hy
  refine ⟨⟨((wd s, true), []), ⟨fun _ => by simp [preO'], fun h => (by cases h), fun _ h => h, by simp⟩, rfl, rfl, HEq.rfl, rfl, rfl, rfl, trivial⟩, ?_⟩
  rintro ⟨⟨l, ok⟩, O⟩ hx
  have hO := hx.ln
  have mem : ∀ w ∈ l, w.size ≤ 1000000 := fun w h => Nat.le_trans (wd_mem (hx.mem w h)) hs
  dsimp only at hO ⊢
  refine ⟨fun h1 => ?_, fun h1 => ?_⟩
  · subst h1
    have htx := hx.tx rfl
    dsimp only at htx
    simp only [Bool.toNat_true] at hO
    refine ⟨fun h2 => ?_, fun h2 => ?_⟩
    · have hl : l = [] := List.length_eq_zero_iff.1 (by simp only [beq_iff_eq] at h2; omega)
      subst hl
      have bad : ∀ {P : Prop}, ((ByteArray.mk ([] : List UInt8).toArray).toList == commitB.toList) = true → P := fun h => by rw [toList_data, toList_data] at h; exact absurd h (by decide)
      have bad2 : ∀ {P : Prop}, ((ByteArray.mk ([] : List UInt8).toArray).toList == abortB.toList) = true → P := fun h => by rw [toList_data, toList_data] at h; exact absurd h (by decide)
      have step : ∀ (x1 x2 x3 : Int) (x4 : List ByteArray) (x5 : Bool), (x1, x2, x3, x4, x5) = opF (ByteArray.mk ([] : List UInt8).toArray) [] false → (O.length + [(x1, x2, x3)].length) * 24 ≤ 140737488355328 ∧ ∃ y : QX, I10 (wd s) y ∧ y.1.1.length + y.1.2.toNat < ([] : List ByteArray).length + true.toNat ∧ Value.slice (none : Option Addr) 0 0 = Value.slice (none : Option Addr) 0 0 ∧ false = false ∧ HEq x4 y.1.1 ∧ x5 = y.1.2 ∧ false = false ∧ HEq (O ++ [(x1, x2, x3)]) y.2 ∧ True := by
        intro x1 x2 x3 x4 x5 e
        have k1 : kindO (ByteArray.mk ([] : List UInt8).toArray) = 0 := by decide
        simp [opF, k1, nextN] at e
        obtain ⟨rfl, rfl, rfl, rfl, rfl⟩ := e
        refine ⟨by simp only [List.length_nil, List.length_singleton] at *; omega, (([], false), O ++ [_]), ⟨fun h => (by cases h), fun _ => ?_, fun _ h => (by cases h), ?_⟩, Nat.zero_lt_one, rfl, rfl, HEq.rfl, rfl, rfl, HEq.rfl, trivial⟩
        · rw [htx]; rfl
        · simp only [List.length_append, List.length_singleton, List.length_nil, Bool.toNat_false] at *; omega
      exact ⟨fun h => bad h, fun _ => ⟨fun h => bad2 h, fun _ => ⟨⟨fun w h => (by cases h), step⟩, fun w h => (by cases h), fun x1 x2 x3 x4 x5 e => ⟨step x1 x2 x3 x4 x5 e, step x1 x2 x3 x4 x5 e⟩⟩⟩⟩
    · cases l with
      | nil => exact absurd h2 (by decide)
      | cons w r =>
        refine ⟨by simp <;> omega, fun y hy => ?_⟩
        obtain rfl : w = y := Option.some.inj hy
        refine ⟨by simp <;> omega, fun h3 => ?_, fun h3 => ?_⟩
        · have e : w = commitB := bytes_eq.1 h3
          subst e
          have hb : (commitB.toList == (ByteArray.mk (97 :: 98 :: 111 :: 114 :: 116 :: ([] : List UInt8)).toArray).toList) = false := by rw [toList_data, toList_data]; decide
          rw [hb]
          exact ⟨fun _ => tx_stop htx (by decide) rfl, fun h => absurd (h3.symm.trans h) (by decide)⟩
        · have hc : w ≠ commitB := fun e => by
            subst e
            have : (commitB.toList == commitB.toList) = false := h3
            rw [beq_self_eq_true] at this
            cases this
          refine ⟨fun h4 => ?_, fun h4 => ?_⟩
          · have e : w = abortB := bytes_eq.1 h4
            subst e
            have hb : (abortB.toList == (ByteArray.mk (97 :: 98 :: 111 :: 114 :: 116 :: ([] : List UInt8)).toArray).toList) = true := by rw [toList_data, toList_data]; decide
            rw [hb]
            exact tx_stop htx (by decide) rfl
          · have ha : w ≠ abortB := fun e => by
              subst e
              have : (abortB.toList == abortB.toList) = false := h4
              rw [beq_self_eq_true] at this
              cases this
            have mem2 : ∀ w ∈ r, w.size ≤ 1000000 := fun x h => mem x (by simp [h])
            have step : ∀ (x1 x2 x3 : Int) (x4 : List ByteArray) (x5 : Bool), (x1, x2, x3, x4, x5) = opF w r true → (O.length + [(x1, x2, x3)].length) * 24 ≤ 140737488355328 ∧ ∃ y : QX, I10 (wd s) y ∧ y.1.1.length + y.1.2.toNat < (w :: r).length + true.toNat ∧ Value.slice (none : Option Addr) 0 0 = Value.slice (none : Option Addr) 0 0 ∧ false = false ∧ HEq x4 y.1.1 ∧ x5 = y.1.2 ∧ false = false ∧ HEq (O ++ [(x1, x2, x3)]) y.2 ∧ True := by
              intro x1 x2 x3 x4 x5 e
              obtain ⟨g1, g2, g3, g4⟩ := opF_tx hc ha e
              have hn : x5.toNat ≤ 1 := by cases x5 <;> decide
              simp only [List.length_cons] at hO
              refine ⟨by simp only [List.length_singleton]; omega, ((x4, x5), O ++ [(x1, x2, x3)]), ⟨fun h => ?_, fun h => ?_, fun x h => hx.mem x (by simp [g4 x h]), ?_⟩, by dsimp only; simp only [List.length_cons, Bool.toNat_true]; omega, rfl, rfl, HEq.rfl, rfl, rfl, HEq.rfl, trivial⟩
              · dsimp only at h ⊢
                rw [htx, g1 h, pre_add]
              · dsimp only at h
                rw [htx, g2 h]; rfl
              · simp only [List.length_append, List.length_singleton]; omega
            exact ⟨⟨mem2, step⟩, mem2, fun x1 x2 x3 x4 x5 e => ⟨step x1 x2 x3 x4 x5 e, step x1 x2 x3 x4 x5 e⟩⟩
  · exact tx_fail (hx.no h1)
end Go.Proofs.YtljbcclpmlkpnaaDoor.V
