import Derived.KernelRfl
import Derived.Test.YtljbcclpmlkpnaaDoorCf
namespace Go.Proofs.YtljbcclpmlkpnaaDoor.V
open Go.RowKit Go.Proofs.YtljbcclpmlkpnaaDoor
set_option linter.unusedSimpArgs false
set_option pp.deepTerms true
set_option pp.maxSteps 200000
def commitB : ByteArray := ⟨#[99, 111, 109, 109, 105, 116]⟩
def abortB : ByteArray := ⟨#[97, 98, 111, 114, 116]⟩
def addO (o : ON) (t : Option TN) : Option TN := t.map fun t => (o :: t.1, t.2)
def txW : List ByteArray → Option TN
  | [] => none
  | [w] => if w = commitB then some ([], false) else if w = abortB then some ([], true) else none
  | [_, _] => none
  | w :: a :: b :: r =>
    if kindO w = 1 then (numO a).bind fun n => addO (1, n, 0) (txW (b :: r))
    else if kindO w = 0 ∨ r = [] then none
    else (numO a).bind fun n => (numO b).bind fun v => if 0 ≤ v then addO (kindO w, n, v) (txW r) else none
def txR (t : Option TN) : TN × Int := match t with
  | some t => if goodT t = true then (t, 0) else (([], false), 320)
  | none => (([], false), 320)
def txF (s : ByteArray) : TN × Int := txR (txW (wd s))
def preO' (l : List ON) (t : Option TN) : Option TN := t.map fun t => (l ++ t.1, t.2)
theorem readB_bd (w : ByteArray) : -9223372036854775808 ≤ (readB w).1 ∧ (readB w).1 ≤ 9223372036854775807 := by
  rw [readB]
  split
  · decide
  · rename_i n h; exact readE_bd h
theorem tx_end {s : ByteArray} {O : List ON} {b : Bool} (h : txW (wd s) = some (O, b)) : ((!goodT (O, b)) = true → ∃ y : TN × Int, y = txF s ∧ y.1.1 = [] ∧ false = y.1.2 ∧ 320 = y.2 ∧ True) ∧ ((!goodT (O, b)) = false → ∃ y : TN × Int, y = txF s ∧ HEq O y.1.1 ∧ b = y.1.2 ∧ 0 = y.2 ∧ True) := by
  refine ⟨fun hg => ⟨_, rfl, ?_⟩, fun hg => ⟨_, rfl, ?_⟩⟩
  · rw [txF, h, txR, if_neg (by simpa using hg)]; exact ⟨rfl, rfl, rfl, trivial⟩
  · rw [txF, h, txR, if_pos (by simpa using hg)]; exact ⟨HEq.rfl, rfl, rfl, trivial⟩
theorem pre_add (l : List ON) (o : ON) (t : Option TN) : preO' l (addO o t) = preO' (l ++ [o]) t := by
  cases t <;> simp [preO', addO]
theorem tx_k1 {w a : ByteArray} {l : List ByteArray} (h : kindO w = 1) : txW (w :: a :: l) = if l = [] then none else (numO a).bind fun n => addO (1, n, 0) (txW l) := by
  cases l with
  | nil => rfl
  | cons b r => rw [txW, if_pos h]; simp
theorem tx_k0 {w a : ByteArray} {l : List ByteArray} (h : kindO w = 0) : txW (w :: a :: l) = none := by
  cases l with
  | nil => rfl
  | cons b r => rw [txW, if_neg (by omega), if_pos (.inl h)]
theorem tx_kN {w a b : ByteArray} {r : List ByteArray} (h0 : kindO w ≠ 0) (h1 : kindO w ≠ 1) : txW (w :: a :: b :: r) = if r = [] then none else (numO a).bind fun n => (numO b).bind fun v => if 0 ≤ v then addO (kindO w, n, v) (txW r) else none := by
  rw [txW, if_neg h1]
  by_cases hr : r = []
  · rw [if_pos (.inr hr), if_pos hr]
  · rw [if_neg (by rintro (h | h); exact h0 h; exact hr h), if_neg hr]
theorem numO_r0 {a : ByteArray} (h : (readB a).2 = false) : numO a = none := by rw [numO_read, h]; rfl
theorem numO_r1 {a : ByteArray} (h : (readB a).2 = true) : numO a = some (readB a).1 := by rw [numO_read, h]; rfl
theorem idx_step {l : List ByteArray} {w : ByteArray} {k : Nat} (h : 1 ≤ k) : idxF l w (k + 1 - 1) = if l[k]? = some w then k else idxF l w (k - 1) := by
  obtain ⟨n, rfl⟩ : ∃ n, k = n + 1 := ⟨k - 1, by omega⟩
  rfl
theorem tx_fail {s : ByteArray} (h : txW (wd s) = none) : ∃ y : TN × Int, y = txF s ∧ y.1.1 = [] ∧ false = y.1.2 ∧ 320 = y.2 ∧ True := ⟨_, rfl, by rw [txF, h]; exact ⟨rfl, rfl, rfl, trivial⟩⟩
abbrev AX := Nat × List ON
structure I11 (W : List ByteArray) (x : AX) : Prop where
  lt : x.1 < W.length
  tx : txW W = preO' x.2 (txW (W.drop x.1))
  ln : x.2.length ≤ x.1
abbrev hT (l : List ON) : List (Nat × Ck) := [(0, .blk [.val (.slice none 0 0), .val (.bool false)] 32), (1, .blk [.sl 2, .val (.bool false)] 32), (2, .own 51 shO l)]
abbrev lp11 (s : ByteArray) : Nat → Option LoopSp := fun r => match r with
  | 4 => some { X := AX, sl := fun x => [(2, .one (.ptr 0 0)), (4, .one (.rd .str (wd s))), (5, .one (.ptr 1 0)), (6, .one (vi x.1))], h := fun x => hT x.2, nx := 3, inv := fun x => I11 (wd s) x, mu := fun x => (wd s).length - x.1 }
  | 7 => some { X := AX × Nat, sl := fun x => [(2, .one (.ptr 0 0)), (4, .one (.rd .str (wd s))), (5, .one (.ptr 1 0)), (6, .one (vi x.1.1)), (7, .one (.ptr 3 0)), (8, .one (vi x.2))], h := fun x => hT x.1.2 ++ [(3, .blk [vi (idxF kindsL ((wd s).getD x.1.1 ⟨#[]⟩) (x.2 - 1)), vi 0, .val (.int .u64 0)] 51)], nx := 4, inv := fun x => I11 (wd s) x.1 ∧ x.1.1 + 1 < (wd s).length ∧ 1 ≤ x.2 ∧ x.2 ≤ 5, mu := fun x => 5 - x.2, ln := fun x => [(6, x.1.1)] }
  | _ => none
theorem v11 : Valid Tryd.prog 11 (.pre (rS [pS] [pT, pI] (fun x => ByteArray.size x ≤ 1000000) (fun x y => y = txF x))) := by
  refine rS_ok mixed Tbl_ok M3_ok Tryd.func11 call11 rfl ?_
  rintro (s : ByteArray) hr hs
  refine ⟨lp11 s, ?_⟩
  refine Eq.mp (by kernel_rfl : (s.size ≤ (1000000 : Nat) ∧ ∀ (y : Tup (pSs :: ([] : List PS))), y = wd s → (∃ (x : AX), I11 (wd s) x ∧ y ≍ wd s ∧ (0 : Int) = (↑x.fst : Int) ∧ Value.slice (none : Option Addr) (0 : Nat) (0 : Nat) = Value.slice (none : Option Addr) (0 : Nat) (0 : Nat) ∧ false = false ∧ false = false ∧ x.snd = ([] : List (Int × Int × Int)) ∧ True) ∧ ∀ (x : AX), I11 (wd s) x → ((-9223372036854775808 : Int) ≤ (↑(wd s).length : Int) - (1 : Int) ∧ (↑(wd s).length : Int) - (1 : Int) ≤ (9223372036854775807 : Int)) ∧ (decide ((↑x.fst : Int) < (↑(wd s).length : Int) - (1 : Int)) = true → (∃ (x_1 : AX × Nat), (I11 (wd s) x_1.fst ∧ x_1.fst.fst + (1 : Nat) < (wd s).length ∧ (1 : Nat) ≤ x_1.snd ∧ x_1.snd ≤ (5 : Nat)) ∧ (↑x_1.fst.fst : Int) = (↑x.fst : Int) ∧ wd s ≍ wd s ∧ (↑x.fst : Int) = (↑x_1.fst.fst : Int) ∧ (1 : Int) = (↑x_1.snd : Int) ∧ Value.slice (none : Option Addr) (0 : Nat) (0 : Nat) = Value.slice (none : Option Addr) (0 : Nat) (0 : Nat) ∧ false = false ∧ false = false ∧ x.snd ≍ x_1.fst.snd ∧ (0 : Int) = (↑(idxF kindsL ((wd s).getD x_1.fst.fst (ByteArray.mk ([] : List UInt8).toArray)) (x_1.snd - (1 : Nat))) : Int) ∧ (0 : Int) = (0 : Int) ∧ (0 : Int) = (0 : Int) ∧ True) ∧ ∀ (x_1 : AX × Nat), I11 (wd s) x_1.fst ∧ x_1.fst.fst + (1 : Nat) < (wd s).length ∧ (1 : Nat) ≤ x_1.snd ∧ x_1.snd ≤ (5 : Nat) → (↑x_1.fst.fst : Int) = (↑x.fst : Int) → (decide ((↑x_1.snd : Int) ≤ (4 : Int)) = true → ((0 : Int) ≤ (↑x_1.fst.fst : Int) ∧ (↑x_1.fst.fst : Int) < (↑(wd s).length : Int)) ∧ ∀ (y : ByteArray), (wd s)[(↑x_1.fst.fst : Int).toNat]? = some y → ((0 : Int) ≤ (↑x_1.snd : Int) ∧ (↑x_1.snd : Int) < (↑kindsL.length : Int)) ∧ ∀ (y_1 : ByteArray), kindsL[(↑x_1.snd : Int).toNat]? = some y_1 → ((y_1.toList == y.toList) = true → ((-9223372036854775808 : Int) ≤ (↑x_1.snd : Int) + (1 : Int) ∧ (↑x_1.snd : Int) + (1 : Int) ≤ (9223372036854775807 : Int)) ∧ ∃ (y : AX × Nat), (I11 (wd s) y.fst ∧ y.fst.fst + (1 : Nat) < (wd s).length ∧ (1 : Nat) ≤ y.snd ∧ y.snd ≤ (5 : Nat)) ∧ (↑y.fst.fst : Int) = (↑x.fst : Int) ∧ (5 : Nat) - y.snd < (5 : Nat) - x_1.snd ∧ wd s ≍ wd s ∧ (↑x_1.fst.fst : Int) = (↑y.fst.fst : Int) ∧ (↑x_1.snd : Int) + (1 : Int) = (↑y.snd : Int) ∧ Value.slice (none : Option Addr) (0 : Nat) (0 : Nat) = Value.slice (none : Option Addr) (0 : Nat) (0 : Nat) ∧ false = false ∧ false = false ∧ x_1.fst.snd ≍ y.fst.snd ∧ (↑x_1.snd : Int) = (↑(idxF kindsL ((wd s).getD y.fst.fst (ByteArray.mk ([] : List UInt8).toArray)) (y.snd - (1 : Nat))) : Int) ∧ (0 : Int) = (0 : Int) ∧ (0 : Int) = (0 : Int) ∧ True) ∧ ((y_1.toList == y.toList) = false → ((-9223372036854775808 : Int) ≤ (↑x_1.snd : Int) + (1 : Int) ∧ (↑x_1.snd : Int) + (1 : Int) ≤ (9223372036854775807 : Int)) ∧ ∃ (y : AX × Nat), (I11 (wd s) y.fst ∧ y.fst.fst + (1 : Nat) < (wd s).length ∧ (1 : Nat) ≤ y.snd ∧ y.snd ≤ (5 : Nat)) ∧ (↑y.fst.fst : Int) = (↑x.fst : Int) ∧ (5 : Nat) - y.snd < (5 : Nat) - x_1.snd ∧ wd s ≍ wd s ∧ (↑x_1.fst.fst : Int) = (↑y.fst.fst : Int) ∧ (↑x_1.snd : Int) + (1 : Int) = (↑y.snd : Int) ∧ Value.slice (none : Option Addr) (0 : Nat) (0 : Nat) = Value.slice (none : Option Addr) (0 : Nat) (0 : Nat) ∧ false = false ∧ false = false ∧ x_1.fst.snd ≍ y.fst.snd ∧ (↑(idxF kindsL ((wd s).getD x_1.fst.fst (ByteArray.mk ([] : List UInt8).toArray)) (x_1.snd - (1 : Nat))) : Int) = (↑(idxF kindsL ((wd s).getD y.fst.fst (ByteArray.mk ([] : List UInt8).toArray)) (y.snd - (1 : Nat))) : Int) ∧ (0 : Int) = (0 : Int) ∧ (0 : Int) = (0 : Int) ∧ True)) ∧ (decide ((↑x_1.snd : Int) ≤ (4 : Int)) = false → (((↑(idxF kindsL ((wd s).getD x_1.fst.fst (ByteArray.mk ([] : List UInt8).toArray)) (x_1.snd - (1 : Nat))) : Int) != (1 : Int)) = true → (((↑(idxF kindsL ((wd s).getD x_1.fst.fst (ByteArray.mk ([] : List UInt8).toArray)) (x_1.snd - (1 : Nat))) : Int) == (0 : Int)) = true → ∃ (y : Tup (pT :: pI :: ([] : List PS))), y = txF s ∧ y.fst.fst = ([] : List (Int × Int × Int)) ∧ false = y.fst.snd ∧ (320 : Int) = y.snd ∧ True) ∧ (((↑(idxF kindsL ((wd s).getD x_1.fst.fst (ByteArray.mk ([] : List UInt8).toArray)) (x_1.snd - (1 : Nat))) : Int) == (0 : Int)) = false → ((-9223372036854775808 : Int) ≤ (↑x_1.fst.fst : Int) + (3 : Int) ∧ (↑x_1.fst.fst : Int) + (3 : Int) ≤ (9223372036854775807 : Int)) ∧ (decide ((↑x_1.fst.fst : Int) + (3 : Int) ≥ (↑(wd s).length : Int)) = true → ∃ (y : Tup (pT :: pI :: ([] : List PS))), y = txF s ∧ y.fst.fst = ([] : List (Int × Int × Int)) ∧ false = y.fst.snd ∧ (320 : Int) = y.snd ∧ True) ∧ (decide ((↑x_1.fst.fst : Int) + (3 : Int) ≥ (↑(wd s).length : Int)) = false → ((-9223372036854775808 : Int) ≤ (↑x_1.fst.fst : Int) + (1 : Int) ∧ (↑x_1.fst.fst : Int) + (1 : Int) ≤ (9223372036854775807 : Int)) ∧ ((0 : Int) ≤ (↑x_1.fst.fst : Int) + (1 : Int) ∧ (↑x_1.fst.fst : Int) + (1 : Int) < (↑(wd s).length : Int)) ∧ ∀ (y : ByteArray), (wd s)[((↑x_1.fst.fst : Int) + (1 : Int)).toNat]? = some y → ((!(readB y).snd) = true → ∃ (y : Tup (pT :: pI :: ([] : List PS))), y = txF s ∧ y.fst.fst = ([] : List (Int × Int × Int)) ∧ false = y.fst.snd ∧ (320 : Int) = y.snd ∧ True) ∧ ((!(readB y).snd) = false → ((-9223372036854775808 : Int) ≤ (↑x_1.fst.fst : Int) + (1 : Int) ∧ (↑x_1.fst.fst : Int) + (1 : Int) ≤ (9223372036854775807 : Int)) ∧ ((0 : Int) ≤ (↑x_1.fst.fst : Int) + (1 : Int) ∧ (↑x_1.fst.fst : Int) + (1 : Int) < (↑(wd s).length : Int)) ∧ ∀ (y : ByteArray), (wd s)[((↑x_1.fst.fst : Int) + (1 : Int)).toNat]? = some y → ((-9223372036854775808 : Int) ≤ (↑x_1.fst.fst : Int) + (2 : Int) ∧ (↑x_1.fst.fst : Int) + (2 : Int) ≤ (9223372036854775807 : Int)) ∧ ((0 : Int) ≤ (↑x_1.fst.fst : Int) + (2 : Int) ∧ (↑x_1.fst.fst : Int) + (2 : Int) < (↑(wd s).length : Int)) ∧ ∀ (y_1 : ByteArray), (wd s)[((↑x_1.fst.fst : Int) + (2 : Int)).toNat]? = some y_1 → ((!(readB y_1).snd || decide ((readB y_1).fst < (0 : Int))) = true → ∃ (y : Tup (pT :: pI :: ([] : List PS))), y = txF s ∧ y.fst.fst = ([] : List (Int × Int × Int)) ∧ false = y.fst.snd ∧ (320 : Int) = y.snd ∧ True) ∧ ((!(readB y_1).snd || decide ((readB y_1).fst < (0 : Int))) = false → (x_1.fst.snd.length + (((↑(idxF kindsL ((wd s).getD x_1.fst.fst (ByteArray.mk ([] : List UInt8).toArray)) (x_1.snd - (1 : Nat))) : Int), (readB y).fst, IntKind.u64.wrap (readB y_1).fst) :: ([] : List (Int × Int × Int))).length) * (24 : Nat) ≤ (140737488355328 : Nat) ∧ ((-9223372036854775808 : Int) ≤ (↑x_1.fst.fst : Int) + (3 : Int) ∧ (↑x_1.fst.fst : Int) + (3 : Int) ≤ (9223372036854775807 : Int)) ∧ ∃ (y_2 : AX), I11 (wd s) y_2 ∧ (wd s).length - y_2.fst < (wd s).length - x.fst ∧ wd s ≍ wd s ∧ (↑x_1.fst.fst : Int) + (3 : Int) = (↑y_2.fst : Int) ∧ Value.slice (none : Option Addr) (0 : Nat) (0 : Nat) = Value.slice (none : Option Addr) (0 : Nat) (0 : Nat) ∧ false = false ∧ false = false ∧ x_1.fst.snd ++ ((↑(idxF kindsL ((wd s).getD x_1.fst.fst (ByteArray.mk ([] : List UInt8).toArray)) (x_1.snd - (1 : Nat))) : Int), (readB y).fst, IntKind.u64.wrap (readB y_1).fst) :: ([] : List (Int × Int × Int)) ≍ y_2.snd ∧ True))))) ∧ (((↑(idxF kindsL ((wd s).getD x_1.fst.fst (ByteArray.mk ([] : List UInt8).toArray)) (x_1.snd - (1 : Nat))) : Int) != (1 : Int)) = false → (((↑(idxF kindsL ((wd s).getD x_1.fst.fst (ByteArray.mk ([] : List UInt8).toArray)) (x_1.snd - (1 : Nat))) : Int) == (0 : Int)) = true → ∃ (y : Tup (pT :: pI :: ([] : List PS))), y = txF s ∧ y.fst.fst = ([] : List (Int × Int × Int)) ∧ false = y.fst.snd ∧ (320 : Int) = y.snd ∧ True) ∧ (((↑(idxF kindsL ((wd s).getD x_1.fst.fst (ByteArray.mk ([] : List UInt8).toArray)) (x_1.snd - (1 : Nat))) : Int) == (0 : Int)) = false → ((-9223372036854775808 : Int) ≤ (↑x_1.fst.fst : Int) + (2 : Int) ∧ (↑x_1.fst.fst : Int) + (2 : Int) ≤ (9223372036854775807 : Int)) ∧ (decide ((↑x_1.fst.fst : Int) + (2 : Int) ≥ (↑(wd s).length : Int)) = true → ∃ (y : Tup (pT :: pI :: ([] : List PS))), y = txF s ∧ y.fst.fst = ([] : List (Int × Int × Int)) ∧ false = y.fst.snd ∧ (320 : Int) = y.snd ∧ True) ∧ (decide ((↑x_1.fst.fst : Int) + (2 : Int) ≥ (↑(wd s).length : Int)) = false → ((-9223372036854775808 : Int) ≤ (↑x_1.fst.fst : Int) + (1 : Int) ∧ (↑x_1.fst.fst : Int) + (1 : Int) ≤ (9223372036854775807 : Int)) ∧ ((0 : Int) ≤ (↑x_1.fst.fst : Int) + (1 : Int) ∧ (↑x_1.fst.fst : Int) + (1 : Int) < (↑(wd s).length : Int)) ∧ ∀ (y : ByteArray), (wd s)[((↑x_1.fst.fst : Int) + (1 : Int)).toNat]? = some y → ((!(readB y).snd) = true → ∃ (y : Tup (pT :: pI :: ([] : List PS))), y = txF s ∧ y.fst.fst = ([] : List (Int × Int × Int)) ∧ false = y.fst.snd ∧ (320 : Int) = y.snd ∧ True) ∧ ((!(readB y).snd) = false → ((-9223372036854775808 : Int) ≤ (↑x_1.fst.fst : Int) + (1 : Int) ∧ (↑x_1.fst.fst : Int) + (1 : Int) ≤ (9223372036854775807 : Int)) ∧ ((0 : Int) ≤ (↑x_1.fst.fst : Int) + (1 : Int) ∧ (↑x_1.fst.fst : Int) + (1 : Int) < (↑(wd s).length : Int)) ∧ ∀ (y : ByteArray), (wd s)[((↑x_1.fst.fst : Int) + (1 : Int)).toNat]? = some y → (x_1.fst.snd.length + (((↑(idxF kindsL ((wd s).getD x_1.fst.fst (ByteArray.mk ([] : List UInt8).toArray)) (x_1.snd - (1 : Nat))) : Int), (readB y).fst, (0 : Int)) :: ([] : List (Int × Int × Int))).length) * (24 : Nat) ≤ (140737488355328 : Nat) ∧ ((-9223372036854775808 : Int) ≤ (↑x_1.fst.fst : Int) + (2 : Int) ∧ (↑x_1.fst.fst : Int) + (2 : Int) ≤ (9223372036854775807 : Int)) ∧ ∃ (y_1 : AX), I11 (wd s) y_1 ∧ (wd s).length - y_1.fst < (wd s).length - x.fst ∧ wd s ≍ wd s ∧ (↑x_1.fst.fst : Int) + (2 : Int) = (↑y_1.fst : Int) ∧ Value.slice (none : Option Addr) (0 : Nat) (0 : Nat) = Value.slice (none : Option Addr) (0 : Nat) (0 : Nat) ∧ false = false ∧ false = false ∧ x_1.fst.snd ++ ((↑(idxF kindsL ((wd s).getD x_1.fst.fst (ByteArray.mk ([] : List UInt8).toArray)) (x_1.snd - (1 : Nat))) : Int), (readB y).fst, (0 : Int)) :: ([] : List (Int × Int × Int)) ≍ y_1.snd ∧ True)))))) ∧ (decide ((↑x.fst : Int) < (↑(wd s).length : Int) - (1 : Int)) = false → ((-9223372036854775808 : Int) ≤ (↑(wd s).length : Int) - (1 : Int) ∧ (↑(wd s).length : Int) - (1 : Int) ≤ (9223372036854775807 : Int)) ∧ (((↑x.fst : Int) != (↑(wd s).length : Int) - (1 : Int)) = true → ∃ (y : Tup (pT :: pI :: ([] : List PS))), y = txF s ∧ y.fst.fst = ([] : List (Int × Int × Int)) ∧ false = y.fst.snd ∧ (320 : Int) = y.snd ∧ True) ∧ (((↑x.fst : Int) != (↑(wd s).length : Int) - (1 : Int)) = false → ((0 : Int) ≤ (↑x.fst : Int) ∧ (↑x.fst : Int) < (↑(wd s).length : Int)) ∧ ∀ (y : ByteArray), (wd s)[(↑x.fst : Int).toNat]? = some y → ((!y.toList == (ByteArray.mk ((99 : UInt8) :: (111 : UInt8) :: (109 : UInt8) :: (109 : UInt8) :: (105 : UInt8) :: (116 : UInt8) :: ([] : List UInt8)).toArray).toList) = true → ((0 : Int) ≤ (↑x.fst : Int) ∧ (↑x.fst : Int) < (↑(wd s).length : Int)) ∧ ∀ (y : ByteArray), (wd s)[(↑x.fst : Int).toNat]? = some y → ((!y.toList == (ByteArray.mk ((97 : UInt8) :: (98 : UInt8) :: (111 : UInt8) :: (114 : UInt8) :: (116 : UInt8) :: ([] : List UInt8)).toArray).toList) = true → ∃ (y : Tup (pT :: pI :: ([] : List PS))), y = txF s ∧ y.fst.fst = ([] : List (Int × Int × Int)) ∧ false = y.fst.snd ∧ (320 : Int) = y.snd ∧ True) ∧ ((!y.toList == (ByteArray.mk ((97 : UInt8) :: (98 : UInt8) :: (111 : UInt8) :: (114 : UInt8) :: (116 : UInt8) :: ([] : List UInt8)).toArray).toList) = false → ((0 : Int) ≤ (↑x.fst : Int) ∧ (↑x.fst : Int) < (↑(wd s).length : Int)) ∧ ∀ (y : ByteArray), (wd s)[(↑x.fst : Int).toNat]? = some y → ((!goodT (x.snd, y.toList == (ByteArray.mk ((97 : UInt8) :: (98 : UInt8) :: (111 : UInt8) :: (114 : UInt8) :: (116 : UInt8) :: ([] : List UInt8)).toArray).toList)) = true → ∃ (y : Tup (pT :: pI :: ([] : List PS))), y = txF s ∧ y.fst.fst = ([] : List (Int × Int × Int)) ∧ false = y.fst.snd ∧ (320 : Int) = y.snd ∧ True) ∧ ((!goodT (x.snd, y.toList == (ByteArray.mk ((97 : UInt8) :: (98 : UInt8) :: (111 : UInt8) :: (114 : UInt8) :: (116 : UInt8) :: ([] : List UInt8)).toArray).toList)) = false → ∃ (y_1 : Tup (pT :: pI :: ([] : List PS))), y_1 = txF s ∧ x.snd ≍ y_1.fst.fst ∧ (y.toList == (ByteArray.mk ((97 : UInt8) :: (98 : UInt8) :: (111 : UInt8) :: (114 : UInt8) :: (116 : UInt8) :: ([] : List UInt8)).toArray).toList) = y_1.fst.snd ∧ (0 : Int) = y_1.snd ∧ True))) ∧ ((!y.toList == (ByteArray.mk ((99 : UInt8) :: (111 : UInt8) :: (109 : UInt8) :: (109 : UInt8) :: (105 : UInt8) :: (116 : UInt8) :: ([] : List UInt8)).toArray).toList) = false → ((0 : Int) ≤ (↑x.fst : Int) ∧ (↑x.fst : Int) < (↑(wd s).length : Int)) ∧ ∀ (y : ByteArray), (wd s)[(↑x.fst : Int).toNat]? = some y → ((!goodT (x.snd, y.toList == (ByteArray.mk ((97 : UInt8) :: (98 : UInt8) :: (111 : UInt8) :: (114 : UInt8) :: (116 : UInt8) :: ([] : List UInt8)).toArray).toList)) = true → ∃ (y : Tup (pT :: pI :: ([] : List PS))), y = txF s ∧ y.fst.fst = ([] : List (Int × Int × Int)) ∧ false = y.fst.snd ∧ (320 : Int) = y.snd ∧ True) ∧ ((!goodT (x.snd, y.toList == (ByteArray.mk ((97 : UInt8) :: (98 : UInt8) :: (111 : UInt8) :: (114 : UInt8) :: (116 : UInt8) :: ([] : List UInt8)).toArray).toList)) = false → ∃ (y_1 : Tup (pT :: pI :: ([] : List PS))), y_1 = txF s ∧ x.snd ≍ y_1.fst.fst ∧ (y.toList == (ByteArray.mk ((97 : UInt8) :: (98 : UInt8) :: (111 : UInt8) :: (114 : UInt8) :: (116 : UInt8) :: ([] : List UInt8)).toArray).toList) = y_1.fst.snd ∧ (0 : Int) = y_1.snd ∧ True))))) = _) ?_
  have hs : s.size ≤ 1000000 := hs
  refine ⟨hs, fun y hy => ?_⟩
  have hy : y = wd s := hy
  subst hy
  have hlen := wd_len s
  have hne : 0 < (wd s).length := by
    cases h : wd s with
    | nil => exact absurd (List.map_eq_nil_iff.1 h) (cutL_ne _)
    | cons w r => simp
  refine ⟨⟨(0, []), ⟨hne, by simp [preO'], Nat.le_refl _⟩, HEq.rfl, rfl, rfl, rfl, rfl, rfl, trivial⟩, ?_⟩
  rintro ⟨at_, O⟩ hx
  have hat : at_ < (wd s).length := hx.lt
  dsimp only
  refine ⟨by omega, fun h1 => ⟨⟨((at_, O), 1), ⟨hx, by dsimp only; simp only [decide_eq_true_eq] at h1; omega, Nat.le_refl _, by dsimp only; omega⟩, rfl, HEq.rfl, rfl, rfl, rfl, rfl, rfl, HEq.rfl, rfl, rfl, rfl, trivial⟩, ?_⟩, fun h1 => ⟨by omega, ?_, ?_⟩⟩
  · rintro ⟨⟨at2, O2⟩, k⟩ ⟨hq, h2, hk1, hk5⟩ e
    dsimp only at hq h2 hk1 hk5 e ⊢
    obtain rfl : at2 = at_ := by omega
    clear e
    obtain ⟨w, hw⟩ : ∃ w, (wd s)[at2]? = some w := ⟨_, List.getElem?_eq_getElem hat⟩
    obtain ⟨a, ha⟩ : ∃ a, (wd s)[at2 + 1]? = some a := ⟨_, List.getElem?_eq_getElem h2⟩
    have hg : ∀ z, (wd s).getD at2 z = w := fun z => by simp [List.getD, hw]
    rw [hg]
    have hd : (wd s).drop at2 = w :: a :: (wd s).drop (at2 + 2) := by
      rw [List.drop_eq_getElem_cons hat, List.drop_eq_getElem_cons h2]
      rw [List.getElem?_eq_getElem hat] at hw
      rw [List.getElem?_eq_getElem h2] at ha
      rw [Option.some.inj hw, Option.some.inj ha]
    have htx := hq.tx
    have hO : O2.length ≤ at2 := hq.ln
    dsimp only at htx
    rw [hd] at htx
    refine ⟨fun h3 => ⟨by omega, fun w' hw' => ⟨?_, fun kn hkn => ⟨fun h4 => ⟨by omega, ((at2, O2), k + 1), ⟨hq, h2, by dsimp only; omega, ?_⟩, rfl, by simp only [decide_eq_true_eq] at h3; dsimp only; omega, HEq.rfl, rfl, by simp, rfl, rfl, rfl, HEq.rfl, ?_, rfl, rfl, trivial⟩, fun h4 => ⟨by omega, ((at2, O2), k + 1), ⟨hq, h2, by dsimp only; omega, ?_⟩, rfl, by simp only [decide_eq_true_eq] at h3; dsimp only; omega, HEq.rfl, rfl, by simp, rfl, rfl, rfl, HEq.rfl, ?_, rfl, rfl, trivial⟩⟩⟩⟩, fun h3 => ?_⟩
    · have : kindsL.length = 5 := rfl
      simp only [decide_eq_true_eq] at h3
      omega
    · simp only [decide_eq_true_eq] at h3
      dsimp only; omega
    · rw [Int.toNat_natCast] at hw' hkn
      rw [hw] at hw'
      cases hw'
      have := bytes_eq.1 h4
      subst this
      dsimp only
      rw [hg, idx_step hk1, if_pos hkn]
    · simp only [decide_eq_true_eq] at h3
      dsimp only; omega
    · rw [Int.toNat_natCast] at hw' hkn
      rw [hw] at hw'
      cases hw'
      dsimp only
      rw [hg, idx_step hk1, if_neg]
      rw [hkn]
      intro e
      cases e
      rw [beq_self_eq_true] at h4
      cases h4
    · have hk : k = 5 := by simp only [decide_eq_false_iff_not] at h3; omega
      subst hk
      have hK : idxF kindsL w (5 - 1) = kindO w := rfl
      rw [hK]
      clear h3
      have t1 : ((at2 : Int) + 1).toNat = at2 + 1 := by omega
      have t2 : ((at2 : Int) + 2).toNat = at2 + 2 := by omega
      rw [t1, t2]
      have none_of : ∀ {l : List ByteArray}, txW (w :: a :: (wd s).drop (at2 + 2)) = none → txW (wd s) = none := fun h => by rw [htx, h]; rfl
      refine ⟨fun g1 => ⟨fun g2 => ?_, fun g2 => ⟨by omega, fun g3 => ?_, fun g3 => ?_⟩⟩, fun g1 => ⟨fun g2 => ?_, fun g2 => ⟨by omega, fun g3 => ?_, fun g3 => ?_⟩⟩⟩
      · exact tx_fail (none_of (l := []) (tx_k0 (by simp only [beq_iff_eq] at g2; omega)))
      · refine tx_fail (none_of (l := []) ?_)
        have k0 : kindO w ≠ 0 := fun e => by rw [e] at g2; exact absurd g2 (by decide)
        have k1 : kindO w ≠ 1 := fun e => by rw [e] at g1; exact absurd g1 (by decide)
        cases hl : (wd s).drop (at2 + 2) with
        | nil => rfl
        | cons b r =>
          have h9 : ((wd s).drop (at2 + 2)).length = r.length + 1 := by rw [hl]; rfl
          rw [List.length_drop] at h9
          simp only [decide_eq_true_eq] at g3
          rw [tx_kN k0 k1, if_pos (List.length_eq_zero_iff.1 (by omega))]
      · have k0 : kindO w ≠ 0 := fun e => by rw [e] at g2; exact absurd g2 (by decide)
        have k1 : kindO w ≠ 1 := fun e => by rw [e] at g1; exact absurd g1 (by decide)
        have g3 : at2 + 3 < (wd s).length := by simp only [decide_eq_false_iff_not] at g3; omega
        obtain ⟨b, hb⟩ : ∃ b, (wd s)[at2 + 2]? = some b := ⟨_, List.getElem?_eq_getElem (by omega)⟩
        have hd2 : (wd s).drop (at2 + 2) = b :: (wd s).drop (at2 + 3) := by
          rw [List.drop_eq_getElem_cons (by omega)]
          rw [List.getElem?_eq_getElem (by omega)] at hb
          rw [Option.some.inj hb]
        have hr3 : (wd s).drop (at2 + 3) ≠ [] := fun e => by rw [List.drop_eq_nil_iff] at e; omega
        rw [hd2] at htx none_of
        rw [tx_kN k0 k1, if_neg hr3] at htx none_of
        refine ⟨by omega, by omega, fun y hy => ?_⟩
        have : a = y := by rw [ha] at hy; exact Option.some.inj hy
        subst this
        refine ⟨fun q1 => ?_, fun q1 => ⟨by omega, by omega, fun y hy => ?_⟩⟩
        · exact tx_fail (none_of (l := []) (by rw [numO_r0 (by simpa using q1)]; rfl))
        have : a = y := by rw [ha] at hy; exact Option.some.inj hy
        subst this
        rw [numO_r1 (a := a) (by simpa using q1)] at htx none_of
        refine ⟨by omega, by omega, fun y hy => ?_⟩
        have : b = y := by rw [hb] at hy; exact Option.some.inj hy
        subst this
        refine ⟨fun q2 => ?_, fun q2 => ⟨by simp only [List.length_singleton]; omega, by omega, (at2 + 3, O2 ++ [((kindO w : Int), (readB a).1, IntKind.u64.wrap (readB b).1)]), ⟨g3, ?_, ?_⟩, by dsimp only; omega, HEq.rfl, by simp, rfl, rfl, rfl, HEq.rfl, trivial⟩⟩
        · refine tx_fail (none_of (l := []) ?_)
          cases hq : (readB b).2 with
          | false => rw [numO_r0 hq]; rfl
          | true =>
            rw [hq] at q2
            simp only [Bool.not_true, Bool.false_or, decide_eq_true_eq] at q2
            rw [numO_r1 hq]
            simp only [Option.bind_some]
            rw [if_neg (by omega)]
        · simp only [Bool.or_eq_false_iff, Bool.not_eq_false', decide_eq_false_iff_not] at q2
          rw [numO_r1 q2.1] at htx
          simp only [Option.bind_some] at htx
          rw [if_pos (by omega), pre_add] at htx
          have hbd := (readB_bd b)
          rw [show IntKind.u64.wrap (readB b).1 = (readB b).1 by rw [IntKind.wrap_u64]; omega]
          exact htx
        · simp only [List.length_append, List.length_singleton]; omega
      · exact tx_fail (none_of (l := []) (tx_k0 (by simp only [beq_iff_eq] at g2; omega)))
      · refine tx_fail (none_of (l := []) ?_)
        have k1 : kindO w = 1 := by simp only [bne_eq_false_iff_eq] at g1; omega
        rw [tx_k1 k1, if_pos]
        rw [List.drop_eq_nil_iff]
        simp only [decide_eq_true_eq] at g3
        omega
      · have k1 : kindO w = 1 := by simp only [bne_eq_false_iff_eq] at g1; omega
        have g3 : at2 + 2 < (wd s).length := by simp only [decide_eq_false_iff_not] at g3; omega
        have hr3 : (wd s).drop (at2 + 2) ≠ [] := fun e => by rw [List.drop_eq_nil_iff] at e; omega
        rw [tx_k1 k1, if_neg hr3] at htx none_of
        refine ⟨by omega, by omega, fun y hy => ?_⟩
        have : a = y := by rw [ha] at hy; exact Option.some.inj hy
        subst this
        refine ⟨fun q1 => ?_, fun q1 => ⟨by omega, by omega, fun y hy => ?_⟩⟩
        · exact tx_fail (none_of (l := []) (by rw [numO_r0 (by simpa using q1)]; rfl))
        have : a = y := by rw [ha] at hy; exact Option.some.inj hy
        subst this
        rw [numO_r1 (a := a) (by simpa using q1)] at htx none_of
        refine ⟨by simp only [List.length_singleton]; omega, by omega, (at2 + 2, O2 ++ [((kindO w : Int), (readB a).1, 0)]), ⟨g3, ?_, ?_⟩, by dsimp only; omega, HEq.rfl, by simp, rfl, rfl, rfl, HEq.rfl, trivial⟩
        · simp only [Option.bind_some] at htx
          rw [pre_add] at htx
          rw [k1]
          exact htx
        · simp only [List.length_append, List.length_singleton]; omega
  · intro h2
    simp only [decide_eq_false_iff_not, bne_iff_ne, ne_eq] at h1 h2
    omega
  · intro _
    obtain ⟨w, hw⟩ : ∃ w, (wd s)[at_]? = some w := ⟨_, List.getElem?_eq_getElem hat⟩
    have hd : (wd s).drop at_ = [w] := by
      rw [List.drop_eq_getElem_cons hat, List.drop_eq_nil_iff.2 (by simp only [decide_eq_false_iff_not] at h1; omega)]
      rw [List.getElem?_eq_getElem hat] at hw
      rw [Option.some.inj hw]
    have htx := hx.tx
    dsimp only at htx
    rw [hd] at htx
    have one : ∀ {y : ByteArray}, (wd s)[((at_ : Int)).toNat]? = some y → w = y := fun h => by rw [Int.toNat_natCast, hw] at h; exact Option.some.inj h
    refine ⟨by omega, fun y hy => ?_⟩
    obtain rfl := one hy
    refine ⟨fun q1 => ⟨by omega, fun y hy => ?_⟩, fun q1 => ⟨by omega, fun y hy => ?_⟩⟩
    · obtain rfl := one hy
      have n1 : w ≠ commitB := fun e => by
        rw [e, toList_data, toList_data] at q1
        exact absurd q1 (by decide)
      refine ⟨fun q2 => ?_, fun q2 => ⟨by omega, fun y hy => ?_⟩⟩
      · have n2 : w ≠ abortB := fun e => by
          rw [e, toList_data, toList_data] at q2
          exact absurd q2 (by decide)
        refine tx_fail ?_
        rw [htx, txW, if_neg n1, if_neg n2]; rfl
      · obtain rfl := one hy
        have e2 : w = abortB := bytes_eq.1 (by rw [Bool.not_eq_false'] at q2; exact q2)
        subst e2
        have hb : (abortB.toList == (ByteArray.mk (97 :: 98 :: 111 :: 114 :: 116 :: ([] : List UInt8)).toArray).toList) = true := by rw [toList_data, toList_data]; decide
        rw [hb]
        exact tx_end (by rw [htx, txW, if_neg n1, if_pos rfl]; simp [preO'])
    · obtain rfl := one hy
      have e2 : w = commitB := bytes_eq.1 (by rw [Bool.not_eq_false'] at q1; exact q1)
      subst e2
      have hb : (commitB.toList == (ByteArray.mk (97 :: 98 :: 111 :: 114 :: 116 :: ([] : List UInt8)).toArray).toList) = false := by rw [toList_data, toList_data]; decide
      rw [hb]
      exact tx_end (by rw [htx, txW, if_pos rfl]; simp [preO'])
end Go.Proofs.YtljbcclpmlkpnaaDoor.V
