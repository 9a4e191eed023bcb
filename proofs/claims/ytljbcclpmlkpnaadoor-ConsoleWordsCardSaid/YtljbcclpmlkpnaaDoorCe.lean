import Derived.KernelRfl
import Derived.Test.YtljbcclpmlkpnaaDoorCd
namespace Go.Proofs.YtljbcclpmlkpnaaDoor.V
open Go.RowKit Go.Proofs.YtljbcclpmlkpnaaDoor
set_option linter.unusedSimpArgs false
def namesL : List ByteArray := [⟨#[]⟩, ⟨#[101, 120, 101, 99]⟩, ⟨#[100, 114, 97, 105, 110]⟩, ⟨#[117, 112]⟩, ⟨#[97, 110, 115, 119, 101, 114]⟩, ⟨#[104, 101, 97, 114]⟩, ⟨#[112, 117, 115, 104]⟩, ⟨#[101, 118, 105, 99, 116]⟩, ⟨#[100, 114, 111, 112]⟩, ⟨#[109, 101, 109]⟩, ⟨#[102, 97, 105, 108]⟩]
def kindsL : List ByteArray := [⟨#[]⟩, ⟨#[114, 101, 97, 100]⟩, ⟨#[119, 114, 105, 116, 101]⟩, ⟨#[97, 100, 100]⟩, ⟨#[116, 97, 107, 101]⟩]
theorem v23 : Valid Tryd.prog 23 (.pre (gS [] [pSs] fun _ => namesL)) := by
  refine gS_ok mixed Tbl_ok L9_ok Tryd.func23 call23 rfl ?_
  rintro _ hr y hy
  refine ⟨noLoop, ?_⟩
  refine Eq.mp (by kernel_rfl : (ByteArray.mk ([] : List UInt8).toArray :: ByteArray.mk ((101 : UInt8) :: (120 : UInt8) :: (101 : UInt8) :: (99 : UInt8) :: ([] : List UInt8)).toArray :: ByteArray.mk ((100 : UInt8) :: (114 : UInt8) :: (97 : UInt8) :: (105 : UInt8) :: (110 : UInt8) :: ([] : List UInt8)).toArray :: ByteArray.mk ((117 : UInt8) :: (112 : UInt8) :: ([] : List UInt8)).toArray :: ByteArray.mk ((97 : UInt8) :: (110 : UInt8) :: (115 : UInt8) :: (119 : UInt8) :: (101 : UInt8) :: (114 : UInt8) :: ([] : List UInt8)).toArray :: ByteArray.mk ((104 : UInt8) :: (101 : UInt8) :: (97 : UInt8) :: (114 : UInt8) :: ([] : List UInt8)).toArray :: ByteArray.mk ((112 : UInt8) :: (117 : UInt8) :: (115 : UInt8) :: (104 : UInt8) :: ([] : List UInt8)).toArray :: ByteArray.mk ((101 : UInt8) :: (118 : UInt8) :: (105 : UInt8) :: (99 : UInt8) :: (116 : UInt8) :: ([] : List UInt8)).toArray :: ByteArray.mk ((100 : UInt8) :: (114 : UInt8) :: (111 : UInt8) :: (112 : UInt8) :: ([] : List UInt8)).toArray :: ByteArray.mk ((109 : UInt8) :: (101 : UInt8) :: (109 : UInt8) :: ([] : List UInt8)).toArray :: ByteArray.mk ((102 : UInt8) :: (97 : UInt8) :: (105 : UInt8) :: (108 : UInt8) :: ([] : List UInt8)).toArray :: ([] : List ByteArray) ≍ y ∧ True) = _) ?_
  have hy : namesL = y := hy
  subst hy
  exact ⟨HEq.rfl, trivial⟩
theorem v30 : Valid Tryd.prog 30 (.pre (gS [] [pSs] fun _ => kindsL)) := by
  refine gS_ok mixed Tbl_ok L9_ok Tryd.func30 call30 rfl ?_
  rintro _ hr y hy
  refine ⟨noLoop, ?_⟩
  refine Eq.mp (by kernel_rfl : (ByteArray.mk ([] : List UInt8).toArray :: ByteArray.mk ((114 : UInt8) :: (101 : UInt8) :: (97 : UInt8) :: (100 : UInt8) :: ([] : List UInt8)).toArray :: ByteArray.mk ((119 : UInt8) :: (114 : UInt8) :: (105 : UInt8) :: (116 : UInt8) :: (101 : UInt8) :: ([] : List UInt8)).toArray :: ByteArray.mk ((97 : UInt8) :: (100 : UInt8) :: (100 : UInt8) :: ([] : List UInt8)).toArray :: ByteArray.mk ((116 : UInt8) :: (97 : UInt8) :: (107 : UInt8) :: (101 : UInt8) :: ([] : List UInt8)).toArray :: ([] : List ByteArray) ≍ y ∧ True) = _) ?_
  have hy : kindsL = y := hy
  subst hy
  exact ⟨HEq.rfl, trivial⟩
def actsV : List CV := [.val (.string ⟨#[]⟩), .il .i64 0, .val (.string ⟨#[101, 120, 101, 99]⟩), .il .i64 1, .val (.string ⟨#[100, 114, 97, 105, 110]⟩), .il .i64 1, .val (.string ⟨#[117, 112]⟩), .il .i64 1, .val (.string ⟨#[97, 110, 115, 119, 101, 114]⟩), .il .i64 1, .val (.string ⟨#[104, 101, 97, 114]⟩), .il .i64 1, .val (.string ⟨#[112, 117, 115, 104]⟩), .il .i64 2, .val (.string ⟨#[101, 118, 105, 99, 116]⟩), .il .i64 3, .val (.string ⟨#[100, 114, 111, 112]⟩), .il .i64 2, .val (.string ⟨#[109, 101, 109]⟩), .il .i64 2, .val (.string ⟨#[102, 97, 105, 108]⟩), .il .i64 0]
def opsV : List CV := [.val (.string ⟨#[]⟩), .val (.string ⟨#[114, 101, 97, 100]⟩), .val (.string ⟨#[119, 114, 105, 116, 101]⟩), .val (.string ⟨#[97, 100, 100]⟩), .val (.string ⟨#[116, 97, 107, 101]⟩)]
abbrev actsS (args : List Vl) : Option Rs := match args with | [] => some (.v (.agg actsV)) | _ => none
abbrev opsS (args : List Vl) : Option Rs := match args with | [] => some (.v (.agg opsV)) | _ => none
theorem v19 : Valid Tryd.prog 19 (.tot actsS) := by
  refine valid_tot mixed Tbl_ok L9_ok Tryd.func19 call19 fun args r hS _ => ?_
  unfold actsS at hS
  split at hS
  case h_2 => cases hS
  cases hS
  refine ⟨rfl, rfl, noLoop, ?_⟩
  refine Eq.mp (by kernel_rfl : (Value.string ByteArray.empty = Value.string (ByteArray.mk ([] : List UInt8).toArray) ∧ (0 : Int) = (0 : Int) ∧ Value.string (ByteArray.mk ((101 : UInt8) :: (120 : UInt8) :: (101 : UInt8) :: (99 : UInt8) :: ([] : List UInt8)).toArray) = Value.string (ByteArray.mk ((101 : UInt8) :: (120 : UInt8) :: (101 : UInt8) :: (99 : UInt8) :: ([] : List UInt8)).toArray) ∧ (1 : Int) = (1 : Int) ∧ Value.string (ByteArray.mk ((100 : UInt8) :: (114 : UInt8) :: (97 : UInt8) :: (105 : UInt8) :: (110 : UInt8) :: ([] : List UInt8)).toArray) = Value.string (ByteArray.mk ((100 : UInt8) :: (114 : UInt8) :: (97 : UInt8) :: (105 : UInt8) :: (110 : UInt8) :: ([] : List UInt8)).toArray) ∧ (1 : Int) = (1 : Int) ∧ Value.string (ByteArray.mk ((117 : UInt8) :: (112 : UInt8) :: ([] : List UInt8)).toArray) = Value.string (ByteArray.mk ((117 : UInt8) :: (112 : UInt8) :: ([] : List UInt8)).toArray) ∧ (1 : Int) = (1 : Int) ∧ Value.string (ByteArray.mk ((97 : UInt8) :: (110 : UInt8) :: (115 : UInt8) :: (119 : UInt8) :: (101 : UInt8) :: (114 : UInt8) :: ([] : List UInt8)).toArray) = Value.string (ByteArray.mk ((97 : UInt8) :: (110 : UInt8) :: (115 : UInt8) :: (119 : UInt8) :: (101 : UInt8) :: (114 : UInt8) :: ([] : List UInt8)).toArray) ∧ (1 : Int) = (1 : Int) ∧ Value.string (ByteArray.mk ((104 : UInt8) :: (101 : UInt8) :: (97 : UInt8) :: (114 : UInt8) :: ([] : List UInt8)).toArray) = Value.string (ByteArray.mk ((104 : UInt8) :: (101 : UInt8) :: (97 : UInt8) :: (114 : UInt8) :: ([] : List UInt8)).toArray) ∧ (1 : Int) = (1 : Int) ∧ Value.string (ByteArray.mk ((112 : UInt8) :: (117 : UInt8) :: (115 : UInt8) :: (104 : UInt8) :: ([] : List UInt8)).toArray) = Value.string (ByteArray.mk ((112 : UInt8) :: (117 : UInt8) :: (115 : UInt8) :: (104 : UInt8) :: ([] : List UInt8)).toArray) ∧ (2 : Int) = (2 : Int) ∧ Value.string (ByteArray.mk ((101 : UInt8) :: (118 : UInt8) :: (105 : UInt8) :: (99 : UInt8) :: (116 : UInt8) :: ([] : List UInt8)).toArray) = Value.string (ByteArray.mk ((101 : UInt8) :: (118 : UInt8) :: (105 : UInt8) :: (99 : UInt8) :: (116 : UInt8) :: ([] : List UInt8)).toArray) ∧ (3 : Int) = (3 : Int) ∧ Value.string (ByteArray.mk ((100 : UInt8) :: (114 : UInt8) :: (111 : UInt8) :: (112 : UInt8) :: ([] : List UInt8)).toArray) = Value.string (ByteArray.mk ((100 : UInt8) :: (114 : UInt8) :: (111 : UInt8) :: (112 : UInt8) :: ([] : List UInt8)).toArray) ∧ (2 : Int) = (2 : Int) ∧ Value.string (ByteArray.mk ((109 : UInt8) :: (101 : UInt8) :: (109 : UInt8) :: ([] : List UInt8)).toArray) = Value.string (ByteArray.mk ((109 : UInt8) :: (101 : UInt8) :: (109 : UInt8) :: ([] : List UInt8)).toArray) ∧ (2 : Int) = (2 : Int) ∧ Value.string (ByteArray.mk ((102 : UInt8) :: (97 : UInt8) :: (105 : UInt8) :: (108 : UInt8) :: ([] : List UInt8)).toArray) = Value.string (ByteArray.mk ((102 : UInt8) :: (97 : UInt8) :: (105 : UInt8) :: (108 : UInt8) :: ([] : List UInt8)).toArray) ∧ (0 : Int) = (0 : Int) ∧ True) = _) ?_
  repeat' apply And.intro
  all_goals first | rfl | trivial
theorem v35 : Valid Tryd.prog 35 (.tot opsS) := by
  refine valid_tot mixed Tbl_ok L9_ok Tryd.func35 call35 fun args r hS _ => ?_
  unfold opsS at hS
  split at hS
  case h_2 => cases hS
  cases hS
  refine ⟨rfl, rfl, noLoop, ?_⟩
  refine Eq.mp (by kernel_rfl : (Value.string ByteArray.empty = Value.string (ByteArray.mk ([] : List UInt8).toArray) ∧ Value.string (ByteArray.mk ((114 : UInt8) :: (101 : UInt8) :: (97 : UInt8) :: (100 : UInt8) :: ([] : List UInt8)).toArray) = Value.string (ByteArray.mk ((114 : UInt8) :: (101 : UInt8) :: (97 : UInt8) :: (100 : UInt8) :: ([] : List UInt8)).toArray) ∧ Value.string (ByteArray.mk ((119 : UInt8) :: (114 : UInt8) :: (105 : UInt8) :: (116 : UInt8) :: (101 : UInt8) :: ([] : List UInt8)).toArray) = Value.string (ByteArray.mk ((119 : UInt8) :: (114 : UInt8) :: (105 : UInt8) :: (116 : UInt8) :: (101 : UInt8) :: ([] : List UInt8)).toArray) ∧ Value.string (ByteArray.mk ((97 : UInt8) :: (100 : UInt8) :: (100 : UInt8) :: ([] : List UInt8)).toArray) = Value.string (ByteArray.mk ((97 : UInt8) :: (100 : UInt8) :: (100 : UInt8) :: ([] : List UInt8)).toArray) ∧ Value.string (ByteArray.mk ((116 : UInt8) :: (97 : UInt8) :: (107 : UInt8) :: (101 : UInt8) :: ([] : List UInt8)).toArray) = Value.string (ByteArray.mk ((116 : UInt8) :: (97 : UInt8) :: (107 : UInt8) :: (101 : UInt8) :: ([] : List UInt8)).toArray) ∧ True) = _) ?_
  repeat' apply And.intro
  all_goals first | rfl | trivial
abbrev L10 : List (Nat × Spec) := (23, .pre (gS [] [pSs] fun _ => namesL)) :: (30, .pre (gS [] [pSs] fun _ => kindsL)) :: (19, .tot actsS) :: (35, .tot opsS) :: L9
theorem L10_all : ∀ p ∈ L10, Valid Tryd.prog p.1 p.2 := vcons v23 (vcons v30 (vcons v19 (vcons v35 L9_all)))
theorem L10_ok : ∀ f S, spL L10 f = some S → Valid Tryd.prog f S := spL_ok L10_all
/-- Which name is it? -/
def idxF (l : List ByteArray) (w : ByteArray) : Nat → Nat
  | 0 => 0
  | n + 1 => if l[n + 1]? = some w then n + 1 else idxF l w n
def kindA (w : ByteArray) : Nat := idxF namesL w 10
def kindO (w : ByteArray) : Nat := idxF kindsL w 4
def numO (w : ByteArray) : Option Int := if (numB w).2 = true then some (numB w).1 else none
def takeB (b : Bool) (r : List ByteArray) : Option (Int × List ByteArray) :=
  if b = true then (match r with | [] => none | w :: r => (numO w).map fun n => (n, r)) else some (0, r)
def actK (k : Int) (r : List ByteArray) : Option AN := (takeB (coreK k) r).bind fun p => (takeB (lineK k) p.2).bind fun q => if q.2 = [] ∧ goodA (k, p.1, q.1) = true then some (k, p.1, q.1) else none
def actW (l : List ByteArray) : Option AN := match l with
  | [] => none
  | w :: r => if kindA w = 0 then none else actK (kindA w) r
def actR (a : Option AN) : AN × Int := match a with | some a => (a, 0) | none => ((0, 0, 0), 320)
def actF (s : ByteArray) : AN × Int := actR (actW (wd s))
abbrev bx9 : List (Nat × Ck) := [(0, .blk [vi 0, vi 0, vi 0] 24)]
theorem numO_read (w : ByteArray) : numO w = if (readB w).2 = true then some (readB w).1 else none := by
  obtain ⟨h1, h2⟩ := read_num w
  rw [numO, h1]
  by_cases h : (numB w).2 = true
  · rw [if_pos h, if_pos h, h2 h]
  · rw [if_neg h, if_neg h]
theorem idxF_zero {l : List ByteArray} {w : ByteArray} : ∀ {n : Nat}, (∀ j, 1 ≤ j → j ≤ n → l[j]? ≠ some w) → idxF l w n = 0
  | 0, _ => rfl
  | n + 1, h => by rw [idxF, if_neg (h (n + 1) (by omega) (Nat.le_refl _)), idxF_zero fun j h1 h2 => h j h1 (by omega)]
theorem kindA_eq {k : Nat} {w : ByteArray} (h0 : 1 ≤ k) (h1 : k ≤ 10) (h : namesL[k]? = some w) : kindA w = k := by
  have : k = 1 ∨ k = 2 ∨ k = 3 ∨ k = 4 ∨ k = 5 ∨ k = 6 ∨ k = 7 ∨ k = 8 ∨ k = 9 ∨ k = 10 := by omega
  rcases this with rfl | rfl | rfl | rfl | rfl | rfl | rfl | rfl | rfl | rfl <;> (cases h; decide)
theorem act_at {s w : ByteArray} {r : List ByteArray} {k : Nat} (hW : wd s = w :: r) (h0 : 1 ≤ k) (h1 : k ≤ 10) (h : namesL[k]? = some w) : actF s = actR (actK k r) := by
  rw [actF, hW, actW, kindA_eq h0 h1 h, if_neg (by omega)]
structure I9 (s : ByteArray) (k : Nat) : Prop where
  lo : 1 ≤ k
  hi : k ≤ 11
  no : ∀ j w, 1 ≤ j → j < k → (wd s)[0]? = some w → namesL[j]? ≠ some w
abbrev lp9 (s : ByteArray) : Nat → Option LoopSp := fun _ => some { X := Nat, sl := fun k => [(2, .one (.ptr 0 0)), (4, .one (.rd .str (wd s))), (5, .one (vi k))], h := fun _ => bx9, nx := 1, inv := fun k => I9 s k, mu := fun k => 11 - k }
theorem v9 : Valid Tryd.prog 9 (.pre (rS [pS] [pA, pI] (fun x => ByteArray.size x ≤ 1000000) (fun x y => y = actF x))) := by
  refine rS_ok mixed Tbl_ok L10_ok Tryd.func9 call9 rfl ?_
  rintro (s : ByteArray) hr hs
  refine ⟨lp9 s, ?_⟩
  refine Eq.mp (by kernel_rfl : (s.size ≤ (1000000 : Nat) ∧ ∀ (y : Tup (pSs :: ([] : List PS))), y = wd s → (∃ (x : Nat), I9 s x ∧ y ≍ wd s ∧ (1 : Int) = (↑x : Int) ∧ (0 : Int) = (0 : Int) ∧ (0 : Int) = (0 : Int) ∧ (0 : Int) = (0 : Int) ∧ True) ∧ ∀ (x : Nat), I9 s x → (decide ((↑x : Int) ≤ (10 : Int)) = true → ((0 : Int) ≤ (0 : Int) ∧ (0 : Int) < (↑(wd s).length : Int)) ∧ ∀ (y : ByteArray), (wd s)[Int.toNat (0 : Int)]? = some y → ((0 : Int) ≤ (↑x : Int) ∧ (↑x : Int) < (↑namesL.length : Int)) ∧ ∀ (y_1 : ByteArray), namesL[(↑x : Int).toNat]? = some y_1 → ((!y_1.toList == y.toList) = true → ((-9223372036854775808 : Int) ≤ (↑x : Int) + (1 : Int) ∧ (↑x : Int) + (1 : Int) ≤ (9223372036854775807 : Int)) ∧ ∃ (y : Nat), I9 s y ∧ (11 : Nat) - y < (11 : Nat) - x ∧ wd s ≍ wd s ∧ (↑x : Int) + (1 : Int) = (↑y : Int) ∧ (0 : Int) = (0 : Int) ∧ (0 : Int) = (0 : Int) ∧ (0 : Int) = (0 : Int) ∧ True) ∧ ((!y_1.toList == y.toList) = false → (coreK (↑x : Int) = true → (decide ((1 : Int) ≥ (↑(wd s).length : Int)) = true → ∃ (y : Tup (pA :: pI :: ([] : List PS))), y = actF s ∧ (0 : Int) = y.fst.fst ∧ (0 : Int) = y.fst.snd.fst ∧ (0 : Int) = y.fst.snd.snd ∧ (320 : Int) = y.snd ∧ True) ∧ (decide ((1 : Int) ≥ (↑(wd s).length : Int)) = false → ((0 : Int) ≤ (1 : Int) ∧ (1 : Int) < (↑(wd s).length : Int)) ∧ ∀ (y : ByteArray), (wd s)[Int.toNat (1 : Int)]? = some y → ((!(readB y).snd) = true → ∃ (y : Tup (pA :: pI :: ([] : List PS))), y = actF s ∧ (0 : Int) = y.fst.fst ∧ (0 : Int) = y.fst.snd.fst ∧ (0 : Int) = y.fst.snd.snd ∧ (320 : Int) = y.snd ∧ True) ∧ ((!(readB y).snd) = false → ((0 : Int) ≤ (1 : Int) ∧ (1 : Int) < (↑(wd s).length : Int)) ∧ ∀ (y : ByteArray), (wd s)[Int.toNat (1 : Int)]? = some y → (lineK (↑x : Int) = true → (decide (Int.ofNat ((nat_lit 1 + nat_lit 1) % ((2 : Int) ^ IntKind.i64.bits).natAbs) ≥ (↑(wd s).length : Int)) = true → ∃ (y : Tup (pA :: pI :: ([] : List PS))), y = actF s ∧ (0 : Int) = y.fst.fst ∧ (0 : Int) = y.fst.snd.fst ∧ (0 : Int) = y.fst.snd.snd ∧ (320 : Int) = y.snd ∧ True) ∧ (decide (Int.ofNat ((nat_lit 1 + nat_lit 1) % ((2 : Int) ^ IntKind.i64.bits).natAbs) ≥ (↑(wd s).length : Int)) = false → ((0 : Int) ≤ Int.ofNat ((nat_lit 1 + nat_lit 1) % ((2 : Int) ^ IntKind.i64.bits).natAbs) ∧ Int.ofNat ((nat_lit 1 + nat_lit 1) % ((2 : Int) ^ IntKind.i64.bits).natAbs) < (↑(wd s).length : Int)) ∧ ∀ (y_2 : ByteArray), (wd s)[(Int.ofNat ((nat_lit 1 + nat_lit 1) % ((2 : Int) ^ IntKind.i64.bits).natAbs)).toNat]? = some y_2 → ((!(readB y_2).snd) = true → ∃ (y : Tup (pA :: pI :: ([] : List PS))), y = actF s ∧ (0 : Int) = y.fst.fst ∧ (0 : Int) = y.fst.snd.fst ∧ (0 : Int) = y.fst.snd.snd ∧ (320 : Int) = y.snd ∧ True) ∧ ((!(readB y_2).snd) = false → ((0 : Int) ≤ Int.ofNat ((nat_lit 1 + nat_lit 1) % ((2 : Int) ^ IntKind.i64.bits).natAbs) ∧ Int.ofNat ((nat_lit 1 + nat_lit 1) % ((2 : Int) ^ IntKind.i64.bits).natAbs) < (↑(wd s).length : Int)) ∧ ∀ (y_3 : ByteArray), (wd s)[(Int.ofNat ((nat_lit 1 + nat_lit 1) % ((2 : Int) ^ IntKind.i64.bits).natAbs)).toNat]? = some y_3 → ((Int.ofNat (((nat_lit 1 + nat_lit 1) % ((2 : Int) ^ IntKind.i64.bits).natAbs + nat_lit 1) % ((2 : Int) ^ IntKind.i64.bits).natAbs) != (↑(wd s).length : Int) || !goodA ((↑x : Int), (readB y).fst, (readB y_3).fst)) = true → ∃ (y : Tup (pA :: pI :: ([] : List PS))), y = actF s ∧ (0 : Int) = y.fst.fst ∧ (0 : Int) = y.fst.snd.fst ∧ (0 : Int) = y.fst.snd.snd ∧ (320 : Int) = y.snd ∧ True) ∧ ((Int.ofNat (((nat_lit 1 + nat_lit 1) % ((2 : Int) ^ IntKind.i64.bits).natAbs + nat_lit 1) % ((2 : Int) ^ IntKind.i64.bits).natAbs) != (↑(wd s).length : Int) || !goodA ((↑x : Int), (readB y).fst, (readB y_3).fst)) = false → ∃ (y_4 : Tup (pA :: pI :: ([] : List PS))), y_4 = actF s ∧ (↑x : Int) = y_4.fst.fst ∧ (readB y).fst = y_4.fst.snd.fst ∧ (readB y_3).fst = y_4.fst.snd.snd ∧ (0 : Int) = y_4.snd ∧ True)))) ∧ (lineK (↑x : Int) = false → ((Int.ofNat ((nat_lit 1 + nat_lit 1) % ((2 : Int) ^ IntKind.i64.bits).natAbs) != (↑(wd s).length : Int) || !goodA ((↑x : Int), (readB y).fst, (0 : Int))) = true → ∃ (y : Tup (pA :: pI :: ([] : List PS))), y = actF s ∧ (0 : Int) = y.fst.fst ∧ (0 : Int) = y.fst.snd.fst ∧ (0 : Int) = y.fst.snd.snd ∧ (320 : Int) = y.snd ∧ True) ∧ ((Int.ofNat ((nat_lit 1 + nat_lit 1) % ((2 : Int) ^ IntKind.i64.bits).natAbs) != (↑(wd s).length : Int) || !goodA ((↑x : Int), (readB y).fst, (0 : Int))) = false → ∃ (y_2 : Tup (pA :: pI :: ([] : List PS))), y_2 = actF s ∧ (↑x : Int) = y_2.fst.fst ∧ (readB y).fst = y_2.fst.snd.fst ∧ (0 : Int) = y_2.fst.snd.snd ∧ (0 : Int) = y_2.snd ∧ True))))) ∧ (coreK (↑x : Int) = false → (lineK (↑x : Int) = true → (decide ((1 : Int) ≥ (↑(wd s).length : Int)) = true → ∃ (y : Tup (pA :: pI :: ([] : List PS))), y = actF s ∧ (0 : Int) = y.fst.fst ∧ (0 : Int) = y.fst.snd.fst ∧ (0 : Int) = y.fst.snd.snd ∧ (320 : Int) = y.snd ∧ True) ∧ (decide ((1 : Int) ≥ (↑(wd s).length : Int)) = false → ((0 : Int) ≤ (1 : Int) ∧ (1 : Int) < (↑(wd s).length : Int)) ∧ ∀ (y : ByteArray), (wd s)[Int.toNat (1 : Int)]? = some y → ((!(readB y).snd) = true → ∃ (y : Tup (pA :: pI :: ([] : List PS))), y = actF s ∧ (0 : Int) = y.fst.fst ∧ (0 : Int) = y.fst.snd.fst ∧ (0 : Int) = y.fst.snd.snd ∧ (320 : Int) = y.snd ∧ True) ∧ ((!(readB y).snd) = false → ((0 : Int) ≤ (1 : Int) ∧ (1 : Int) < (↑(wd s).length : Int)) ∧ ∀ (y : ByteArray), (wd s)[Int.toNat (1 : Int)]? = some y → ((Int.ofNat ((nat_lit 1 + nat_lit 1) % ((2 : Int) ^ IntKind.i64.bits).natAbs) != (↑(wd s).length : Int) || !goodA ((↑x : Int), (0 : Int), (readB y).fst)) = true → ∃ (y : Tup (pA :: pI :: ([] : List PS))), y = actF s ∧ (0 : Int) = y.fst.fst ∧ (0 : Int) = y.fst.snd.fst ∧ (0 : Int) = y.fst.snd.snd ∧ (320 : Int) = y.snd ∧ True) ∧ ((Int.ofNat ((nat_lit 1 + nat_lit 1) % ((2 : Int) ^ IntKind.i64.bits).natAbs) != (↑(wd s).length : Int) || !goodA ((↑x : Int), (0 : Int), (readB y).fst)) = false → ∃ (y_2 : Tup (pA :: pI :: ([] : List PS))), y_2 = actF s ∧ (↑x : Int) = y_2.fst.fst ∧ (0 : Int) = y_2.fst.snd.fst ∧ (readB y).fst = y_2.fst.snd.snd ∧ (0 : Int) = y_2.snd ∧ True)))) ∧ (lineK (↑x : Int) = false → (((1 : Int) != (↑(wd s).length : Int) || !goodA ((↑x : Int), (0 : Int), (0 : Int))) = true → ∃ (y : Tup (pA :: pI :: ([] : List PS))), y = actF s ∧ (0 : Int) = y.fst.fst ∧ (0 : Int) = y.fst.snd.fst ∧ (0 : Int) = y.fst.snd.snd ∧ (320 : Int) = y.snd ∧ True) ∧ (((1 : Int) != (↑(wd s).length : Int) || !goodA ((↑x : Int), (0 : Int), (0 : Int))) = false → ∃ (y : Tup (pA :: pI :: ([] : List PS))), y = actF s ∧ (↑x : Int) = y.fst.fst ∧ (0 : Int) = y.fst.snd.fst ∧ (0 : Int) = y.fst.snd.snd ∧ (0 : Int) = y.snd ∧ True))))) ∧ (decide ((↑x : Int) ≤ (10 : Int)) = false → ∃ (y : Tup (pA :: pI :: ([] : List PS))), y = actF s ∧ (0 : Int) = y.fst.fst ∧ (0 : Int) = y.fst.snd.fst ∧ (0 : Int) = y.fst.snd.snd ∧ (320 : Int) = y.snd ∧ True)) = _) ?_
  have hs : s.size ≤ 1000000 := hs
  refine ⟨hs, fun y hy => ?_⟩
  have hy : y = wd s := hy
  subst hy
  refine ⟨⟨1, ⟨Nat.le_refl _, by decide, fun j w h1 h2 => by omega⟩, HEq.rfl, rfl, rfl, rfl, rfl, trivial⟩, fun x hx => ?_⟩
  obtain ⟨w, r, hW⟩ : ∃ w r, wd s = w :: r := by
    cases h : wd s with
    | nil => exact absurd (List.map_eq_nil_iff.1 h) (cutL_ne _)
    | cons w r => exact ⟨w, r, rfl⟩
  refine ⟨fun hk => ⟨by rw [hW]; simp, fun w' hw' => ⟨?_, fun n hn => ⟨fun h => ⟨?_, x + 1, ?_, ?_, HEq.rfl, by simp, rfl, rfl, rfl, trivial⟩, fun h => ?_⟩⟩⟩, fun hk => ?_⟩
  · have : namesL.length = 11 := rfl
    have := hx.lo
    simp only [decide_eq_true_eq] at hk
    omega
  · simp only [decide_eq_true_eq] at hk; omega
  · simp only [decide_eq_true_eq] at hk
    refine ⟨by omega, by omega, fun j z h1 h2 hz => ?_⟩
    rcases Nat.lt_or_ge j x with h3 | h3
    · exact hx.no j z h1 h3 hz
    · have : j = x := by omega
      subst this
      intro e
      rw [Int.toNat_natCast, e] at hn
      cases hn
      have hw' : (wd s)[0]? = some w' := hw'
      rw [hw'] at hz
      cases hz
      simp at h
  · simp only [decide_eq_true_eq] at hk; omega
  · have hk : x ≤ 10 := by simp only [decide_eq_true_eq] at hk; omega
    have e2 : Int.ofNat ((1 + 1) % ((2 : Int) ^ IntKind.i64.bits).natAbs) = 2 := by decide
    have e3 : Int.ofNat (((1 + 1) % ((2 : Int) ^ IntKind.i64.bits).natAbs + 1) % ((2 : Int) ^ IntKind.i64.bits).natAbs) = 3 := by decide
    rw [hW] at hw'
    cases hw'
    have hnw : n = w := by
      have := (bytes_eq (s := n) (t := w)).1 (by simpa using h)
      exact this
    subst hnw
    rw [Int.toNat_natCast] at hn
    rw [act_at hW hx.lo hk hn, hW, e2, e3]
    clear hW hs hr hx hn h e2 e3
    rcases r with _ | ⟨a, r⟩
    · cases hc : coreK (x : Int) <;> cases hl : lineK (x : Int) <;> simp [actK, takeB, numO_read, hc, hl, actR]
      all_goals (cases hg : goodA ((x : Int), 0, 0) <;> simp)
    rcases ha : readB a with ⟨na, oa⟩
    rcases r with _ | ⟨b, r⟩
    · cases oa <;> cases hc : coreK (x : Int) <;> cases hl : lineK (x : Int) <;> simp [actK, takeB, numO_read, hc, hl, ha, actR]
      · cases hg : goodA ((x : Int), 0, na) <;> simp
      · cases hg : goodA ((x : Int), na, 0) <;> simp
    rcases hb : readB b with ⟨nb, ob⟩
    rcases r with _ | ⟨c, r⟩ <;> cases oa <;> cases ob <;> cases hc : coreK (x : Int) <;> cases hl : lineK (x : Int) <;> simp [actK, takeB, numO_read, hc, hl, ha, hb, actR]
    · cases hg : goodA ((x : Int), na, nb) <;> simp
    all_goals intros
    all_goals first | omega | (refine ⟨by omega, fun _ => ?_⟩; first | omega | exact ⟨by omega, fun _ => by omega⟩)
  · have hk : x = 11 := by have := hx.hi; simp only [decide_eq_false_iff_not] at hk; omega
    subst hk
    have e : actF s = ((0, 0, 0), 320) := by
      rw [actF, hW, actW, if_pos]
      · rfl
      · exact idxF_zero fun j h1 h2 => hx.no j w h1 (by omega) (by rw [hW]; rfl)
    rw [e]; exact ⟨_, rfl, rfl, rfl, rfl, rfl, trivial⟩
end Go.Proofs.YtljbcclpmlkpnaaDoor.V
