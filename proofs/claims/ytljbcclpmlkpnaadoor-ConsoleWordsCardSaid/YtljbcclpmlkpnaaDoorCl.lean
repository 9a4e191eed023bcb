import Derived.KernelRfl
import Derived.Test.YtljbcclpmlkpnaaDoorCk
namespace Go.Proofs.YtljbcclpmlkpnaaDoor.V
open Go.RowKit Go.Proofs.YtljbcclpmlkpnaaDoor
set_option linter.unusedSimpArgs false
set_option pp.deepTerms true
set_option pp.maxSteps 200000
abbrev M8 : List (Nat × Spec) := (15, .pre (gS [pT] [pS, pI] txLn)) :: (16, .pre (gS [pT] [pS, pI] txLn)) :: M7
theorem M8_all : ∀ p ∈ M8, Valid Tryd.prog p.1 p.2 := vcons v15 (vcons v16 M7_all)
theorem M8_ok : ∀ f S, spL M8 f = some S → Valid Tryd.prog f S := spL_ok M8_all
theorem dec1 {d : Nat} (h : d < 10) : decB (d : Int) = mkW [UInt8.ofNat (48 + d)] := by rw [decB_u, Lib.decDigits_one h]; rfl
theorem num1 {d : Nat} (h : d < 10) : numO (mkW [UInt8.ofNat (48 + d)]) = some (d : Int) := by
  rw [← dec1 h, numO_n1] <;> rw [numB_dec (by omega) (by omega)]
theorem n2 : numO (mkW [50]) = some 2 := num1 (d := 2) (by decide)
theorem n3 : numO (mkW [51]) = some 3 := num1 (d := 3) (by decide)
theorem n7 : numO (mkW [55]) = some 7 := num1 (d := 7) (by decide)
theorem wk1 : actF (⟨#[101, 118, 105, 99, 116, 32, 50, 32, 55]⟩ : ByteArray) = ((7, 2, 7), 0) := by
  have hw : wd (⟨#[101, 118, 105, 99, 116, 32, 50, 32, 55]⟩ : ByteArray) = [mkW [101, 118, 105, 99, 116], mkW [50], mkW [55]] := rfl
  have hk : kindA (mkW [101, 118, 105, 99, 116]) = 7 := by decide
  rw [actF, hw, actW, hk, if_neg (by decide)]
  simp [actK, takeB, n2, n7, coreK, lineK, goodA, mayF, actR]
theorem wk2 : txF (⟨#[119, 114, 105, 116, 101, 32, 51, 32, 55, 32, 114, 101, 97, 100, 32, 51, 32, 99, 111, 109, 109, 105, 116]⟩ : ByteArray) = (([(2, 3, 7), (1, 3, 0)], false), 0) := by
  have hw : wd (⟨#[119, 114, 105, 116, 101, 32, 51, 32, 55, 32, 114, 101, 97, 100, 32, 51, 32, 99, 111, 109, 109, 105, 116]⟩ : ByteArray) = [mkW [119, 114, 105, 116, 101], mkW [51], mkW [55], mkW [114, 101, 97, 100], mkW [51], commitB] := rfl
  have hk : kindO (mkW [119, 114, 105, 116, 101]) = 2 := by decide
  have hk2 : kindO (mkW [114, 101, 97, 100]) = 1 := by decide
  rw [txF, hw, tx_kN (by rw [hk]; decide) (by rw [hk]; decide), tx_k1 hk2, hk, n3, n7]
  simp [txW, addO, txR, goodT, goodO]
theorem wk3 : joinB (txWs ([(4, -1, 5)], true)) sp = (⟨#[116, 97, 107, 101, 32, 45, 49, 32, 53, 32, 97, 98, 111, 114, 116]⟩ : ByteArray) := by
  have e : txWs ([(4, -1, 5)], true) = [nameO 4, decB (-1), decB 5, abortB] := rfl
  have e5 : decB 5 = mkW [53] := dec1 (d := 5) (by decide)
  have e1 : decB (-1) = mkW [45, 49] := by
    apply ba_ext
    rw [decB_list, mkW_list, show (-1 : Int) = -((1 : Nat) : Int) from rfl, Lib.itoa_neg 1 (by decide), Lib.decDigits_one (by decide)]
    rfl
  rw [e, e5, e1]; rfl
theorem wk4 : joinB (actWs (10, 0, 0)) sp = (⟨#[102, 97, 105, 108]⟩ : ByteArray) := by
  rw [show actWs (10, 0, 0) = [(⟨#[102, 97, 105, 108]⟩ : ByteArray)] from rfl, join1]
theorem v7 : Valid Tryd.prog 7 (.pre (gS [] [pB] fun _ => true)) := by
  refine gS_ok mixed Tbl_ok M8_ok Tryd.func7 call7 rfl ?_
  rintro _ hr y hy
  refine ⟨noLoop, ?_⟩
  refine Eq.mp (by kernel_rfl : ((ByteArray.mk ((101 : UInt8) :: (118 : UInt8) :: (105 : UInt8) :: (99 : UInt8) :: (116 : UInt8) :: (32 : UInt8) :: (50 : UInt8) :: (32 : UInt8) :: (55 : UInt8) :: ([] : List UInt8)).toArray).size ≤ (1000000 : Nat) ∧ ∀ (y_1 : Tup (pA :: pI :: ([] : List PS))), y_1 = actF (ByteArray.mk ((101 : UInt8) :: (118 : UInt8) :: (105 : UInt8) :: (99 : UInt8) :: (116 : UInt8) :: (32 : UInt8) :: (50 : UInt8) :: (32 : UInt8) :: (55 : UInt8) :: ([] : List UInt8)).toArray) → (ByteArray.mk ((119 : UInt8) :: (114 : UInt8) :: (105 : UInt8) :: (116 : UInt8) :: (101 : UInt8) :: (32 : UInt8) :: (51 : UInt8) :: (32 : UInt8) :: (55 : UInt8) :: (32 : UInt8) :: (114 : UInt8) :: (101 : UInt8) :: (97 : UInt8) :: (100 : UInt8) :: (32 : UInt8) :: (51 : UInt8) :: (32 : UInt8) :: (99 : UInt8) :: (111 : UInt8) :: (109 : UInt8) :: (109 : UInt8) :: (105 : UInt8) :: (116 : UInt8) :: ([] : List UInt8)).toArray).size ≤ (1000000 : Nat) ∧ ∀ (y_2 : Tup (pT :: pI :: ([] : List PS))), y_2 = txF (ByteArray.mk ((119 : UInt8) :: (114 : UInt8) :: (105 : UInt8) :: (116 : UInt8) :: (101 : UInt8) :: (32 : UInt8) :: (51 : UInt8) :: (32 : UInt8) :: (55 : UInt8) :: (32 : UInt8) :: (114 : UInt8) :: (101 : UInt8) :: (97 : UInt8) :: (100 : UInt8) :: (32 : UInt8) :: (51 : UInt8) :: (32 : UInt8) :: (99 : UInt8) :: (111 : UInt8) :: (109 : UInt8) :: (109 : UInt8) :: (105 : UInt8) :: (116 : UInt8) :: ([] : List UInt8)).toArray) → ((y_1.snd == (0 : Int) && y_2.snd == (0 : Int) && (0 : Int) == (0 : Int) && (0 : Int) == (0 : Int) && y_1.fst.snd.fst == (2 : Int) && y_1.fst.snd.snd == (7 : Int) && (↑y_2.fst.fst.length : Int) == (2 : Int)) = true → ((0 : Int) ≤ (0 : Int) ∧ (0 : Int) < (↑y_2.fst.fst.length : Int)) ∧ ∀ (y_3 : Int × Int × Int), y_2.fst.fst[Int.toNat (0 : Int)]? = some y_3 → (y_3.snd.snd == (7 : Int) && (joinB (txWs (((4 : Int), (-1 : Int), (5 : Int)) :: ([] : List (Int × Int × Int)), true)) sp).toList == (ByteArray.mk ((116 : UInt8) :: (97 : UInt8) :: (107 : UInt8) :: (101 : UInt8) :: (32 : UInt8) :: (45 : UInt8) :: (49 : UInt8) :: (32 : UInt8) :: (53 : UInt8) :: (32 : UInt8) :: (97 : UInt8) :: (98 : UInt8) :: (111 : UInt8) :: (114 : UInt8) :: (116 : UInt8) :: ([] : List UInt8)).toArray).toList && (joinB (actWs ((10 : Int), (0 : Int), (0 : Int))) sp).toList == (ByteArray.mk ((102 : UInt8) :: (97 : UInt8) :: (105 : UInt8) :: (108 : UInt8) :: ([] : List UInt8)).toArray).toList) = y ∧ True) ∧ ((y_1.snd == (0 : Int) && y_2.snd == (0 : Int) && (0 : Int) == (0 : Int) && (0 : Int) == (0 : Int) && y_1.fst.snd.fst == (2 : Int) && y_1.fst.snd.snd == (7 : Int) && (↑y_2.fst.fst.length : Int) == (2 : Int)) = false → false = y ∧ True)) = _) ?_
  have hy : true = y := hy
  subst hy
  refine ⟨by decide, fun y1 h1 => ⟨by decide, fun y2 h2 => ?_⟩⟩
  have h1 : y1 = ((7, 2, 7), 0) := h1.trans wk1
  have h2 : y2 = (([(2, 3, 7), (1, 3, 0)], false), 0) := h2.trans wk2
  subst h1; subst h2
  refine ⟨fun _ => ⟨by decide, fun y3 h3 => ⟨?_, trivial⟩⟩, fun h => absurd h (by decide)⟩
  have h3 : y3 = (2, 3, 7) := (Option.some.inj h3).symm
  subst h3
  rw [wk3, wk4, toList_data, toList_data]
  decide
abbrev M9 : List (Nat × Spec) := (7, .pre (gS [] [pB] fun _ => true)) :: M8
theorem M9_all : ∀ p ∈ M9, Valid Tryd.prog p.1 p.2 := vcons v7 M8_all
theorem M9_ok : ∀ f S, spL M9 f = some S → Valid Tryd.prog f S := spL_ok M9_all
theorem reads_law : ∀ x, rngTup [pS] x → ∃ lp, runF Tbl (spL M9) lp 0 Tryd.f3 (enVs [pS] x) ⟨0, []⟩ fun r' st' => fzR st' (mkB true) r' := by
  rintro (s : ByteArray) hr
  refine ⟨noLoop, ?_⟩
  refine Eq.mp (by kernel_rfl : ((decide ((↑s.size : Int) > (3000 : Int)) = true → true = true ∧ True) ∧ (decide ((↑s.size : Int) > (3000 : Int)) = false → s.size ≤ (1000000 : Nat) ∧ ∀ (y : Tup (pA :: pI :: ([] : List PS))), y = actF s → s.size ≤ (1000000 : Nat) ∧ ∀ (y_1 : Tup (pA :: pI :: ([] : List PS))), y_1 = actF s → s.size ≤ (1000000 : Nat) ∧ ∀ (y_2 : Tup (pT :: pI :: ([] : List PS))), y_2 = txF s → s.size ≤ (1000000 : Nat) ∧ ∀ (y_3 : Tup (pT :: pI :: ([] : List PS))), y_3 = txF s → ((y.fst.fst == y_1.fst.fst && (y.fst.snd.fst == y_1.fst.snd.fst && y.fst.snd.snd == y_1.fst.snd.snd) && y.snd == y_1.snd && eqT ((y_2.fst.fst, y_2.fst.snd), y_3.fst.fst, y_3.fst.snd) && y_2.snd == y_3.snd) = true → true = true ∧ True) ∧ ((y.fst.fst == y_1.fst.fst && (y.fst.snd.fst == y_1.fst.snd.fst && y.fst.snd.snd == y_1.fst.snd.snd) && y.snd == y_1.snd && eqT ((y_2.fst.fst, y_2.fst.snd), y_3.fst.fst, y_3.fst.snd) && y_2.snd == y_3.snd) = false → false = true ∧ True))) = _) ?_
  refine ⟨fun _ => ⟨rfl, trivial⟩, fun h => ?_⟩
  have h : s.size ≤ 1000000 := by simp only [decide_eq_false_iff_not] at h; omega
  refine ⟨h, fun y hy => ⟨h, fun y1 h1 => ⟨h, fun y2 h2 => ⟨h, fun y3 h3 => ⟨fun _ => ⟨rfl, trivial⟩, fun q => ?_⟩⟩⟩⟩⟩
  exfalso
  have hy : y = actF s := hy
  have h1 : y1 = actF s := h1
  have h2 : y2 = txF s := h2
  have h3 : y3 = txF s := h3
  rw [hy, h1, h2, h3] at q
  simp [eqT] at q
theorem lines_law : ∀ x, rngTup [pA, pT] x → ∃ lp, runF Tbl (spL M9) lp 0 Tryd.f4 (enVs [pA, pT] x) ⟨0, []⟩ fun r' st' => fzR st' (mkB true) r' := by
  rintro ⟨⟨(k : Int), (c : Int), (l : Int)⟩, ⟨(O : List ON), (b : Bool)⟩⟩ hr
  refine ⟨noLoop, ?_⟩
  refine Eq.mp (by kernel_rfl : ((decide ((↑O.length : Int) > (50 : Int)) = true → true = true ∧ True) ∧ (decide ((↑O.length : Int) > (50 : Int)) = false → (([] : List (Int × Int × Int)).length + O.length) * (24 : Nat) ≤ (140737488355328 : Nat) ∧ (((actLn (k, c, l)).fst.toList == (actLn (k, c, l)).fst.toList && (actLn (k, c, l)).snd == (actLn (k, c, l)).snd && (txLn (([] : List (Int × Int × Int)) ++ O, b)).fst.toList == (txLn (O, b)).fst.toList && (txLn (([] : List (Int × Int × Int)) ++ O, b)).snd == (txLn (O, b)).snd) = true → true = true ∧ True) ∧ (((actLn (k, c, l)).fst.toList == (actLn (k, c, l)).fst.toList && (actLn (k, c, l)).snd == (actLn (k, c, l)).snd && (txLn (([] : List (Int × Int × Int)) ++ O, b)).fst.toList == (txLn (O, b)).fst.toList && (txLn (([] : List (Int × Int × Int)) ++ O, b)).snd == (txLn (O, b)).snd) = false → false = true ∧ True))) = _) ?_
  refine ⟨fun _ => ⟨rfl, trivial⟩, fun h => ⟨by simp only [decide_eq_false_iff_not] at h; simp only [List.length_nil]; omega, fun _ => ⟨rfl, trivial⟩, fun q => ?_⟩⟩
  exfalso
  rw [List.nil_append] at q
  simp at q
section
variable {H : Type} {enc : TypeId × Value → H} {base : Nat} (W : World)
theorem reads_walk (hg : GlOk (fun k => k < W.heap.size) W) (v0 : Value) (a0 : Arg enc Tryd.prog W base 9 v0) : Calls Tryd.prog 3 #[v0] W fun e w' => e = .returned (.bool true) ∧ Below W.heap.size W w' :=
  law_of (ps := [pS]) (ts := [9]) (vs := [v0]) mixed Tbl_ok M9_ok Tryd.func3 rfl (by kernel_rfl) ⟨a0, trivial⟩ reads_law hg
theorem lines_walk (hg : GlOk (fun k => k < W.heap.size) W) (v0 v1 : Value) (a0 : Arg enc Tryd.prog W base 24 v0) (a1 : Arg enc Tryd.prog W base 32 v1) : Calls Tryd.prog 4 #[v0, v1] W fun e w' => e = .returned (.bool true) ∧ Below W.heap.size W w' :=
  law_of (ps := [pA, pT]) (ts := [24, 32]) (vs := [v0, v1]) mixed Tbl_ok M9_ok Tryd.func4 rfl (by kernel_rfl) ⟨a0, a1, trivial⟩ lines_law hg
end
end Go.Proofs.YtljbcclpmlkpnaaDoor.V
