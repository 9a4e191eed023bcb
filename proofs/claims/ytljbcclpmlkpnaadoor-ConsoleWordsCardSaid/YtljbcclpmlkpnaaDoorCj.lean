import Derived.KernelRfl
import Derived.Test.YtljbcclpmlkpnaaDoorCi
namespace Go.Proofs.YtljbcclpmlkpnaaDoor.V
open Go.RowKit Go.Proofs.YtljbcclpmlkpnaaDoor
set_option linter.unusedSimpArgs false
set_option pp.deepTerms true
set_option pp.maxSteps 200000
abbrev M6 : List (Nat × Spec) := (8, wActS) :: (10, .pre (rS [pS] [pT, pI] (fun x => ByteArray.size x ≤ 1000000) (fun x y => y = txF x))) :: M5
theorem M6_all : ∀ p ∈ M6, Valid Tryd.prog p.1 p.2 := vcons v8 (vcons v10 M5_all)
theorem M6_ok : ∀ f S, spL M6 f = some S → Valid Tryd.prog f S := spL_ok M6_all
def sp : ByteArray := ⟨#[32]⟩
def sepB (l : List ByteArray) : ByteArray := mkW ((l.map fun w => w.data.toList ++ [32]).flatten)
theorem app_list (a b : ByteArray) : (a ++ b).data.toList = a.data.toList ++ b.data.toList := by simp
theorem sepB_list (l : List ByteArray) : (sepB l).data.toList = (l.map fun w => w.data.toList ++ [32]).flatten := mkW_list _
theorem joinB_list (l : List ByteArray) (s : ByteArray) : (joinB l s).data.toList = Lib.join (l.map (·.data.toList)) s.data.toList := by simp [joinB]
theorem join_cons2 (a b : List UInt8) (r : List (List UInt8)) (s : List UInt8) : Lib.join (a :: b :: r) s = a ++ s ++ Lib.join (b :: r) s := by
  rw [Lib.join_cons, Lib.join_cons, Lib.joinTail, List.map_cons, List.flatten_cons]
  simp [Lib.joinTail]
theorem join_sep (x : ByteArray) : ∀ l : List ByteArray, joinB (l ++ [x]) sp = sepB l ++ x
  | [] => by
    apply ba_ext
    rw [joinB_list, app_list, sepB_list]
    simp [Lib.join_one]
  | a :: l => by
    have ih := join_sep x l
    apply ba_ext
    have ih := congrArg (fun s => s.data.toList) ih
    simp only [joinB_list, app_list, sepB_list] at ih ⊢
    cases l with
    | nil =>
      simp only [List.nil_append, List.cons_append, List.map_cons, List.map_nil] at ih ⊢
      rw [join_cons2, ih]
      simp [sp]
    | cons b l =>
      simp only [List.cons_append, List.map_cons, List.map_append, List.map_nil, List.flatten_cons] at ih ⊢
      rw [join_cons2, ih]
      simp [sp]
theorem sepB_app (l m : List ByteArray) : sepB (l ++ m) = sepB l ++ sepB m := by
  apply ba_ext
  rw [app_list, sepB_list, sepB_list, sepB_list]
  simp
theorem sepB_one (w : ByteArray) : sepB [w] = w ++ sp := by
  apply ba_ext
  rw [app_list, sepB_list]
  simp [sp]
theorem app_assoc (a b c : ByteArray) : a ++ b ++ c = a ++ (b ++ c) := by
  apply ba_ext
  simp only [app_list, List.append_assoc]
theorem join1 (x : ByteArray) : joinB [x] sp = x := by
  apply ba_ext
  rw [joinB_list]; simp [Lib.join_one]
theorem join2 (x y : ByteArray) : joinB [x, y] sp = x ++ (sp ++ y) := by
  apply ba_ext
  simp only [joinB_list, app_list, List.map_cons, List.map_nil, join_cons2, Lib.join_one, List.append_assoc]
theorem join3 (x y z : ByteArray) : joinB [x, y, z] sp = x ++ (sp ++ y) ++ (sp ++ z) := by
  apply ba_ext
  simp only [joinB_list, app_list, List.map_cons, List.map_nil, join_cons2, Lib.join_one, List.append_assoc]
def nameA (k : Int) : ByteArray := namesL.getD k.toNat ⟨#[]⟩
def actWs (a : AN) : List ByteArray := nameA a.1 :: ((if coreK a.1 = true then [decB a.2.1] else []) ++ (if lineK a.1 = true then [decB a.2.2] else []))
def actLn (a : AN) : ByteArray × Int := if goodA a = true then (joinB (actWs a) sp, 0) else (⟨#[]⟩, 11)
theorem nameA_size (k : Int) : (nameA k).size ≤ 6 := by
  have : ∀ w ∈ namesL, ByteArray.size w ≤ 6 := by decide
  rw [nameA, List.getD_eq_getElem?_getD]
  cases h : namesL[k.toNat]? with
  | none => decide
  | some w => exact this w (List.mem_of_getElem? h)
theorem ba_size (s : ByteArray) : s.size = s.data.toList.length := (size_list s).symm
theorem join_more (a b : ByteArray) (r : List ByteArray) : joinB (a :: b :: r) sp = a ++ (sp ++ joinB (b :: r) sp) := by
  apply ba_ext
  simp only [joinB_list, app_list, List.map_cons, join_cons2, List.append_assoc]
theorem jsize {B : Nat} : ∀ L : List ByteArray, (∀ w ∈ L, ByteArray.size w ≤ B) → (joinB L sp).size ≤ (B + 1) * L.length
  | [], _ => Nat.zero_le _
  | [a], h => by have := h a (by simp); rw [join1]; simp; omega
  | a :: b :: r, h => by
    have h1 := h a (by simp)
    have ih := jsize (b :: r) (fun w hw => h w (by simp [hw]))
    rw [join_more, ByteArray.size_append, ByteArray.size_append]
    have : sp.size = 1 := rfl
    simp only [List.length_cons, Nat.mul_add, Nat.mul_one] at ih ⊢
    omega
theorem actLn_in {a : AN} (h : goodA a = true) : actLn a = (joinB (actWs a) sp, 0) := by rw [actLn, if_pos h]
theorem actLn_out {a : AN} (h : goodA a = false) : actLn a = (⟨#[]⟩, 11) := by rw [actLn, if_neg (by rw [h]; decide)]
theorem v14 : Valid Tryd.prog 14 (.pre (gS [pA] [pS, pI] actLn)) := by
  refine gS_ok mixed Tbl_ok M6_ok Tryd.func14 call14 rfl ?_
  rintro ⟨(k : Int), (c : Int), (l : Int)⟩ hr y hy
  refine ⟨noLoop, ?_⟩
  refine Eq.mp (by kernel_rfl : (((!goodA (k, c, l)) = true → Value.string (ByteArray.mk ([] : List UInt8).toArray) = Value.string y.fst ∧ (11 : Int) = y.snd ∧ True) ∧ ((!goodA (k, c, l)) = false → ((0 : Int) ≤ k ∧ k < (↑namesL.length : Int)) ∧ ∀ (y_1 : ByteArray), namesL[k.toNat]? = some y_1 → (coreK k = true → (ByteArray.mk ((32 : UInt8) :: ([] : List UInt8)).toArray).size + (decB c).size ≤ maxLen ∧ y_1.size + (ByteArray.mk ((32 : UInt8) :: ([] : List UInt8)).toArray ++ decB c).size ≤ maxLen ∧ (lineK k = true → (ByteArray.mk ((32 : UInt8) :: ([] : List UInt8)).toArray).size + (decB l).size ≤ maxLen ∧ (y_1 ++ (ByteArray.mk ((32 : UInt8) :: ([] : List UInt8)).toArray ++ decB c)).size + (ByteArray.mk ((32 : UInt8) :: ([] : List UInt8)).toArray ++ decB l).size ≤ maxLen ∧ Value.string (y_1 ++ (ByteArray.mk ((32 : UInt8) :: ([] : List UInt8)).toArray ++ decB c) ++ (ByteArray.mk ((32 : UInt8) :: ([] : List UInt8)).toArray ++ decB l)) = Value.string y.fst ∧ (0 : Int) = y.snd ∧ True) ∧ (lineK k = false → Value.string (y_1 ++ (ByteArray.mk ((32 : UInt8) :: ([] : List UInt8)).toArray ++ decB c)) = Value.string y.fst ∧ (0 : Int) = y.snd ∧ True)) ∧ (coreK k = false → (lineK k = true → (ByteArray.mk ((32 : UInt8) :: ([] : List UInt8)).toArray).size + (decB l).size ≤ maxLen ∧ y_1.size + (ByteArray.mk ((32 : UInt8) :: ([] : List UInt8)).toArray ++ decB l).size ≤ maxLen ∧ Value.string (y_1 ++ (ByteArray.mk ((32 : UInt8) :: ([] : List UInt8)).toArray ++ decB l)) = Value.string y.fst ∧ (0 : Int) = y.snd ∧ True) ∧ (lineK k = false → Value.string y_1 = Value.string y.fst ∧ (0 : Int) = y.snd ∧ True)))) = _) ?_
  have hr : (-9223372036854775808 ≤ k ∧ k ≤ 9223372036854775807) ∧ (-9223372036854775808 ≤ c ∧ c ≤ 9223372036854775807) ∧ (-9223372036854775808 ≤ l ∧ l ≤ 9223372036854775807) := hr
  have hc := decB_size hr.2.1.1 hr.2.1.2
  have hl := decB_size hr.2.2.1 hr.2.2.2
  have hy : actLn (k, c, l) = y := hy
  refine ⟨fun h => ?_, fun h => ?_⟩
  · rw [actLn_out (by simpa using h)] at hy
    subst hy
    exact ⟨rfl, rfl, trivial⟩
  have hg : goodA (k, c, l) = true := by simpa using h
  rw [actLn_in hg] at hy
  subst hy
  have hk : 1 ≤ k ∧ k ≤ 10 := by
    rw [goodA] at hg
    simp only [Bool.and_eq_true, decide_eq_true_eq] at hg
    exact hg.1
  refine ⟨⟨by omega, by show k < 11; omega⟩, fun n hn => ?_⟩
  have hn2 : nameA k = n := by rw [nameA, List.getD_eq_getElem?_getD, hn]; rfl
  have hns := nameA_size k
  rw [hn2] at hns
  have hmx : 1000 ≤ maxLen := by decide
  have h1 : (ByteArray.mk (32 :: ([] : List UInt8)).toArray).size = 1 := rfl
  refine ⟨fun q1 => ⟨by omega, by rw [ByteArray.size_append]; omega, fun q2 => ⟨by omega, by simp only [ByteArray.size_append]; omega, ?_, rfl, trivial⟩, fun q2 => ⟨?_, rfl, trivial⟩⟩, fun q1 => ⟨fun q2 => ⟨by omega, by rw [ByteArray.size_append]; omega, ?_, rfl, trivial⟩, fun q2 => ⟨?_, rfl, trivial⟩⟩⟩
  · congr 1
    show _ = joinB (actWs (k, c, l)) sp
    rw [actWs, hn2, if_pos q1, if_pos q2]
    exact (join3 _ _ _).symm
  · congr 1
    show _ = joinB (actWs (k, c, l)) sp
    rw [actWs, hn2, if_pos q1, if_neg (by rw [q2]; decide)]
    exact (join2 _ _).symm
  · congr 1
    show _ = joinB (actWs (k, c, l)) sp
    rw [actWs, hn2, if_neg (by rw [q1]; decide), if_pos q2]
    exact (join2 _ _).symm
  · congr 1
    show _ = joinB (actWs (k, c, l)) sp
    rw [actWs, hn2, if_neg (by rw [q1]; decide), if_neg (by rw [q2]; decide)]
    exact (join1 _).symm
theorem v13 : Valid Tryd.prog 13 (.pre (gS [pA] [pS, pI] actLn)) := by
  refine gS_ok mixed Tbl_ok M6_ok Tryd.func13 call13 rfl ?_
  rintro ⟨(k : Int), (c : Int), (l : Int)⟩ hr y hy
  refine ⟨noLoop, ?_⟩
  refine Eq.mp (by kernel_rfl : (((!goodA (k, c, l)) = true → Value.string (ByteArray.mk ([] : List UInt8).toArray) = Value.string y.fst ∧ (11 : Int) = y.snd ∧ True) ∧ ((!goodA (k, c, l)) = false → ((0 : Int) ≤ k ∧ k < (↑(11 : Nat) : Int)) ∧ (k = (↑(0 : Nat) : Int) → (joinB (ByteArray.mk ([] : List UInt8).toArray :: ([] : List ByteArray)) (ByteArray.mk ((32 : UInt8) :: ([] : List UInt8)).toArray)).size ≤ (1000000 : Nat) ∧ (ByteArray.mk ([] : List UInt8).toArray :: ([] : List ByteArray)).length ≤ (1000000 : Nat) ∧ Value.string (joinB (ByteArray.mk ([] : List UInt8).toArray :: ([] : List ByteArray)) (ByteArray.mk ((32 : UInt8) :: ([] : List UInt8)).toArray)) = Value.string y.fst ∧ (0 : Int) = y.snd ∧ True) ∧ (k = (↑((0 : Nat) + (1 : Nat)) : Int) → ((ByteArray.mk ((101 : UInt8) :: (120 : UInt8) :: (101 : UInt8) :: (99 : UInt8) :: ([] : List UInt8)).toArray :: ([] : List ByteArray)).length + (decB c :: ([] : List ByteArray)).length) * (16 : Nat) ≤ (140737488355328 : Nat) ∧ (joinB (ByteArray.mk ((101 : UInt8) :: (120 : UInt8) :: (101 : UInt8) :: (99 : UInt8) :: ([] : List UInt8)).toArray :: ([] : List ByteArray) ++ decB c :: ([] : List ByteArray)) (ByteArray.mk ((32 : UInt8) :: ([] : List UInt8)).toArray)).size ≤ (1000000 : Nat) ∧ (ByteArray.mk ((101 : UInt8) :: (120 : UInt8) :: (101 : UInt8) :: (99 : UInt8) :: ([] : List UInt8)).toArray :: ([] : List ByteArray) ++ decB c :: ([] : List ByteArray)).length ≤ (1000000 : Nat) ∧ Value.string (joinB (ByteArray.mk ((101 : UInt8) :: (120 : UInt8) :: (101 : UInt8) :: (99 : UInt8) :: ([] : List UInt8)).toArray :: ([] : List ByteArray) ++ decB c :: ([] : List ByteArray)) (ByteArray.mk ((32 : UInt8) :: ([] : List UInt8)).toArray)) = Value.string y.fst ∧ (0 : Int) = y.snd ∧ True) ∧ (k = (↑((0 : Nat) + (1 : Nat) + (1 : Nat)) : Int) → ((ByteArray.mk ((100 : UInt8) :: (114 : UInt8) :: (97 : UInt8) :: (105 : UInt8) :: (110 : UInt8) :: ([] : List UInt8)).toArray :: ([] : List ByteArray)).length + (decB c :: ([] : List ByteArray)).length) * (16 : Nat) ≤ (140737488355328 : Nat) ∧ (joinB (ByteArray.mk ((100 : UInt8) :: (114 : UInt8) :: (97 : UInt8) :: (105 : UInt8) :: (110 : UInt8) :: ([] : List UInt8)).toArray :: ([] : List ByteArray) ++ decB c :: ([] : List ByteArray)) (ByteArray.mk ((32 : UInt8) :: ([] : List UInt8)).toArray)).size ≤ (1000000 : Nat) ∧ (ByteArray.mk ((100 : UInt8) :: (114 : UInt8) :: (97 : UInt8) :: (105 : UInt8) :: (110 : UInt8) :: ([] : List UInt8)).toArray :: ([] : List ByteArray) ++ decB c :: ([] : List ByteArray)).length ≤ (1000000 : Nat) ∧ Value.string (joinB (ByteArray.mk ((100 : UInt8) :: (114 : UInt8) :: (97 : UInt8) :: (105 : UInt8) :: (110 : UInt8) :: ([] : List UInt8)).toArray :: ([] : List ByteArray) ++ decB c :: ([] : List ByteArray)) (ByteArray.mk ((32 : UInt8) :: ([] : List UInt8)).toArray)) = Value.string y.fst ∧ (0 : Int) = y.snd ∧ True) ∧ (k = (↑((0 : Nat) + (1 : Nat) + (1 : Nat) + (1 : Nat)) : Int) → ((ByteArray.mk ((117 : UInt8) :: (112 : UInt8) :: ([] : List UInt8)).toArray :: ([] : List ByteArray)).length + (decB c :: ([] : List ByteArray)).length) * (16 : Nat) ≤ (140737488355328 : Nat) ∧ (joinB (ByteArray.mk ((117 : UInt8) :: (112 : UInt8) :: ([] : List UInt8)).toArray :: ([] : List ByteArray) ++ decB c :: ([] : List ByteArray)) (ByteArray.mk ((32 : UInt8) :: ([] : List UInt8)).toArray)).size ≤ (1000000 : Nat) ∧ (ByteArray.mk ((117 : UInt8) :: (112 : UInt8) :: ([] : List UInt8)).toArray :: ([] : List ByteArray) ++ decB c :: ([] : List ByteArray)).length ≤ (1000000 : Nat) ∧ Value.string (joinB (ByteArray.mk ((117 : UInt8) :: (112 : UInt8) :: ([] : List UInt8)).toArray :: ([] : List ByteArray) ++ decB c :: ([] : List ByteArray)) (ByteArray.mk ((32 : UInt8) :: ([] : List UInt8)).toArray)) = Value.string y.fst ∧ (0 : Int) = y.snd ∧ True) ∧ (k = (↑((0 : Nat) + (1 : Nat) + (1 : Nat) + (1 : Nat) + (1 : Nat)) : Int) → ((ByteArray.mk ((97 : UInt8) :: (110 : UInt8) :: (115 : UInt8) :: (119 : UInt8) :: (101 : UInt8) :: (114 : UInt8) :: ([] : List UInt8)).toArray :: ([] : List ByteArray)).length + (decB c :: ([] : List ByteArray)).length) * (16 : Nat) ≤ (140737488355328 : Nat) ∧ (joinB (ByteArray.mk ((97 : UInt8) :: (110 : UInt8) :: (115 : UInt8) :: (119 : UInt8) :: (101 : UInt8) :: (114 : UInt8) :: ([] : List UInt8)).toArray :: ([] : List ByteArray) ++ decB c :: ([] : List ByteArray)) (ByteArray.mk ((32 : UInt8) :: ([] : List UInt8)).toArray)).size ≤ (1000000 : Nat) ∧ (ByteArray.mk ((97 : UInt8) :: (110 : UInt8) :: (115 : UInt8) :: (119 : UInt8) :: (101 : UInt8) :: (114 : UInt8) :: ([] : List UInt8)).toArray :: ([] : List ByteArray) ++ decB c :: ([] : List ByteArray)).length ≤ (1000000 : Nat) ∧ Value.string (joinB (ByteArray.mk ((97 : UInt8) :: (110 : UInt8) :: (115 : UInt8) :: (119 : UInt8) :: (101 : UInt8) :: (114 : UInt8) :: ([] : List UInt8)).toArray :: ([] : List ByteArray) ++ decB c :: ([] : List ByteArray)) (ByteArray.mk ((32 : UInt8) :: ([] : List UInt8)).toArray)) = Value.string y.fst ∧ (0 : Int) = y.snd ∧ True) ∧ (k = (↑((0 : Nat) + (1 : Nat) + (1 : Nat) + (1 : Nat) + (1 : Nat) + (1 : Nat)) : Int) → ((ByteArray.mk ((104 : UInt8) :: (101 : UInt8) :: (97 : UInt8) :: (114 : UInt8) :: ([] : List UInt8)).toArray :: ([] : List ByteArray)).length + (decB c :: ([] : List ByteArray)).length) * (16 : Nat) ≤ (140737488355328 : Nat) ∧ (joinB (ByteArray.mk ((104 : UInt8) :: (101 : UInt8) :: (97 : UInt8) :: (114 : UInt8) :: ([] : List UInt8)).toArray :: ([] : List ByteArray) ++ decB c :: ([] : List ByteArray)) (ByteArray.mk ((32 : UInt8) :: ([] : List UInt8)).toArray)).size ≤ (1000000 : Nat) ∧ (ByteArray.mk ((104 : UInt8) :: (101 : UInt8) :: (97 : UInt8) :: (114 : UInt8) :: ([] : List UInt8)).toArray :: ([] : List ByteArray) ++ decB c :: ([] : List ByteArray)).length ≤ (1000000 : Nat) ∧ Value.string (joinB (ByteArray.mk ((104 : UInt8) :: (101 : UInt8) :: (97 : UInt8) :: (114 : UInt8) :: ([] : List UInt8)).toArray :: ([] : List ByteArray) ++ decB c :: ([] : List ByteArray)) (ByteArray.mk ((32 : UInt8) :: ([] : List UInt8)).toArray)) = Value.string y.fst ∧ (0 : Int) = y.snd ∧ True) ∧ (k = (↑((0 : Nat) + (1 : Nat) + (1 : Nat) + (1 : Nat) + (1 : Nat) + (1 : Nat) + (1 : Nat)) : Int) → ((ByteArray.mk ((112 : UInt8) :: (117 : UInt8) :: (115 : UInt8) :: (104 : UInt8) :: ([] : List UInt8)).toArray :: ([] : List ByteArray)).length + (decB l :: ([] : List ByteArray)).length) * (16 : Nat) ≤ (140737488355328 : Nat) ∧ (joinB (ByteArray.mk ((112 : UInt8) :: (117 : UInt8) :: (115 : UInt8) :: (104 : UInt8) :: ([] : List UInt8)).toArray :: ([] : List ByteArray) ++ decB l :: ([] : List ByteArray)) (ByteArray.mk ((32 : UInt8) :: ([] : List UInt8)).toArray)).size ≤ (1000000 : Nat) ∧ (ByteArray.mk ((112 : UInt8) :: (117 : UInt8) :: (115 : UInt8) :: (104 : UInt8) :: ([] : List UInt8)).toArray :: ([] : List ByteArray) ++ decB l :: ([] : List ByteArray)).length ≤ (1000000 : Nat) ∧ Value.string (joinB (ByteArray.mk ((112 : UInt8) :: (117 : UInt8) :: (115 : UInt8) :: (104 : UInt8) :: ([] : List UInt8)).toArray :: ([] : List ByteArray) ++ decB l :: ([] : List ByteArray)) (ByteArray.mk ((32 : UInt8) :: ([] : List UInt8)).toArray)) = Value.string y.fst ∧ (0 : Int) = y.snd ∧ True) ∧ (k = (↑((0 : Nat) + (1 : Nat) + (1 : Nat) + (1 : Nat) + (1 : Nat) + (1 : Nat) + (1 : Nat) + (1 : Nat)) : Int) → ((ByteArray.mk ((101 : UInt8) :: (118 : UInt8) :: (105 : UInt8) :: (99 : UInt8) :: (116 : UInt8) :: ([] : List UInt8)).toArray :: ([] : List ByteArray)).length + (decB c :: ([] : List ByteArray)).length) * (16 : Nat) ≤ (140737488355328 : Nat) ∧ ((ByteArray.mk ((101 : UInt8) :: (118 : UInt8) :: (105 : UInt8) :: (99 : UInt8) :: (116 : UInt8) :: ([] : List UInt8)).toArray :: ([] : List ByteArray) ++ decB c :: ([] : List ByteArray)).length + (decB l :: ([] : List ByteArray)).length) * (16 : Nat) ≤ (140737488355328 : Nat) ∧ (joinB (ByteArray.mk ((101 : UInt8) :: (118 : UInt8) :: (105 : UInt8) :: (99 : UInt8) :: (116 : UInt8) :: ([] : List UInt8)).toArray :: ([] : List ByteArray) ++ decB c :: ([] : List ByteArray) ++ decB l :: ([] : List ByteArray)) (ByteArray.mk ((32 : UInt8) :: ([] : List UInt8)).toArray)).size ≤ (1000000 : Nat) ∧ (ByteArray.mk ((101 : UInt8) :: (118 : UInt8) :: (105 : UInt8) :: (99 : UInt8) :: (116 : UInt8) :: ([] : List UInt8)).toArray :: ([] : List ByteArray) ++ decB c :: ([] : List ByteArray) ++ decB l :: ([] : List ByteArray)).length ≤ (1000000 : Nat) ∧ Value.string (joinB (ByteArray.mk ((101 : UInt8) :: (118 : UInt8) :: (105 : UInt8) :: (99 : UInt8) :: (116 : UInt8) :: ([] : List UInt8)).toArray :: ([] : List ByteArray) ++ decB c :: ([] : List ByteArray) ++ decB l :: ([] : List ByteArray)) (ByteArray.mk ((32 : UInt8) :: ([] : List UInt8)).toArray)) = Value.string y.fst ∧ (0 : Int) = y.snd ∧ True) ∧ (k = (↑((0 : Nat) + (1 : Nat) + (1 : Nat) + (1 : Nat) + (1 : Nat) + (1 : Nat) + (1 : Nat) + (1 : Nat) + (1 : Nat)) : Int) → ((ByteArray.mk ((100 : UInt8) :: (114 : UInt8) :: (111 : UInt8) :: (112 : UInt8) :: ([] : List UInt8)).toArray :: ([] : List ByteArray)).length + (decB l :: ([] : List ByteArray)).length) * (16 : Nat) ≤ (140737488355328 : Nat) ∧ (joinB (ByteArray.mk ((100 : UInt8) :: (114 : UInt8) :: (111 : UInt8) :: (112 : UInt8) :: ([] : List UInt8)).toArray :: ([] : List ByteArray) ++ decB l :: ([] : List ByteArray)) (ByteArray.mk ((32 : UInt8) :: ([] : List UInt8)).toArray)).size ≤ (1000000 : Nat) ∧ (ByteArray.mk ((100 : UInt8) :: (114 : UInt8) :: (111 : UInt8) :: (112 : UInt8) :: ([] : List UInt8)).toArray :: ([] : List ByteArray) ++ decB l :: ([] : List ByteArray)).length ≤ (1000000 : Nat) ∧ Value.string (joinB (ByteArray.mk ((100 : UInt8) :: (114 : UInt8) :: (111 : UInt8) :: (112 : UInt8) :: ([] : List UInt8)).toArray :: ([] : List ByteArray) ++ decB l :: ([] : List ByteArray)) (ByteArray.mk ((32 : UInt8) :: ([] : List UInt8)).toArray)) = Value.string y.fst ∧ (0 : Int) = y.snd ∧ True) ∧ (k = (↑((0 : Nat) + (1 : Nat) + (1 : Nat) + (1 : Nat) + (1 : Nat) + (1 : Nat) + (1 : Nat) + (1 : Nat) + (1 : Nat) + (1 : Nat)) : Int) → ((ByteArray.mk ((109 : UInt8) :: (101 : UInt8) :: (109 : UInt8) :: ([] : List UInt8)).toArray :: ([] : List ByteArray)).length + (decB l :: ([] : List ByteArray)).length) * (16 : Nat) ≤ (140737488355328 : Nat) ∧ (joinB (ByteArray.mk ((109 : UInt8) :: (101 : UInt8) :: (109 : UInt8) :: ([] : List UInt8)).toArray :: ([] : List ByteArray) ++ decB l :: ([] : List ByteArray)) (ByteArray.mk ((32 : UInt8) :: ([] : List UInt8)).toArray)).size ≤ (1000000 : Nat) ∧ (ByteArray.mk ((109 : UInt8) :: (101 : UInt8) :: (109 : UInt8) :: ([] : List UInt8)).toArray :: ([] : List ByteArray) ++ decB l :: ([] : List ByteArray)).length ≤ (1000000 : Nat) ∧ Value.string (joinB (ByteArray.mk ((109 : UInt8) :: (101 : UInt8) :: (109 : UInt8) :: ([] : List UInt8)).toArray :: ([] : List ByteArray) ++ decB l :: ([] : List ByteArray)) (ByteArray.mk ((32 : UInt8) :: ([] : List UInt8)).toArray)) = Value.string y.fst ∧ (0 : Int) = y.snd ∧ True) ∧ (k = (↑((0 : Nat) + (1 : Nat) + (1 : Nat) + (1 : Nat) + (1 : Nat) + (1 : Nat) + (1 : Nat) + (1 : Nat) + (1 : Nat) + (1 : Nat) + (1 : Nat)) : Int) → (joinB (ByteArray.mk ((102 : UInt8) :: (97 : UInt8) :: (105 : UInt8) :: (108 : UInt8) :: ([] : List UInt8)).toArray :: ([] : List ByteArray)) (ByteArray.mk ((32 : UInt8) :: ([] : List UInt8)).toArray)).size ≤ (1000000 : Nat) ∧ (ByteArray.mk ((102 : UInt8) :: (97 : UInt8) :: (105 : UInt8) :: (108 : UInt8) :: ([] : List UInt8)).toArray :: ([] : List ByteArray)).length ≤ (1000000 : Nat) ∧ Value.string (joinB (ByteArray.mk ((102 : UInt8) :: (97 : UInt8) :: (105 : UInt8) :: (108 : UInt8) :: ([] : List UInt8)).toArray :: ([] : List ByteArray)) (ByteArray.mk ((32 : UInt8) :: ([] : List UInt8)).toArray)) = Value.string y.fst ∧ (0 : Int) = y.snd ∧ True) ∧ True)) = _) ?_
  have hr : (-9223372036854775808 ≤ k ∧ k ≤ 9223372036854775807) ∧ (-9223372036854775808 ≤ c ∧ c ≤ 9223372036854775807) ∧ (-9223372036854775808 ≤ l ∧ l ≤ 9223372036854775807) := hr
  have hc := decB_size hr.2.1.1 hr.2.1.2
  have hl := decB_size hr.2.2.1 hr.2.2.2
  have hy : actLn (k, c, l) = y := hy
  refine ⟨fun h => ?_, fun h => ?_⟩
  · rw [actLn_out (by simpa using h)] at hy
    subst hy
    exact ⟨rfl, rfl, trivial⟩
  have hg : goodA (k, c, l) = true := by simpa using h
  rw [actLn_in hg] at hy
  subst hy
  have hk : 1 ≤ k ∧ k ≤ 10 := by
    rw [goodA] at hg
    simp only [Bool.and_eq_true, decide_eq_true_eq] at hg
    exact hg.1
  have hws : ∀ w ∈ actWs (k, c, l), ByteArray.size w ≤ 21 := by
    intro w hw
    rw [actWs, List.mem_cons, List.mem_append] at hw
    rcases hw with rfl | hw | hw
    · exact Nat.le_trans (nameA_size k) (by decide)
    · split at hw
      · rw [List.mem_singleton] at hw; rw [hw]; exact hc
      · cases hw
    · split at hw
      · rw [List.mem_singleton] at hw; rw [hw]; exact hl
      · cases hw
  have hll : (actWs (k, c, l)).length ≤ 3 := by
    rw [actWs, List.length_cons, List.length_append]
    split <;> split <;> simp
  have hj := jsize _ hws
  refine ⟨⟨by omega, by show k < 11; omega⟩, ?_, ?_, ?_, ?_, ?_, ?_, ?_, ?_, ?_, ?_, ?_, trivial⟩
  · intro h0
    have h0 : k = 0 := by omega
    omega
  · intro h0
    have h0 : k = 1 := by omega
    subst h0
    have hj2 : (joinB [nameA 1, decB c] sp).size ≤ 1000000 := show (joinB (actWs ((1 : Int), c, l)) sp).size ≤ 1000000 by omega
    exact ⟨by simp, hj2, by simp, rfl, rfl, trivial⟩
  · intro h0
    have h0 : k = 2 := by omega
    subst h0
    have hj2 : (joinB [nameA 2, decB c] sp).size ≤ 1000000 := show (joinB (actWs ((2 : Int), c, l)) sp).size ≤ 1000000 by omega
    exact ⟨by simp, hj2, by simp, rfl, rfl, trivial⟩
  · intro h0
    have h0 : k = 3 := by omega
    subst h0
    have hj2 : (joinB [nameA 3, decB c] sp).size ≤ 1000000 := show (joinB (actWs ((3 : Int), c, l)) sp).size ≤ 1000000 by omega
    exact ⟨by simp, hj2, by simp, rfl, rfl, trivial⟩
  · intro h0
    have h0 : k = 4 := by omega
    subst h0
    have hj2 : (joinB [nameA 4, decB c] sp).size ≤ 1000000 := show (joinB (actWs ((4 : Int), c, l)) sp).size ≤ 1000000 by omega
    exact ⟨by simp, hj2, by simp, rfl, rfl, trivial⟩
  · intro h0
    have h0 : k = 5 := by omega
    subst h0
    have hj2 : (joinB [nameA 5, decB c] sp).size ≤ 1000000 := show (joinB (actWs ((5 : Int), c, l)) sp).size ≤ 1000000 by omega
    exact ⟨by simp, hj2, by simp, rfl, rfl, trivial⟩
  · intro h0
    have h0 : k = 6 := by omega
    subst h0
    have hj2 : (joinB [nameA 6, decB l] sp).size ≤ 1000000 := show (joinB (actWs ((6 : Int), c, l)) sp).size ≤ 1000000 by omega
    exact ⟨by simp, hj2, by simp, rfl, rfl, trivial⟩
  · intro h0
    have h0 : k = 7 := by omega
    subst h0
    have hj2 : (joinB [nameA 7, decB c, decB l] sp).size ≤ 1000000 := show (joinB (actWs ((7 : Int), c, l)) sp).size ≤ 1000000 by omega
    exact ⟨by simp, by simp, hj2, by simp, rfl, rfl, trivial⟩
  · intro h0
    have h0 : k = 8 := by omega
    subst h0
    have hj2 : (joinB [nameA 8, decB l] sp).size ≤ 1000000 := show (joinB (actWs ((8 : Int), c, l)) sp).size ≤ 1000000 by omega
    exact ⟨by simp, hj2, by simp, rfl, rfl, trivial⟩
  · intro h0
    have h0 : k = 9 := by omega
    subst h0
    have hj2 : (joinB [nameA 9, decB l] sp).size ≤ 1000000 := show (joinB (actWs ((9 : Int), c, l)) sp).size ≤ 1000000 by omega
    exact ⟨by simp, hj2, by simp, rfl, rfl, trivial⟩
  · intro h0
    have h0 : k = 10 := by omega
    subst h0
    have hj2 : (joinB [nameA 10] sp).size ≤ 1000000 := show (joinB (actWs ((10 : Int), c, l)) sp).size ≤ 1000000 by omega
    exact ⟨hj2, by simp, rfl, rfl, trivial⟩
end Go.Proofs.YtljbcclpmlkpnaaDoor.V
