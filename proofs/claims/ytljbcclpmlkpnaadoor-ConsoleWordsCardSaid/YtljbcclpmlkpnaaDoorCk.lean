import Derived.KernelRfl
import Derived.Test.YtljbcclpmlkpnaaDoorCj
namespace Go.Proofs.YtljbcclpmlkpnaaDoor.V
open Go.RowKit Go.Proofs.YtljbcclpmlkpnaaDoor
set_option linter.unusedSimpArgs false
set_option pp.deepTerms true
set_option pp.maxSteps 200000
abbrev M7 : List (Nat × Spec) := (13, .pre (gS [pA] [pS, pI] actLn)) :: (14, .pre (gS [pA] [pS, pI] actLn)) :: M6
theorem M7_all : ∀ p ∈ M7, Valid Tryd.prog p.1 p.2 := vcons v13 (vcons v14 M6_all)
theorem M7_ok : ∀ f S, spL M7 f = some S → Valid Tryd.prog f S := spL_ok M7_all
def nameO (k : Int) : ByteArray := kindsL.getD k.toNat ⟨#[]⟩
def opWs (o : ON) : List ByteArray := nameO o.1 :: decB o.2.1 :: (if o.1 = 1 then [] else [decB o.2.2])
def endW (b : Bool) : ByteArray := if b = true then abortB else commitB
def opsWs (l : List ON) : List ByteArray := l.flatMap opWs
def txWs (t : TN) : List ByteArray := opsWs t.1 ++ [endW t.2]
def txLn (t : TN) : ByteArray × Int := if goodT t = true then (joinB (txWs t) sp, 0) else (⟨#[]⟩, 11)
theorem txLn_in {t : TN} (h : goodT t = true) : txLn t = (joinB (txWs t) sp, 0) := by rw [txLn, if_pos h]
theorem txLn_out {t : TN} (h : goodT t = false) : txLn t = (⟨#[]⟩, 11) := by rw [txLn, if_neg (by rw [h]; decide)]
theorem sepsize {B : Nat} : ∀ L : List ByteArray, (∀ w ∈ L, ByteArray.size w ≤ B) → (sepB L).size ≤ (B + 1) * L.length
  | [], _ => Nat.zero_le _
  | a :: r, h => by
    have h1 := h a (by simp)
    have ih := sepsize r (fun w hw => h w (by simp [hw]))
    rw [show a :: r = [a] ++ r from rfl, sepB_app, ByteArray.size_append, sepB_one, ByteArray.size_append]
    have : sp.size = 1 := rfl
    simp only [List.length_append, List.length_cons, List.length_nil, Nat.mul_add, Nat.mul_one] at ih ⊢
    omega
theorem nameO_size (k : Int) : (nameO k).size ≤ 6 := by
  have : ∀ w ∈ kindsL, ByteArray.size w ≤ 6 := by decide
  rw [nameO, List.getD_eq_getElem?_getD]
  cases h : kindsL[k.toNat]? with
  | none => decide
  | some w => exact this w (List.mem_of_getElem? h)
theorem opsWs_succ {l : List ON} {k : Nat} {o : ON} (h : l[k]? = some o) : opsWs (l.take (k + 1)) = opsWs (l.take k) ++ opWs o := by
  rw [opsWs, List.take_add_one, h, List.flatMap_append]; simp [opsWs]
theorem opsWs_len : ∀ l : List ON, (opsWs l).length ≤ 3 * l.length
  | [] => Nat.le_refl _
  | o :: l => by
    have ih := opsWs_len l
    have : (opWs o).length ≤ 3 := by rw [opWs]; split <;> simp
    simp only [opsWs, List.flatMap_cons, List.length_append, List.length_cons] at ih ⊢
    omega
structure GO (l : List ON) : Prop where
  n : l.length ≤ 16
  o : ∀ o ∈ l, (1 ≤ o.1 ∧ o.1 ≤ 4) ∧ (-9223372036854775808 ≤ o.2.1 ∧ o.2.1 ≤ 9223372036854775807) ∧ 0 ≤ o.2.2 ∧ o.2.2 < 2147483648
theorem go_of {l : List ON} {b : Bool} (hr : rngT shT (l, b)) (h : goodT (l, b) = true) : GO l := by
  rw [goodT] at h
  simp only [Bool.and_eq_true, decide_eq_true_eq, List.all_eq_true] at h
  refine ⟨h.1, fun o ho => ?_⟩
  have h1 := h.2 o ho
  have h2 := hr.1.2 o ho
  have h2 : (-9223372036854775808 ≤ o.1 ∧ o.1 ≤ 9223372036854775807) ∧ (-9223372036854775808 ≤ o.2.1 ∧ o.2.1 ≤ 9223372036854775807) ∧ (0 ≤ o.2.2 ∧ o.2.2 ≤ 18446744073709551615) := h2
  rw [goodO] at h1
  simp only [Bool.and_eq_true, decide_eq_true_eq] at h1
  omega
theorem opsWs_sz {l : List ON} (h : GO l) : ∀ w ∈ opsWs l, ByteArray.size w ≤ 21 := by
  intro w hw
  obtain ⟨o, ho, hw⟩ := List.mem_flatMap.1 hw
  obtain ⟨h1, h2, h3⟩ := h.o o ho
  rw [opWs, List.mem_cons, List.mem_cons] at hw
  rcases hw with rfl | rfl | hw
  · exact Nat.le_trans (nameO_size _) (by decide)
  · exact decB_size h2.1 h2.2
  · split at hw
    · cases hw
    · rw [List.mem_singleton] at hw; rw [hw]; exact decB_size (by omega) (by omega)
theorem GO.take {l : List ON} (h : GO l) (k : Nat) : GO (l.take k) := ⟨Nat.le_trans (List.length_take_le' _ _) h.n, fun o ho => h.o o (List.mem_of_mem_take ho)⟩
theorem sep_sz {l : List ON} (h : GO l) : (sepB (opsWs l)).size ≤ 1056 := by
  have h1 := sepsize _ (opsWs_sz h)
  have h2 := opsWs_len l
  have h3 := h.n
  omega
abbrev lp16 (l : List ON) (b : Bool) : Nat → Option LoopSp := fun _ => some { X := Nat, sl := fun k => [(1, .one (.ptr 0 0)), (4, .one (.val (.string (sepB (opsWs (l.take k)))))), (5, .one (vi k))], h := fun _ => [(0, .blk [.rd shO l, .val (.bool b)] 32)], nx := 1, inv := fun k => k ≤ l.length, mu := fun k => l.length - k }
theorem v16 : Valid Tryd.prog 16 (.pre (gS [pT] [pS, pI] txLn)) := by
  refine gS_ok mixed Tbl_ok M7_ok Tryd.func16 call16 rfl ?_
  rintro ⟨(l : List ON), (b : Bool)⟩ hr y hy
  refine ⟨lp16 l b, ?_⟩
  refine Eq.mp (by kernel_rfl : (((!goodT (l, b)) = true → Value.string (ByteArray.mk ([] : List UInt8).toArray) = Value.string y.fst ∧ (11 : Int) = y.snd ∧ True) ∧ ((!goodT (l, b)) = false → (∃ (x : Nat), x ≤ l.length ∧ Value.string (ByteArray.mk ([] : List UInt8).toArray) = Value.string (sepB (opsWs (List.take x l))) ∧ (0 : Int) = (↑x : Int) ∧ l ≍ l ∧ b = b ∧ True) ∧ ∀ (x : Nat), x ≤ l.length → (decide ((↑x : Int) < (↑l.length : Int)) = true → ((0 : Int) ≤ (↑x : Int) ∧ (↑x : Int) < (↑l.length : Int)) ∧ ∀ (y : Int × Int × Int), l[(↑x : Int).toNat]? = some y → ((0 : Int) ≤ y.fst ∧ y.fst < (↑kindsL.length : Int)) ∧ ∀ (y_1 : ByteArray), kindsL[y.fst.toNat]? = some y_1 → y_1.size + (ByteArray.mk ((32 : UInt8) :: ([] : List UInt8)).toArray).size ≤ maxLen ∧ (y_1 ++ ByteArray.mk ((32 : UInt8) :: ([] : List UInt8)).toArray).size + (decB y.snd.fst).size ≤ maxLen ∧ (y_1 ++ ByteArray.mk ((32 : UInt8) :: ([] : List UInt8)).toArray ++ decB y.snd.fst).size + (ByteArray.mk ((32 : UInt8) :: ([] : List UInt8)).toArray).size ≤ maxLen ∧ (sepB (opsWs (List.take x l))).size + (y_1 ++ ByteArray.mk ((32 : UInt8) :: ([] : List UInt8)).toArray ++ decB y.snd.fst ++ ByteArray.mk ((32 : UInt8) :: ([] : List UInt8)).toArray).size ≤ maxLen ∧ ((y.fst != (1 : Int)) = true → (decB (IntKind.i64.wrap y.snd.snd)).size + (ByteArray.mk ((32 : UInt8) :: ([] : List UInt8)).toArray).size ≤ maxLen ∧ (sepB (opsWs (List.take x l)) ++ (y_1 ++ ByteArray.mk ((32 : UInt8) :: ([] : List UInt8)).toArray ++ decB y.snd.fst ++ ByteArray.mk ((32 : UInt8) :: ([] : List UInt8)).toArray)).size + (decB (IntKind.i64.wrap y.snd.snd) ++ ByteArray.mk ((32 : UInt8) :: ([] : List UInt8)).toArray).size ≤ maxLen ∧ ((-9223372036854775808 : Int) ≤ (↑x : Int) + (1 : Int) ∧ (↑x : Int) + (1 : Int) ≤ (9223372036854775807 : Int)) ∧ ∃ (y_2 : Nat), y_2 ≤ l.length ∧ l.length - y_2 < l.length - x ∧ Value.string (sepB (opsWs (List.take x l)) ++ (y_1 ++ ByteArray.mk ((32 : UInt8) :: ([] : List UInt8)).toArray ++ decB y.snd.fst ++ ByteArray.mk ((32 : UInt8) :: ([] : List UInt8)).toArray) ++ (decB (IntKind.i64.wrap y.snd.snd) ++ ByteArray.mk ((32 : UInt8) :: ([] : List UInt8)).toArray)) = Value.string (sepB (opsWs (List.take y_2 l))) ∧ (↑x : Int) + (1 : Int) = (↑y_2 : Int) ∧ l ≍ l ∧ b = b ∧ True) ∧ ((y.fst != (1 : Int)) = false → ((-9223372036854775808 : Int) ≤ (↑x : Int) + (1 : Int) ∧ (↑x : Int) + (1 : Int) ≤ (9223372036854775807 : Int)) ∧ ∃ (y_2 : Nat), y_2 ≤ l.length ∧ l.length - y_2 < l.length - x ∧ Value.string (sepB (opsWs (List.take x l)) ++ (y_1 ++ ByteArray.mk ((32 : UInt8) :: ([] : List UInt8)).toArray ++ decB y.snd.fst ++ ByteArray.mk ((32 : UInt8) :: ([] : List UInt8)).toArray)) = Value.string (sepB (opsWs (List.take y_2 l))) ∧ (↑x : Int) + (1 : Int) = (↑y_2 : Int) ∧ l ≍ l ∧ b = b ∧ True)) ∧ (decide ((↑x : Int) < (↑l.length : Int)) = false → (b = true → (sepB (opsWs (List.take x l))).size + (ByteArray.mk ((97 : UInt8) :: (98 : UInt8) :: (111 : UInt8) :: (114 : UInt8) :: (116 : UInt8) :: ([] : List UInt8)).toArray).size ≤ maxLen ∧ Value.string (sepB (opsWs (List.take x l)) ++ ByteArray.mk ((97 : UInt8) :: (98 : UInt8) :: (111 : UInt8) :: (114 : UInt8) :: (116 : UInt8) :: ([] : List UInt8)).toArray) = Value.string y.fst ∧ (0 : Int) = y.snd ∧ True) ∧ (b = false → (sepB (opsWs (List.take x l))).size + (ByteArray.mk ((99 : UInt8) :: (111 : UInt8) :: (109 : UInt8) :: (109 : UInt8) :: (105 : UInt8) :: (116 : UInt8) :: ([] : List UInt8)).toArray).size ≤ maxLen ∧ Value.string (sepB (opsWs (List.take x l)) ++ ByteArray.mk ((99 : UInt8) :: (111 : UInt8) :: (109 : UInt8) :: (109 : UInt8) :: (105 : UInt8) :: (116 : UInt8) :: ([] : List UInt8)).toArray) = Value.string y.fst ∧ (0 : Int) = y.snd ∧ True)))) = _) ?_
  have hy : txLn (l, b) = y := hy
  refine ⟨fun h => ?_, fun h => ?_⟩
  · rw [txLn_out (by simpa using h)] at hy
    subst hy
    exact ⟨rfl, rfl, trivial⟩
  have hg : goodT (l, b) = true := by simpa using h
  rw [txLn_in hg] at hy
  subst hy
  have hG : GO l := go_of hr hg
  have hn := hG.n
  have hmx : 10000 ≤ maxLen := by decide
  have h1 : (ByteArray.mk (32 :: ([] : List UInt8)).toArray).size = 1 := rfl
  refine ⟨⟨0, Nat.zero_le _, rfl, rfl, HEq.rfl, rfl, trivial⟩, fun x hx => ⟨fun hk => ⟨by simp only [decide_eq_true_eq] at hk; omega, fun o ho => ?_⟩, fun hk => ?_⟩⟩
  · have hk : x < l.length := by simp only [decide_eq_true_eq] at hk; omega
    rw [Int.toNat_natCast] at ho
    obtain ⟨g1, g2, g3⟩ := hG.o o (List.mem_of_getElem? ho)
    have hs := sep_sz (hG.take x)
    have hd := decB_size g2.1 g2.2
    have hd2 : (decB o.2.2).size ≤ 21 := decB_size (by omega) (by omega)
    refine ⟨⟨by omega, by show o.1 < 5; omega⟩, fun n hn => ?_⟩
    have hn2 : nameO o.1 = n := by rw [nameO, List.getD_eq_getElem?_getD, hn]; rfl
    have hns := nameO_size o.1
    rw [hn2] at hns
    have hw : IntKind.i64.wrap o.2.2 = o.2.2 := by rw [IntKind.wrap_i64]; omega
    rw [hw]
    refine ⟨by omega, by simp only [ByteArray.size_append]; omega, by simp only [ByteArray.size_append]; omega, by simp only [ByteArray.size_append]; omega, fun q => ⟨by omega, by simp only [ByteArray.size_append]; omega, by omega, x + 1, hk, by omega, ?_, by simp, HEq.rfl, rfl, trivial⟩, fun q => ⟨by omega, x + 1, hk, by omega, ?_, by simp, HEq.rfl, rfl, trivial⟩⟩
    · congr 1
      have q1 : ¬ o.1 = 1 := fun e => by rw [e] at q; exact absurd q (by decide)
      rw [opsWs_succ ho, sepB_app, opWs, if_neg q1, hn2, app_assoc]
      congr 1
      rw [show [n, decB o.2.1, decB o.2.2] = [n] ++ [decB o.2.1] ++ [decB o.2.2] from rfl, sepB_app, sepB_app, sepB_one, sepB_one, sepB_one]
      congr 1
      exact app_assoc _ _ _
    · congr 1
      have q1 : o.1 = 1 := by simp only [bne_eq_false_iff_eq] at q; exact q
      rw [opsWs_succ ho, sepB_app, opWs, if_pos q1, hn2]
      congr 1
      rw [show [n, decB o.2.1] = [n] ++ [decB o.2.1] from rfl, sepB_app, sepB_one, sepB_one]
      exact app_assoc _ _ _
  · have hk : x = l.length := by simp only [decide_eq_false_iff_not] at hk; omega
    subst hk
    rw [List.take_length]
    have hs := sep_sz hG
    have e : joinB (txWs (l, b)) sp = sepB (opsWs l) ++ endW b := join_sep _ _
    have z1 : (ByteArray.mk (97 :: 98 :: 111 :: 114 :: 116 :: ([] : List UInt8)).toArray).size = 5 := rfl
    have z2 : (ByteArray.mk (99 :: 111 :: 109 :: 109 :: 105 :: 116 :: ([] : List UInt8)).toArray).size = 6 := rfl
    rw [e]
    refine ⟨fun q => ?_, fun q => ?_⟩
    · subst q
      exact ⟨by omega, rfl, rfl, trivial⟩
    · subst q
      exact ⟨by omega, rfl, rfl, trivial⟩
abbrev lp15 (l : List ON) (b : Bool) : Nat → Option LoopSp := fun _ => some { X := Nat, sl := fun k => [(1, .one (.ptr 0 0)), (4, .one (.sl 1)), (11, .one (.rd shO l)), (12, .one (vi l.length)), (13, .one (vi k))], h := fun k => [(0, .blk [.rd shO l, .val (.bool b)] 32), (1, .own 9 .str (opsWs (l.take k)))], nx := 2, inv := fun k => k ≤ l.length, mu := fun k => l.length - k }
theorem v15 : Valid Tryd.prog 15 (.pre (gS [pT] [pS, pI] txLn)) := by
  refine gS_ok mixed Tbl_ok M7_ok Tryd.func15 call15 rfl ?_
  rintro ⟨(l : List ON), (b : Bool)⟩ hr y hy
  refine ⟨lp15 l b, ?_⟩
  refine Eq.mp (by kernel_rfl : (((!goodT (l, b)) = true → Value.string (ByteArray.mk ([] : List UInt8).toArray) = Value.string y.fst ∧ (11 : Int) = y.snd ∧ True) ∧ ((!goodT (l, b)) = false → (∃ (x : Nat), x ≤ l.length ∧ l ≍ l ∧ (↑l.length : Int) = (↑l.length : Int) ∧ (0 : Int) = (↑x : Int) ∧ l ≍ l ∧ b = b ∧ opsWs (List.take x l) = ([] : List ByteArray) ∧ True) ∧ ∀ (x : Nat), x ≤ l.length → (decide ((↑x : Int) < (↑l.length : Int)) = true → ((0 : Int) ≤ (↑x : Int) ∧ (↑x : Int) < (↑l.length : Int)) ∧ ∀ (y : Int × Int × Int), l[(↑x : Int).toNat]? = some y → ((0 : Int) ≤ y.fst ∧ y.fst < (↑(5 : Nat) : Int)) ∧ (y.fst = (↑(0 : Nat) : Int) → ((opsWs (List.take x l)).length + (ByteArray.mk ([] : List UInt8).toArray :: decB y.snd.fst :: ([] : List ByteArray)).length) * (16 : Nat) ≤ (140737488355328 : Nat) ∧ ((y.fst != (1 : Int)) = true → ((opsWs (List.take x l) ++ ByteArray.mk ([] : List UInt8).toArray :: decB y.snd.fst :: ([] : List ByteArray)).length + (decB y.snd.snd :: ([] : List ByteArray)).length) * (16 : Nat) ≤ (140737488355328 : Nat) ∧ ((-9223372036854775808 : Int) ≤ (↑x : Int) + (1 : Int) ∧ (↑x : Int) + (1 : Int) ≤ (9223372036854775807 : Int)) ∧ ∃ (y_1 : Nat), y_1 ≤ l.length ∧ l.length - y_1 < l.length - x ∧ l ≍ l ∧ (↑l.length : Int) = (↑l.length : Int) ∧ (↑x : Int) + (1 : Int) = (↑y_1 : Int) ∧ l ≍ l ∧ b = b ∧ opsWs (List.take x l) ++ ByteArray.mk ([] : List UInt8).toArray :: decB y.snd.fst :: ([] : List ByteArray) ++ decB y.snd.snd :: ([] : List ByteArray) ≍ opsWs (List.take y_1 l) ∧ True) ∧ ((y.fst != (1 : Int)) = false → ((-9223372036854775808 : Int) ≤ (↑x : Int) + (1 : Int) ∧ (↑x : Int) + (1 : Int) ≤ (9223372036854775807 : Int)) ∧ ∃ (y_1 : Nat), y_1 ≤ l.length ∧ l.length - y_1 < l.length - x ∧ l ≍ l ∧ (↑l.length : Int) = (↑l.length : Int) ∧ (↑x : Int) + (1 : Int) = (↑y_1 : Int) ∧ l ≍ l ∧ b = b ∧ opsWs (List.take x l) ++ ByteArray.mk ([] : List UInt8).toArray :: decB y.snd.fst :: ([] : List ByteArray) ≍ opsWs (List.take y_1 l) ∧ True)) ∧ (y.fst = (↑((0 : Nat) + (1 : Nat)) : Int) → ((opsWs (List.take x l)).length + (ByteArray.mk ((114 : UInt8) :: (101 : UInt8) :: (97 : UInt8) :: (100 : UInt8) :: ([] : List UInt8)).toArray :: decB y.snd.fst :: ([] : List ByteArray)).length) * (16 : Nat) ≤ (140737488355328 : Nat) ∧ ((y.fst != (1 : Int)) = true → ((opsWs (List.take x l) ++ ByteArray.mk ((114 : UInt8) :: (101 : UInt8) :: (97 : UInt8) :: (100 : UInt8) :: ([] : List UInt8)).toArray :: decB y.snd.fst :: ([] : List ByteArray)).length + (decB y.snd.snd :: ([] : List ByteArray)).length) * (16 : Nat) ≤ (140737488355328 : Nat) ∧ ((-9223372036854775808 : Int) ≤ (↑x : Int) + (1 : Int) ∧ (↑x : Int) + (1 : Int) ≤ (9223372036854775807 : Int)) ∧ ∃ (y_1 : Nat), y_1 ≤ l.length ∧ l.length - y_1 < l.length - x ∧ l ≍ l ∧ (↑l.length : Int) = (↑l.length : Int) ∧ (↑x : Int) + (1 : Int) = (↑y_1 : Int) ∧ l ≍ l ∧ b = b ∧ opsWs (List.take x l) ++ ByteArray.mk ((114 : UInt8) :: (101 : UInt8) :: (97 : UInt8) :: (100 : UInt8) :: ([] : List UInt8)).toArray :: decB y.snd.fst :: ([] : List ByteArray) ++ decB y.snd.snd :: ([] : List ByteArray) ≍ opsWs (List.take y_1 l) ∧ True) ∧ ((y.fst != (1 : Int)) = false → ((-9223372036854775808 : Int) ≤ (↑x : Int) + (1 : Int) ∧ (↑x : Int) + (1 : Int) ≤ (9223372036854775807 : Int)) ∧ ∃ (y_1 : Nat), y_1 ≤ l.length ∧ l.length - y_1 < l.length - x ∧ l ≍ l ∧ (↑l.length : Int) = (↑l.length : Int) ∧ (↑x : Int) + (1 : Int) = (↑y_1 : Int) ∧ l ≍ l ∧ b = b ∧ opsWs (List.take x l) ++ ByteArray.mk ((114 : UInt8) :: (101 : UInt8) :: (97 : UInt8) :: (100 : UInt8) :: ([] : List UInt8)).toArray :: decB y.snd.fst :: ([] : List ByteArray) ≍ opsWs (List.take y_1 l) ∧ True)) ∧ (y.fst = (↑((0 : Nat) + (1 : Nat) + (1 : Nat)) : Int) → ((opsWs (List.take x l)).length + (ByteArray.mk ((119 : UInt8) :: (114 : UInt8) :: (105 : UInt8) :: (116 : UInt8) :: (101 : UInt8) :: ([] : List UInt8)).toArray :: decB y.snd.fst :: ([] : List ByteArray)).length) * (16 : Nat) ≤ (140737488355328 : Nat) ∧ ((y.fst != (1 : Int)) = true → ((opsWs (List.take x l) ++ ByteArray.mk ((119 : UInt8) :: (114 : UInt8) :: (105 : UInt8) :: (116 : UInt8) :: (101 : UInt8) :: ([] : List UInt8)).toArray :: decB y.snd.fst :: ([] : List ByteArray)).length + (decB y.snd.snd :: ([] : List ByteArray)).length) * (16 : Nat) ≤ (140737488355328 : Nat) ∧ ((-9223372036854775808 : Int) ≤ (↑x : Int) + (1 : Int) ∧ (↑x : Int) + (1 : Int) ≤ (9223372036854775807 : Int)) ∧ ∃ (y_1 : Nat), y_1 ≤ l.length ∧ l.length - y_1 < l.length - x ∧ l ≍ l ∧ (↑l.length : Int) = (↑l.length : Int) ∧ (↑x : Int) + (1 : Int) = (↑y_1 : Int) ∧ l ≍ l ∧ b = b ∧ opsWs (List.take x l) ++ ByteArray.mk ((119 : UInt8) :: (114 : UInt8) :: (105 : UInt8) :: (116 : UInt8) :: (101 : UInt8) :: ([] : List UInt8)).toArray :: decB y.snd.fst :: ([] : List ByteArray) ++ decB y.snd.snd :: ([] : List ByteArray) ≍ opsWs (List.take y_1 l) ∧ True) ∧ ((y.fst != (1 : Int)) = false → ((-9223372036854775808 : Int) ≤ (↑x : Int) + (1 : Int) ∧ (↑x : Int) + (1 : Int) ≤ (9223372036854775807 : Int)) ∧ ∃ (y_1 : Nat), y_1 ≤ l.length ∧ l.length - y_1 < l.length - x ∧ l ≍ l ∧ (↑l.length : Int) = (↑l.length : Int) ∧ (↑x : Int) + (1 : Int) = (↑y_1 : Int) ∧ l ≍ l ∧ b = b ∧ opsWs (List.take x l) ++ ByteArray.mk ((119 : UInt8) :: (114 : UInt8) :: (105 : UInt8) :: (116 : UInt8) :: (101 : UInt8) :: ([] : List UInt8)).toArray :: decB y.snd.fst :: ([] : List ByteArray) ≍ opsWs (List.take y_1 l) ∧ True)) ∧ (y.fst = (↑((0 : Nat) + (1 : Nat) + (1 : Nat) + (1 : Nat)) : Int) → ((opsWs (List.take x l)).length + (ByteArray.mk ((97 : UInt8) :: (100 : UInt8) :: (100 : UInt8) :: ([] : List UInt8)).toArray :: decB y.snd.fst :: ([] : List ByteArray)).length) * (16 : Nat) ≤ (140737488355328 : Nat) ∧ ((y.fst != (1 : Int)) = true → ((opsWs (List.take x l) ++ ByteArray.mk ((97 : UInt8) :: (100 : UInt8) :: (100 : UInt8) :: ([] : List UInt8)).toArray :: decB y.snd.fst :: ([] : List ByteArray)).length + (decB y.snd.snd :: ([] : List ByteArray)).length) * (16 : Nat) ≤ (140737488355328 : Nat) ∧ ((-9223372036854775808 : Int) ≤ (↑x : Int) + (1 : Int) ∧ (↑x : Int) + (1 : Int) ≤ (9223372036854775807 : Int)) ∧ ∃ (y_1 : Nat), y_1 ≤ l.length ∧ l.length - y_1 < l.length - x ∧ l ≍ l ∧ (↑l.length : Int) = (↑l.length : Int) ∧ (↑x : Int) + (1 : Int) = (↑y_1 : Int) ∧ l ≍ l ∧ b = b ∧ opsWs (List.take x l) ++ ByteArray.mk ((97 : UInt8) :: (100 : UInt8) :: (100 : UInt8) :: ([] : List UInt8)).toArray :: decB y.snd.fst :: ([] : List ByteArray) ++ decB y.snd.snd :: ([] : List ByteArray) ≍ opsWs (List.take y_1 l) ∧ True) ∧ ((y.fst != (1 : Int)) = false → ((-9223372036854775808 : Int) ≤ (↑x : Int) + (1 : Int) ∧ (↑x : Int) + (1 : Int) ≤ (9223372036854775807 : Int)) ∧ ∃ (y_1 : Nat), y_1 ≤ l.length ∧ l.length - y_1 < l.length - x ∧ l ≍ l ∧ (↑l.length : Int) = (↑l.length : Int) ∧ (↑x : Int) + (1 : Int) = (↑y_1 : Int) ∧ l ≍ l ∧ b = b ∧ opsWs (List.take x l) ++ ByteArray.mk ((97 : UInt8) :: (100 : UInt8) :: (100 : UInt8) :: ([] : List UInt8)).toArray :: decB y.snd.fst :: ([] : List ByteArray) ≍ opsWs (List.take y_1 l) ∧ True)) ∧ (y.fst = (↑((0 : Nat) + (1 : Nat) + (1 : Nat) + (1 : Nat) + (1 : Nat)) : Int) → ((opsWs (List.take x l)).length + (ByteArray.mk ((116 : UInt8) :: (97 : UInt8) :: (107 : UInt8) :: (101 : UInt8) :: ([] : List UInt8)).toArray :: decB y.snd.fst :: ([] : List ByteArray)).length) * (16 : Nat) ≤ (140737488355328 : Nat) ∧ ((y.fst != (1 : Int)) = true → ((opsWs (List.take x l) ++ ByteArray.mk ((116 : UInt8) :: (97 : UInt8) :: (107 : UInt8) :: (101 : UInt8) :: ([] : List UInt8)).toArray :: decB y.snd.fst :: ([] : List ByteArray)).length + (decB y.snd.snd :: ([] : List ByteArray)).length) * (16 : Nat) ≤ (140737488355328 : Nat) ∧ ((-9223372036854775808 : Int) ≤ (↑x : Int) + (1 : Int) ∧ (↑x : Int) + (1 : Int) ≤ (9223372036854775807 : Int)) ∧ ∃ (y_1 : Nat), y_1 ≤ l.length ∧ l.length - y_1 < l.length - x ∧ l ≍ l ∧ (↑l.length : Int) = (↑l.length : Int) ∧ (↑x : Int) + (1 : Int) = (↑y_1 : Int) ∧ l ≍ l ∧ b = b ∧ opsWs (List.take x l) ++ ByteArray.mk ((116 : UInt8) :: (97 : UInt8) :: (107 : UInt8) :: (101 : UInt8) :: ([] : List UInt8)).toArray :: decB y.snd.fst :: ([] : List ByteArray) ++ decB y.snd.snd :: ([] : List ByteArray) ≍ opsWs (List.take y_1 l) ∧ True) ∧ ((y.fst != (1 : Int)) = false → ((-9223372036854775808 : Int) ≤ (↑x : Int) + (1 : Int) ∧ (↑x : Int) + (1 : Int) ≤ (9223372036854775807 : Int)) ∧ ∃ (y_1 : Nat), y_1 ≤ l.length ∧ l.length - y_1 < l.length - x ∧ l ≍ l ∧ (↑l.length : Int) = (↑l.length : Int) ∧ (↑x : Int) + (1 : Int) = (↑y_1 : Int) ∧ l ≍ l ∧ b = b ∧ opsWs (List.take x l) ++ ByteArray.mk ((116 : UInt8) :: (97 : UInt8) :: (107 : UInt8) :: (101 : UInt8) :: ([] : List UInt8)).toArray :: decB y.snd.fst :: ([] : List ByteArray) ≍ opsWs (List.take y_1 l) ∧ True)) ∧ True) ∧ (decide ((↑x : Int) < (↑l.length : Int)) = false → (b = true → ((opsWs (List.take x l)).length + (ByteArray.mk ((97 : UInt8) :: (98 : UInt8) :: (111 : UInt8) :: (114 : UInt8) :: (116 : UInt8) :: ([] : List UInt8)).toArray :: ([] : List ByteArray)).length) * (16 : Nat) ≤ (140737488355328 : Nat) ∧ (joinB (opsWs (List.take x l) ++ ByteArray.mk ((97 : UInt8) :: (98 : UInt8) :: (111 : UInt8) :: (114 : UInt8) :: (116 : UInt8) :: ([] : List UInt8)).toArray :: ([] : List ByteArray)) (ByteArray.mk ((32 : UInt8) :: ([] : List UInt8)).toArray)).size ≤ (1000000 : Nat) ∧ (opsWs (List.take x l) ++ ByteArray.mk ((97 : UInt8) :: (98 : UInt8) :: (111 : UInt8) :: (114 : UInt8) :: (116 : UInt8) :: ([] : List UInt8)).toArray :: ([] : List ByteArray)).length ≤ (1000000 : Nat) ∧ Value.string (joinB (opsWs (List.take x l) ++ ByteArray.mk ((97 : UInt8) :: (98 : UInt8) :: (111 : UInt8) :: (114 : UInt8) :: (116 : UInt8) :: ([] : List UInt8)).toArray :: ([] : List ByteArray)) (ByteArray.mk ((32 : UInt8) :: ([] : List UInt8)).toArray)) = Value.string y.fst ∧ (0 : Int) = y.snd ∧ True) ∧ (b = false → ((opsWs (List.take x l)).length + (ByteArray.mk ((99 : UInt8) :: (111 : UInt8) :: (109 : UInt8) :: (109 : UInt8) :: (105 : UInt8) :: (116 : UInt8) :: ([] : List UInt8)).toArray :: ([] : List ByteArray)).length) * (16 : Nat) ≤ (140737488355328 : Nat) ∧ (joinB (opsWs (List.take x l) ++ ByteArray.mk ((99 : UInt8) :: (111 : UInt8) :: (109 : UInt8) :: (109 : UInt8) :: (105 : UInt8) :: (116 : UInt8) :: ([] : List UInt8)).toArray :: ([] : List ByteArray)) (ByteArray.mk ((32 : UInt8) :: ([] : List UInt8)).toArray)).size ≤ (1000000 : Nat) ∧ (opsWs (List.take x l) ++ ByteArray.mk ((99 : UInt8) :: (111 : UInt8) :: (109 : UInt8) :: (109 : UInt8) :: (105 : UInt8) :: (116 : UInt8) :: ([] : List UInt8)).toArray :: ([] : List ByteArray)).length ≤ (1000000 : Nat) ∧ Value.string (joinB (opsWs (List.take x l) ++ ByteArray.mk ((99 : UInt8) :: (111 : UInt8) :: (109 : UInt8) :: (109 : UInt8) :: (105 : UInt8) :: (116 : UInt8) :: ([] : List UInt8)).toArray :: ([] : List ByteArray)) (ByteArray.mk ((32 : UInt8) :: ([] : List UInt8)).toArray)) = Value.string y.fst ∧ (0 : Int) = y.snd ∧ True)))) = _) ?_
  have hy : txLn (l, b) = y := hy
  refine ⟨fun h => ?_, fun h => ?_⟩
  · rw [txLn_out (by simpa using h)] at hy
    subst hy
    exact ⟨rfl, rfl, trivial⟩
  have hg : goodT (l, b) = true := by simpa using h
  rw [txLn_in hg] at hy
  subst hy
  have hG : GO l := go_of hr hg
  have hn := hG.n
  have hmx : 10000 ≤ maxLen := by decide
  have hsz : ∀ w ∈ txWs (l, b), ByteArray.size w ≤ 21 := by
    intro w hw
    rcases List.mem_append.1 hw with hw | hw
    · exact opsWs_sz hG w hw
    · rw [List.mem_singleton] at hw
      rw [hw]
      have he : ∀ b, (endW b).size ≤ 21 := by decide
      exact he b
  have hj := jsize _ hsz
  have hol := opsWs_len l
  have htl : (txWs (l, b)).length ≤ 49 := by
    rw [txWs, List.length_append]; simp only [List.length_singleton]; omega
  refine ⟨⟨0, Nat.zero_le _, HEq.rfl, rfl, rfl, HEq.rfl, rfl, rfl, trivial⟩, fun x hx => ⟨fun hk => ⟨by simp only [decide_eq_true_eq] at hk; omega, fun o ho => ?_⟩, fun hk => ?_⟩⟩
  · have hk : x < l.length := by simp only [decide_eq_true_eq] at hk; omega
    rw [Int.toNat_natCast] at ho
    obtain ⟨g1, g2, g3⟩ := hG.o o (List.mem_of_getElem? ho)
    have hs := opsWs_len (l.take x)
    have hs2 := (hG.take x).n
    have st1 : ¬ o.1 = 1 → opsWs (l.take x) ++ [nameO o.1, decB o.2.1] ++ [decB o.2.2] = opsWs (l.take (x + 1)) := fun q => by
      rw [opsWs_succ ho, opWs, if_neg q]; simp
    have st2 : o.1 = 1 → opsWs (l.take x) ++ [nameO o.1, decB o.2.1] = opsWs (l.take (x + 1)) := fun q => by
      rw [opsWs_succ ho, opWs, if_pos q]
    have fin : ∀ K : ByteArray, nameO o.1 = K → ((opsWs (l.take x)).length + [K, decB o.2.1].length) * 16 ≤ 140737488355328 ∧ ((o.1 != 1) = true → ((opsWs (l.take x) ++ [K, decB o.2.1]).length + [decB o.2.2].length) * 16 ≤ 140737488355328 ∧ (-9223372036854775808 ≤ (x : Int) + 1 ∧ (x : Int) + 1 ≤ 9223372036854775807) ∧ ∃ y : Nat, y ≤ l.length ∧ l.length - y < l.length - x ∧ HEq l l ∧ (l.length : Int) = l.length ∧ (x : Int) + 1 = y ∧ HEq l l ∧ b = b ∧ HEq (opsWs (l.take x) ++ [K, decB o.2.1] ++ [decB o.2.2]) (opsWs (l.take y)) ∧ True) ∧ ((o.1 != 1) = false → (-9223372036854775808 ≤ (x : Int) + 1 ∧ (x : Int) + 1 ≤ 9223372036854775807) ∧ ∃ y : Nat, y ≤ l.length ∧ l.length - y < l.length - x ∧ HEq l l ∧ (l.length : Int) = l.length ∧ (x : Int) + 1 = y ∧ HEq l l ∧ b = b ∧ HEq (opsWs (l.take x) ++ [K, decB o.2.1]) (opsWs (l.take y)) ∧ True) := by
      intro K hK
      subst hK
      refine ⟨by simp only [List.length_cons, List.length_nil]; omega, fun q => ⟨by simp only [List.length_append, List.length_cons, List.length_nil]; omega, by omega, x + 1, hk, by omega, HEq.rfl, rfl, by simp, HEq.rfl, rfl, heq_of_eq (st1 (fun e => by rw [e] at q; exact absurd q (by decide))), trivial⟩, fun q => ⟨by omega, x + 1, hk, by omega, HEq.rfl, rfl, by simp, HEq.rfl, rfl, heq_of_eq (st2 (by simp only [bne_eq_false_iff_eq] at q; exact q)), trivial⟩⟩
    refine ⟨⟨by omega, by show o.1 < 5; omega⟩, fun q => ?_, fun q => ?_, fun q => ?_, fun q => ?_, fun q => ?_, trivial⟩
    · exfalso; omega
    · exact fin _ (by rw [show o.1 = 1 by omega]; rfl)
    · exact fin _ (by rw [show o.1 = 2 by omega]; rfl)
    · exact fin _ (by rw [show o.1 = 3 by omega]; rfl)
    · exact fin _ (by rw [show o.1 = 4 by omega]; rfl)
  · have hk : x = l.length := by simp only [decide_eq_false_iff_not] at hk; omega
    subst hk
    rw [List.take_length]
    refine ⟨fun q => ?_, fun q => ?_⟩
    · subst q
      exact ⟨by simp only [List.length_singleton]; omega, show (joinB (txWs (l, true)) sp).size ≤ 1000000 by omega, show (txWs (l, true)).length ≤ 1000000 by omega, rfl, rfl, trivial⟩
    · subst q
      exact ⟨by simp only [List.length_singleton]; omega, show (joinB (txWs (l, false)) sp).size ≤ 1000000 by omega, show (txWs (l, false)).length ≤ 1000000 by omega, rfl, rfl, trivial⟩
end Go.Proofs.YtljbcclpmlkpnaaDoor.V
