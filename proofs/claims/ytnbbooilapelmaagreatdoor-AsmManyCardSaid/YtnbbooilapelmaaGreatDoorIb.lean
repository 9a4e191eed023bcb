import Derived.KernelRfl
import Derived.Test.YtnbbooilapelmaaGreatDoorIa
import Derived.Test.YtnbbooilapelmaaGreatDoorRhas
namespace Go.Proofs.YtnbbooilapelmaaGreatDoor.V
open Go.RowKit Go.Proofs.YtnbbooilapelmaaGreatDoor
set_option linter.unusedSimpArgs false
abbrev shI : Sh := .pair (.int .i64) (.pair (.int .i64) (.pair (.int .i64) (.pair (.int .i64) (.int .i64))))
abbrev IN := Int × Int × Int × Int × Int
abbrev pN : PS := (true, shI)
/-- May a register stand there? -/
def regF (n : Int) (has : Bool) : Bool := n == 0 || has && decide (n > 0) && decide (n < 8)
def jmpF (op : Int) : Bool := decide (op ≥ 17) && decide (op ≤ 20)
def isF (op : Int) : Bool := decide (op ≥ 0) && decide (op ≤ 22)
/-- Has an operation that field? -/
def hasB (op : Int) (c : UInt8) : Bool := conB (hasS op) c
def immF (m : Int) : Bool := decide (m ≥ -2147483648) && decide (m ≤ 2147483647)
/-- Has an instruction a form? -/
def goodF : IN → Bool := fun (op, a, b, c, m) => isF op && regF a (hasB op 65) && regF b (hasB op 66) && regF c (hasB op 67) && (match hasB op 73 with | true => immF m && (decide (m ≥ 0) || !jmpF op) | false => m == 0)
abbrev L5 : List (Nat × Spec) := inl1 43 Tryz.f43 L4 :: inl1 44 Tryz.f44 L4 :: inl1 46 Tryz.f46 L4 :: inl1 55 Tryz.f55 L4 :: L4
theorem c43 : CallOk Tryz.prog 43 := ⟨_, Tryz.func43, by kernel_rfl, by kernel_rfl⟩
theorem c44 : CallOk Tryz.prog 44 := ⟨_, Tryz.func44, by kernel_rfl, by kernel_rfl⟩
theorem c46 : CallOk Tryz.prog 46 := ⟨_, Tryz.func46, by kernel_rfl, by kernel_rfl⟩
theorem c55 : CallOk Tryz.prog 55 := ⟨_, Tryz.func55, by kernel_rfl, by kernel_rfl⟩
theorem L5_all : ∀ p ∈ L5, Valid Tryz.prog p.1 p.2 := vcons (valid_inl mixed Tbl_ok L4_ok Tryz.func43 c43 noLp) (vcons (valid_inl mixed Tbl_ok L4_ok Tryz.func44 c44 noLp) (vcons (valid_inl mixed Tbl_ok L4_ok Tryz.func46 c46 noLp) (vcons (valid_inl mixed Tbl_ok L4_ok Tryz.func55 c55 noLp) L4_all)))
theorem L5_ok : ∀ f S, spL L5 f = some S → Valid Tryz.prog f S := spL_ok L5_all
theorem v27 : Valid Tryz.prog 27 (.tot (tS [pN] [pB] goodF)) := by
  refine tS_ok mixed Tbl_ok L5_ok Tryz.func27 call27 rfl rfl rfl ?_
  rintro ⟨op, a, b, c, m⟩ hr z rfl
  refine ⟨noLoop, ?_⟩
  refine Eq.mp (by kernel_rfl : (((!(decide (op ≥ (0 : Int)) && decide (op ≤ (22 : Int)))) = true → ((!(decide (op ≥ (0 : Int)) && decide (op ≤ (22 : Int)))) = true → false = goodF (op, a, b, c, m) ∧ True) ∧ ((!(decide (op ≥ (0 : Int)) && decide (op ≤ (22 : Int)))) = false → ((!conB (hasS op) (((73 : UInt8) :: ([] : List UInt8)).toArray.getD (0 : Nat) (0 : UInt8))) = true → (m == (0 : Int)) = goodF (op, a, b, c, m) ∧ True) ∧ ((!conB (hasS op) (((73 : UInt8) :: ([] : List UInt8)).toArray.getD (0 : Nat) (0 : UInt8))) = false → ((decide (m ≥ (-2147483648 : Int)) && decide (m ≤ (2147483647 : Int))) = true → (decide (m ≥ (0 : Int)) = true → true = goodF (op, a, b, c, m) ∧ True) ∧ (decide (m ≥ (0 : Int)) = false → (!(decide (op ≥ (17 : Int)) && decide (op ≤ (20 : Int)))) = goodF (op, a, b, c, m) ∧ True)) ∧ ((decide (m ≥ (-2147483648 : Int)) && decide (m ≤ (2147483647 : Int))) = false → false = goodF (op, a, b, c, m) ∧ True)))) ∧ ((!(decide (op ≥ (0 : Int)) && decide (op ≤ (22 : Int)))) = false → ((!(a == (0 : Int) || conB (hasS op) (((65 : UInt8) :: ([] : List UInt8)).toArray.getD (0 : Nat) (0 : UInt8)) && decide (a > (0 : Int)) && decide (a < (8 : Int)))) = true → ((!(a == (0 : Int) || conB (hasS op) (((65 : UInt8) :: ([] : List UInt8)).toArray.getD (0 : Nat) (0 : UInt8)) && decide (a > (0 : Int)) && decide (a < (8 : Int)))) = true → false = goodF (op, a, b, c, m) ∧ True) ∧ ((!(a == (0 : Int) || conB (hasS op) (((65 : UInt8) :: ([] : List UInt8)).toArray.getD (0 : Nat) (0 : UInt8)) && decide (a > (0 : Int)) && decide (a < (8 : Int)))) = false → ((!conB (hasS op) (((73 : UInt8) :: ([] : List UInt8)).toArray.getD (0 : Nat) (0 : UInt8))) = true → (m == (0 : Int)) = goodF (op, a, b, c, m) ∧ True) ∧ ((!conB (hasS op) (((73 : UInt8) :: ([] : List UInt8)).toArray.getD (0 : Nat) (0 : UInt8))) = false → ((decide (m ≥ (-2147483648 : Int)) && decide (m ≤ (2147483647 : Int))) = true → (decide (m ≥ (0 : Int)) = true → true = goodF (op, a, b, c, m) ∧ True) ∧ (decide (m ≥ (0 : Int)) = false → (!(decide (op ≥ (17 : Int)) && decide (op ≤ (20 : Int)))) = goodF (op, a, b, c, m) ∧ True)) ∧ ((decide (m ≥ (-2147483648 : Int)) && decide (m ≤ (2147483647 : Int))) = false → false = goodF (op, a, b, c, m) ∧ True)))) ∧ ((!(a == (0 : Int) || conB (hasS op) (((65 : UInt8) :: ([] : List UInt8)).toArray.getD (0 : Nat) (0 : UInt8)) && decide (a > (0 : Int)) && decide (a < (8 : Int)))) = false → ((!(b == (0 : Int) || conB (hasS op) (((66 : UInt8) :: ([] : List UInt8)).toArray.getD (0 : Nat) (0 : UInt8)) && decide (b > (0 : Int)) && decide (b < (8 : Int)))) = true → ((!(b == (0 : Int) || conB (hasS op) (((66 : UInt8) :: ([] : List UInt8)).toArray.getD (0 : Nat) (0 : UInt8)) && decide (b > (0 : Int)) && decide (b < (8 : Int)))) = true → false = goodF (op, a, b, c, m) ∧ True) ∧ ((!(b == (0 : Int) || conB (hasS op) (((66 : UInt8) :: ([] : List UInt8)).toArray.getD (0 : Nat) (0 : UInt8)) && decide (b > (0 : Int)) && decide (b < (8 : Int)))) = false → ((!conB (hasS op) (((73 : UInt8) :: ([] : List UInt8)).toArray.getD (0 : Nat) (0 : UInt8))) = true → (m == (0 : Int)) = goodF (op, a, b, c, m) ∧ True) ∧ ((!conB (hasS op) (((73 : UInt8) :: ([] : List UInt8)).toArray.getD (0 : Nat) (0 : UInt8))) = false → ((decide (m ≥ (-2147483648 : Int)) && decide (m ≤ (2147483647 : Int))) = true → (decide (m ≥ (0 : Int)) = true → true = goodF (op, a, b, c, m) ∧ True) ∧ (decide (m ≥ (0 : Int)) = false → (!(decide (op ≥ (17 : Int)) && decide (op ≤ (20 : Int)))) = goodF (op, a, b, c, m) ∧ True)) ∧ ((decide (m ≥ (-2147483648 : Int)) && decide (m ≤ (2147483647 : Int))) = false → false = goodF (op, a, b, c, m) ∧ True)))) ∧ ((!(b == (0 : Int) || conB (hasS op) (((66 : UInt8) :: ([] : List UInt8)).toArray.getD (0 : Nat) (0 : UInt8)) && decide (b > (0 : Int)) && decide (b < (8 : Int)))) = false → ((!(c == (0 : Int) || conB (hasS op) (((67 : UInt8) :: ([] : List UInt8)).toArray.getD (0 : Nat) (0 : UInt8)) && decide (c > (0 : Int)) && decide (c < (8 : Int)))) = true → false = goodF (op, a, b, c, m) ∧ True) ∧ ((!(c == (0 : Int) || conB (hasS op) (((67 : UInt8) :: ([] : List UInt8)).toArray.getD (0 : Nat) (0 : UInt8)) && decide (c > (0 : Int)) && decide (c < (8 : Int)))) = false → ((!conB (hasS op) (((73 : UInt8) :: ([] : List UInt8)).toArray.getD (0 : Nat) (0 : UInt8))) = true → (m == (0 : Int)) = goodF (op, a, b, c, m) ∧ True) ∧ ((!conB (hasS op) (((73 : UInt8) :: ([] : List UInt8)).toArray.getD (0 : Nat) (0 : UInt8))) = false → ((decide (m ≥ (-2147483648 : Int)) && decide (m ≤ (2147483647 : Int))) = true → (decide (m ≥ (0 : Int)) = true → true = goodF (op, a, b, c, m) ∧ True) ∧ (decide (m ≥ (0 : Int)) = false → (!(decide (op ≥ (17 : Int)) && decide (op ≤ (20 : Int)))) = goodF (op, a, b, c, m) ∧ True)) ∧ ((decide (m ≥ (-2147483648 : Int)) && decide (m ≤ (2147483647 : Int))) = false → false = goodF (op, a, b, c, m) ∧ True))))))) = _) ?_
  have e1 : ([65] : List UInt8).toArray.getD 0 0 = 65 := rfl
  have e2 : ([66] : List UInt8).toArray.getD 0 0 = 66 := rfl
  have e3 : ([67] : List UInt8).toArray.getD 0 0 = 67 := rfl
  have e4 : ([73] : List UInt8).toArray.getD 0 0 = 73 := rfl
  rw [e1, e2, e3, e4]
  unfold goodF regF isF jmpF immF hasB
  dsimp only
  generalize (decide (op ≥ 0) && decide (op ≤ 22)) = P
  generalize (a == 0 || conB (hasS op) 65 && decide (a > 0) && decide (a < 8)) = A
  generalize (b == 0 || conB (hasS op) 66 && decide (b > 0) && decide (b < 8)) = B
  generalize (c == 0 || conB (hasS op) 67 && decide (c > 0) && decide (c < 8)) = C
  generalize conB (hasS op) 73 = H
  generalize (decide (m ≥ -2147483648) && decide (m ≤ 2147483647)) = R
  generalize (decide (op ≥ 17) && decide (op ≤ 20)) = J
  generalize (decide (m ≥ 0)) = Z
  generalize (m == 0) = Y
  clear hr e1 e2 e3 e4
  cases P <;> cases A <;> cases B <;> cases C <;> cases H <;> simp <;> cases R <;> cases J <;> cases Z <;> simp
theorem v33 : Valid Tryz.prog 33 (.tot (tS [pI] [pS] hasS)) := by
  refine ⟨call33, fun args r hS β F w vs hF hd => ?_⟩
  unfold tS at hS
  split at hS
  case h_2 => cases hS
  rename_i x hx
  cases hS
  obtain ⟨u, r, rfl, hu, hr⟩ := deVs_ok hx hd
  obtain rfl : r = [] := hr
  obtain ⟨rfl, hx2⟩ := hu
  refine ⟨.string (hasS x), ⟨rfl, Nat.le_trans (has_size x) (by unfold maxLen; omega)⟩, fun w' hk hsz => rhas_any x w' (inR_wf.1 hx2)⟩
abbrev L6 : List (Nat × Spec) := (33, .tot (tS [pI] [pS] hasS)) :: (27, .tot (tS [pN] [pB] goodF)) :: L5
theorem L6_all : ∀ p ∈ L6, Valid Tryz.prog p.1 p.2 := vcons v33 (vcons v27 L5_all)
theorem L6_ok : ∀ f S, spL L6 f = some S → Valid Tryz.prog f S := spL_ok L6_all
theorem con_iff (l : List UInt8) (c : UInt8) : Lib.indexByte l c ≥ 0 ↔ c ∈ l := by
  induction l with
  | nil => simp [Lib.indexByte]
  | cons b l ih =>
    unfold Lib.indexByte
    have h1 := Lib.indexByte_ge l c
    by_cases hb : b = c
    · simp [hb]
    · have hb' : ¬ c = b := fun e => hb e.symm
      by_cases hn : Lib.indexByte l c = -1
      · have : ¬ c ∈ l := fun h => by have := ih.2 h; omega
        simp [hb, hn, this, hb']
      · have : c ∈ l := ih.1 (by omega)
        simp [hb, hn, this]
        omega
theorem get_list (s : ByteArray) (j : Nat) (y : UInt8) : s[j]? = some y ↔ s.data.toList[j]? = some y := by
  obtain ⟨⟨l⟩⟩ := s
  simp only [getElem?_def, ByteArray.getElem_eq_getElem_data]
  rfl
theorem u8_eq {y : UInt8} {c : Int} (h : 0 ≤ c ∧ c ≤ 255) : (y.toNat : Int) = c ↔ y = c.toNat.toUInt8 := by
  have hy := y.toNat_lt
  constructor
  · intro e
    rw [← e]
    simp
  · intro e
    rw [e]
    simp
    omega
abbrev lp20 (op c : Int) : Nat → Option LoopSp := fun _ => some { X := Nat, sl := fun k => [(1, .one (.val (.int .u8 c))), (5, .one (.val (.string (hasS op)))), (6, .one (.val (.int .i64 k)))], h := fun _ => [], nx := 0, inv := fun k => k ≤ (hasS op).size ∧ ∀ j, j < k → ∀ y : UInt8, (hasS op)[j]? = some y → (y.toNat : Int) ≠ c, mu := fun k => (hasS op).size - k }
theorem v54 : Valid Tryz.prog 54 (.tot (tS [pI, pU8] [pB] fun x => hasB x.1 x.2.toNat.toUInt8)) := by
  refine tS_ok mixed Tbl_ok L6_ok Tryz.func54 call54 rfl rfl rfl ?_
  rintro ⟨op, c⟩ hr z rfl
  refine ⟨lp20 op c, ?_⟩
  refine Eq.mp (by kernel_rfl : ((∃ (x : Nat), (x ≤ (hasS op).size ∧ ∀ (j : Nat), j < x → ∀ (y : UInt8), (hasS op)[j]? = some y → (↑y.toNat : Int) ≠ c) ∧ c = c ∧ Value.string (hasS op) = Value.string (hasS op) ∧ (0 : Int) = (↑x : Int) ∧ True) ∧ ∀ (x : Nat), (x ≤ (hasS op).size ∧ ∀ (j : Nat), j < x → ∀ (y : UInt8), (hasS op)[j]? = some y → (↑y.toNat : Int) ≠ c) → (decide ((↑x : Int) < (↑(hasS op).size : Int)) = true → ((0 : Int) ≤ (↑x : Int) ∧ (↑x : Int) < (↑(hasS op).size : Int)) ∧ ∀ (y : UInt8), (hasS op)[(↑x : Int).toNat]? = some y → (((↑y.toNat : Int) == c) = true → true = hasB op (Int.toNat c).toUInt8 ∧ True) ∧ (((↑y.toNat : Int) == c) = false → ((-9223372036854775808 : Int) ≤ (↑x : Int) + (1 : Int) ∧ (↑x : Int) + (1 : Int) ≤ (9223372036854775807 : Int)) ∧ ∃ (y : Nat), (y ≤ (hasS op).size ∧ ∀ (j : Nat), j < y → ∀ (y : UInt8), (hasS op)[j]? = some y → (↑y.toNat : Int) ≠ c) ∧ (hasS op).size - y < (hasS op).size - x ∧ c = c ∧ Value.string (hasS op) = Value.string (hasS op) ∧ (↑x : Int) + (1 : Int) = (↑y : Int) ∧ True)) ∧ (decide ((↑x : Int) < (↑(hasS op).size : Int)) = false → false = hasB op (Int.toNat c).toUInt8 ∧ True)) = _) ?_
  have hc : 0 ≤ c ∧ c ≤ 255 := hr.2
  have hz : (hasS op).size ≤ 3 := has_size op
  refine ⟨⟨0, ⟨by omega, fun j hj => by omega⟩, rfl, rfl, rfl, trivial⟩, fun k hk => ⟨fun h1 => ?_, fun h1 => ?_⟩⟩
  · simp only [decide_eq_true_eq] at h1
    refine ⟨⟨by omega, by omega⟩, fun y hy => ⟨fun he => ⟨?_, trivial⟩, fun he => ⟨⟨by omega, by omega⟩, k + 1, ⟨by omega, fun j hj z hz => ?_⟩, by omega, rfl, rfl, by simp, trivial⟩⟩⟩
    · rw [Int.toNat_natCast] at hy
      have : y = c.toNat.toUInt8 := (u8_eq hc).1 (by simpa using he)
      subst this
      exact (decide_eq_true ((con_iff _ _).2 (List.mem_of_getElem? ((get_list _ _ _).1 hy)))).symm
    · rw [Int.toNat_natCast] at hy
      by_cases hjk : j = k
      · subst hjk
        rw [hy] at hz
        cases hz
        simpa using he
      · exact hk.2 j (by omega) z hz
  · simp only [decide_eq_false_iff_not] at h1
    refine ⟨(decide_eq_false ?_).symm, trivial⟩
    rw [con_iff]
    intro hm
    obtain ⟨j, hj⟩ := List.mem_iff_getElem?.1 hm
    have hj' := (get_list _ _ _).2 hj
    have hlt : j < (hasS op).size := (List.getElem?_eq_some_iff.1 hj).1
    exact hk.2 j (by omega) _ hj' ((u8_eq hc).2 rfl)
abbrev L7 : List (Nat × Spec) := (54, .tot (tS [pI, pU8] [pB] fun x => hasB x.1 x.2.toNat.toUInt8)) :: L6
theorem L7_all : ∀ p ∈ L7, Valid Tryz.prog p.1 p.2 := vcons v54 L6_all
theorem L7_ok : ∀ f S, spL L7 f = some S → Valid Tryz.prog f S := spL_ok L7_all
theorem regF_eq (n : Int) (h : Bool) : regF n h = (match h with | true => decide (n ≥ 0) && decide (n ≤ 7) | false => !(n != 0)) := by
  rw [Bool.eq_iff_iff]
  cases h <;> simp [regF] <;> omega
theorem jmpF_eq (op : Int) : jmpF op = (op == 17 || op == 18 || op == 19 || op == 20) := by
  rw [Bool.eq_iff_iff]
  simp [jmpF]; omega
theorem immF_eq (m : Int) : immF m = (decide (m ≥ -2147483648) && decide (m < 2147483648)) := by
  rw [Bool.eq_iff_iff]
  simp [immF]; omega
theorem isF_eq (op : Int) : isF op = (!decide (op < 0) && !decide (op > 22)) := by
  rw [Bool.eq_iff_iff]
  simp [isF]
theorem v32 : Valid Tryz.prog 32 (.tot (tS [pN] [pB] goodF)) := by
  refine tS_ok mixed Tbl_ok L7_ok Tryz.func32 call32 rfl rfl rfl ?_
  rintro ⟨op, a, b, c, m⟩ hr z rfl
  refine ⟨noLoop, ?_⟩
  refine Eq.mp (by kernel_rfl : (((decide (op < (0 : Int)) || decide (op > (22 : Int))) = true → false = goodF (op, a, b, c, m) ∧ True) ∧ ((decide (op < (0 : Int)) || decide (op > (22 : Int))) = false → (hasB op (Int.toNat (65 : Int)).toUInt8 = true → ((!(decide (a ≥ (0 : Int)) && decide (a ≤ (7 : Int))) || !hasB op (Int.toNat (65 : Int)).toUInt8 && a != (0 : Int)) = true → false = goodF (op, a, b, c, m) ∧ True) ∧ ((!(decide (a ≥ (0 : Int)) && decide (a ≤ (7 : Int))) || !hasB op (Int.toNat (65 : Int)).toUInt8 && a != (0 : Int)) = false → (hasB op (Int.toNat (66 : Int)).toUInt8 = true → ((!(decide (b ≥ (0 : Int)) && decide (b ≤ (7 : Int))) || !hasB op (Int.toNat (66 : Int)).toUInt8 && b != (0 : Int)) = true → false = goodF (op, a, b, c, m) ∧ True) ∧ ((!(decide (b ≥ (0 : Int)) && decide (b ≤ (7 : Int))) || !hasB op (Int.toNat (66 : Int)).toUInt8 && b != (0 : Int)) = false → (hasB op (Int.toNat (67 : Int)).toUInt8 = true → ((!(decide (c ≥ (0 : Int)) && decide (c ≤ (7 : Int))) || !hasB op (Int.toNat (67 : Int)).toUInt8 && c != (0 : Int)) = true → false = goodF (op, a, b, c, m) ∧ True) ∧ ((!(decide (c ≥ (0 : Int)) && decide (c ≤ (7 : Int))) || !hasB op (Int.toNat (67 : Int)).toUInt8 && c != (0 : Int)) = false → ((!hasB op (Int.toNat (73 : Int)).toUInt8) = true → (m == (0 : Int)) = goodF (op, a, b, c, m) ∧ True) ∧ ((!hasB op (Int.toNat (73 : Int)).toUInt8) = false → (decide (m ≥ (-2147483648 : Int)) && decide (m < (2147483648 : Int)) && (!(op == (17 : Int) || op == (18 : Int) || op == (19 : Int) || op == (20 : Int)) || decide (m ≥ (0 : Int)))) = goodF (op, a, b, c, m) ∧ True))) ∧ (hasB op (Int.toNat (67 : Int)).toUInt8 = false → ((!hasB op (Int.toNat (67 : Int)).toUInt8 && c != (0 : Int)) = true → false = goodF (op, a, b, c, m) ∧ True) ∧ ((!hasB op (Int.toNat (67 : Int)).toUInt8 && c != (0 : Int)) = false → ((!hasB op (Int.toNat (73 : Int)).toUInt8) = true → (m == (0 : Int)) = goodF (op, a, b, c, m) ∧ True) ∧ ((!hasB op (Int.toNat (73 : Int)).toUInt8) = false → (decide (m ≥ (-2147483648 : Int)) && decide (m < (2147483648 : Int)) && (!(op == (17 : Int) || op == (18 : Int) || op == (19 : Int) || op == (20 : Int)) || decide (m ≥ (0 : Int)))) = goodF (op, a, b, c, m) ∧ True))))) ∧ (hasB op (Int.toNat (66 : Int)).toUInt8 = false → ((!hasB op (Int.toNat (66 : Int)).toUInt8 && b != (0 : Int)) = true → false = goodF (op, a, b, c, m) ∧ True) ∧ ((!hasB op (Int.toNat (66 : Int)).toUInt8 && b != (0 : Int)) = false → (hasB op (Int.toNat (67 : Int)).toUInt8 = true → ((!(decide (c ≥ (0 : Int)) && decide (c ≤ (7 : Int))) || !hasB op (Int.toNat (67 : Int)).toUInt8 && c != (0 : Int)) = true → false = goodF (op, a, b, c, m) ∧ True) ∧ ((!(decide (c ≥ (0 : Int)) && decide (c ≤ (7 : Int))) || !hasB op (Int.toNat (67 : Int)).toUInt8 && c != (0 : Int)) = false → ((!hasB op (Int.toNat (73 : Int)).toUInt8) = true → (m == (0 : Int)) = goodF (op, a, b, c, m) ∧ True) ∧ ((!hasB op (Int.toNat (73 : Int)).toUInt8) = false → (decide (m ≥ (-2147483648 : Int)) && decide (m < (2147483648 : Int)) && (!(op == (17 : Int) || op == (18 : Int) || op == (19 : Int) || op == (20 : Int)) || decide (m ≥ (0 : Int)))) = goodF (op, a, b, c, m) ∧ True))) ∧ (hasB op (Int.toNat (67 : Int)).toUInt8 = false → ((!hasB op (Int.toNat (67 : Int)).toUInt8 && c != (0 : Int)) = true → false = goodF (op, a, b, c, m) ∧ True) ∧ ((!hasB op (Int.toNat (67 : Int)).toUInt8 && c != (0 : Int)) = false → ((!hasB op (Int.toNat (73 : Int)).toUInt8) = true → (m == (0 : Int)) = goodF (op, a, b, c, m) ∧ True) ∧ ((!hasB op (Int.toNat (73 : Int)).toUInt8) = false → (decide (m ≥ (-2147483648 : Int)) && decide (m < (2147483648 : Int)) && (!(op == (17 : Int) || op == (18 : Int) || op == (19 : Int) || op == (20 : Int)) || decide (m ≥ (0 : Int)))) = goodF (op, a, b, c, m) ∧ True))))))) ∧ (hasB op (Int.toNat (65 : Int)).toUInt8 = false → ((!hasB op (Int.toNat (65 : Int)).toUInt8 && a != (0 : Int)) = true → false = goodF (op, a, b, c, m) ∧ True) ∧ ((!hasB op (Int.toNat (65 : Int)).toUInt8 && a != (0 : Int)) = false → (hasB op (Int.toNat (66 : Int)).toUInt8 = true → ((!(decide (b ≥ (0 : Int)) && decide (b ≤ (7 : Int))) || !hasB op (Int.toNat (66 : Int)).toUInt8 && b != (0 : Int)) = true → false = goodF (op, a, b, c, m) ∧ True) ∧ ((!(decide (b ≥ (0 : Int)) && decide (b ≤ (7 : Int))) || !hasB op (Int.toNat (66 : Int)).toUInt8 && b != (0 : Int)) = false → (hasB op (Int.toNat (67 : Int)).toUInt8 = true → ((!(decide (c ≥ (0 : Int)) && decide (c ≤ (7 : Int))) || !hasB op (Int.toNat (67 : Int)).toUInt8 && c != (0 : Int)) = true → false = goodF (op, a, b, c, m) ∧ True) ∧ ((!(decide (c ≥ (0 : Int)) && decide (c ≤ (7 : Int))) || !hasB op (Int.toNat (67 : Int)).toUInt8 && c != (0 : Int)) = false → ((!hasB op (Int.toNat (73 : Int)).toUInt8) = true → (m == (0 : Int)) = goodF (op, a, b, c, m) ∧ True) ∧ ((!hasB op (Int.toNat (73 : Int)).toUInt8) = false → (decide (m ≥ (-2147483648 : Int)) && decide (m < (2147483648 : Int)) && (!(op == (17 : Int) || op == (18 : Int) || op == (19 : Int) || op == (20 : Int)) || decide (m ≥ (0 : Int)))) = goodF (op, a, b, c, m) ∧ True))) ∧ (hasB op (Int.toNat (67 : Int)).toUInt8 = false → ((!hasB op (Int.toNat (67 : Int)).toUInt8 && c != (0 : Int)) = true → false = goodF (op, a, b, c, m) ∧ True) ∧ ((!hasB op (Int.toNat (67 : Int)).toUInt8 && c != (0 : Int)) = false → ((!hasB op (Int.toNat (73 : Int)).toUInt8) = true → (m == (0 : Int)) = goodF (op, a, b, c, m) ∧ True) ∧ ((!hasB op (Int.toNat (73 : Int)).toUInt8) = false → (decide (m ≥ (-2147483648 : Int)) && decide (m < (2147483648 : Int)) && (!(op == (17 : Int) || op == (18 : Int) || op == (19 : Int) || op == (20 : Int)) || decide (m ≥ (0 : Int)))) = goodF (op, a, b, c, m) ∧ True))))) ∧ (hasB op (Int.toNat (66 : Int)).toUInt8 = false → ((!hasB op (Int.toNat (66 : Int)).toUInt8 && b != (0 : Int)) = true → false = goodF (op, a, b, c, m) ∧ True) ∧ ((!hasB op (Int.toNat (66 : Int)).toUInt8 && b != (0 : Int)) = false → (hasB op (Int.toNat (67 : Int)).toUInt8 = true → ((!(decide (c ≥ (0 : Int)) && decide (c ≤ (7 : Int))) || !hasB op (Int.toNat (67 : Int)).toUInt8 && c != (0 : Int)) = true → false = goodF (op, a, b, c, m) ∧ True) ∧ ((!(decide (c ≥ (0 : Int)) && decide (c ≤ (7 : Int))) || !hasB op (Int.toNat (67 : Int)).toUInt8 && c != (0 : Int)) = false → ((!hasB op (Int.toNat (73 : Int)).toUInt8) = true → (m == (0 : Int)) = goodF (op, a, b, c, m) ∧ True) ∧ ((!hasB op (Int.toNat (73 : Int)).toUInt8) = false → (decide (m ≥ (-2147483648 : Int)) && decide (m < (2147483648 : Int)) && (!(op == (17 : Int) || op == (18 : Int) || op == (19 : Int) || op == (20 : Int)) || decide (m ≥ (0 : Int)))) = goodF (op, a, b, c, m) ∧ True))) ∧ (hasB op (Int.toNat (67 : Int)).toUInt8 = false → ((!hasB op (Int.toNat (67 : Int)).toUInt8 && c != (0 : Int)) = true → false = goodF (op, a, b, c, m) ∧ True) ∧ ((!hasB op (Int.toNat (67 : Int)).toUInt8 && c != (0 : Int)) = false → ((!hasB op (Int.toNat (73 : Int)).toUInt8) = true → (m == (0 : Int)) = goodF (op, a, b, c, m) ∧ True) ∧ ((!hasB op (Int.toNat (73 : Int)).toUInt8) = false → (decide (m ≥ (-2147483648 : Int)) && decide (m < (2147483648 : Int)) && (!(op == (17 : Int) || op == (18 : Int) || op == (19 : Int) || op == (20 : Int)) || decide (m ≥ (0 : Int)))) = goodF (op, a, b, c, m) ∧ True))))))))) = _) ?_
  have e1 : (Int.toNat 65).toUInt8 = 65 := rfl
  have e2 : (Int.toNat 66).toUInt8 = 66 := rfl
  have e3 : (Int.toNat 67).toUInt8 = 67 := rfl
  have e4 : (Int.toNat 73).toUInt8 = 73 := rfl
  rw [e1, e2, e3, e4]
  have hg : goodF (op, a, b, c, m) = (isF op && regF a (hasB op 65) && regF b (hasB op 66) && regF c (hasB op 67) && (match hasB op 73 with | true => immF m && (decide (m ≥ 0) || !jmpF op) | false => m == 0)) := rfl
  rw [hg, regF_eq, regF_eq, regF_eq, jmpF_eq, immF_eq, isF_eq]
  generalize hasB op 65 = A
  generalize hasB op 66 = B
  generalize hasB op 67 = C
  generalize hasB op 73 = H
  generalize (decide (a ≥ 0) && decide (a ≤ 7)) = a1
  generalize (a != 0) = a2
  generalize (decide (b ≥ 0) && decide (b ≤ 7)) = b1
  generalize (b != 0) = b2
  generalize (decide (c ≥ 0) && decide (c ≤ 7)) = c1
  generalize (c != 0) = c2
  generalize (decide (m ≥ -2147483648) && decide (m < 2147483648)) = m1
  generalize (op == 17 || op == 18 || op == 19 || op == 20) = J
  generalize decide (m ≥ 0) = Z
  generalize (m == 0) = Y
  generalize decide (op < 0) = P
  generalize decide (op > 22) = Q
  clear hg e1 e2 e3 e4 hr
  cases P <;> cases Q <;> cases A <;> cases B <;> cases C <;> cases H <;> simp <;> cases a1 <;> cases a2 <;> cases b1 <;> cases b2 <;> cases c1 <;> cases c2 <;> simp <;> cases J <;> cases Z <;> cases Y <;> cases m1 <;> simp
abbrev L8 : List (Nat × Spec) := (32, .tot (tS [pN] [pB] goodF)) :: L7
theorem L8_all : ∀ p ∈ L8, Valid Tryz.prog p.1 p.2 := vcons v32 L7_all
theorem L8_ok : ∀ f S, spL L8 f = some S → Valid Tryz.prog f S := spL_ok L8_all
end Go.Proofs.YtnbbooilapelmaaGreatDoor.V
