import Derived.KernelRfl
import Derived.Test.YtljbcclpmlkpnaaDoorCa
namespace Go.Proofs.YtljbcclpmlkpnaaDoor.V
open Go.RowKit Go.Proofs.YtljbcclpmlkpnaaDoor
set_option linter.unusedSimpArgs false
abbrev noLoop : Nat → Option LoopSp := fun _ => none
abbrev vi (z : Int) : CV := .val (.int .i64 z)
abbrev shi : Sh := .int .i64
abbrev shA : Sh := .pair shi (.pair shi shi)
abbrev shO : Sh := .pair shi (.pair shi (.int .u64))
abbrev shT : Sh := .pair (.sl shO) .bool
abbrev AN := Int × Int × Int
abbrev ON := Int × Int × Int
abbrev TN := List ON × Bool
abbrev pI : PS := (false, .int .i64)
abbrev pU : PS := (false, .int .u64)
abbrev pB : PS := (false, .bool)
abbrev pS : PS := (false, .str)
abbrev pA : PS := (true, shA)
abbrev pO : PS := (true, shO)
abbrev pT : PS := (true, shT)
abbrev pSs : PS := (false, .sl .str)
abbrev inl1 (f : Nat) (fn : Func) (L : List (Nat × Spec)) : Nat × Spec := (f, .full (inl Tbl (spL L) fn noLp))
abbrev L0 : List (Nat × Spec) := [(32, .tot itoaS), (45, .tot fuS), (33, .pre joinS), (46, .pre numS)]
theorem L0_all : ∀ p ∈ L0, Valid Tryd.prog p.1 p.2 := vcons v32 (vcons v45 (vcons v33 (vcons v46 vnil)))
theorem L0_ok : ∀ f S, spL L0 f = some S → Valid Tryd.prog f S := spL_ok L0_all
def coreK (k : Int) : Bool := decide (1 ≤ k ∧ k ≤ 5) || decide (k = 7)
def lineK (k : Int) : Bool := decide (6 ≤ k ∧ k ≤ 9)
def mayF (n : Int) (b : Bool) (m : Int) : Bool := decide (n = 0) || (b && decide (0 < n ∧ n < m))
def goodA (a : AN) : Bool := decide (1 ≤ a.1 ∧ a.1 ≤ 10) && (mayF a.2.1 (coreK a.1) 8 && mayF a.2.2 (lineK a.1) 64)
theorem v38 : Valid Tryd.prog 38 (.tot (tS [pI, pB, pI] [pB] fun x => mayF x.1 x.2.1 x.2.2)) := by
  refine tS_ok mixed Tbl_ok L0_ok Tryd.func38 call38 rfl rfl rfl ?_
  rintro ⟨(n : Int), (b : Bool), (m : Int)⟩ hr z hz
  refine ⟨noLoop, ?_⟩
  refine Eq.mp (by kernel_rfl : ((n == (0 : Int) || b && decide (n > (0 : Int)) && decide (n < m)) = z ∧ True) = _) ?_
  have hz : mayF n b m = z := hz
  subst hz
  refine ⟨?_, trivial⟩
  rw [Bool.eq_iff_iff]
  cases b <;> simp [mayF]
theorem v24 : Valid Tryd.prog 24 (.tot (tS [pI] [pB] coreK)) := by
  refine tS_ok mixed Tbl_ok L0_ok Tryd.func24 call24 rfl rfl rfl ?_
  rintro (n : Int) hr z hz
  refine ⟨noLoop, ?_⟩
  refine Eq.mp (by kernel_rfl : ((decide (n ≥ (1 : Int)) && decide (n ≤ (5 : Int)) || n == (7 : Int)) = z ∧ True) = _) ?_
  have hz : coreK n = z := hz
  subst hz
  refine ⟨?_, trivial⟩
  rw [Bool.eq_iff_iff]
  simp only [coreK, Bool.and_eq_true, Bool.or_eq_true, decide_eq_true_eq, beq_iff_eq]
  try omega
theorem v26 : Valid Tryd.prog 26 (.tot (tS [pI] [pB] lineK)) := by
  refine tS_ok mixed Tbl_ok L0_ok Tryd.func26 call26 rfl rfl rfl ?_
  rintro (n : Int) hr z hz
  refine ⟨noLoop, ?_⟩
  refine Eq.mp (by kernel_rfl : ((n == (6 : Int) || n == (7 : Int) || n == (8 : Int) || n == (9 : Int)) = z ∧ True) = _) ?_
  have hz : lineK n = z := hz
  subst hz
  refine ⟨?_, trivial⟩
  rw [Bool.eq_iff_iff]
  simp only [lineK, Bool.and_eq_true, Bool.or_eq_true, decide_eq_true_eq, beq_iff_eq]
  try omega
abbrev L1 : List (Nat × Spec) := (38, .tot (tS [pI, pB, pI] [pB] fun x => mayF x.1 x.2.1 x.2.2)) :: (24, .tot (tS [pI] [pB] coreK)) :: (26, .tot (tS [pI] [pB] lineK)) :: L0
theorem L1_all : ∀ p ∈ L1, Valid Tryd.prog p.1 p.2 := vcons v38 (vcons v24 (vcons v26 L0_all))
theorem L1_ok : ∀ f S, spL L1 f = some S → Valid Tryd.prog f S := spL_ok L1_all
theorem has_at {k : Int} (h : 1 ≤ k ∧ k ≤ 10) : (bits BinOp.and IntKind.u8 ((0 :: 1 :: 1 :: 1 :: 1 :: 1 :: 2 :: 3 :: 2 :: 2 :: 0 :: ([] : List Int)).getD k.toNat 0) 1 != 0) = coreK k ∧ (bits BinOp.and IntKind.u8 ((0 :: 1 :: 1 :: 1 :: 1 :: 1 :: 2 :: 3 :: 2 :: 2 :: 0 :: ([] : List Int)).getD k.toNat 0) 2 != 0) = lineK k := by
  have : k = 1 ∨ k = 2 ∨ k = 3 ∨ k = 4 ∨ k = 5 ∨ k = 6 ∨ k = 7 ∨ k = 8 ∨ k = 9 ∨ k = 10 := by omega
  rcases this with rfl | rfl | rfl | rfl | rfl | rfl | rfl | rfl | rfl | rfl <;> decide
theorem goodA_out {a : AN} (h : ¬ (1 ≤ a.1 ∧ a.1 ≤ 10)) : goodA a = false := by rw [goodA, decide_eq_false h, Bool.false_and]
theorem goodA_in {a : AN} (h : 1 ≤ a.1 ∧ a.1 ≤ 10) : goodA a = (mayF a.2.1 (coreK a.1) 8 && mayF a.2.2 (lineK a.1) 64) := by rw [goodA, decide_eq_true h, Bool.true_and]
theorem v21 : Valid Tryd.prog 21 (.tot (tS [pA] [pB] goodA)) := by
  refine tS_ok mixed Tbl_ok L1_ok Tryd.func21 call21 rfl rfl rfl ?_
  rintro ⟨(k : Int), (c : Int), (l : Int)⟩ hr z hz
  refine ⟨noLoop, ?_⟩
  refine Eq.mp (by kernel_rfl : (((decide (k < (1 : Int)) || decide (k > (10 : Int))) = true → false = z ∧ True) ∧ ((decide (k < (1 : Int)) || decide (k > (10 : Int))) = false → ((0 : Int) ≤ k ∧ k < (↑(11 : Nat) : Int)) ∧ (mayF c (bits BinOp.and IntKind.u8 (((0 : Int) :: (1 : Int) :: (1 : Int) :: (1 : Int) :: (1 : Int) :: (1 : Int) :: (2 : Int) :: (3 : Int) :: (2 : Int) :: (2 : Int) :: (0 : Int) :: ([] : List Int)).getD k.toNat (0 : Int)) (1 : Int) != (0 : Int)) (8 : Int) && mayF l (bits BinOp.and IntKind.u8 (((0 : Int) :: (1 : Int) :: (1 : Int) :: (1 : Int) :: (1 : Int) :: (1 : Int) :: (2 : Int) :: (3 : Int) :: (2 : Int) :: (2 : Int) :: (0 : Int) :: ([] : List Int)).getD k.toNat (0 : Int)) (2 : Int) != (0 : Int)) (64 : Int)) = z ∧ True)) = _) ?_
  have hz : goodA (k, c, l) = z := hz
  subst hz
  simp only [Bool.or_eq_true, Bool.or_eq_false_iff, decide_eq_true_eq, decide_eq_false_iff_not]
  refine ⟨fun h => ⟨(goodA_out (by dsimp only; omega)).symm, trivial⟩, fun h => ⟨by omega, ?_, trivial⟩⟩
  obtain ⟨h1, h2⟩ := has_at (k := k) (by omega)
  rw [h1, h2, goodA_in (by dsimp only; omega)]
theorem v27 : Valid Tryd.prog 27 (.tot (tS [pA] [pB] goodA)) := by
  refine tS_ok mixed Tbl_ok L1_ok Tryd.func27 call27 rfl rfl rfl ?_
  rintro ⟨(k : Int), (c : Int), (l : Int)⟩ hr z hz
  refine ⟨noLoop, ?_⟩
  refine Eq.mp (by kernel_rfl : (((decide (k < (1 : Int)) || decide (k > (10 : Int))) = true → false = z ∧ True) ∧ ((decide (k < (1 : Int)) || decide (k > (10 : Int))) = false → ((coreK k && (decide (c < (0 : Int)) || decide (c > (7 : Int))) || !coreK k && c != (0 : Int)) = true → false = z ∧ True) ∧ ((coreK k && (decide (c < (0 : Int)) || decide (c > (7 : Int))) || !coreK k && c != (0 : Int)) = false → (lineK k && decide (l ≥ (0 : Int)) && decide (l ≤ (63 : Int)) || !lineK k && l == (0 : Int)) = z ∧ True))) = _) ?_
  have hz : goodA (k, c, l) = z := hz
  subst hz
  refine ⟨fun h => ⟨(goodA_out ?_).symm, trivial⟩, fun h => ?_⟩
  · simp only [Bool.or_eq_true, decide_eq_true_eq] at h
    dsimp only; omega
  simp only [Bool.or_eq_false_iff, decide_eq_false_iff_not] at h
  rw [goodA_in (by dsimp only; omega)]
  refine ⟨fun h2 => ⟨?_, trivial⟩, fun h2 => ⟨?_, trivial⟩⟩
  · have : mayF c (coreK k) 8 = false := by
      unfold mayF
      cases hc : coreK k <;> rw [hc] at h2 <;> simp only [Bool.or_eq_true, Bool.and_eq_true, decide_eq_true_eq, Bool.not_false, Bool.not_true, Bool.true_and, Bool.false_and, Bool.or_false, Bool.false_or, bne_iff_ne, ne_eq, Bool.and_eq_false_iff, Bool.or_eq_false_iff, decide_eq_false_iff_not] at h2 ⊢ <;> omega
    dsimp only
    rw [this, Bool.false_and]
  · have h3 : mayF c (coreK k) 8 = true := by
      unfold mayF
      cases hc : coreK k <;> rw [hc] at h2 <;> simp only [Bool.or_eq_false_iff, Bool.or_eq_true, Bool.and_eq_true, decide_eq_true_eq, Bool.not_false, Bool.not_true, Bool.true_and, Bool.false_and, Bool.or_false, Bool.false_or, bne_eq_false_iff_eq, ne_eq, Bool.and_eq_false_iff, decide_eq_false_iff_not] at h2 ⊢ <;> omega
    dsimp only
    rw [h3, Bool.true_and]
    unfold mayF
    rw [Bool.eq_iff_iff]
    cases hc : lineK k <;> simp <;> omega
def goodO (o : ON) : Bool := decide (1 ≤ o.1 ∧ o.1 ≤ 4) && (decide (o.2.2 < 2147483648) && (!(decide (o.1 = 1) && decide (o.2.2 ≠ 0)) && !(decide (o.1 = 4) && decide (o.2.2 = 0))))
def goodT (t : TN) : Bool := decide (t.1.length ≤ 16) && t.1.all goodO
abbrev L2 : List (Nat × Spec) := (21, .tot (tS [pA] [pB] goodA)) :: (27, .tot (tS [pA] [pB] goodA)) :: L1
theorem L2_all : ∀ p ∈ L2, Valid Tryd.prog p.1 p.2 := vcons v21 (vcons v27 L1_all)
theorem L2_ok : ∀ f S, spL L2 f = some S → Valid Tryd.prog f S := spL_ok L2_all
theorem v39 : Valid Tryd.prog 39 (.tot (tS [pO] [pB] goodO)) := by
  refine tS_ok mixed Tbl_ok L2_ok Tryd.func39 call39 rfl rfl rfl ?_
  rintro ⟨(k : Int), (w : Int), (v : Int)⟩ hr z hz
  refine ⟨noLoop, ?_⟩
  refine Eq.mp (by kernel_rfl : (((decide (k < (1 : Int)) || decide (k > (4 : Int)) || decide (v ≥ (2147483648 : Int))) = true → false = z ∧ True) ∧ ((decide (k < (1 : Int)) || decide (k > (4 : Int)) || decide (v ≥ (2147483648 : Int))) = false → ((k == (1 : Int)) = true → (v == (0 : Int)) = z ∧ True) ∧ ((k == (1 : Int)) = false → ((k == (4 : Int)) = true → (v != (0 : Int)) = z ∧ True) ∧ ((k == (4 : Int)) = false → true = z ∧ True)))) = _) ?_
  have hz : goodO (k, w, v) = z := hz
  subst hz
  have e : ∀ {P : Prop} [Decidable P], (decide P = true) = P := fun {P} _ => by simp
  refine ⟨fun h => ⟨?_, trivial⟩, fun h => ⟨fun h1 => ⟨?_, trivial⟩, fun h1 => ⟨fun h2 => ⟨?_, trivial⟩, fun h2 => ⟨?_, trivial⟩⟩⟩⟩
  · simp only [Bool.or_eq_true, decide_eq_true_eq] at h
    symm
    rw [Bool.eq_false_iff, ne_eq, goodO]
    simp only [Bool.and_eq_true, decide_eq_true_eq]
    omega
  all_goals
    simp only [Bool.or_eq_false_iff, decide_eq_false_iff_not, beq_iff_eq, beq_eq_false_iff_ne, ne_eq] at h h1
    rw [goodO, decide_eq_true (by dsimp only; omega), decide_eq_true (by dsimp only; omega), Bool.true_and, Bool.true_and]
    dsimp only
  · subst h1
    rw [Bool.eq_iff_iff]; simp
  · simp only [beq_iff_eq] at h2
    subst h2
    rw [Bool.eq_iff_iff]; simp
  · simp only [beq_eq_false_iff_ne, ne_eq] at h2
    simp [h1, h2]
abbrev L3 : List (Nat × Spec) := (39, .tot (tS [pO] [pB] goodO)) :: L2
theorem L3_all : ∀ p ∈ L3, Valid Tryd.prog p.1 p.2 := vcons v39 L2_all
theorem L3_ok : ∀ f S, spL L3 f = some S → Valid Tryd.prog f S := spL_ok L3_all
theorem all_take {p : ON → Bool} {l : List ON} {k : Nat} {y : ON} (h : (l.take k).all p = true) (hy : l[k]? = some y) (hp : p y = true) : (l.take (k + 1)).all p = true := by
  rw [List.take_add_one, hy, List.all_append, h]
  simp [hp]
theorem all_not {p : ON → Bool} {l : List ON} {k : Nat} {y : ON} (hy : l[k]? = some y) (hp : p y = false) : l.all p = false := by
  rw [List.all_eq_false]
  exact ⟨y, List.mem_of_getElem? hy, by simp [hp]⟩
abbrev lp28 (l : List ON) (b : Bool) : Nat → Option LoopSp := fun _ => some { X := Nat, sl := fun k => [(1, .one (.ptr 0 0)), (6, .one (.rd shO l)), (7, .one (vi l.length)), (8, .one (vi k))], h := fun k => [(0, .blk [.rd shO l, .val (.bool b)] 32)], nx := 1, inv := fun k => k ≤ l.length ∧ (l.take k).all goodO = true, mu := fun k => l.length - k }
theorem v28 : Valid Tryd.prog 28 (.tot (tS [pT] [pB] goodT)) := by
  refine tS_ok mixed Tbl_ok L3_ok Tryd.func28 call28 rfl rfl rfl ?_
  rintro ⟨(l : List ON), (b : Bool)⟩ hr z hz
  refine ⟨lp28 l b, ?_⟩
  refine Eq.mp (by kernel_rfl : ((∃ (x : Nat), (x ≤ l.length ∧ (List.take x l).all goodO = true) ∧ l ≍ l ∧ (↑l.length : Int) = (↑l.length : Int) ∧ (0 : Int) = (↑x : Int) ∧ l ≍ l ∧ b = b ∧ True) ∧ ∀ (x : Nat), x ≤ l.length ∧ (List.take x l).all goodO = true → (decide ((↑x : Int) < (↑l.length : Int)) = true → ((0 : Int) ≤ (↑x : Int) ∧ (↑x : Int) < (↑l.length : Int)) ∧ ∀ (y : Int × Int × Int), l[(↑x : Int).toNat]? = some y → ((!goodO (y.fst, y.snd.fst, y.snd.snd)) = true → false = z ∧ True) ∧ ((!goodO (y.fst, y.snd.fst, y.snd.snd)) = false → ((-9223372036854775808 : Int) ≤ (↑x : Int) + (1 : Int) ∧ (↑x : Int) + (1 : Int) ≤ (9223372036854775807 : Int)) ∧ ∃ (y : Nat), (y ≤ l.length ∧ (List.take y l).all goodO = true) ∧ l.length - y < l.length - x ∧ l ≍ l ∧ (↑l.length : Int) = (↑l.length : Int) ∧ (↑x : Int) + (1 : Int) = (↑y : Int) ∧ l ≍ l ∧ b = b ∧ True)) ∧ (decide ((↑x : Int) < (↑l.length : Int)) = false → decide ((↑l.length : Int) ≤ (16 : Int)) = z ∧ True)) = _) ?_
  have hz : goodT (l, b) = z := hz
  subst hz
  have hm : l.length ≤ maxLen := hr.1.1
  have hmx : (maxLen : Int) ≤ 9223372036854775807 := by decide
  refine ⟨⟨0, ⟨Nat.zero_le _, rfl⟩, HEq.rfl, rfl, rfl, HEq.rfl, rfl, trivial⟩, fun x ⟨h1, h2⟩ => ⟨fun h3 => ⟨by simp at h3; omega, fun y hy => ?_⟩, fun h3 => ⟨?_, trivial⟩⟩⟩
  · rw [Int.toNat_natCast] at hy
    have h3 : x < l.length := by simpa using h3
    refine ⟨fun h => ⟨?_, trivial⟩, fun h => ⟨by omega, x + 1, ⟨h3, all_take h2 hy (by simpa using h)⟩, by omega, HEq.rfl, rfl, by simp, HEq.rfl, rfl, trivial⟩⟩
    rw [goodT, all_not hy (by simpa using h), Bool.and_false]
  · have h3 : x = l.length := by simp at h3; omega
    subst h3
    rw [List.take_length] at h2
    rw [goodT, h2, Bool.and_true]
    simp only [decide_eq_decide]
    omega
theorem goodO_ref (y : ON) : (decide (y.1 < 1) || decide (y.1 > 4) || decide (y.2.2 ≥ 2147483648) || y.1 == 1 && y.2.2 != 0 || y.1 == 4 && y.2.2 == 0) = !goodO y := by
  obtain ⟨k, w, v⟩ := y
  rw [Bool.eq_iff_iff]
  simp only [goodO, Bool.or_eq_true, Bool.and_eq_true, decide_eq_true_eq, beq_iff_eq, bne_iff_ne, ne_eq, Bool.not_eq_true', Bool.and_eq_false_iff, decide_eq_false_iff_not, Bool.not_eq_false']
  omega
abbrev lp31 (l : List ON) (b : Bool) : Nat → Option LoopSp := fun _ => some { X := Nat, sl := fun k => [(1, .one (.ptr 0 0)), (3, .one (vi k))], h := fun k => [(0, .blk [.rd shO l, .val (.bool b)] 32)], nx := 1, inv := fun k => k ≤ l.length ∧ (l.take k).all goodO = true, mu := fun k => l.length - k }
theorem v31 : Valid Tryd.prog 31 (.tot (tS [pT] [pB] goodT)) := by
  refine tS_ok mixed Tbl_ok L3_ok Tryd.func31 call31 rfl rfl rfl ?_
  rintro ⟨(l : List ON), (b : Bool)⟩ hr z hz
  refine ⟨lp31 l b, ?_⟩
  refine Eq.mp (by kernel_rfl : ((decide ((↑l.length : Int) > (16 : Int)) = true → false = z ∧ True) ∧ (decide ((↑l.length : Int) > (16 : Int)) = false → (∃ (x : Nat), (x ≤ l.length ∧ (List.take x l).all goodO = true) ∧ (0 : Int) = (↑x : Int) ∧ l ≍ l ∧ b = b ∧ True) ∧ ∀ (x : Nat), x ≤ l.length ∧ (List.take x l).all goodO = true → (decide ((↑x : Int) < (↑l.length : Int)) = true → ((0 : Int) ≤ (↑x : Int) ∧ (↑x : Int) < (↑l.length : Int)) ∧ ∀ (y : Int × Int × Int), l[(↑x : Int).toNat]? = some y → ((decide (y.fst < (1 : Int)) || decide (y.fst > (4 : Int)) || decide (y.snd.snd ≥ (2147483648 : Int)) || y.fst == (1 : Int) && y.snd.snd != (0 : Int) || y.fst == (4 : Int) && y.snd.snd == (0 : Int)) = true → false = z ∧ True) ∧ ((decide (y.fst < (1 : Int)) || decide (y.fst > (4 : Int)) || decide (y.snd.snd ≥ (2147483648 : Int)) || y.fst == (1 : Int) && y.snd.snd != (0 : Int) || y.fst == (4 : Int) && y.snd.snd == (0 : Int)) = false → ((-9223372036854775808 : Int) ≤ (↑x : Int) + (1 : Int) ∧ (↑x : Int) + (1 : Int) ≤ (9223372036854775807 : Int)) ∧ ∃ (y : Nat), (y ≤ l.length ∧ (List.take y l).all goodO = true) ∧ l.length - y < l.length - x ∧ (↑x : Int) + (1 : Int) = (↑y : Int) ∧ l ≍ l ∧ b = b ∧ True)) ∧ (decide ((↑x : Int) < (↑l.length : Int)) = false → true = z ∧ True))) = _) ?_
  have hz : goodT (l, b) = z := hz
  subst hz
  have hm : l.length ≤ maxLen := hr.1.1
  have hmx : (maxLen : Int) ≤ 9223372036854775807 := by decide
  refine ⟨fun h => ⟨?_, trivial⟩, fun h => ⟨⟨0, ⟨Nat.zero_le _, rfl⟩, rfl, HEq.rfl, rfl, trivial⟩, fun x ⟨h1, h2⟩ => ⟨fun h3 => ⟨by simp at h3; omega, fun y hy => ?_⟩, fun h3 => ⟨?_, trivial⟩⟩⟩⟩
  · rw [goodT, decide_eq_false (by simp at h; dsimp only; omega), Bool.false_and]
  · rw [goodO_ref y]
    rw [Int.toNat_natCast] at hy
    have h3 : x < l.length := by simpa using h3
    refine ⟨fun h => ⟨?_, trivial⟩, fun h => ⟨by omega, x + 1, ⟨h3, all_take h2 hy (by simpa using h)⟩, by omega, by simp, HEq.rfl, rfl, trivial⟩⟩
    rw [goodT, all_not hy (by simpa using h), Bool.and_false]
  · have h3 : x = l.length := by simp at h3; omega
    subst h3
    rw [List.take_length] at h2
    rw [goodT, h2, Bool.and_true, decide_eq_true (by simp at h; dsimp only; omega)]
abbrev L4 : List (Nat × Spec) := (28, .tot (tS [pT] [pB] goodT)) :: (31, .tot (tS [pT] [pB] goodT)) :: L3
theorem L4_all : ∀ p ∈ L4, Valid Tryd.prog p.1 p.2 := vcons v28 (vcons v31 L3_all)
theorem L4_ok : ∀ f S, spL L4 f = some S → Valid Tryd.prog f S := spL_ok L4_all
def eqT (x : TN × TN) : Bool := decide (x.1 = x.2)
abbrev lp12 (l m : List ON) (b : Bool) : Nat → Option LoopSp := fun _ => some { X := Nat, sl := fun k => [(2, .one (.ptr 0 0)), (3, .one (.ptr 1 0)), (5, .one (vi k))], h := fun k => [(0, .blk [.rd shO l, .val (.bool b)] 32), (1, .blk [.rd shO m, .val (.bool b)] 32)], nx := 2, inv := fun k => k ≤ l.length ∧ l.take k = m.take k ∧ l.length = m.length, mu := fun k => l.length - k }
theorem v12 : Valid Tryd.prog 12 (.tot (tS [pT, pT] [pB] eqT)) := by
  refine tS_ok mixed Tbl_ok L4_ok Tryd.func12 call12 rfl rfl rfl ?_
  rintro ⟨⟨(l : List ON), (b : Bool)⟩, ⟨(m : List ON), (c : Bool)⟩⟩ hr z hz
  refine ⟨lp12 l m b, ?_⟩
  refine Eq.mp (by kernel_rfl : (((!b == c || (↑l.length : Int) != (↑m.length : Int)) = true → false = z ∧ True) ∧ ((!b == c || (↑l.length : Int) != (↑m.length : Int)) = false → (∃ (x : Nat), (x ≤ l.length ∧ List.take x l = List.take x m ∧ l.length = m.length) ∧ (0 : Int) = (↑x : Int) ∧ l ≍ l ∧ b = b ∧ m ≍ m ∧ c = b ∧ True) ∧ ∀ (x : Nat), x ≤ l.length ∧ List.take x l = List.take x m ∧ l.length = m.length → (decide ((↑x : Int) < (↑l.length : Int)) = true → ((0 : Int) ≤ (↑x : Int) ∧ (↑x : Int) < (↑l.length : Int)) ∧ ∀ (y : Int × Int × Int), l[(↑x : Int).toNat]? = some y → ((0 : Int) ≤ (↑x : Int) ∧ (↑x : Int) < (↑m.length : Int)) ∧ ∀ (y_1 : Int × Int × Int), m[(↑x : Int).toNat]? = some y_1 → ((!(y.fst == y_1.fst && (y.snd.fst == y_1.snd.fst && y.snd.snd == y_1.snd.snd))) = true → false = z ∧ True) ∧ ((!(y.fst == y_1.fst && (y.snd.fst == y_1.snd.fst && y.snd.snd == y_1.snd.snd))) = false → ((-9223372036854775808 : Int) ≤ (↑x : Int) + (1 : Int) ∧ (↑x : Int) + (1 : Int) ≤ (9223372036854775807 : Int)) ∧ ∃ (y : Nat), (y ≤ l.length ∧ List.take y l = List.take y m ∧ l.length = m.length) ∧ l.length - y < l.length - x ∧ (↑x : Int) + (1 : Int) = (↑y : Int) ∧ l ≍ l ∧ b = b ∧ m ≍ m ∧ b = b ∧ True)) ∧ (decide ((↑x : Int) < (↑l.length : Int)) = false → true = z ∧ True))) = _) ?_
  have hz : eqT ((l, b), (m, c)) = z := hz
  subst hz
  have hm : l.length ≤ maxLen := hr.1.1.1
  have hmx : (maxLen : Int) ≤ 9223372036854775807 := by decide
  refine ⟨fun h => ⟨?_, trivial⟩, fun h => ?_⟩
  · symm
    rw [eqT, decide_eq_false_iff_not]
    intro e
    cases e
    cases b <;> simp at h
  have hb : b = c ∧ l.length = m.length := by
    simp only [Bool.or_eq_false_iff, bne_eq_false_iff_eq] at h
    refine ⟨?_, by omega⟩
    have h1 := h.1
    revert h1
    cases b <;> cases c <;> simp
  obtain ⟨rfl, hl⟩ := hb
  refine ⟨⟨0, ⟨Nat.zero_le _, by simp, hl⟩, rfl, HEq.rfl, rfl, HEq.rfl, rfl, trivial⟩, fun x ⟨h1, h2, _⟩ => ⟨fun h3 => ⟨by simp at h3; omega, fun y hy => ⟨by simp at h3; omega, fun y2 hy2 => ?_⟩⟩, fun h3 => ⟨?_, trivial⟩⟩⟩
  · rw [Int.toNat_natCast] at hy hy2
    have h3 : x < l.length := by simpa using h3
    have e : (y.fst == y2.fst && (y.snd.fst == y2.snd.fst && y.snd.snd == y2.snd.snd)) = decide (y = y2) := by
      obtain ⟨y1, y2, y3⟩ := y
      rw [Bool.eq_iff_iff]
      simp [Prod.ext_iff]
    rw [e]
    refine ⟨fun h => ⟨?_, trivial⟩, fun h => ⟨by omega, x + 1, ⟨h3, ?_, hl⟩, by omega, by simp, HEq.rfl, rfl, HEq.rfl, rfl, trivial⟩⟩
    · symm
      rw [eqT, decide_eq_false_iff_not]
      intro e2
      cases e2
      rw [hy] at hy2
      cases hy2
      simp at h
    · have : y = y2 := by simpa using h
      rw [List.take_add_one, List.take_add_one, h2, hy, hy2, this]
  · have h3 : x = l.length := by simp at h3; omega
    subst h3
    rw [List.take_length, hl, List.take_length] at h2
    rw [eqT, h2]
    simp
abbrev L5 : List (Nat × Spec) := (12, .tot (tS [pT, pT] [pB] eqT)) :: L4
theorem L5_all : ∀ p ∈ L5, Valid Tryd.prog p.1 p.2 := vcons v12 L4_all
theorem L5_ok : ∀ f S, spL L5 f = some S → Valid Tryd.prog f S := spL_ok L5_all
end Go.Proofs.YtljbcclpmlkpnaaDoor.V
