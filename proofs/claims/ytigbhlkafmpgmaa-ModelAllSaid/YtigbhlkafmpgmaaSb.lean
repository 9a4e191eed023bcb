import Derived.KernelRfl
import Derived.Test.YtigbhlkafmpgmaaSa
namespace Go.Proofs.Ytigbhlkafmpgmaa.V
open Go.RowKit Go.Proofs.Ytigbhlkafmpgmaa
set_option linter.unusedSimpArgs false
abbrev L1 : List (Nat × Spec) := [(9, .pre (gS [pUs, pI, pT] [pUs, pUs, pI] (fun x => allT x.1 x.2.1 x.2.2)))]
theorem L1_all : ∀ p ∈ L1, Valid Try.prog p.1 p.2 := vcons v9 vnil
theorem L1_ok : ∀ f S, spL L1 f = some S → Valid Try.prog f S := spL_ok L1_all
theorem v20 : Valid Try.prog 20 (.pre (rS [pUs] [pUs] (fun l => List.length l ≤ 1000000) (fun l y => y = l))) := by
  refine rS_ok mixed Tbl_ok L1_ok Try.func20 call20 rfl ?_
  intro (l : List Int) hr hp
  refine ⟨noLoop, ?_⟩
  refine Eq.mp (by kernel_rfl : ((l = ([] : List Int) → ∃ (y : Tup (pUs :: ([] : List PS))), y = l ∧ y = ([] : List Int) ∧ True) ∧ (([] : List Int).length + l.length) * (8 : Nat) ≤ (140737488355328 : Nat) ∧ ∃ (y : Tup (pUs :: ([] : List PS))), y = l ∧ ([] : List Int) ++ l ≍ y ∧ True) = _) ?_
  have hp : l.length ≤ 1000000 := hp
  exact ⟨fun h => ⟨l, rfl, h, trivial⟩, by simp; omega, l, rfl, HEq.rfl, trivial⟩
abbrev lpW (x y : List Int) : Nat → Option LoopSp := fun _ => some { X := Nat, sl := fun k => [(0, .one (.rd shU x)), (1, .one (.rd shU y)), (5, .one (vi k))], h := fun _ => [], nx := 0, inv := fun k => k ≤ x.length ∧ x.take k = y.take k, mu := fun k => x.length - k }
theorem v12 : Valid Try.prog 12 (.tot (tS [pUs, pUs] [pB] fun x => eqB x.1 x.2)) := by
  refine tS_ok mixed Tbl_ok L1_ok Try.func12 call12 rfl rfl rfl ?_
  rintro ⟨a, b⟩ hr z rfl
  refine ⟨lpW a b, ?_⟩
  refine Eq.mp (by kernel_rfl : ((((↑(List.length a) : Int) != (↑(List.length b) : Int)) = true → false = eqB a b ∧ True) ∧ (((↑(List.length a) : Int) != (↑(List.length b) : Int)) = false → (∃ (x : Nat), (x ≤ List.length a ∧ List.take x a = List.take x b) ∧ a ≍ a ∧ b ≍ b ∧ (0 : Int) = (↑x : Int) ∧ True) ∧ ∀ (x : Nat), x ≤ List.length a ∧ List.take x a = List.take x b → (decide ((↑x : Int) < (↑(List.length a) : Int)) = true → ((0 : Int) ≤ (↑x : Int) ∧ (↑x : Int) < (↑(List.length a) : Int)) ∧ ∀ (y : Int), a[(↑x : Int).toNat]? = some y → ((0 : Int) ≤ (↑x : Int) ∧ (↑x : Int) < (↑(List.length b) : Int)) ∧ ∀ (y_1 : Int), b[(↑x : Int).toNat]? = some y_1 → ((y != y_1) = true → false = eqB a b ∧ True) ∧ ((y != y_1) = false → ((-9223372036854775808 : Int) ≤ (↑x : Int) + (1 : Int) ∧ (↑x : Int) + (1 : Int) ≤ (9223372036854775807 : Int)) ∧ ∃ (y : Nat), (y ≤ List.length a ∧ List.take y a = List.take y b) ∧ List.length a - y < List.length a - x ∧ a ≍ a ∧ b ≍ b ∧ (↑x : Int) + (1 : Int) = (↑y : Int) ∧ True)) ∧ (decide ((↑x : Int) < (↑(List.length a) : Int)) = false → true = eqB a b ∧ True))) = _) ?_
  have ha : List.length a ≤ 9223372036854775807 := Nat.le_trans hr.1.1 (by unfold maxLen; omega)
  refine ⟨fun h => ⟨(eqB_false.2 (by rintro rfl; simp at h)).symm, trivial⟩, fun h => ⟨⟨0, ⟨by omega, by simp⟩, HEq.rfl, HEq.rfl, rfl, trivial⟩, fun k hk => ⟨fun h1 => ?_, fun h1 => ?_⟩⟩⟩
  · have h : List.length a = List.length b := by
      simp only [bne_eq_false_iff_eq] at h
      exact Int.ofNat.inj h
    simp only [decide_eq_true_eq] at h1
    refine ⟨by omega, fun y hy => ⟨by omega, fun z hz => ⟨fun hne => ⟨(eqB_false.2 ?_).symm, trivial⟩, fun he => ⟨by omega, k + 1, ⟨by omega, take_succ_eq hk.2 ?_⟩, by omega, HEq.rfl, HEq.rfl, rfl, trivial⟩⟩⟩⟩
    · rintro rfl
      rw [hy] at hz
      cases hz
      simp at hne
    · rw [Int.toNat_natCast] at hy hz
      rw [hy, hz]
      have : y = z := by simpa using he
      rw [this]
  · have h : List.length a = List.length b := by
      simp only [bne_eq_false_iff_eq] at h
      exact Int.ofNat.inj h
    simp only [decide_eq_false_iff_not] at h1
    exact ⟨(eqB_true.2 (take_all_eq hk.2 (by omega) (by omega))).symm, trivial⟩
theorem good_eq (k w v : Int) : (decide (k < 1) || decide (k > 4) || decide (v ≥ 2147483648) || k == 1 && v != 0 || k == 4 && v == 0) = !goodO ⟨k, w, v⟩ := by
  rw [Bool.eq_iff_iff]
  simp only [goodO, Bool.or_eq_true, Bool.and_eq_true, decide_eq_true_eq, beq_iff_eq, bne_iff_ne, Bool.not_eq_true', decide_eq_false_iff_not, ne_eq]
  by_cases h1 : k = 1
  · subst h1; omega
  · by_cases h4 : k = 4
    · subst h4; omega
    · omega
abbrev lp21 (ops : List ON) (ab : Bool) : Nat → Option LoopSp := fun _ => some { X := Nat, sl := fun k => [(1, .one (.ptr 0 0)), (3, .one (vi k))], h := fun _ => [(0, .blk [.rd shO ops, .val (.bool ab)] 25)], nx := 1, inv := fun k => k ≤ ops.length ∧ ((ops.take k).map toOp).all goodO = true, mu := fun k => ops.length - k }
theorem v21 : Valid Try.prog 21 (.tot (tS [pT] [pB] fun x => goodT (x.1.map toOp))) := by
  refine tS_ok mixed Tbl_ok L1_ok Try.func21 call21 rfl rfl rfl ?_
  rintro ⟨(ops : List ON), (ab : Bool)⟩ hr z hz
  refine ⟨lp21 ops ab, ?_⟩
  refine Eq.mp (by kernel_rfl : ((decide ((↑ops.length : Int) > (16 : Int)) = true → false = z ∧ True) ∧ (decide ((↑ops.length : Int) > (16 : Int)) = false → (∃ (x : Nat), (x ≤ ops.length ∧ (List.map toOp (List.take x ops)).all goodO = true) ∧ (0 : Int) = (↑x : Int) ∧ ops ≍ ops ∧ ab = ab ∧ True) ∧ ∀ (x : Nat), x ≤ ops.length ∧ (List.map toOp (List.take x ops)).all goodO = true → (decide ((↑x : Int) < (↑ops.length : Int)) = true → ((0 : Int) ≤ (↑x : Int) ∧ (↑x : Int) < (↑ops.length : Int)) ∧ ∀ (y : Int × Int × Int), ops[(↑x : Int).toNat]? = some y → ((decide (y.fst < (1 : Int)) || decide (y.fst > (4 : Int)) || decide (y.snd.snd ≥ (2147483648 : Int)) || y.fst == (1 : Int) && y.snd.snd != (0 : Int) || y.fst == (4 : Int) && y.snd.snd == (0 : Int)) = true → false = z ∧ True) ∧ ((decide (y.fst < (1 : Int)) || decide (y.fst > (4 : Int)) || decide (y.snd.snd ≥ (2147483648 : Int)) || y.fst == (1 : Int) && y.snd.snd != (0 : Int) || y.fst == (4 : Int) && y.snd.snd == (0 : Int)) = false → ((-9223372036854775808 : Int) ≤ (↑x : Int) + (1 : Int) ∧ (↑x : Int) + (1 : Int) ≤ (9223372036854775807 : Int)) ∧ ∃ (y : Nat), (y ≤ ops.length ∧ (List.map toOp (List.take y ops)).all goodO = true) ∧ ops.length - y < ops.length - x ∧ (↑x : Int) + (1 : Int) = (↑y : Int) ∧ ops ≍ ops ∧ ab = ab ∧ True)) ∧ (decide ((↑x : Int) < (↑ops.length : Int)) = false → true = z ∧ True))) = _) ?_
  subst hz
  have hl : ops.length ≤ maxLen := hr.1.1
  unfold maxLen at hl
  refine ⟨fun h => ⟨?_, trivial⟩, fun h => ⟨⟨0, ⟨by omega, by simp⟩, rfl, HEq.rfl, rfl, trivial⟩, fun k hk => ⟨fun h1 => ⟨by simp at h1; omega, fun o ho => ?_⟩, fun h1 => ⟨?_, trivial⟩⟩⟩⟩
  · simp only [decide_eq_true_eq] at h
    have : decide ((ops.map toOp).length ≤ 16) = false := decide_eq_false (by simp; omega)
    simp only [goodT, this, Bool.and_false]
  · simp only [decide_eq_true_eq] at h1
    rw [Int.toNat_natCast] at ho
    have hc := good_eq o.1 o.2.1 o.2.2
    rw [show (decide (o.fst < 1) || decide (o.fst > 4) || decide (o.snd.snd ≥ 2147483648) || o.fst == 1 && o.snd.snd != 0 || o.fst == 4 && o.snd.snd == 0) = !goodO (toOp o) from hc]
    refine ⟨fun h2 => ⟨?_, trivial⟩, fun h2 => ⟨by omega, k + 1, ⟨by omega, ?_⟩, by omega, by simp, HEq.rfl, rfl, trivial⟩⟩
    · have : (ops.map toOp).all goodO = false := by
        rw [List.all_eq_false]
        exact ⟨toOp o, List.mem_map.2 ⟨o, List.mem_of_getElem? ho, rfl⟩, by simpa using h2⟩
      simp only [goodT, this, Bool.false_and]
    · rw [List.take_add_one, ho, List.map_append, List.all_append, hk.2]
      simpa using h2
  · simp only [decide_eq_false_iff_not] at h h1
    have h3 := hk.2
    rw [List.take_of_length_le (by omega)] at h3
    have : decide ((ops.map toOp).length ≤ 16) = true := decide_eq_true (by simp; omega)
    simp only [goodT, h3, this, Bool.and_self]
theorem v14 : Valid Try.prog 14 (.tot (tS [pTs] [pB] fun l => (List.all l fun t : TN => decide (t.1.length ≤ 30)) && decide (List.length l ≤ 12))) := by
  refine tS_ok mixed Tbl_ok L1_ok Try.func14 call14 rfl rfl rfl ?_
  intro (l : List TN) hr z hz
  refine ⟨fun _ => some { X := Nat, sl := fun k => [(0, .one (.rd shT l)), (3, .one (vi k))], h := fun k => [], nx := 0, inv := fun k => k ≤ l.length ∧ (l.take k).all (fun t : TN => decide (t.1.length ≤ 30)) = true, mu := fun k => l.length - k }, ?_⟩
  refine Eq.mp (by kernel_rfl : ((∃ (x : Nat), (x ≤ l.length ∧ ((List.take x l).all fun (t : TN) => decide (t.fst.length ≤ (30 : Nat))) = true) ∧ l ≍ l ∧ (0 : Int) = (↑x : Int) ∧ True) ∧ ∀ (x : Nat), x ≤ l.length ∧ ((List.take x l).all fun (t : TN) => decide (t.fst.length ≤ (30 : Nat))) = true → (decide ((↑x : Int) < (↑l.length : Int)) = true → ((0 : Int) ≤ (↑x : Int) ∧ (↑x : Int) < (↑l.length : Int)) ∧ ∀ (y : List (Int × Int × Int) × Bool), l[(↑x : Int).toNat]? = some y → (decide ((↑y.fst.length : Int) > (30 : Int)) = true → false = z ∧ True) ∧ (decide ((↑y.fst.length : Int) > (30 : Int)) = false → ((-9223372036854775808 : Int) ≤ (↑x : Int) + (1 : Int) ∧ (↑x : Int) + (1 : Int) ≤ (9223372036854775807 : Int)) ∧ ∃ (y : Nat), (y ≤ l.length ∧ ((List.take y l).all fun (t : TN) => decide (t.fst.length ≤ (30 : Nat))) = true) ∧ l.length - y < l.length - x ∧ l ≍ l ∧ (↑x : Int) + (1 : Int) = (↑y : Int) ∧ True)) ∧ (decide ((↑x : Int) < (↑l.length : Int)) = false → decide ((↑l.length : Int) ≤ (12 : Int)) = z ∧ True)) = _) ?_
  subst hz
  have hl : l.length ≤ maxLen := hr.1
  unfold maxLen at hl
  refine ⟨⟨0, ⟨by omega, by simp⟩, HEq.rfl, rfl, trivial⟩, fun k hk => ⟨fun h1 => ?_, fun h1 => ?_⟩⟩
  · simp only [decide_eq_true_eq] at h1
    refine ⟨by omega, fun s hs => ?_⟩
    rw [Int.toNat_natCast] at hs
    refine ⟨fun h2 => ⟨?_, trivial⟩, fun h2 => ⟨by omega, k + 1, ⟨by omega, ?_⟩, by omega, HEq.rfl, by simp, trivial⟩⟩
    · have : l.all (fun t : TN => decide (t.1.length ≤ 30)) = false := by
        rw [List.all_eq_false]
        refine ⟨s, List.mem_of_getElem? hs, ?_⟩
        simp only [decide_eq_true_eq] at h2 ⊢
        omega
      rw [this]; rfl
    · simp only [decide_eq_false_iff_not] at h2
      rw [List.take_add_one, hs, List.all_append, hk.2]
      simp; omega
  · simp only [decide_eq_false_iff_not] at h1
    have hf := hk.2
    rw [List.take_of_length_le (by omega)] at hf
    refine ⟨?_, trivial⟩
    rw [hf, Bool.eq_iff_iff]
    simp
    omega
abbrev lp10 (l : List TN) : Nat → Option LoopSp := fun _ => some { X := Nat, sl := fun k => [(0, .one (.rd shT l)), (3, .one (.sl 0)), (4, .one (vi k))], h := fun k => [(0, .own 25 shT (l.take k))], nx := 1, inv := fun k => k ≤ l.length, mu := fun k => l.length - k }
theorem v10 : Valid Try.prog 10 (.pre (rS [pTs] [pTs] (fun l => List.length l ≤ 1000 ∧ ∀ t ∈ l, List.length t.1 ≤ 1000) (fun l y => y = l))) := by
  refine rS_ok mixed Tbl_ok L1_ok Try.func10 call10 rfl ?_
  intro (l : List TN) hr hp
  refine ⟨lp10 l, ?_⟩
  refine Eq.mp (by kernel_rfl : ((∃ (x : Nat), x ≤ l.length ∧ l ≍ l ∧ (0 : Int) = (↑x : Int) ∧ List.take x l = ([] : List (List (Int × Int × Int) × Bool)) ∧ True) ∧ ∀ (x : Nat), x ≤ l.length → (decide ((↑x : Int) < (↑l.length : Int)) = true → ((0 : Int) ≤ (↑x : Int) ∧ (↑x : Int) < (↑l.length : Int)) ∧ ∀ (y : List (Int × Int × Int) × Bool), l[(↑x : Int).toNat]? = some y → ((0 : Int) ≤ (↑x : Int) ∧ (↑x : Int) < (↑l.length : Int)) ∧ ∀ (y_1 : List (Int × Int × Int) × Bool), l[(↑x : Int).toNat]? = some y_1 → (([] : List (Int × Int × Int)).length + y.fst.length) * (24 : Nat) ≤ (140737488355328 : Nat) ∧ ((List.take x l).length + ((([] : List (Int × Int × Int)) ++ y.fst, y_1.snd) :: ([] : List (List (Int × Int × Int) × Bool))).length) * (32 : Nat) ≤ (140737488355328 : Nat) ∧ ((-9223372036854775808 : Int) ≤ (↑x : Int) + (1 : Int) ∧ (↑x : Int) + (1 : Int) ≤ (9223372036854775807 : Int)) ∧ ∃ (y_2 : Nat), y_2 ≤ l.length ∧ l.length - y_2 < l.length - x ∧ l ≍ l ∧ (↑x : Int) + (1 : Int) = (↑y_2 : Int) ∧ List.take x l ++ (([] : List (Int × Int × Int)) ++ y.fst, y_1.snd) :: ([] : List (List (Int × Int × Int) × Bool)) ≍ List.take y_2 l ∧ True) ∧ (decide ((↑x : Int) < (↑l.length : Int)) = false → ∃ (y : Tup (pTs :: ([] : List PS))), y = l ∧ List.take x l ≍ y ∧ True)) = _) ?_
  obtain ⟨p1, p2⟩ := hp
  refine ⟨⟨0, by omega, HEq.rfl, rfl, by simp, trivial⟩, fun k hk => ⟨fun h1 => ?_, fun h1 => ?_⟩⟩
  · simp only [decide_eq_true_eq] at h1
    refine ⟨by omega, fun t ht => ⟨by omega, fun t2 ht2 => ?_⟩⟩
    rw [ht] at ht2
    cases ht2
    rw [Int.toNat_natCast] at ht
    have := p2 t (List.mem_of_getElem? ht)
    refine ⟨by simp; omega, by simp; omega, by omega, k + 1, by omega, by omega, HEq.rfl, by simp, heq_of_eq ?_, trivial⟩
    rw [List.take_add_one, ht]
    simp
  · simp only [decide_eq_false_iff_not] at h1
    rw [List.take_of_length_le (by omega)]
    exact ⟨l, rfl, HEq.rfl, trivial⟩
end Go.Proofs.Ytigbhlkafmpgmaa.V
