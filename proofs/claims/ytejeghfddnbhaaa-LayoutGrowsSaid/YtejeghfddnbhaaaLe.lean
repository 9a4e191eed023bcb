import Derived.KernelRfl
import Derived.Test.YtejeghfddnbhaaaLd
namespace Go.Proofs.Ytejeghfddnbhaaa.V
open Go.RowKit Go.Proofs.Ytejeghfddnbhaaa
set_option linter.unusedSimpArgs false
abbrev L6 : List (Nat × Spec) := (24, .pre (rS [pH, pLs] [pUs] (fun x => List.length x.2 ≤ 100000) (fun x y => y = mapF x.1 x.2))) :: (25, .pre (rS [pH, pLs] [pUs] (fun x => List.length x.2 ≤ 100000) (fun x y => y = mapF x.1 x.2))) :: inl1 27 Try.f27 L5 :: inl1 28 Try.f28 L5 :: L5
theorem L6_all : ∀ p ∈ L6, Valid Try.prog p.1 p.2 := vcons v24 (vcons v25 (vcons (valid_inl mixed Tbl_ok L5_ok Try.func27 call27 noLp) (vcons (valid_inl mixed Tbl_ok L5_ok Try.func28 call28 noLp) L5_all)))
theorem L6_ok : ∀ f S, spL L6 f = some S → Valid Try.prog f S := spL_ok L6_all
abbrev lpW (x y : List Int) : Nat → Option LoopSp := fun _ => some { X := Nat, sl := fun k => [(0, .one (.rd shU x)), (1, .one (.rd shU y)), (5, .one (vi k))], h := fun _ => [], nx := 0, inv := fun k => k ≤ x.length ∧ x.take k = y.take k, mu := fun k => x.length - k }
theorem v23 : Valid Try.prog 23 (.tot (tS [pUs, pUs] [pB] fun x => eqB x.1 x.2)) := by
  refine tS_ok mixed Tbl_ok L6_ok Try.func23 call23 rfl rfl rfl ?_
  rintro ⟨a, b⟩ hr z rfl
  refine ⟨lpW a b, ?_⟩
  refine Eq.mp (by kernel_rfl : ((((↑(List.length a) : Int) != (↑(List.length b) : Int)) = true → false = eqB a b ∧ True) ∧ (((↑(List.length a) : Int) != (↑(List.length b) : Int)) = false → (∃ (x : Nat), (x ≤ List.length a ∧ List.take x a = List.take x b) ∧ a ≍ a ∧ b ≍ b ∧ (0 : Int) = (↑x : Int) ∧ True) ∧ ∀ (x : Nat), x ≤ List.length a ∧ List.take x a = List.take x b → (decide ((↑x : Int) < (↑(List.length a) : Int)) = true → ((0 : Int) ≤ (↑x : Int) ∧ (↑x : Int) < (↑(List.length a) : Int)) ∧ ∀ (y : Int), a[(↑x : Int).toNat]? = some y → ((0 : Int) ≤ (↑x : Int) ∧ (↑x : Int) < (↑(List.length b) : Int)) ∧ ∀ (y_1 : Int), b[(↑x : Int).toNat]? = some y_1 → ((y != y_1) = true → false = eqB a b ∧ True) ∧ ((y != y_1) = false → ((-9223372036854775808 : Int) ≤ (↑x : Int) + (1 : Int) ∧ (↑x : Int) + (1 : Int) ≤ (9223372036854775807 : Int)) ∧ ∃ (y : Nat), (y ≤ List.length a ∧ List.take y a = List.take y b) ∧ List.length a - y < List.length a - x ∧ a ≍ a ∧ b ≍ b ∧ (↑x : Int) + (1 : Int) = (↑y : Int) ∧ True)) ∧ (decide ((↑x : Int) < (↑(List.length a) : Int)) = false → true = eqB a b ∧ True))) = _) ?_
  have ha : List.length a ≤ 9223372036854775807 := Nat.le_trans hr.1.1 (by unfold maxLen; omega)
  refine ⟨fun h => ⟨(eqB_false.2 (by rintro rfl; simp at h)).symm, trivial⟩, fun h => ⟨⟨0, ⟨by omega, by simp⟩, HEq.rfl, HEq.rfl, rfl, trivial⟩, fun k hk => ⟨fun h1 => ?_, fun h1 => ?_⟩⟩⟩
  · have h : List.length a = List.length b := by
      simp only [bne_eq_false_iff_eq] at h
      exact Int.ofNat.inj h
    simp only [decide_eq_true_eq] at h1
    refine ⟨by omega, fun y hy => ⟨by omega, fun z hz => ⟨fun hne => ⟨(eqB_false.2 ?_).symm, trivial⟩, fun he => ⟨by omega, k + 1, ⟨by omega, take_succ_eq hk.2 ?_⟩, by omega, HEq.rfl, HEq.rfl, rfl, trivial⟩⟩⟩⟩
    · rintro rfl
      rw [hy] at hz
      cases hz
      simp at hne
    · rw [Int.toNat_natCast] at hy hz
      rw [hy, hz]
      have : y = z := by simpa using he
      rw [this]
  · have h : List.length a = List.length b := by
      simp only [bne_eq_false_iff_eq] at h
      exact Int.ofNat.inj h
    simp only [decide_eq_false_iff_not] at h1
    exact ⟨(eqB_true.2 (take_all_eq hk.2 (by omega) (by omega))).symm, trivial⟩
abbrev lpX (x y : List LN) : Nat → Option LoopSp := fun _ => some { X := Nat, sl := fun k => [(0, .one (.rd shW x)), (1, .one (.rd shW y)), (5, .one (vi k))], h := fun _ => [], nx := 0, inv := fun k => k ≤ x.length ∧ x.take k = y.take k, mu := fun k => x.length - k }
theorem v26 : Valid Try.prog 26 (.tot (tS [pLs, pLs] [pB] fun x => eqB x.1 x.2)) := by
  refine tS_ok mixed Tbl_ok L6_ok Try.func26 call26 rfl rfl rfl ?_
  rintro ⟨a, b⟩ hr z rfl
  refine ⟨lpX a b, ?_⟩
  refine Eq.mp (by kernel_rfl : ((((↑(List.length a) : Int) != (↑(List.length b) : Int)) = true → false = eqB a b ∧ True) ∧ (((↑(List.length a) : Int) != (↑(List.length b) : Int)) = false → (∃ (x : Nat), (x ≤ List.length a ∧ List.take x a = List.take x b) ∧ a ≍ a ∧ b ≍ b ∧ (0 : Int) = (↑x : Int) ∧ True) ∧ ∀ (x : Nat), x ≤ List.length a ∧ List.take x a = List.take x b → (decide ((↑x : Int) < (↑(List.length a) : Int)) = true → ((0 : Int) ≤ (↑x : Int) ∧ (↑x : Int) < (↑(List.length a) : Int)) ∧ ∀ (y : List Int), a[(↑x : Int).toNat]? = some y → ((0 : Int) ≤ (↑x : Int) ∧ (↑x : Int) < (↑(List.length b) : Int)) ∧ ∀ (y_1 : List Int), b[(↑x : Int).toNat]? = some y_1 → ((!y == y_1) = true → false = eqB a b ∧ True) ∧ ((!y == y_1) = false → ((-9223372036854775808 : Int) ≤ (↑x : Int) + (1 : Int) ∧ (↑x : Int) + (1 : Int) ≤ (9223372036854775807 : Int)) ∧ ∃ (y : Nat), (y ≤ List.length a ∧ List.take y a = List.take y b) ∧ List.length a - y < List.length a - x ∧ a ≍ a ∧ b ≍ b ∧ (↑x : Int) + (1 : Int) = (↑y : Int) ∧ True)) ∧ (decide ((↑x : Int) < (↑(List.length a) : Int)) = false → true = eqB a b ∧ True))) = _) ?_
  have ha : List.length a ≤ 9223372036854775807 := Nat.le_trans hr.1.1 (by unfold maxLen; omega)
  refine ⟨fun h => ⟨(eqB_false.2 (by rintro rfl; simp at h)).symm, trivial⟩, fun h => ⟨⟨0, ⟨by omega, by simp⟩, HEq.rfl, HEq.rfl, rfl, trivial⟩, fun k hk => ⟨fun h1 => ?_, fun h1 => ?_⟩⟩⟩
  · have h : List.length a = List.length b := by
      simp only [bne_eq_false_iff_eq] at h
      exact Int.ofNat.inj h
    simp only [decide_eq_true_eq] at h1
    refine ⟨by omega, fun y hy => ⟨by omega, fun z hz => ⟨fun hne => ⟨(eqB_false.2 ?_).symm, trivial⟩, fun he => ⟨by omega, k + 1, ⟨by omega, take_succ_eq hk.2 ?_⟩, by omega, HEq.rfl, HEq.rfl, rfl, trivial⟩⟩⟩⟩
    · rintro rfl
      rw [hy] at hz
      cases hz
      simp at hne
    · rw [Int.toNat_natCast] at hy hz
      rw [hy, hz]
      have : y = z := by simpa using he
      rw [this]
  · have h : List.length a = List.length b := by
      simp only [bne_eq_false_iff_eq] at h
      exact Int.ofNat.inj h
    simp only [decide_eq_false_iff_not] at h1
    exact ⟨(eqB_true.2 (take_all_eq hk.2 (by omega) (by omega))).symm, trivial⟩
noncomputable abbrev L7 : List (Nat × Spec) := (23, .tot (tS [pUs, pUs] [pB] fun x => eqB x.1 x.2)) :: (26, .tot (tS [pLs, pLs] [pB] fun x => eqB x.1 x.2)) :: L6
theorem L7_all : ∀ p ∈ L7, Valid Try.prog p.1 p.2 := vcons v23 (vcons v26 L6_all)
theorem L7_ok : ∀ f S, spL L7 f = some S → Valid Try.prog f S := spL_ok L7_all
abbrev k7 (X : Type) (sl : X → List (Nat × Vl)) (h : X → List (Nat × Ck)) (nx : Nat) (inv : X → Prop) (kp : List Nat) : Option LoopSp := some { X := X, sl := sl, h := h, nx := nx, inv := inv, mu := fun _ => 0, cut := true, kp := kp }
abbrev lp20 : Nat → Option LoopSp := fun r => match r with
  | 3 => k7 Unit (fun _ => [(1, .one (.ptr 0 0)), (2, .one (.rd shU [1, 2, 3, 4, 5, 6, 7, 8]))]) (fun _ => bxH ((2, 5, 1, 1, 2, 2, 2), 2, 1)) 1 (fun _ => True) []
  | _ => none
theorem v20 : Valid Try.prog 20 (.tot (tS [] [pB] fun _ => true)) := by
  refine tS_ok mixed Tbl_ok L7_ok Try.func20 call20 rfl rfl rfl ?_
  rintro _ hr z rfl
  refine ⟨lp20, ?_⟩
  refine Eq.mp (by kernel_rfl : ((∃ (y : Unit), True ∧ (1 : Int) :: (2 : Int) :: (3 : Int) :: (4 : Int) :: (5 : Int) :: (6 : Int) :: (7 : Int) :: (8 : Int) :: ([] : List Int) ≍ (1 : Int) :: (2 : Int) :: (3 : Int) :: (4 : Int) :: (5 : Int) :: (6 : Int) :: (7 : Int) :: (8 : Int) :: ([] : List Int) ∧ (2 : Int) = (2 : Int) ∧ (5 : Int) = (5 : Int) ∧ (1 : Int) = (1 : Int) ∧ (1 : Int) = (1 : Int) ∧ (2 : Int) = (2 : Int) ∧ (2 : Int) = (2 : Int) ∧ (2 : Int) = (2 : Int) ∧ (2 : Int) = (2 : Int) ∧ (1 : Int) = (1 : Int) ∧ True) ∧ ∀ (x : Unit), True → ((1 : Int) :: (2 : Int) :: (3 : Int) :: (4 : Int) :: (5 : Int) :: (6 : Int) :: (7 : Int) :: (8 : Int) :: ([] : List Int)).length ≤ (100000 : Nat) ∧ ∀ (y : Tup (pLs :: pI :: ([] : List PS))), y = imageF (((2 : Int), (5 : Int), (1 : Int), (1 : Int), (2 : Int), (2 : Int), (2 : Int)), (2 : Int), (1 : Int)) ((1 : Int) :: (2 : Int) :: (3 : Int) :: (4 : Int) :: (5 : Int) :: (6 : Int) :: (7 : Int) :: (8 : Int) :: ([] : List Int)) → ((y.snd == (0 : Int) && (↑y.fst.length : Int) == (5 : Int)) = true → ((0 : Int) ≤ (4 : Int) ∧ (4 : Int) < (↑y.fst.length : Int)) ∧ ∀ (y_1 : List Int), y.fst[Int.toNat (4 : Int)]? = some y_1 → ((y_1.getD (nat_lit 2) (0 : Int) == (3 : Int)) = true → y.fst.length ≤ (100000 : Nat) ∧ ∀ (y_2 : Tup (pUs :: ([] : List PS))), y_2 = mapF (((2 : Int), (5 : Int), (1 : Int), (1 : Int), (2 : Int), (2 : Int), (2 : Int)), (2 : Int), (1 : Int)) y.fst → (eqB y_2 ((1 : Int) :: (2 : Int) :: (3 : Int) :: (4 : Int) :: (5 : Int) :: (6 : Int) :: (7 : Int) :: (8 : Int) :: ([] : List Int)) && countF (((2 : Int), (5 : Int), (1 : Int), (1 : Int), (2 : Int), (2 : Int), (2 : Int)), (2 : Int), (1 : Int)) == (64 : Int) && entryF (((2 : Int), (5 : Int), (1 : Int), (1 : Int), (2 : Int), (2 : Int), (2 : Int)), (2 : Int), (1 : Int)) (1 : Int) == (144 : Int) && wordF (((2 : Int), (5 : Int), (1 : Int), (1 : Int), (2 : Int), (2 : Int), (2 : Int)), (2 : Int), (1 : Int)) (1 : Int) == (264 : Int) && roomF (((2 : Int), (5 : Int), (1 : Int), (1 : Int), (2 : Int), (2 : Int), (2 : Int)), (2 : Int), (1 : Int)) == (8 : Int) && wordsF (((2 : Int), (5 : Int), (1 : Int), (1 : Int), (2 : Int), (2 : Int), (2 : Int)), (2 : Int), (1 : Int)) == (8 : Int) && goodP (((2 : Int), (5 : Int), (1 : Int), (1 : Int), (2 : Int), (2 : Int), (2 : Int)), (2 : Int), (1 : Int)) && (0 : Tup (pU :: ([] : List PS))) == (0 : Int)) = true ∧ True) ∧ ((y_1.getD (nat_lit 2) (0 : Int) == (3 : Int)) = false → false = true ∧ True)) ∧ ((y.snd == (0 : Int) && (↑y.fst.length : Int) == (5 : Int)) = false → false = true ∧ True)) = _) ?_
  refine ⟨⟨(), trivial, HEq.rfl, rfl, rfl, rfl, rfl, rfl, rfl, rfl, rfl, rfl, trivial⟩, fun _ _ => ⟨by simp, ?_⟩⟩
  have e : imageF ((2, 5, 1, 1, 2, 2, 2), 2, 1) [1, 2, 3, 4, 5, 6, 7, 8] = ([Z8, Z8, Z8, Z8, [1, 2, 3, 4, 5, 6, 7, 8]], 0) := by decide
  rw [e]
  intro zz0 qq0
  obtain rfl := qq0.symm
  refine ⟨fun _ => ⟨by decide, fun y hy => ⟨fun _ => ⟨by decide, ?_⟩, fun h => ?_⟩⟩, fun h => absurd h (by decide)⟩
  · intro zz0 qq0
    obtain rfl := qq0.symm
    have e2 : mapF ((2, 5, 1, 1, 2, 2, 2), 2, 1) [Z8, Z8, Z8, Z8, [1, 2, 3, 4, 5, 6, 7, 8]] = [1, 2, 3, 4, 5, 6, 7, 8] := by decide
    rw [e2, eqB_self]
    exact ⟨by decide, trivial⟩
  · have hy : [1, 2, 3, 4, 5, 6, 7, 8] = y := Option.some.inj hy
    rw [← hy] at h
    exact absurd h (by decide)
noncomputable abbrev L8 : List (Nat × Spec) := (20, .tot (tS [] [pB] fun _ => true)) :: L7
theorem L8_all : ∀ p ∈ L8, Valid Try.prog p.1 p.2 := vcons v20 L7_all
theorem L8_ok : ∀ f S, spL L8 f = some S → Valid Try.prog f S := spL_ok L8_all
theorem maps_law : ∀ x, rngTup [pH, pLs, pUs] x → ∃ lp, runF Tbl (spL L8) lp 0 Try.f4 (enVs [pH, pLs, pUs] x) ⟨0, []⟩ fun r' st' => fzR st' (mkB true) r' := by
  rintro ⟨⟨⟨(a : Int), (b : Int), (c : Int), (d : Int), (e : Int), (f : Int), (g : Int)⟩, (p : Int), (q : Int)⟩, (l : List LN), (m : List Int)⟩ hr
  refine ⟨noLoop, ?_⟩
  refine Eq.mp (by kernel_rfl : (((decide ((↑l.length : Int) > (100 : Int)) || decide ((↑m.length : Int) > (500 : Int))) = true → true = true ∧ True) ∧ ((decide ((↑l.length : Int) > (100 : Int)) || decide ((↑m.length : Int) > (500 : Int))) = false → (([] : List Int).length + m.length) * (8 : Nat) ≤ (140737488355328 : Nat) ∧ (([] : List Int) ++ m).length ≤ (100000 : Nat) ∧ ∀ (y : Tup (pLs :: pI :: ([] : List PS))), y = imageF ((a, b, c, d, e, f, g), p, q) (([] : List Int) ++ m) → m.length ≤ (100000 : Nat) ∧ ∀ (y_1 : Tup (pLs :: pI :: ([] : List PS))), y_1 = imageF ((a, b, c, d, e, f, g), p, q) m → (([] : List (List Int)).length + l.length) * (64 : Nat) ≤ (140737488355328 : Nat) ∧ (([] : List (List Int)) ++ l).length ≤ (100000 : Nat) ∧ ∀ (y_2 : Tup (pUs :: ([] : List PS))), y_2 = mapF ((a, b, c, d, e, f, g), p, q) (([] : List (List Int)) ++ l) → l.length ≤ (100000 : Nat) ∧ ∀ (y_3 : Tup (pUs :: ([] : List PS))), y_3 = mapF ((a, b, c, d, e, f, g), p, q) l → (eqB y_2 y_3 && eqB y.fst y_1.fst && y.snd == y_1.snd && true) = true ∧ True)) = _) ?_
  refine ⟨fun _ => ⟨rfl, trivial⟩, fun h => ?_⟩
  simp only [Bool.or_eq_false_iff, decide_eq_false_iff_not] at h
  refine ⟨by simp; omega, by simp; omega, ?_⟩
  intro zz0 qq0
  obtain rfl := qq0.symm
  refine ⟨by omega, ?_⟩
  intro zz0 qq0
  obtain rfl := qq0.symm
  refine ⟨by simp; omega, by simp; omega, ?_⟩
  intro zz0 qq0
  obtain rfl := qq0.symm
  refine ⟨by omega, ?_⟩
  intro zz0 qq0
  obtain rfl := qq0.symm
  simp [eqB_self]
end Go.Proofs.Ytejeghfddnbhaaa.V
