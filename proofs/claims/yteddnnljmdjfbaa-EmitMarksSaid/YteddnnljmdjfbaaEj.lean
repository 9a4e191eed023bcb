import Derived.KernelRfl
import Derived.Test.YteddnnljmdjfbaaEi
import Derived.Test.YteddnnljmdjfbaaKitVB
namespace Go.Proofs.Yteddnnljmdjfbaa.V
open Go.RowKit Go.Proofs.Yteddnnljmdjfbaa
set_option linter.unusedSimpArgs false
theorem c21 : CallOk Try.prog 21 := ⟨_, Try.func21, by kernel_rfl, by kernel_rfl⟩
noncomputable abbrev M5 : List (Nat × Spec) := (7, .tot (tS [pSts] [pB] fairF)) :: (8, .tot (tS [] [pB] fun _ => true)) :: inl1 21 Try.f21 M4 :: inl1 9 Try.f9 M4 :: M4
theorem M5_all : ∀ p ∈ M5, Valid Try.prog p.1 p.2 := vcons v7 (vcons v8 (vcons (valid_inl mixed Tbl_ok M4_ok Try.func21 c21 noLp) (vcons (valid_inl mixed Tbl_ok M4_ok Try.func9 c9 noLp) M4_all)))
theorem M5_ok : ∀ f S, spL M5 f = some S → Valid Try.prog f S := spL_ok M5_all
abbrev pSt : PS := (true, shS)
abbrev okR : Rs → St → Prop := fun r' st' => fzR st' (mkB true) r'
theorem encs_code {l : List IN} (h : (encs l).2 = 0) : (encs l).1 = codeF l := by
  unfold encs at h ⊢
  split
  · rename_i hg
    rw [if_pos hg] at h
    split
    · rename_i hl; rw [if_pos hl] at h; cases h
    · simp only [codeF]
      apply List.map_congr_left
      intro i hi
      rw [encF_t (List.all_eq_true.1 hg i hi)]
  · rename_i hg
    rw [if_neg hg] at h; cases h
theorem encs_e {l : List IN} : (encs l).2 ≠ 0 ∨ ((encs l).1 = codeF l) := by
  by_cases h : (encs l).2 = 0
  · exact .inr (encs_code h)
  · exact .inl h
theorem doneB_0 (l : List IN) : doneB false l [] [] = encs l := rfl
theorem mod_in {n L : Int} (h : 0 ≤ n) (hL : 0 ≤ L) : (0 ≤ n.tmod (L + 1) + (L + 1) ∧ n.tmod (L + 1) + (L + 1) ≤ 2 * (L + 1)) ∧ 0 ≤ (n.tmod (L + 1) + (L + 1)).tmod (L + 1) ∧ (n.tmod (L + 1) + (L + 1)).tmod (L + 1) ≤ L := by
  have h1 : n.tmod (L + 1) = n % (L + 1) := Int.tmod_eq_emod_of_nonneg h
  have h2 := Int.emod_nonneg n (b := L + 1) (by omega)
  have h3 := Int.emod_lt_of_pos n (b := L + 1) (by omega)
  rw [h1, Int.tmod_eq_emod_of_nonneg (by omega)]
  have h4 := Int.emod_nonneg (n % (L + 1) + (L + 1)) (b := L + 1) (by omega)
  have h5 := Int.emod_lt_of_pos (n % (L + 1) + (L + 1)) (b := L + 1) (by omega)
  omega
theorem none_law : ∀ x, rngTup [pSt] x → ∃ lp, runF Tbl (spL M5) lp 0 Try.f5 (enVs [pSt] x) ⟨0, []⟩ fun r' st' => fzR st' (mkB true) r' := by
  rintro ⟨(kind : Int), (n : Int), ⟨(op : Int), (a : Int), (b : Int), (c : Int), (m : Int)⟩, (l : List IN)⟩ hr
  refine ⟨noLoop, ?_⟩
  refine Eq.mp (by kernel_rfl : (((!fairF ((kind, n, (op, a, b, c, m), l) :: ([] : List (Int × Int × (Int × Int × Int × Int × Int) × List (Int × Int × Int × Int × Int))))) = true → true = true ∧ True) ∧ ((!fairF ((kind, n, (op, a, b, c, m), l) :: ([] : List (Int × Int × (Int × Int × Int × Int × Int) × List (Int × Int × Int × Int × Int))))) = false → True ∧ (True → True ∧ (True → True ∧ ∀ (x : Int) (x_1 : List Int), x_1 = ([] : List Int) ∧ x = (1 : Int) → True ∧ ∀ (x_2 : Int), x_2 = (-1 : Int) → ((x_2 == (-1 : Int)) = true → True ∧ ∀ (x_3 : Int), x_3 = (0 : Int) → (x_3 == (0 : Int) && (↑x_1.length : Int) == (0 : Int) && x == (1 : Int) && true) = true ∧ True) ∧ ((x_2 == (-1 : Int)) = false → false = true ∧ True))))) = _) ?_
  refine ⟨fun _ => ⟨rfl, trivial⟩, fun _ => ⟨trivial, fun _ => ⟨trivial, fun _ => ⟨trivial, ?_⟩⟩⟩⟩
  rintro _ _ ⟨rfl, rfl⟩
  refine ⟨trivial, ?_⟩
  rintro _ rfl
  exact ⟨fun _ => ⟨trivial, fun _ h => by subst h; exact ⟨rfl, trivial⟩⟩, fun h => absurd h (by decide)⟩
theorem plain_law : ∀ x, rngTup [pNs, pU8] x → ∃ lp, runF Tbl (spL M5) lp 0 Try.f4 (enVs [pNs, pU8] x) ⟨0, []⟩ fun r' st' => fzR st' (mkB true) r' := by
  rintro ⟨(l : List IN), (n : Int)⟩ hr
  refine ⟨noLoop, ?_⟩
  refine Eq.mp (by kernel_rfl : ((decide ((↑l.length : Int) > (200 : Int)) = true → true = true ∧ True) ∧ (decide ((↑l.length : Int) > (200 : Int)) = false → ((-9223372036854775808 : Int) ≤ (↑l.length : Int) + (1 : Int) ∧ (↑l.length : Int) + (1 : Int) ≤ (9223372036854775807 : Int)) ∧ (decide ((↑l.length : Int) + (1 : Int) < (1 : Int)) = true → (([] : List (Int × Int × Int × Int × Int)).length + l.length) * (40 : Nat) ≤ (140737488355328 : Nat) ∧ (([] : List (Int × Int × Int × Int × Int)) ++ l).length * (40 : Nat) ≤ (140737488355328 : Nat) ∧ ((0 : Int) ≤ (0 : Int) ∧ (0 : Int) ≤ (↑l.length : Int)) ∧ (([] : List (Int × Int × Int × Int × Int)).length + (List.take (Int.toNat (0 : Int)) l).length) * (40 : Nat) ≤ (140737488355328 : Nat) ∧ (([] : List (Int × Int × Int × Int × Int)) ++ List.take (Int.toNat (0 : Int)) l).length * (40 : Nat) ≤ (140737488355328 : Nat) ∧ ((0 : Int) ≤ (0 : Int) ∧ (0 : Int) ≤ (↑l.length : Int)) ∧ (([] : List (Int × Int × Int × Int × Int)).length + (List.drop (Int.toNat (0 : Int)) l).length) * (40 : Nat) ≤ (140737488355328 : Nat) ∧ ((([] : List (Int × Int × Int × Int × Int)) ++ List.take (Int.toNat (0 : Int)) l).length + (([] : List (Int × Int × Int × Int × Int)) ++ List.drop (Int.toNat (0 : Int)) l).length) * (40 : Nat) ≤ (140737488355328 : Nat) ∧ ((∀ (j : JN), j ∈ ([] : List (Int × Int)) → ((0 : Int) ≤ j.fst ∧ j.fst < (↑(([] : List (Int × Int × Int × Int × Int)) ++ l).length : Int)) ∧ (0 : Int) ≤ j.snd ∧ j.snd < (↑([] : List Int).length : Int)) ∧ (([] : List (Int × Int × Int × Int × Int)) ++ l).length ≤ (100000 : Nat)) ∧ ∀ (x : Int) (x_1 : Bool) (x_2 : List (Int × Int × Int × Int × Int)) (x_3 : List Int) (x_4 : List (Int × Int)) (x_5 : List Int), (x_5, x) = doneB false (([] : List (Int × Int × Int × Int × Int)) ++ l) ([] : List Int) ([] : List (Int × Int)) ∧ x_1 = false ∧ x_2 = ([] : List (Int × Int × Int × Int × Int)) ++ l ∧ x_3 = ([] : List Int) ∧ x_4 = ([] : List (Int × Int)) → ((∀ (j : JN), j ∈ ([] : List (Int × Int)) → ((0 : Int) ≤ j.fst ∧ j.fst < (↑(([] : List (Int × Int × Int × Int × Int)) ++ List.take (Int.toNat (0 : Int)) l ++ (([] : List (Int × Int × Int × Int × Int)) ++ List.drop (Int.toNat (0 : Int)) l)).length : Int)) ∧ (0 : Int) ≤ j.snd ∧ j.snd < (↑([] : List Int).length : Int)) ∧ (([] : List (Int × Int × Int × Int × Int)) ++ List.take (Int.toNat (0 : Int)) l ++ (([] : List (Int × Int × Int × Int × Int)) ++ List.drop (Int.toNat (0 : Int)) l)).length ≤ (100000 : Nat)) ∧ ∀ (x_6 : Int) (x_7 : Bool) (x_8 : List (Int × Int × Int × Int × Int)) (x_9 : List Int) (x_10 : List (Int × Int)) (x_11 : List Int), (x_11, x_6) = doneB false (([] : List (Int × Int × Int × Int × Int)) ++ List.take (Int.toNat (0 : Int)) l ++ (([] : List (Int × Int × Int × Int × Int)) ++ List.drop (Int.toNat (0 : Int)) l)) ([] : List Int) ([] : List (Int × Int)) ∧ x_7 = false ∧ x_8 = ([] : List (Int × Int × Int × Int × Int)) ++ List.take (Int.toNat (0 : Int)) l ++ (([] : List (Int × Int × Int × Int × Int)) ++ List.drop (Int.toNat (0 : Int)) l) ∧ x_9 = ([] : List Int) ∧ x_10 = ([] : List (Int × Int)) → ((x != x_6) = true → false = true ∧ True) ∧ ((x != x_6) = false → ((!eqB x_5 x_11) = true → false = true ∧ True) ∧ ((!eqB x_5 x_11) = false → True ∧ ∀ (x_12 : Int) (x_13 : Bool) (x_14 : List (Int × Int × Int × Int × Int)) (x_15 : List Int) (x_16 : List (Int × Int)), x_12 = (↑x_2.length : Int) ∧ x_13 = x_1 ∧ x_14 = x_2 ∧ x_15 = x_3 ∧ x_16 = x_4 → ((x_12 != (↑l.length : Int)) = true → false = true ∧ True) ∧ ((x_12 != (↑l.length : Int)) = false → ((x != (0 : Int)) = true → true = true ∧ True) ∧ ((x != (0 : Int)) = false → l.length ≤ (100000 : Nat) ∧ ∀ (y : Tup (pUs :: ([] : List PS))), y = codeF l → (eqB x_5 y && true) = true ∧ True))))) ∧ (decide ((↑l.length : Int) + (1 : Int) < (1 : Int)) = false → (↑l.length : Int) + (1 : Int) ≠ (0 : Int) ∧ ((-9223372036854775808 : Int) ≤ n.tmod ((↑l.length : Int) + (1 : Int)) + ((↑l.length : Int) + (1 : Int)) ∧ n.tmod ((↑l.length : Int) + (1 : Int)) + ((↑l.length : Int) + (1 : Int)) ≤ (9223372036854775807 : Int)) ∧ (↑l.length : Int) + (1 : Int) ≠ (0 : Int) ∧ (([] : List (Int × Int × Int × Int × Int)).length + l.length) * (40 : Nat) ≤ (140737488355328 : Nat) ∧ (([] : List (Int × Int × Int × Int × Int)) ++ l).length * (40 : Nat) ≤ (140737488355328 : Nat) ∧ ((0 : Int) ≤ (n.tmod ((↑l.length : Int) + (1 : Int)) + ((↑l.length : Int) + (1 : Int))).tmod ((↑l.length : Int) + (1 : Int)) ∧ (n.tmod ((↑l.length : Int) + (1 : Int)) + ((↑l.length : Int) + (1 : Int))).tmod ((↑l.length : Int) + (1 : Int)) ≤ (↑l.length : Int)) ∧ (([] : List (Int × Int × Int × Int × Int)).length + (List.take ((n.tmod ((↑l.length : Int) + (1 : Int)) + ((↑l.length : Int) + (1 : Int))).tmod ((↑l.length : Int) + (1 : Int))).toNat l).length) * (40 : Nat) ≤ (140737488355328 : Nat) ∧ (([] : List (Int × Int × Int × Int × Int)) ++ List.take ((n.tmod ((↑l.length : Int) + (1 : Int)) + ((↑l.length : Int) + (1 : Int))).tmod ((↑l.length : Int) + (1 : Int))).toNat l).length * (40 : Nat) ≤ (140737488355328 : Nat) ∧ ((0 : Int) ≤ (n.tmod ((↑l.length : Int) + (1 : Int)) + ((↑l.length : Int) + (1 : Int))).tmod ((↑l.length : Int) + (1 : Int)) ∧ (n.tmod ((↑l.length : Int) + (1 : Int)) + ((↑l.length : Int) + (1 : Int))).tmod ((↑l.length : Int) + (1 : Int)) ≤ (↑l.length : Int)) ∧ (([] : List (Int × Int × Int × Int × Int)).length + (List.drop ((n.tmod ((↑l.length : Int) + (1 : Int)) + ((↑l.length : Int) + (1 : Int))).tmod ((↑l.length : Int) + (1 : Int))).toNat l).length) * (40 : Nat) ≤ (140737488355328 : Nat) ∧ ((([] : List (Int × Int × Int × Int × Int)) ++ List.take ((n.tmod ((↑l.length : Int) + (1 : Int)) + ((↑l.length : Int) + (1 : Int))).tmod ((↑l.length : Int) + (1 : Int))).toNat l).length + (([] : List (Int × Int × Int × Int × Int)) ++ List.drop ((n.tmod ((↑l.length : Int) + (1 : Int)) + ((↑l.length : Int) + (1 : Int))).tmod ((↑l.length : Int) + (1 : Int))).toNat l).length) * (40 : Nat) ≤ (140737488355328 : Nat) ∧ ((∀ (j : JN), j ∈ ([] : List (Int × Int)) → ((0 : Int) ≤ j.fst ∧ j.fst < (↑(([] : List (Int × Int × Int × Int × Int)) ++ l).length : Int)) ∧ (0 : Int) ≤ j.snd ∧ j.snd < (↑([] : List Int).length : Int)) ∧ (([] : List (Int × Int × Int × Int × Int)) ++ l).length ≤ (100000 : Nat)) ∧ ∀ (x : Int) (x_1 : Bool) (x_2 : List (Int × Int × Int × Int × Int)) (x_3 : List Int) (x_4 : List (Int × Int)) (x_5 : List Int), (x_5, x) = doneB false (([] : List (Int × Int × Int × Int × Int)) ++ l) ([] : List Int) ([] : List (Int × Int)) ∧ x_1 = false ∧ x_2 = ([] : List (Int × Int × Int × Int × Int)) ++ l ∧ x_3 = ([] : List Int) ∧ x_4 = ([] : List (Int × Int)) → ((∀ (j : JN), j ∈ ([] : List (Int × Int)) → ((0 : Int) ≤ j.fst ∧ j.fst < (↑(([] : List (Int × Int × Int × Int × Int)) ++ List.take ((n.tmod ((↑l.length : Int) + (1 : Int)) + ((↑l.length : Int) + (1 : Int))).tmod ((↑l.length : Int) + (1 : Int))).toNat l ++ (([] : List (Int × Int × Int × Int × Int)) ++ List.drop ((n.tmod ((↑l.length : Int) + (1 : Int)) + ((↑l.length : Int) + (1 : Int))).tmod ((↑l.length : Int) + (1 : Int))).toNat l)).length : Int)) ∧ (0 : Int) ≤ j.snd ∧ j.snd < (↑([] : List Int).length : Int)) ∧ (([] : List (Int × Int × Int × Int × Int)) ++ List.take ((n.tmod ((↑l.length : Int) + (1 : Int)) + ((↑l.length : Int) + (1 : Int))).tmod ((↑l.length : Int) + (1 : Int))).toNat l ++ (([] : List (Int × Int × Int × Int × Int)) ++ List.drop ((n.tmod ((↑l.length : Int) + (1 : Int)) + ((↑l.length : Int) + (1 : Int))).tmod ((↑l.length : Int) + (1 : Int))).toNat l)).length ≤ (100000 : Nat)) ∧ ∀ (x_6 : Int) (x_7 : Bool) (x_8 : List (Int × Int × Int × Int × Int)) (x_9 : List Int) (x_10 : List (Int × Int)) (x_11 : List Int), (x_11, x_6) = doneB false (([] : List (Int × Int × Int × Int × Int)) ++ List.take ((n.tmod ((↑l.length : Int) + (1 : Int)) + ((↑l.length : Int) + (1 : Int))).tmod ((↑l.length : Int) + (1 : Int))).toNat l ++ (([] : List (Int × Int × Int × Int × Int)) ++ List.drop ((n.tmod ((↑l.length : Int) + (1 : Int)) + ((↑l.length : Int) + (1 : Int))).tmod ((↑l.length : Int) + (1 : Int))).toNat l)) ([] : List Int) ([] : List (Int × Int)) ∧ x_7 = false ∧ x_8 = ([] : List (Int × Int × Int × Int × Int)) ++ List.take ((n.tmod ((↑l.length : Int) + (1 : Int)) + ((↑l.length : Int) + (1 : Int))).tmod ((↑l.length : Int) + (1 : Int))).toNat l ++ (([] : List (Int × Int × Int × Int × Int)) ++ List.drop ((n.tmod ((↑l.length : Int) + (1 : Int)) + ((↑l.length : Int) + (1 : Int))).tmod ((↑l.length : Int) + (1 : Int))).toNat l) ∧ x_9 = ([] : List Int) ∧ x_10 = ([] : List (Int × Int)) → ((x != x_6) = true → false = true ∧ True) ∧ ((x != x_6) = false → ((!eqB x_5 x_11) = true → false = true ∧ True) ∧ ((!eqB x_5 x_11) = false → True ∧ ∀ (x_12 : Int) (x_13 : Bool) (x_14 : List (Int × Int × Int × Int × Int)) (x_15 : List Int) (x_16 : List (Int × Int)), x_12 = (↑x_2.length : Int) ∧ x_13 = x_1 ∧ x_14 = x_2 ∧ x_15 = x_3 ∧ x_16 = x_4 → ((x_12 != (↑l.length : Int)) = true → false = true ∧ True) ∧ ((x_12 != (↑l.length : Int)) = false → ((x != (0 : Int)) = true → true = true ∧ True) ∧ ((x != (0 : Int)) = false → l.length ≤ (100000 : Nat) ∧ ∀ (y : Tup (pUs :: ([] : List PS))), y = codeF l → (eqB x_5 y && true) = true ∧ True))))))) = _) ?_
  have hn : 0 ≤ n ∧ n ≤ 255 := hr.2
  refine ⟨fun _ => ⟨rfl, trivial⟩, fun h => ?_⟩
  simp only [decide_eq_false_iff_not] at h
  refine ⟨by omega, fun h1 => ?_, fun _ => ?_⟩
  · simp only [decide_eq_true_eq] at h1
    omega
  obtain ⟨m1, m2⟩ := mod_in (n := n) (L := (l.length : Int)) hn.1 (by omega)
  refine ⟨by omega, by omega, by omega, by simp; omega, by simp; omega, ?_⟩
  generalize (n.tmod ((l.length : Int) + 1) + ((l.length : Int) + 1)).tmod ((l.length : Int) + 1) = q at m2 ⊢
  refine ⟨m2, by simp; omega, by simp; omega, m2, by simp; omega, by simp; omega, ⟨fun j hj => (by cases hj), by simp; omega⟩, ?_⟩
  simp only [List.nil_append, List.take_append_drop]
  rw [doneB_0]
  rintro e _ _ _ _ o ⟨h1, rfl, rfl, rfl, rfl⟩
  refine ⟨⟨fun j hj => (by cases hj), by omega⟩, ?_⟩
  rintro e2 _ _ _ _ o2 ⟨h2, rfl, rfl, rfl, rfl⟩
  have h3 := h1.trans h2.symm
  cases h3
  refine ⟨fun h => by simp at h, fun _ => ⟨fun h => by simp [eqB_self] at h, fun _ => ⟨trivial, ?_⟩⟩⟩
  rintro _ _ _ _ _ ⟨rfl, rfl, rfl, rfl, rfl⟩
  refine ⟨fun h => by simp at h, fun _ => ⟨fun _ => ⟨trivial, trivial⟩, fun h => ⟨by omega, ?_⟩⟩⟩
  rintro _ rfl
  have h0 : e = 0 := by simpa using h
  subst h0
  have := encs_code (l := _) (by rw [← h1])
  rw [← h1] at this
  simp only at this
  rw [this, eqB_self]
  exact ⟨rfl, trivial⟩
end Go.Proofs.Yteddnnljmdjfbaa.V
