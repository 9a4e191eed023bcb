import Derived.KernelRfl
import Derived.Test.YtejeghfddnbhaaaLa
namespace Go.Proofs.Ytejeghfddnbhaaa.V
open Go.RowKit Go.Proofs.Ytejeghfddnbhaaa
set_option linter.unusedSimpArgs false
abbrev L0 : List (Nat × Spec) := [(29, .full ofS)]
theorem L0_all : ∀ p ∈ L0, Valid Try.prog p.1 p.2 := vcons v29 vnil
theorem L0_ok : ∀ f S, spL L0 f = some S → Valid Try.prog f S := spL_ok L0_all
abbrev L1 : List (Nat × Spec) := inl1 37 Try.f37 L0 :: L0
theorem L1_all : ∀ p ∈ L1, Valid Try.prog p.1 p.2 := vcons (valid_inl mixed Tbl_ok L0_ok Try.func37 call37 noLp) L0_all
theorem L1_ok : ∀ f S, spL L1 f = some S → Valid Try.prog f S := spL_ok L1_all
theorem addr_in {l n : Int} (h : 0 ≤ l ∧ l < 64 ∧ 0 ≤ n ∧ n < 8) : addrW l n = l * 64 + n * 8 := by rw [addrW, if_pos h]
theorem addr_out {l n : Int} (h : ¬ (0 ≤ l ∧ l < 64 ∧ 0 ≤ n ∧ n < 8)) : addrW l n = 0 := by rw [addrW, if_neg h]
theorem v31 : Valid Try.prog 31 (.tot (tS [pI, pI] [pU] fun x => addrW x.1 x.2)) := by
  refine tS_ok mixed Tbl_ok L1_ok Try.func31 call31 rfl rfl rfl ?_
  rintro ⟨(l : Int), (n : Int)⟩ hr z hz
  refine ⟨noLoop, ?_⟩
  refine Eq.mp (by kernel_rfl : (((decide (l < (0 : Int)) || decide (l ≥ (64 : Int))) = true → (0 : Int) = z ∧ True) ∧ ((decide (l < (0 : Int)) || decide (l ≥ (64 : Int))) = false → ((!(decide (n ≥ (0 : Int)) && decide (n < (8 : Int)))) = true → (0 : Int) = z ∧ True) ∧ ((!(decide (n ≥ (0 : Int)) && decide (n < (8 : Int)))) = false → IntKind.u64.wrap (IntKind.u64.wrap (IntKind.u64.wrap l * (64 : Int)) + IntKind.u64.wrap (IntKind.u64.wrap n * (8 : Int))) = z ∧ True))) = _) ?_
  have hz : addrW l n = z := hz
  subst hz
  simp only [Bool.or_eq_true, Bool.or_eq_false_iff, decide_eq_true_eq, decide_eq_false_iff_not, Bool.not_eq_true', Bool.and_eq_false_iff, Bool.not_eq_false', Bool.and_eq_true]
  refine ⟨fun h => ⟨(addr_out (by omega)).symm, trivial⟩, fun h => ⟨fun h2 => ⟨(addr_out (by omega)).symm, trivial⟩, fun h2 => ⟨?_, trivial⟩⟩⟩
  rw [addr_in (by omega)]
  simp only [IntKind.wrap_u64]
  omega
theorem v32 : Valid Try.prog 32 (.tot (tS [pI, pI] [pU] fun x => addrW x.1 x.2)) := by
  refine tS_ok mixed Tbl_ok L1_ok Try.func32 call32 rfl rfl rfl ?_
  rintro ⟨(l : Int), (n : Int)⟩ hr z hz
  refine ⟨noLoop, ?_⟩
  refine Eq.mp (by kernel_rfl : (((decide (l < (0 : Int)) || decide (l > (63 : Int)) || decide (n < (0 : Int)) || decide (n > (7 : Int))) = true → (0 : Int) = z ∧ True) ∧ ((decide (l < (0 : Int)) || decide (l > (63 : Int)) || decide (n < (0 : Int)) || decide (n > (7 : Int))) = false → ((-9223372036854775808 : Int) ≤ (64 : Int) * l ∧ (64 : Int) * l ≤ (9223372036854775807 : Int)) ∧ ((-9223372036854775808 : Int) ≤ (8 : Int) * n ∧ (8 : Int) * n ≤ (9223372036854775807 : Int)) ∧ ((-9223372036854775808 : Int) ≤ (64 : Int) * l + (8 : Int) * n ∧ (64 : Int) * l + (8 : Int) * n ≤ (9223372036854775807 : Int)) ∧ IntKind.u64.wrap ((64 : Int) * l + (8 : Int) * n) = z ∧ True)) = _) ?_
  have hz : addrW l n = z := hz
  subst hz
  simp only [Bool.or_eq_true, Bool.or_eq_false_iff, decide_eq_true_eq, decide_eq_false_iff_not, Bool.not_eq_true', Bool.and_eq_false_iff, Bool.not_eq_false', Bool.and_eq_true]
  refine ⟨fun h => ⟨(addr_out (by omega)).symm, trivial⟩, fun h => ⟨by omega, by omega, by omega, ?_, trivial⟩⟩
  rw [addr_in (by omega)]
  simp only [IntKind.wrap_u64]
  omega
theorem v30 : Valid Try.prog 30 (.tot (tS [pC] [pB] goodC')) := by
  refine tS_ok mixed Tbl_ok L1_ok Try.func30 call30 rfl rfl rfl ?_
  rintro ⟨(a : Int), (b : Int), (c : Int), (d : Int), (e : Int), (f : Int), (g : Int)⟩ hr z hz
  refine ⟨noLoop, ?_⟩
  refine Eq.mp (by kernel_rfl : ((decide (a ≥ (1 : Int)) && decide (a ≤ (8 : Int)) && decide (b ≥ (2 : Int)) && decide (b ≤ (64 : Int)) && decide (c ≥ (1 : Int)) && decide (c < b) && (d == (1 : Int) || d == (2 : Int) || d == (4 : Int) || d == (8 : Int)) && decide (e ≥ (1 : Int)) && decide (e ≤ (8 : Int)) && decide (f ≥ (1 : Int)) && decide (f ≤ (16 : Int)) && decide (g ≥ (1 : Int)) && decide (g ≤ (16 : Int))) = z ∧ True) = _) ?_
  have hz : goodC a b c d e f g = z := hz
  subst hz
  refine ⟨?_, trivial⟩
  rw [Bool.eq_iff_iff]
  simp only [goodC, Bool.and_eq_true, Bool.or_eq_true, decide_eq_true_eq, beq_iff_eq]
  omega
theorem v7 : Valid Try.prog 7 (.tot (tS [pH] [pB] goodP)) := by
  refine tS_ok mixed Tbl_ok L1_ok Try.func7 call7 rfl rfl rfl ?_
  rintro ⟨⟨(a : Int), (b : Int), (c : Int), (d : Int), (e : Int), (f : Int), (g : Int)⟩, (p : Int), (q : Int)⟩ hr z hz
  refine ⟨noLoop, ?_⟩
  refine Eq.mp (by kernel_rfl : ((goodP ((a, b, c, d, e, f, g), p, q) = true → true = z ∧ True) ∧ (goodP ((a, b, c, d, e, f, g), p, q) = false → false = z ∧ True)) = _) ?_
  rw [← hz]
  exact ⟨fun h => ⟨h.symm, trivial⟩, fun h => ⟨h.symm, trivial⟩⟩
abbrev L2 : List (Nat × Spec) := (31, .tot (tS [pI, pI] [pU] fun x => addrW x.1 x.2)) :: (32, .tot (tS [pI, pI] [pU] fun x => addrW x.1 x.2)) :: (30, .tot (tS [pC] [pB] goodC')) :: (7, .tot (tS [pH] [pB] goodP)) :: L1
theorem L2_all : ∀ p ∈ L2, Valid Try.prog p.1 p.2 := vcons v31 (vcons v32 (vcons v30 (vcons v7 L1_all)))
theorem L2_ok : ∀ f S, spL L2 f = some S → Valid Try.prog f S := spL_ok L2_all
def roomF (h : HN) : Int := if goodP h = true then 4 * h.2.1 else 0
def wordsF (h : HN) : Int := if goodP h = true then 8 * h.2.2 else 0
def countF (h : HN) : Int := if goodP h = true then addrW h.1.2.2.1 0 else 0
def entryF (h : HN) (n : Int) : Int := if goodP h = true ∧ 0 ≤ n ∧ n < 4 * h.2.1 then addrW (h.1.2.2.1 + 1 + n / 4) (2 * (n % 4)) else 0
def firstF (h : HN) : Int := h.1.2.2.1 + 1 + h.2.1
def wordF (h : HN) (n : Int) : Int := if goodP h = true ∧ 0 ≤ n ∧ n < 8 * h.2.2 then addrW (firstF h + n / 8) (n % 8) else 0
theorem good_def (a b c d e f g p q : Int) : goodP ((a, b, c, d, e, f, g), p, q) = (goodC' (a, b, c, d, e, f, g) && decide (1 ≤ p ∧ p ≤ 16 ∧ 1 ≤ q ∧ q ≤ 16 ∧ c + 1 + p + q ≤ b)) := rfl
theorem goodC_bd {a b c d e f g : Int} (h : goodC' (a, b, c, d, e, f, g) = true) : 1 ≤ c ∧ c ≤ 64 ∧ b ≤ 64 := by
  unfold goodC' goodC at h
  have h := of_decide_eq_true h
  dsimp only at h
  omega
theorem v8 : Valid Try.prog 8 (.tot (tS [pH] [pB] goodP)) := by
  refine tS_ok mixed Tbl_ok L2_ok Try.func8 call8 rfl rfl rfl ?_
  rintro ⟨⟨(a : Int), (b : Int), (c : Int), (d : Int), (e : Int), (f : Int), (g : Int)⟩, (p : Int), (q : Int)⟩ hr z hz
  refine ⟨noLoop, ?_⟩
  refine Eq.mp (by kernel_rfl : (((goodC' (a, b, c, d, e, f, g) && decide (p ≥ (1 : Int)) && decide (p ≤ (16 : Int)) && decide (q ≥ (1 : Int)) && decide (q ≤ (16 : Int))) = true → ((-9223372036854775808 : Int) ≤ c + (1 : Int) ∧ c + (1 : Int) ≤ (9223372036854775807 : Int)) ∧ ((-9223372036854775808 : Int) ≤ c + (1 : Int) + p ∧ c + (1 : Int) + p ≤ (9223372036854775807 : Int)) ∧ ((-9223372036854775808 : Int) ≤ c + (1 : Int) + p + q ∧ c + (1 : Int) + p + q ≤ (9223372036854775807 : Int)) ∧ decide (b ≥ c + (1 : Int) + p + q) = z ∧ True) ∧ ((goodC' (a, b, c, d, e, f, g) && decide (p ≥ (1 : Int)) && decide (p ≤ (16 : Int)) && decide (q ≥ (1 : Int)) && decide (q ≤ (16 : Int))) = false → false = z ∧ True)) = _) ?_
  rw [← hz, good_def]
  cases hc : goodC' (a, b, c, d, e, f, g) with
  | false => exact ⟨fun h => by simp at h, fun h => ⟨rfl, trivial⟩⟩
  | true =>
    have hb := goodC_bd hc
    simp only [Bool.true_and, Bool.and_eq_true, Bool.and_eq_false_iff, decide_eq_true_eq, decide_eq_false_iff_not]
    refine ⟨fun h => ⟨by omega, by omega, by omega, ?_, trivial⟩, fun h => ⟨?_, trivial⟩⟩
    · rw [decide_eq_decide]; omega
    · exact (decide_eq_false (by omega)).symm
theorem v9 : Valid Try.prog 9 (.tot (tS [pH] [pU] fun _ => 0)) := by
  refine tS_ok mixed Tbl_ok L2_ok Try.func9 call9 rfl rfl rfl ?_
  rintro ⟨⟨(a : Int), (b : Int), (c : Int), (d : Int), (e : Int), (f : Int), (g : Int)⟩, (p : Int), (q : Int)⟩ hr z hz
  refine ⟨noLoop, ?_⟩
  refine Eq.mp (by kernel_rfl : (addrW (0 : Int) (0 : Int) = z ∧ True) = _) ?_
  rw [← hz]
  exact ⟨by decide, trivial⟩
theorem v10 : Valid Try.prog 10 (.tot (tS [pH] [pU] countF)) := by
  refine tS_ok mixed Tbl_ok L2_ok Try.func10 call10 rfl rfl rfl ?_
  rintro ⟨⟨(a : Int), (b : Int), (c : Int), (d : Int), (e : Int), (f : Int), (g : Int)⟩, (p : Int), (q : Int)⟩ hr z hz
  refine ⟨noLoop, ?_⟩
  refine Eq.mp (by kernel_rfl : ((goodP ((a, b, c, d, e, f, g), p, q) = true → ((-9223372036854775808 : Int) ≤ c + (1 : Int) - (1 : Int) ∧ c + (1 : Int) - (1 : Int) ≤ (9223372036854775807 : Int)) ∧ addrW (c + (1 : Int) - (1 : Int)) (0 : Int) = z ∧ True) ∧ (goodP ((a, b, c, d, e, f, g), p, q) = false → (0 : Int) = z ∧ True)) = _) ?_
  rw [← hz, countF]
  refine ⟨fun h => ?_, fun h => by rw [if_neg (by simp [h])]; exact ⟨rfl, trivial⟩⟩
  obtain ⟨⟨g1, g2, g3, g4⟩, g5, g6, g7⟩ := goodP_b h
  dsimp only at g1 g2 g3 g4 g5 g6 g7
  rw [if_pos h]
  exact ⟨by omega, by rw [show c + 1 - 1 = c by omega], trivial⟩
theorem v12 : Valid Try.prog 12 (.tot (tS [pH, pI] [pU] fun x => entryF x.1 x.2)) := by
  refine tS_ok mixed Tbl_ok L2_ok Try.func12 call12 rfl rfl rfl ?_
  rintro ⟨⟨⟨(a : Int), (b : Int), (c : Int), (d : Int), (e : Int), (f : Int), (g : Int)⟩, (p : Int), (q : Int)⟩, (n : Int)⟩ hr z hz
  refine ⟨noLoop, ?_⟩
  refine Eq.mp (by kernel_rfl : ((goodP ((a, b, c, d, e, f, g), p, q) = true → ((decide (n < (0 : Int)) || decide (n ≥ (4 : Int) * p)) = true → (0 : Int) = z ∧ True) ∧ ((decide (n < (0 : Int)) || decide (n ≥ (4 : Int) * p)) = false → (4 : Int) ≠ (0 : Int) ∧ ((-9223372036854775808 : Int) ≤ n.tdiv (4 : Int) ∧ n.tdiv (4 : Int) ≤ (9223372036854775807 : Int)) ∧ ((-9223372036854775808 : Int) ≤ c + (1 : Int) + n.tdiv (4 : Int) ∧ c + (1 : Int) + n.tdiv (4 : Int) ≤ (9223372036854775807 : Int)) ∧ (4 : Int) ≠ (0 : Int) ∧ ((-9223372036854775808 : Int) ≤ n.tmod (4 : Int) * (2 : Int) ∧ n.tmod (4 : Int) * (2 : Int) ≤ (9223372036854775807 : Int)) ∧ addrW (c + (1 : Int) + n.tdiv (4 : Int)) (n.tmod (4 : Int) * (2 : Int)) = z ∧ True)) ∧ (goodP ((a, b, c, d, e, f, g), p, q) = false → (0 : Int) = z ∧ True)) = _) ?_
  have hz : entryF ((a, b, c, d, e, f, g), p, q) n = z := hz
  rw [← hz, entryF]
  refine ⟨fun h => ?_, fun h => by rw [if_neg (by simp [h])]; exact ⟨rfl, trivial⟩⟩
  obtain ⟨⟨g1, g2, g3, g4⟩, g5, g6, g7⟩ := goodP_b h
  dsimp only at g1 g2 g3 g4 g5 g6 g7
  simp only [Bool.or_eq_true, Bool.or_eq_false_iff, decide_eq_true_eq, decide_eq_false_iff_not]
  refine ⟨fun h2 => by rw [if_neg (by rintro ⟨-, h3, h4⟩; first | omega | (dsimp only at h4; omega))]; exact ⟨rfl, trivial⟩, fun h2 => ?_⟩
  rw [if_pos (show _ ∧ 0 ≤ n ∧ n < 4 * p from ⟨h, by omega, by omega⟩), Int.tdiv_eq_ediv_of_nonneg (by omega), Int.tmod_eq_emod_of_nonneg (by omega)]
  exact ⟨by decide, by omega, by omega, by decide, by omega, by rw [Int.mul_comm (n % 4)], trivial⟩
theorem v14 : Valid Try.prog 14 (.tot (tS [pH, pI] [pU] fun x => wordF x.1 x.2)) := by
  refine tS_ok mixed Tbl_ok L2_ok Try.func14 call14 rfl rfl rfl ?_
  rintro ⟨⟨⟨(a : Int), (b : Int), (c : Int), (d : Int), (e : Int), (f : Int), (g : Int)⟩, (p : Int), (q : Int)⟩, (n : Int)⟩ hr z hz
  refine ⟨noLoop, ?_⟩
  refine Eq.mp (by kernel_rfl : ((goodP ((a, b, c, d, e, f, g), p, q) = true → (decide (n < (0 : Int)) = true → (0 : Int) = z ∧ True) ∧ (decide (n < (0 : Int)) = false → ((-9223372036854775808 : Int) ≤ q * (8 : Int) ∧ q * (8 : Int) ≤ (9223372036854775807 : Int)) ∧ (decide (n ≥ q * (8 : Int)) = true → (0 : Int) = z ∧ True) ∧ (decide (n ≥ q * (8 : Int)) = false → (8 : Int) ≠ (0 : Int) ∧ ((-9223372036854775808 : Int) ≤ n.tdiv (8 : Int) ∧ n.tdiv (8 : Int) ≤ (9223372036854775807 : Int)) ∧ ((-9223372036854775808 : Int) ≤ c + (1 : Int) + p + n.tdiv (8 : Int) ∧ c + (1 : Int) + p + n.tdiv (8 : Int) ≤ (9223372036854775807 : Int)) ∧ (8 : Int) ≠ (0 : Int) ∧ addrW (c + (1 : Int) + p + n.tdiv (8 : Int)) (n.tmod (8 : Int)) = z ∧ True))) ∧ (goodP ((a, b, c, d, e, f, g), p, q) = false → (0 : Int) = z ∧ True)) = _) ?_
  have hz : wordF ((a, b, c, d, e, f, g), p, q) n = z := hz
  rw [← hz, wordF]
  refine ⟨fun h => ?_, fun h => by rw [if_neg (by simp [h])]; exact ⟨rfl, trivial⟩⟩
  obtain ⟨⟨g1, g2, g3, g4⟩, g5, g6, g7⟩ := goodP_b h
  dsimp only at g1 g2 g3 g4 g5 g6 g7
  simp only [decide_eq_true_eq, decide_eq_false_iff_not]
  refine ⟨fun h2 => by rw [if_neg (by rintro ⟨-, h3, h4⟩; first | omega | (dsimp only at h4; omega))]; exact ⟨rfl, trivial⟩, fun h2 => ⟨by omega, fun h3 => by rw [if_neg (by rintro ⟨-, h4, h5⟩; first | omega | (dsimp only at h5; omega))]; exact ⟨rfl, trivial⟩, fun h3 => ?_⟩⟩
  rw [if_pos (show _ ∧ 0 ≤ n ∧ n < 8 * q from ⟨h, by omega, by omega⟩), Int.tdiv_eq_ediv_of_nonneg (by omega), Int.tmod_eq_emod_of_nonneg (by omega)]
  exact ⟨by decide, by omega, by omega, by decide, rfl, trivial⟩
theorem v16 : Valid Try.prog 16 (.tot (tS [pH] [pI] roomF)) := by
  refine tS_ok mixed Tbl_ok L2_ok Try.func16 call16 rfl rfl rfl ?_
  rintro ⟨⟨(a : Int), (b : Int), (c : Int), (d : Int), (e : Int), (f : Int), (g : Int)⟩, (p : Int), (q : Int)⟩ hr z hz
  refine ⟨noLoop, ?_⟩
  refine Eq.mp (by kernel_rfl : ((goodP ((a, b, c, d, e, f, g), p, q) = true → (4 : Int) * p = z ∧ True) ∧ (goodP ((a, b, c, d, e, f, g), p, q) = false → (0 : Int) = z ∧ True)) = _) ?_
  rw [← hz, roomF]
  exact ⟨fun h => by rw [if_pos h]; exact ⟨rfl, trivial⟩, fun h => by rw [if_neg (by simp [h])]; exact ⟨rfl, trivial⟩⟩
theorem v18 : Valid Try.prog 18 (.tot (tS [pH] [pI] wordsF)) := by
  refine tS_ok mixed Tbl_ok L2_ok Try.func18 call18 rfl rfl rfl ?_
  rintro ⟨⟨(a : Int), (b : Int), (c : Int), (d : Int), (e : Int), (f : Int), (g : Int)⟩, (p : Int), (q : Int)⟩ hr z hz
  refine ⟨noLoop, ?_⟩
  refine Eq.mp (by kernel_rfl : ((goodP ((a, b, c, d, e, f, g), p, q) = true → ((-9223372036854775808 : Int) ≤ q * (8 : Int) ∧ q * (8 : Int) ≤ (9223372036854775807 : Int)) ∧ q * (8 : Int) = z ∧ True) ∧ (goodP ((a, b, c, d, e, f, g), p, q) = false → (0 : Int) = z ∧ True)) = _) ?_
  rw [← hz, wordsF]
  refine ⟨fun h => ?_, fun h => by rw [if_neg (by simp [h])]; exact ⟨rfl, trivial⟩⟩
  obtain ⟨⟨g1, g2, g3, g4⟩, g5, g6, g7⟩ := goodP_b h
  dsimp only at g1 g2 g3 g4 g5 g6 g7
  rw [if_pos h]
  exact ⟨by omega, Int.mul_comm .., trivial⟩
abbrev L3 : List (Nat × Spec) := (8, .tot (tS [pH] [pB] goodP)) :: (9, .tot (tS [pH] [pU] fun _ => 0)) :: (10, .tot (tS [pH] [pU] countF)) :: (12, .tot (tS [pH, pI] [pU] fun x => entryF x.1 x.2)) :: (14, .tot (tS [pH, pI] [pU] fun x => wordF x.1 x.2)) :: (16, .tot (tS [pH] [pI] roomF)) :: (18, .tot (tS [pH] [pI] wordsF)) :: L2
theorem L3_all : ∀ p ∈ L3, Valid Try.prog p.1 p.2 := vcons v8 (vcons v9 (vcons v10 (vcons v12 (vcons v14 (vcons v16 (vcons v18 L2_all))))))
theorem L3_ok : ∀ f S, spL L3 f = some S → Valid Try.prog f S := spL_ok L3_all
end Go.Proofs.Ytejeghfddnbhaaa.V
