import Derived.KernelRfl
import Derived.Test.YtejeghfddnbhaaaLb
namespace Go.Proofs.Ytejeghfddnbhaaa.V
open Go.RowKit Go.Proofs.Ytejeghfddnbhaaa
set_option linter.unusedSimpArgs false
theorem v17 : Valid Try.prog 17 (.tot (tS [pH] [pI] roomF)) := by
  refine tS_ok mixed Tbl_ok L3_ok Try.func17 call17 rfl rfl rfl ?_
  rintro ⟨⟨(a : Int), (b : Int), (c : Int), (d : Int), (e : Int), (f : Int), (g : Int)⟩, (p : Int), (q : Int)⟩ hr z hz
  refine ⟨noLoop, ?_⟩
  refine Eq.mp (by kernel_rfl : (((!goodP ((a, b, c, d, e, f, g), p, q)) = true → (0 : Int) = z ∧ True) ∧ ((!goodP ((a, b, c, d, e, f, g), p, q)) = false → ((-9223372036854775808 : Int) ≤ (4 : Int) * p ∧ (4 : Int) * p ≤ (9223372036854775807 : Int)) ∧ (4 : Int) * p = z ∧ True)) = _) ?_
  rw [← hz, roomF]
  refine ⟨fun h => by rw [if_neg (by simpa using h)]; exact ⟨rfl, trivial⟩, fun h => ?_⟩
  have h : goodP ((a, b, c, d, e, f, g), p, q) = true := by simpa using h
  obtain ⟨⟨g1, g2, g3, g4⟩, g5, g6, g7⟩ := goodP_b h
  dsimp only at g1 g2 g3 g4 g5 g6 g7
  rw [if_pos h]
  exact ⟨by omega, rfl, trivial⟩
theorem v19 : Valid Try.prog 19 (.tot (tS [pH] [pI] wordsF)) := by
  refine tS_ok mixed Tbl_ok L3_ok Try.func19 call19 rfl rfl rfl ?_
  rintro ⟨⟨(a : Int), (b : Int), (c : Int), (d : Int), (e : Int), (f : Int), (g : Int)⟩, (p : Int), (q : Int)⟩ hr z hz
  refine ⟨noLoop, ?_⟩
  refine Eq.mp (by kernel_rfl : (((!goodP ((a, b, c, d, e, f, g), p, q)) = true → (0 : Int) = z ∧ True) ∧ ((!goodP ((a, b, c, d, e, f, g), p, q)) = false → ((-9223372036854775808 : Int) ≤ (8 : Int) * q ∧ (8 : Int) * q ≤ (9223372036854775807 : Int)) ∧ (8 : Int) * q = z ∧ True)) = _) ?_
  rw [← hz, wordsF]
  refine ⟨fun h => by rw [if_neg (by simpa using h)]; exact ⟨rfl, trivial⟩, fun h => ?_⟩
  have h : goodP ((a, b, c, d, e, f, g), p, q) = true := by simpa using h
  obtain ⟨⟨g1, g2, g3, g4⟩, g5, g6, g7⟩ := goodP_b h
  dsimp only at g1 g2 g3 g4 g5 g6 g7
  rw [if_pos h]
  exact ⟨by omega, rfl, trivial⟩
abbrev L4 : List (Nat × Spec) := (17, .tot (tS [pH] [pI] roomF)) :: (19, .tot (tS [pH] [pI] wordsF)) :: inl1 33 Try.f33 L3 :: L3
theorem L4_all : ∀ p ∈ L4, Valid Try.prog p.1 p.2 := vcons v17 (vcons v19 (vcons (valid_inl mixed Tbl_ok L3_ok Try.func33 call33 noLp) L3_all))
theorem L4_ok : ∀ f S, spL L4 f = some S → Valid Try.prog f S := spL_ok L4_all
abbrev Z8 : LN := List.replicate 8 0
/-- The lines behind k words. -/
def imgK (h : HN) (m : List Int) : Nat → List LN
  | 0 => List.replicate h.1.2.1.toNat Z8
  | k + 1 => (imgK h m k).set ((firstF h).toNat + k / 8) (((imgK h m k).getD ((firstF h).toNat + k / 8) Z8).set (k % 8) (m.getD k 0))
def imageF (h : HN) (m : List Int) : List LN × Int := if goodP h = true ∧ (m.length : Int) = 8 * h.2.2 then (imgK h m m.length, 0) else ([], 1)
def mapF (h : HN) (l : List LN) : List Int := if goodP h = true ∧ (l.length : Int) = h.1.2.1 then (((l.drop (firstF h).toNat).take h.2.2.toNat).flatten) else []
theorem imgK_len {h : HN} {m : List Int} : ∀ {k : Nat}, (imgK h m k).length = h.1.2.1.toNat
  | 0 => by simp [imgK]
  | k + 1 => by simp [imgK, imgK_len]
theorem first_nn {h : HN} (hg : goodP h = true) : 0 ≤ firstF h ∧ firstF h + h.2.2 ≤ h.1.2.1 ∧ h.1.2.1 ≤ 64 ∧ 1 ≤ h.2.2 ∧ h.2.2 ≤ 16 := by
  have := goodP_b hg
  unfold firstF
  omega
theorem img_at {h : HN} {m : List Int} {k : Nat} (hg : goodP h = true) (hk : k < m.length) (hm : (m.length : Int) = 8 * h.2.2) :
    (k : Int).tdiv 8 = ((k / 8 : Nat) : Int) ∧ (k : Int).tmod 8 = ((k % 8 : Nat) : Int) ∧ (0 ≤ firstF h + ((k / 8 : Nat) : Int) ∧ firstF h + ((k / 8 : Nat) : Int) < ((imgK h m k).length : Int)) ∧ (firstF h + ((k / 8 : Nat) : Int)).toNat = (firstF h).toNat + k / 8 := by
  obtain ⟨f1, f2, f3, f4⟩ := first_nn hg
  rw [imgK_len, Int.tdiv_eq_ediv_of_nonneg (by omega), Int.tmod_eq_emod_of_nonneg (by omega)]
  omega
theorem img_step {h : HN} {m : List Int} {k : Nat} {z : LN} {y : Int} (hg : goodP h = true) (hk : k < m.length) (hm : (m.length : Int) = 8 * h.2.2) (hz : (imgK h m k)[(firstF h + (k : Int).tdiv 8).toNat]? = some z) (hy : m[k]? = some y) :
    (imgK h m k).set (firstF h + (k : Int).tdiv 8).toNat (z.set ((k : Int).tmod 8).toNat y) = imgK h m (k + 1) := by
  obtain ⟨a1, a2, a3, a4⟩ := img_at hg hk hm
  rw [a1, a4] at hz ⊢
  rw [a2, imgK]
  simp only [List.getD, hz, hy, Option.getD_some, Int.toNat_natCast]
theorem image_out {h : HN} {m : List Int} (hn : ¬ (goodP h = true ∧ (m.length : Int) = 8 * h.2.2)) : ∃ y, y = imageF h m ∧ y.1 = ([] : List (List Int)) ∧ 1 = y.2 ∧ True := ⟨_, by rw [imageF, if_neg hn], rfl, rfl, trivial⟩
theorem image_in {h : HN} {m : List Int} {k : Nat} (hg : goodP h = true) (hm : (m.length : Int) = 8 * h.2.2) (hk : k = m.length) : ∃ y, y = imageF h m ∧ HEq (imgK h m k) y.1 ∧ 0 = y.2 ∧ True := by
  refine ⟨_, by rw [imageF, if_pos ⟨hg, hm⟩], ?_, rfl, trivial⟩
  rw [hk]
theorem words_in {h : HN} (hg : goodP h = true) : wordsF h = 8 * h.2.2 := by rw [wordsF, if_pos hg]
abbrev lp21 (h : HN) (m : List Int) : Nat → Option LoopSp := fun _ => some { X := Nat, sl := fun k => [(6, .one (.ptr 0 0)), (7, .one (.sl 1)), (28, .one (.rd shU m)), (29, .one (vi m.length)), (30, .one (vi k))], h := fun k => [(0, .blk [.nm .u32, .nm .i32, .nm .u32, .bl true, vi (h.1.2.2.1 + 1), vi (firstF h), vi h.2.2, vi (4 * h.2.1)] 62), (1, .own 68 shW (imgK h m k))], nx := 2, inv := fun k => k ≤ m.length, mu := fun k => m.length - k }
theorem v21 : Valid Try.prog 21 (.pre (rS [pH, pUs] [pLs, pI] (fun x => List.length x.2 ≤ 100000) (fun x y => y = imageF x.1 x.2))) := by
  refine rS_ok mixed Tbl_ok L4_ok Try.func21 call21 rfl ?_
  rintro ⟨⟨⟨(a : Int), (b : Int), (c : Int), (d : Int), (e : Int), (f : Int), (g : Int)⟩, (p : Int), (q : Int)⟩, (m : List Int)⟩ hr hp
  refine ⟨lp21 ((a, b, c, d, e, f, g), p, q) m, ?_⟩
  refine Eq.mp (by kernel_rfl : ((goodP ((a, b, c, d, e, f, g), p, q) = true → (((↑m.length : Int) != wordsF ((a, b, c, d, e, f, g), p, q)) = true → ∃ (y : Tup (pLs :: pI :: ([] : List PS))), y = imageF ((a, b, c, d, e, f, g), p, q) m ∧ y.fst = ([] : List (List Int)) ∧ (1 : Int) = y.snd ∧ True) ∧ (((↑m.length : Int) != wordsF ((a, b, c, d, e, f, g), p, q)) = false → (b = b ∧ (0 : Int) ≤ b ∧ b * (↑(64 : Nat) : Int) ≤ (140737488355328 : Int)) ∧ (∃ (x : Nat), x ≤ m.length ∧ m ≍ m ∧ (↑m.length : Int) = (↑m.length : Int) ∧ (0 : Int) = (↑x : Int) ∧ true = true ∧ c + (1 : Int) = c + (1 : Int) ∧ c + (1 : Int) + p = firstF ((a, b, c, d, e, f, g), p, q) ∧ q = q ∧ (4 : Int) * p = (4 : Int) * p ∧ List.replicate b.toNat (List.replicate (8 : Nat) (0 : Int)) ≍ imgK ((a, b, c, d, e, f, g), p, q) m x ∧ True) ∧ ∀ (x : Nat), x ≤ m.length → (decide ((↑x : Int) < (↑m.length : Int)) = true → ((0 : Int) ≤ (↑x : Int) ∧ (↑x : Int) < (↑m.length : Int)) ∧ ∀ (y : Int), m[(↑x : Int).toNat]? = some y → (8 : Int) ≠ (0 : Int) ∧ ((-9223372036854775808 : Int) ≤ (↑x : Int).tdiv (8 : Int) ∧ (↑x : Int).tdiv (8 : Int) ≤ (9223372036854775807 : Int)) ∧ ((-9223372036854775808 : Int) ≤ firstF ((a, b, c, d, e, f, g), p, q) + (↑x : Int).tdiv (8 : Int) ∧ firstF ((a, b, c, d, e, f, g), p, q) + (↑x : Int).tdiv (8 : Int) ≤ (9223372036854775807 : Int)) ∧ (8 : Int) ≠ (0 : Int) ∧ ((0 : Int) ≤ firstF ((a, b, c, d, e, f, g), p, q) + (↑x : Int).tdiv (8 : Int) ∧ firstF ((a, b, c, d, e, f, g), p, q) + (↑x : Int).tdiv (8 : Int) < (↑(imgK ((a, b, c, d, e, f, g), p, q) m x).length : Int)) ∧ ((0 : Int) ≤ (↑x : Int).tmod (8 : Int) ∧ (↑x : Int).tmod (8 : Int) < (↑(8 : Nat) : Int)) ∧ (firstF ((a, b, c, d, e, f, g), p, q) + (↑x : Int).tdiv (8 : Int)).toNat < (imgK ((a, b, c, d, e, f, g), p, q) m x).length ∧ ∀ (z : List Int), (imgK ((a, b, c, d, e, f, g), p, q) m x)[(firstF ((a, b, c, d, e, f, g), p, q) + (↑x : Int).tdiv (8 : Int)).toNat]? = some z → ((-9223372036854775808 : Int) ≤ (↑x : Int) + (1 : Int) ∧ (↑x : Int) + (1 : Int) ≤ (9223372036854775807 : Int)) ∧ ∃ (y_1 : Nat), y_1 ≤ m.length ∧ m.length - y_1 < m.length - x ∧ m ≍ m ∧ (↑m.length : Int) = (↑m.length : Int) ∧ (↑x : Int) + (1 : Int) = (↑y_1 : Int) ∧ true = true ∧ c + (1 : Int) = c + (1 : Int) ∧ firstF ((a, b, c, d, e, f, g), p, q) = firstF ((a, b, c, d, e, f, g), p, q) ∧ q = q ∧ (4 : Int) * p = (4 : Int) * p ∧ (imgK ((a, b, c, d, e, f, g), p, q) m x).set (firstF ((a, b, c, d, e, f, g), p, q) + (↑x : Int).tdiv (8 : Int)).toNat (z.set ((↑x : Int).tmod (8 : Int)).toNat y) ≍ imgK ((a, b, c, d, e, f, g), p, q) m y_1 ∧ True) ∧ (decide ((↑x : Int) < (↑m.length : Int)) = false → ∃ (y : Tup (pLs :: pI :: ([] : List PS))), y = imageF ((a, b, c, d, e, f, g), p, q) m ∧ imgK ((a, b, c, d, e, f, g), p, q) m x ≍ y.fst ∧ (0 : Int) = y.snd ∧ True))) ∧ (goodP ((a, b, c, d, e, f, g), p, q) = false → ∃ (y : Tup (pLs :: pI :: ([] : List PS))), y = imageF ((a, b, c, d, e, f, g), p, q) m ∧ y.fst = ([] : List (List Int)) ∧ (1 : Int) = y.snd ∧ True)) = _) ?_
  have hp : m.length ≤ 100000 := hp
  refine ⟨fun hg => ?_, fun hg => image_out (by simp [hg])⟩
  rw [words_in hg]
  refine ⟨fun h => image_out (fun hh => by have := hh.2; dsimp only at this h; simp [this] at h), fun h => ?_⟩
  have hm : (m.length : Int) = 8 * q := by simpa using h
  have fb := first_nn hg
  dsimp only at fb
  refine ⟨⟨rfl, by omega, by omega⟩, ⟨0, Nat.zero_le _, HEq.rfl, rfl, rfl, rfl, rfl, rfl, rfl, rfl, HEq.rfl, trivial⟩, fun k hk => ⟨fun h1 => ⟨by simp at h1; omega, fun y hy => ?_⟩, fun h1 => ?_⟩⟩
  · simp only [decide_eq_true_eq] at h1
    rw [Int.toNat_natCast] at hy
    have hk2 : k < m.length := by omega
    obtain ⟨a1, a2, a3, a4⟩ := img_at hg hk2 hm
    refine ⟨by decide, by omega, by omega, by decide, by rw [a1]; exact a3, by rw [a2]; omega, by rw [a1]; omega, fun z hz => ⟨by omega, k + 1, by omega, by omega, HEq.rfl, rfl, by simp, rfl, rfl, rfl, rfl, rfl, heq_of_eq (img_step hg hk2 hm hz hy), trivial⟩⟩
  · simp only [decide_eq_false_iff_not] at h1
    exact image_in hg hm (by omega)
abbrev lp22 (h : HN) (m : List Int) : Nat → Option LoopSp := fun _ => some { X := Nat, sl := fun k => [(1, .one (.rd shU m)), (2, .one (.ptr 0 0)), (6, .one (.sl 1)), (7, .one (vi k))], h := fun k => [(0, .blk [vi h.1.1, vi h.1.2.1, vi h.1.2.2.1, vi h.1.2.2.2.1, vi h.1.2.2.2.2.1, vi h.1.2.2.2.2.2.1, vi h.1.2.2.2.2.2.2, vi h.2.1, vi h.2.2] 25), (1, .own 68 shW (imgK h m k))], nx := 2, inv := fun k => k ≤ m.length, mu := fun k => m.length - k }
theorem v22 : Valid Try.prog 22 (.pre (rS [pH, pUs] [pLs, pI] (fun x => List.length x.2 ≤ 100000) (fun x y => y = imageF x.1 x.2))) := by
  refine rS_ok mixed Tbl_ok L4_ok Try.func22 call22 rfl ?_
  rintro ⟨⟨⟨(a : Int), (b : Int), (c : Int), (d : Int), (e : Int), (f : Int), (g : Int)⟩, (p : Int), (q : Int)⟩, (m : List Int)⟩ hr hp
  refine ⟨lp22 ((a, b, c, d, e, f, g), p, q) m, ?_⟩
  refine Eq.mp (by kernel_rfl : (((!goodP ((a, b, c, d, e, f, g), p, q) || (↑m.length : Int) != wordsF ((a, b, c, d, e, f, g), p, q)) = true → ∃ (y : Tup (pLs :: pI :: ([] : List PS))), y = imageF ((a, b, c, d, e, f, g), p, q) m ∧ y.fst = ([] : List (List Int)) ∧ (1 : Int) = y.snd ∧ True) ∧ ((!goodP ((a, b, c, d, e, f, g), p, q) || (↑m.length : Int) != wordsF ((a, b, c, d, e, f, g), p, q)) = false → (b = b ∧ (0 : Int) ≤ b ∧ b * (↑(64 : Nat) : Int) ≤ (140737488355328 : Int)) ∧ (∃ (x : Nat), x ≤ m.length ∧ m ≍ m ∧ (0 : Int) = (↑x : Int) ∧ a = a ∧ b = b ∧ c = c ∧ d = d ∧ e = e ∧ f = f ∧ g = g ∧ p = p ∧ q = q ∧ List.replicate b.toNat (List.replicate (8 : Nat) (0 : Int)) ≍ imgK ((a, b, c, d, e, f, g), p, q) m x ∧ True) ∧ ∀ (x : Nat), x ≤ m.length → (decide ((↑x : Int) < (↑m.length : Int)) = true → (8 : Int) ≠ (0 : Int) ∧ ((-9223372036854775808 : Int) ≤ (↑x : Int).tdiv (8 : Int) ∧ (↑x : Int).tdiv (8 : Int) ≤ (9223372036854775807 : Int)) ∧ (8 : Int) ≠ (0 : Int) ∧ ((0 : Int) ≤ (↑x : Int) ∧ (↑x : Int) < (↑m.length : Int)) ∧ ∀ (y : Int), m[(↑x : Int).toNat]? = some y → (((-9223372036854775808 : Int) ≤ c + (1 : Int) ∧ c + (1 : Int) ≤ (9223372036854775807 : Int)) ∧ ((-9223372036854775808 : Int) ≤ c + (1 : Int) + p ∧ c + (1 : Int) + p ≤ (9223372036854775807 : Int)) ∧ ((-9223372036854775808 : Int) ≤ c + (1 : Int) + p + (↑x : Int).tdiv (8 : Int) ∧ c + (1 : Int) + p + (↑x : Int).tdiv (8 : Int) ≤ (9223372036854775807 : Int)) ∧ ((0 : Int) ≤ c + (1 : Int) + p + (↑x : Int).tdiv (8 : Int) ∧ c + (1 : Int) + p + (↑x : Int).tdiv (8 : Int) < (↑(imgK ((a, b, c, d, e, f, g), p, q) m x).length : Int)) ∧ ((0 : Int) ≤ (↑x : Int).tmod (8 : Int) ∧ (↑x : Int).tmod (8 : Int) < (↑(8 : Nat) : Int)) ∧ (c + (1 : Int) + p + (↑x : Int).tdiv (8 : Int)).toNat < (imgK ((a, b, c, d, e, f, g), p, q) m x).length ∧ ∀ (z : List Int), (imgK ((a, b, c, d, e, f, g), p, q) m x)[(c + (1 : Int) + p + (↑x : Int).tdiv (8 : Int)).toNat]? = some z → ((-9223372036854775808 : Int) ≤ (↑x : Int) + (1 : Int) ∧ (↑x : Int) + (1 : Int) ≤ (9223372036854775807 : Int)) ∧ ∃ (y_1 : Nat), y_1 ≤ m.length ∧ m.length - y_1 < m.length - x ∧ m ≍ m ∧ (↑x : Int) + (1 : Int) = (↑y_1 : Int) ∧ a = a ∧ b = b ∧ c = c ∧ d = d ∧ e = e ∧ f = f ∧ g = g ∧ p = p ∧ q = q ∧ (imgK ((a, b, c, d, e, f, g), p, q) m x).set (c + (1 : Int) + p + (↑x : Int).tdiv (8 : Int)).toNat (z.set ((↑x : Int).tmod (8 : Int)).toNat y) ≍ imgK ((a, b, c, d, e, f, g), p, q) m y_1 ∧ True) ∧ ((-9223372036854775808 : Int) ≤ c + (1 : Int) ∧ c + (1 : Int) ≤ (9223372036854775807 : Int)) ∧ ((-9223372036854775808 : Int) ≤ c + (1 : Int) + p ∧ c + (1 : Int) + p ≤ (9223372036854775807 : Int)) ∧ ((-9223372036854775808 : Int) ≤ c + (1 : Int) + p + (↑x : Int).tdiv (8 : Int) ∧ c + (1 : Int) + p + (↑x : Int).tdiv (8 : Int) ≤ (9223372036854775807 : Int)) ∧ ((0 : Int) ≤ c + (1 : Int) + p + (↑x : Int).tdiv (8 : Int) ∧ c + (1 : Int) + p + (↑x : Int).tdiv (8 : Int) < (↑(imgK ((a, b, c, d, e, f, g), p, q) m x).length : Int)) ∧ ((0 : Int) ≤ (↑x : Int).tmod (8 : Int) ∧ (↑x : Int).tmod (8 : Int) < (↑(8 : Nat) : Int)) ∧ (c + (1 : Int) + p + (↑x : Int).tdiv (8 : Int)).toNat < (imgK ((a, b, c, d, e, f, g), p, q) m x).length ∧ ∀ (z : List Int), (imgK ((a, b, c, d, e, f, g), p, q) m x)[(c + (1 : Int) + p + (↑x : Int).tdiv (8 : Int)).toNat]? = some z → ((-9223372036854775808 : Int) ≤ (↑x : Int) + (1 : Int) ∧ (↑x : Int) + (1 : Int) ≤ (9223372036854775807 : Int)) ∧ ∃ (y_1 : Nat), y_1 ≤ m.length ∧ m.length - y_1 < m.length - x ∧ m ≍ m ∧ (↑x : Int) + (1 : Int) = (↑y_1 : Int) ∧ a = a ∧ b = b ∧ c = c ∧ d = d ∧ e = e ∧ f = f ∧ g = g ∧ p = p ∧ q = q ∧ (imgK ((a, b, c, d, e, f, g), p, q) m x).set (c + (1 : Int) + p + (↑x : Int).tdiv (8 : Int)).toNat (z.set ((↑x : Int).tmod (8 : Int)).toNat y) ≍ imgK ((a, b, c, d, e, f, g), p, q) m y_1 ∧ True) ∧ (decide ((↑x : Int) < (↑m.length : Int)) = false → ∃ (y : Tup (pLs :: pI :: ([] : List PS))), y = imageF ((a, b, c, d, e, f, g), p, q) m ∧ imgK ((a, b, c, d, e, f, g), p, q) m x ≍ y.fst ∧ (0 : Int) = y.snd ∧ True))) = _) ?_
  have hp : m.length ≤ 100000 := hp
  refine ⟨fun h => image_out (fun ⟨hg, hm⟩ => ?_), fun h => ?_⟩
  · rw [words_in hg] at h
    dsimp only at hm h
    simp [hg, hm] at h
  · simp only [Bool.or_eq_false_iff, Bool.not_eq_false', bne_eq_false_iff_eq] at h
    obtain ⟨hg, hm⟩ := h
    rw [words_in hg] at hm
    dsimp only at hm
    have fb := first_nn hg
    have gb := goodP_b hg
    dsimp only at fb gb
    refine ⟨⟨rfl, by omega, by omega⟩, ⟨0, Nat.zero_le _, HEq.rfl, rfl, rfl, rfl, rfl, rfl, rfl, rfl, rfl, rfl, rfl, HEq.rfl, trivial⟩, fun k hk => ⟨fun h1 => ?_, fun h1 => ?_⟩⟩
    · simp only [decide_eq_true_eq] at h1
      have hk2 : k < m.length := by omega
      obtain ⟨a1, a2, a3, a4⟩ := img_at hg hk2 hm
      have hf : firstF ((a, b, c, d, e, f, g), p, q) = c + 1 + p := rfl
      rw [hf] at a3 a4
      refine ⟨by decide, by omega, by decide, by omega, fun y hy => ?_⟩
      rw [Int.toNat_natCast] at hy
      constructor
      all_goals
        refine ⟨by omega, by omega, by omega, by rw [a1]; exact a3, by rw [a2]; omega, by rw [a1]; omega, fun z hz => ⟨by omega, k + 1, by omega, by omega, HEq.rfl, by simp, rfl, rfl, rfl, rfl, rfl, rfl, rfl, rfl, rfl, heq_of_eq (img_step hg hk2 hm hz hy), trivial⟩⟩
    · simp only [decide_eq_false_iff_not] at h1
      exact image_in hg hm (by omega)
end Go.Proofs.Ytejeghfddnbhaaa.V
