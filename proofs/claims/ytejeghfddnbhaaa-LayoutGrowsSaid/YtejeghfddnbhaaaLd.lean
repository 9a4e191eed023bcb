import Derived.KernelRfl
import Derived.Test.YtejeghfddnbhaaaLc
namespace Go.Proofs.Ytejeghfddnbhaaa.V
open Go.RowKit Go.Proofs.Ytejeghfddnbhaaa
set_option linter.unusedSimpArgs false
abbrev L5 : List (Nat × Spec) := (21, .pre (rS [pH, pUs] [pLs, pI] (fun x => List.length x.2 ≤ 100000) (fun x y => y = imageF x.1 x.2))) :: (22, .pre (rS [pH, pUs] [pLs, pI] (fun x => List.length x.2 ≤ 100000) (fun x y => y = imageF x.1 x.2))) :: L4
theorem L5_all : ∀ p ∈ L5, Valid Try.prog p.1 p.2 := vcons v21 (vcons v22 L4_all)
theorem L5_ok : ∀ f S, spL L5 f = some S → Valid Try.prog f S := spL_ok L5_all
def partF (h : HN) (l : List LN) : List LN := (l.drop (firstF h).toNat).take h.2.2.toNat
theorem flat_len : ∀ {ls : List LN}, (∀ x ∈ ls, List.length x = 8) → ls.flatten.length = 8 * ls.length
  | [], h => rfl
  | x :: r, h => by
    have h1 := h x (List.mem_cons_self ..)
    have h2 := flat_len (ls := r) fun y hy => h y (List.mem_cons_of_mem _ hy)
    simp only [List.flatten_cons, List.length_append, List.length_cons, h1, h2]
    omega
theorem flat_get : ∀ {ls : List LN} {k : Nat} {y : LN}, (∀ x ∈ ls, List.length x = 8) → ls[k / 8]? = some y → ls.flatten[k]? = some (y.getD (k % 8) 0)
  | [], k, y, h, hy => by simp at hy
  | x :: r, k, y, h, hy => by
    have h1 : List.length x = 8 := h x (List.mem_cons_self ..)
    rw [List.flatten_cons]
    by_cases hk : k < 8
    · rw [List.getElem?_append_left (by omega)]
      rw [show k / 8 = 0 by omega] at hy
      simp only [List.getElem?_cons_zero, Option.some.injEq] at hy
      subst hy
      rw [show k % 8 = k by omega]
      simp [List.getD, show k < List.length x by omega]
    · rw [List.getElem?_append_right (by omega), h1]
      rw [show k / 8 = (k - 8) / 8 + 1 by omega, List.getElem?_cons_succ] at hy
      rw [flat_get (fun z hz => h z (List.mem_cons_of_mem _ hz)) hy, show (k - 8) % 8 = k % 8 by omega]
theorem map_out {h : HN} {l : List LN} (hn : ¬ (goodP h = true ∧ (l.length : Int) = h.1.2.1)) : ∃ y, y = mapF h l ∧ y = ([] : List Int) ∧ True := ⟨_, by rw [mapF, if_neg hn], rfl, trivial⟩
theorem part_len {h : HN} {l : List LN} (hg : goodP h = true) (hl : (l.length : Int) = h.1.2.1) : ((partF h l).length : Int) = h.2.2 := by
  have := first_nn hg
  simp only [partF, List.length_take, List.length_drop]
  omega
abbrev lp24 (h : HN) (l : List LN) : Nat → Option LoopSp := fun _ => some { X := Nat, sl := fun k => [(6, .one (.sl 0)), (38, .one (.rd shW (partF h l))), (39, .one (vi h.2.2)), (40, .one (vi k))], h := fun k => [(0, .own 27 shU (((partF h l).take k).flatten))], nx := 1, inv := fun k => (k : Int) ≤ h.2.2, mu := fun k => h.2.2.toNat - k }
theorem v24 : Valid Try.prog 24 (.pre (rS [pH, pLs] [pUs] (fun x => List.length x.2 ≤ 100000) (fun x y => y = mapF x.1 x.2))) := by
  refine rS_ok mixed Tbl_ok L5_ok Try.func24 call24 rfl ?_
  rintro ⟨⟨⟨(a : Int), (b : Int), (c : Int), (d : Int), (e : Int), (f : Int), (g : Int)⟩, (p : Int), (q : Int)⟩, (l : List LN)⟩ hr hp
  refine ⟨lp24 ((a, b, c, d, e, f, g), p, q) l, ?_⟩
  refine Eq.mp (by kernel_rfl : ((goodP ((a, b, c, d, e, f, g), p, q) = true → (((↑l.length : Int) != b) = true → ∃ (y : Tup (pUs :: ([] : List PS))), y = mapF ((a, b, c, d, e, f, g), p, q) l ∧ y = ([] : List Int) ∧ True) ∧ (((↑l.length : Int) != b) = false → ((-9223372036854775808 : Int) ≤ c + (1 : Int) + p + q ∧ c + (1 : Int) + p + q ≤ (9223372036854775807 : Int)) ∧ ((0 : Int) ≤ c + (1 : Int) + p ∧ c + (1 : Int) + p ≤ c + (1 : Int) + p + q ∧ c + (1 : Int) + p + q ≤ (↑l.length : Int)) ∧ (∃ (x : Nat), (↑x : Int) ≤ q ∧ List.take ((c + (1 : Int) + p + q).toNat - (c + (1 : Int) + p).toNat) (List.drop (c + (1 : Int) + p).toNat l) ≍ partF ((a, b, c, d, e, f, g), p, q) l ∧ (↑(List.take ((c + (1 : Int) + p + q).toNat - (c + (1 : Int) + p).toNat) (List.drop (c + (1 : Int) + p).toNat l)).length : Int) = q ∧ (0 : Int) = (↑x : Int) ∧ (List.take x (partF ((a, b, c, d, e, f, g), p, q) l)).flatten = ([] : List Int) ∧ True) ∧ ∀ (x : Nat), (↑x : Int) ≤ q → (decide ((↑x : Int) < q) = true → ((0 : Int) ≤ (↑x : Int) ∧ (↑x : Int) < (↑(partF ((a, b, c, d, e, f, g), p, q) l).length : Int)) ∧ ∀ (y : List Int), (partF ((a, b, c, d, e, f, g), p, q) l)[(↑x : Int).toNat]? = some y → ((List.take x (partF ((a, b, c, d, e, f, g), p, q) l)).flatten.length + y.length) * (8 : Nat) ≤ (140737488355328 : Nat) ∧ ((-9223372036854775808 : Int) ≤ (↑x : Int) + (1 : Int) ∧ (↑x : Int) + (1 : Int) ≤ (9223372036854775807 : Int)) ∧ ∃ (y_1 : Nat), (↑y_1 : Int) ≤ q ∧ q.toNat - y_1 < q.toNat - x ∧ partF ((a, b, c, d, e, f, g), p, q) l ≍ partF ((a, b, c, d, e, f, g), p, q) l ∧ q = q ∧ (↑x : Int) + (1 : Int) = (↑y_1 : Int) ∧ (List.take x (partF ((a, b, c, d, e, f, g), p, q) l)).flatten ++ y ≍ (List.take y_1 (partF ((a, b, c, d, e, f, g), p, q) l)).flatten ∧ True) ∧ (decide ((↑x : Int) < q) = false → ∃ (y : Tup (pUs :: ([] : List PS))), y = mapF ((a, b, c, d, e, f, g), p, q) l ∧ (List.take x (partF ((a, b, c, d, e, f, g), p, q) l)).flatten ≍ y ∧ True))) ∧ (goodP ((a, b, c, d, e, f, g), p, q) = false → ∃ (y : Tup (pUs :: ([] : List PS))), y = mapF ((a, b, c, d, e, f, g), p, q) l ∧ y = ([] : List Int) ∧ True)) = _) ?_
  have hp : l.length ≤ 100000 := hp
  have h8 : ∀ x ∈ l, List.length x = 8 := fun x hx => (hr.2.2 x hx).1
  have h8p : ∀ x ∈ partF ((a, b, c, d, e, f, g), p, q) l, List.length x = 8 := fun x hx => h8 x (List.mem_of_mem_drop (List.mem_of_mem_take hx))
  refine ⟨fun hg => ⟨fun h => map_out (fun hh => by have := hh.2; dsimp only at this h; simp [this] at h), fun h => ?_⟩, fun hg => map_out (by simp [hg])⟩
  have hb : (l.length : Int) = b := by simpa using h
  have fb := first_nn hg
  have hf : firstF ((a, b, c, d, e, f, g), p, q) = c + 1 + p := rfl
  have hl := part_len hg hb
  have gb := goodP_b hg
  rw [hf] at fb
  dsimp only at fb hl gb
  have e1 : List.take ((c + 1 + p + q).toNat - (c + 1 + p).toNat) (List.drop (c + 1 + p).toNat l) = partF ((a, b, c, d, e, f, g), p, q) l := by
    rw [partF, hf, show (c + 1 + p + q).toNat - (c + 1 + p).toNat = q.toNat by omega]
  rw [e1]
  refine ⟨by omega, by omega, ⟨0, by omega, HEq.rfl, hl, rfl, rfl, trivial⟩, fun k hk => ⟨fun h1 => ?_, fun h1 => ?_⟩⟩
  · simp only [decide_eq_true_eq] at h1
    refine ⟨by omega, fun y hy => ?_⟩
    rw [Int.toNat_natCast] at hy
    have y8 : List.length y = 8 := h8p y (List.mem_of_getElem? hy)
    have fl := flat_len (ls := (partF ((a, b, c, d, e, f, g), p, q) l).take k) fun x hx => h8p x (List.mem_of_mem_take hx)
    rw [List.length_take] at fl
    refine ⟨by rw [fl, y8]; omega, by omega, k + 1, by omega, by omega, HEq.rfl, rfl, by simp, heq_of_eq ?_, trivial⟩
    rw [List.take_add_one, hy]
    simp
  · simp only [decide_eq_false_iff_not] at h1
    refine ⟨_, rfl, heq_of_eq ?_, trivial⟩
    rw [mapF, if_pos ⟨hg, hb⟩, List.take_of_length_le (by omega)]
    rfl
abbrev bxH (h : HN) : List (Nat × Ck) := [(0, .blk [vi h.1.1, vi h.1.2.1, vi h.1.2.2.1, vi h.1.2.2.2.1, vi h.1.2.2.2.2.1, vi h.1.2.2.2.2.2.1, vi h.1.2.2.2.2.2.2, vi h.2.1, vi h.2.2] 25)]
abbrev lp25 (h : HN) (l : List LN) : Nat → Option LoopSp := fun _ => some { X := Nat, sl := fun k => [(1, .one (.rd shW l)), (2, .one (.ptr 0 0)), (5, .one (.sl 1)), (6, .one (vi k))], h := fun k => bxH h ++ [(1, .own 27 shU ((partF h l).flatten.take k))], nx := 2, inv := fun k => (k : Int) ≤ 8 * h.2.2, mu := fun k => (8 * h.2.2).toNat - k }
theorem v25 : Valid Try.prog 25 (.pre (rS [pH, pLs] [pUs] (fun x => List.length x.2 ≤ 100000) (fun x y => y = mapF x.1 x.2))) := by
  refine rS_ok mixed Tbl_ok L5_ok Try.func25 call25 rfl ?_
  rintro ⟨⟨⟨(a : Int), (b : Int), (c : Int), (d : Int), (e : Int), (f : Int), (g : Int)⟩, (p : Int), (q : Int)⟩, (l : List LN)⟩ hr hp
  refine ⟨lp25 ((a, b, c, d, e, f, g), p, q) l, ?_⟩
  refine Eq.mp (by kernel_rfl : (((!goodP ((a, b, c, d, e, f, g), p, q) || (↑l.length : Int) != b) = true → ∃ (y : Tup (pUs :: ([] : List PS))), y = mapF ((a, b, c, d, e, f, g), p, q) l ∧ y = ([] : List Int) ∧ True) ∧ ((!goodP ((a, b, c, d, e, f, g), p, q) || (↑l.length : Int) != b) = false → (∃ (x : Nat), (↑x : Int) ≤ (8 : Int) * q ∧ l ≍ l ∧ (0 : Int) = (↑x : Int) ∧ a = a ∧ b = b ∧ c = c ∧ d = d ∧ e = e ∧ f = f ∧ g = g ∧ p = p ∧ q = q ∧ List.take x (partF ((a, b, c, d, e, f, g), p, q) l).flatten = ([] : List Int) ∧ True) ∧ ∀ (x : Nat), (↑x : Int) ≤ (8 : Int) * q → (decide ((↑x : Int) < wordsF ((a, b, c, d, e, f, g), p, q)) = true → ((-9223372036854775808 : Int) ≤ c + (1 : Int) ∧ c + (1 : Int) ≤ (9223372036854775807 : Int)) ∧ ((-9223372036854775808 : Int) ≤ c + (1 : Int) + p ∧ c + (1 : Int) + p ≤ (9223372036854775807 : Int)) ∧ (8 : Int) ≠ (0 : Int) ∧ ((-9223372036854775808 : Int) ≤ (↑x : Int).tdiv (8 : Int) ∧ (↑x : Int).tdiv (8 : Int) ≤ (9223372036854775807 : Int)) ∧ ((-9223372036854775808 : Int) ≤ c + (1 : Int) + p + (↑x : Int).tdiv (8 : Int) ∧ c + (1 : Int) + p + (↑x : Int).tdiv (8 : Int) ≤ (9223372036854775807 : Int)) ∧ (8 : Int) ≠ (0 : Int) ∧ ((0 : Int) ≤ c + (1 : Int) + p + (↑x : Int).tdiv (8 : Int) ∧ c + (1 : Int) + p + (↑x : Int).tdiv (8 : Int) < (↑l.length : Int)) ∧ ∀ (y : List Int), l[(c + (1 : Int) + p + (↑x : Int).tdiv (8 : Int)).toNat]? = some y → ((0 : Int) ≤ (↑x : Int).tmod (8 : Int) ∧ (↑x : Int).tmod (8 : Int) < (↑(8 : Nat) : Int)) ∧ ((List.take x (partF ((a, b, c, d, e, f, g), p, q) l).flatten).length + (y.getD ((↑x : Int).tmod (8 : Int)).toNat (0 : Int) :: ([] : List Int)).length) * (8 : Nat) ≤ (140737488355328 : Nat) ∧ ((-9223372036854775808 : Int) ≤ (↑x : Int) + (1 : Int) ∧ (↑x : Int) + (1 : Int) ≤ (9223372036854775807 : Int)) ∧ ∃ (y_1 : Nat), (↑y_1 : Int) ≤ (8 : Int) * q ∧ ((8 : Int) * q).toNat - y_1 < ((8 : Int) * q).toNat - x ∧ l ≍ l ∧ (↑x : Int) + (1 : Int) = (↑y_1 : Int) ∧ a = a ∧ b = b ∧ c = c ∧ d = d ∧ e = e ∧ f = f ∧ g = g ∧ p = p ∧ q = q ∧ List.take x (partF ((a, b, c, d, e, f, g), p, q) l).flatten ++ y.getD ((↑x : Int).tmod (8 : Int)).toNat (0 : Int) :: ([] : List Int) ≍ List.take y_1 (partF ((a, b, c, d, e, f, g), p, q) l).flatten ∧ True) ∧ (decide ((↑x : Int) < wordsF ((a, b, c, d, e, f, g), p, q)) = false → ∃ (y : Tup (pUs :: ([] : List PS))), y = mapF ((a, b, c, d, e, f, g), p, q) l ∧ List.take x (partF ((a, b, c, d, e, f, g), p, q) l).flatten ≍ y ∧ True))) = _) ?_
  have hp : l.length ≤ 100000 := hp
  have h8 : ∀ x ∈ l, List.length x = 8 := fun x hx => (hr.2.2 x hx).1
  have h8p : ∀ x ∈ partF ((a, b, c, d, e, f, g), p, q) l, List.length x = 8 := fun x hx => h8 x (List.mem_of_mem_drop (List.mem_of_mem_take hx))
  refine ⟨fun h => map_out (fun ⟨hg, hm⟩ => by dsimp only at hm h; simp [hg, hm] at h), fun h => ?_⟩
  simp only [Bool.or_eq_false_iff, Bool.not_eq_false', bne_eq_false_iff_eq] at h
  obtain ⟨hg, hb⟩ := h
  have fb := first_nn hg
  have hf : firstF ((a, b, c, d, e, f, g), p, q) = c + 1 + p := rfl
  have hl := part_len (l := l) hg hb
  have gb := goodP_b hg
  rw [hf] at fb
  rw [words_in hg]
  dsimp only at fb hl gb
  have fl := flat_len h8p
  refine ⟨⟨0, by omega, HEq.rfl, rfl, rfl, rfl, rfl, rfl, rfl, rfl, rfl, rfl, rfl, rfl, trivial⟩, fun k hk => ⟨fun h1 => ?_, fun h1 => ?_⟩⟩
  · simp only [decide_eq_true_eq] at h1
    have e1 : (k : Int).tdiv 8 = ((k / 8 : Nat) : Int) := by rw [Int.tdiv_eq_ediv_of_nonneg (by omega)]; omega
    have e2 : (k : Int).tmod 8 = ((k % 8 : Nat) : Int) := by rw [Int.tmod_eq_emod_of_nonneg (by omega)]; omega
    rw [e1, e2]
    refine ⟨by omega, by omega, by decide, by omega, by omega, by decide, by omega, fun y hy => ⟨by omega, by simp; omega, by omega, k + 1, by omega, by omega, HEq.rfl, by simp, rfl, rfl, rfl, rfl, rfl, rfl, rfl, rfl, rfl, heq_of_eq ?_, trivial⟩⟩
    have hy2 : (partF ((a, b, c, d, e, f, g), p, q) l)[k / 8]? = some y := by
      rw [partF, hf, List.getElem?_take_of_lt (by dsimp only; omega), List.getElem?_drop, ← hy]
      congr 1
      omega
    rw [List.take_add_one, flat_get h8p hy2, Int.toNat_natCast]
    rfl
  · simp only [decide_eq_false_iff_not] at h1
    refine ⟨_, rfl, heq_of_eq ?_, trivial⟩
    rw [mapF, if_pos ⟨hg, hb⟩, List.take_of_length_le (by omega)]
    rfl
end Go.Proofs.Ytejeghfddnbhaaa.V
