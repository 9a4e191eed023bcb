import Derived.KernelRfl
import Derived.Test.YtejeghfddnbhaaaLe
namespace Go.Proofs.Ytejeghfddnbhaaa.V
open Go.RowKit Go.Proofs.Ytejeghfddnbhaaa
set_option linter.unusedSimpArgs false
/-- The places, one behind the other. -/
def allV (c : Int) (N : Nat) : List Int := 0 :: c * 64 :: (List.range N).map fun (j : Nat) => (c + 1) * 64 + 8 * (j : Int)
abbrev bx5 (h : HN) (n : Nat) (N : Nat) : List (Nat × Ck) := bxH h ++ [(1, .own 27 shU (allV h.1.2.2.1 N))]
structure D5 (N i k : Nat) : Prop where
  hi : i < N
  hk : k ≤ i
abbrev lp5 (h : HN) (m : List Int) : Nat → Option LoopSp := fun r => match r with
  | 6 => some { X := Nat, sl := fun n => [(1, .one (.rd shU m)), (2, .one (.ptr 0 0)), (5, .one (.sl 1)), (6, .one (vi n))], h := fun n => bx5 h n (2 * n), nx := 2, inv := fun n => (n : Int) ≤ 4 * h.2.1, mu := fun n => (4 * h.2.1).toNat - n }
  | 13 => some { X := Nat, sl := fun w => [(1, .one (.rd shU m)), (2, .one (.ptr 0 0)), (5, .one (.sl 1)), (8, .one (vi w))], h := fun w => bx5 h w ((8 * h.2.1).toNat + w), nx := 2, inv := fun w => (w : Int) ≤ 8 * h.2.2, mu := fun w => (8 * h.2.2).toNat - w }
  | 17 => some { X := Nat, sl := fun i => [(1, .one (.rd shU m)), (2, .one (.ptr 0 0)), (5, .one (.sl 1)), (9, .one (vi i))], h := fun i => bx5 h i (8 * h.2.1 + 8 * h.2.2).toNat, nx := 2, inv := fun i => (i : Int) ≤ 2 + 8 * h.2.1 + 8 * h.2.2, mu := fun i => (2 + 8 * h.2.1 + 8 * h.2.2).toNat - i }
  | 21 => some { X := Nat, sl := fun i => [(2, .one (.ptr 0 0)), (5, .one (.sl 1))], h := fun i => bx5 h i (8 * h.2.1 + 8 * h.2.2).toNat, nx := 2, inv := fun i => (i : Int) < 2 + 8 * h.2.1 + 8 * h.2.2, mu := fun _ => 0, cut := true, kp := [1, 9], ln := fun i => [(9, i)] }
  | 22 => some { X := Nat × Nat, sl := fun x => [(1, .one (.rd shU m)), (2, .one (.ptr 0 0)), (5, .one (.sl 1)), (9, .one (vi x.1)), (10, .one (vi x.2))], h := fun x => bx5 h 0 (8 * h.2.1 + 8 * h.2.2).toNat, nx := 2, inv := fun x => D5 (2 + 8 * h.2.1 + 8 * h.2.2).toNat x.1 x.2, mu := fun x => x.1 - x.2, ln := fun x => [(9, x.1)] }
  | 26 => k7 Unit (fun _ => [(2, .one (.ptr 0 0)), (5, .one (.rd shU (allV h.1.2.2.1 (8 * h.2.1 + 8 * h.2.2).toNat)))]) (fun _ => bxH h) 1 (fun _ => True) [1]
  | 28 => k7 Unit (fun _ => [(2, .one (.ptr 0 0))]) (fun _ => bxH h) 1 (fun _ => True) [1]
  | 29 => k7 Unit (fun _ => [(2, .one (.ptr 0 0)), (11, .one (.rd shW (imageF h m).1)), (12, .one (vi (imageF h m).2))]) (fun _ => bxH h) 1 (fun _ => True) [1]
  | _ => none
def valA (c : Int) (i : Nat) : Int := if i = 0 then 0 else if i = 1 then c * 64 else (c + 1) * 64 + 8 * ((i : Int) - 2)
theorem allV_len {c : Int} {N : Nat} : (allV c N).length = N + 2 := by simp [allV]
theorem allV_get {c : Int} {N i : Nat} {y : Int} (h : (allV c N)[i]? = some y) : y = valA c i := by
  match i with
  | 0 => exact (Option.some.inj h).symm
  | 1 => exact (Option.some.inj h).symm
  | i + 2 =>
    have h : ((List.range N).map fun (j : Nat) => (c + 1) * 64 + 8 * (j : Int))[i]? = some y := h
    rw [List.getElem?_map] at h
    obtain ⟨j, hj, rfl⟩ := Option.map_eq_some_iff.1 h
    obtain ⟨h1, h2⟩ := List.getElem?_eq_some_iff.1 hj
    have : j = i := by rw [← h2]; simp
    subst this
    simp only [valA, if_neg (show ¬ j + 2 = 0 by omega), if_neg (show ¬ j + 2 = 1 by omega)]
    omega
theorem allV_succ {c : Int} {N : Nat} {v : Int} (h : v = (c + 1) * 64 + 8 * (N : Int)) : allV c N ++ [v] = allV c (N + 1) := by
  simp [allV, List.range_succ, h]
theorem valA_b {c : Int} {i : Nat} (hc : 1 ≤ c) : 0 ≤ valA c i ∧ (valA c i) % 8 = 0 ∧ (0 < i → 64 * c ≤ valA c i) ∧ valA c i ≤ (c + 1) * 64 + 8 * (i : Int) ∧ (i < 2 → valA c i ≤ 64 * c) ∧ (2 ≤ i → valA c i = (c + 1) * 64 + 8 * ((i : Int) - 2)) := by
  unfold valA
  split
  · omega
  · split
    · omega
    · omega
theorem valA_lt {c : Int} {k i : Nat} (hc : 1 ≤ c) (h : k < i) : valA c k < valA c i := by
  unfold valA
  repeat' split
  all_goals omega
theorem img_line {h : HN} {m : List Int} : ∀ {k : Nat} {x : LN}, x ∈ imgK h m k → List.length x = 8
  | 0, x, hx => by
    rw [(List.mem_replicate.1 hx).2]; rfl
  | k + 1, x, hx => by
    rcases List.mem_or_eq_of_mem_set hx with h1 | rfl
    · exact img_line h1
    · rw [List.length_set]
      unfold List.getD
      cases hg : (imgK h m k)[(firstF h).toNat + k / 8]? with
      | none => rfl
      | some z => exact img_line (List.mem_of_getElem? hg)
theorem img_get {h : HN} {m : List Int} (hg : goodP h = true) : ∀ {k : Nat}, (k : Int) ≤ 8 * h.2.2 → ∀ j r : Nat, (j : Int) < h.2.2 → r < 8 → ((imgK h m k).getD ((firstF h).toNat + j) Z8).getD r 0 = if 8 * j + r < k then m.getD (8 * j + r) 0 else 0
  | 0, hk, j, r, hj, hr => by
    have : (imgK h m 0).getD ((firstF h).toNat + j) Z8 = Z8 := by
      simp only [imgK, List.getD]
      cases hx : (List.replicate h.1.2.1.toNat Z8)[(firstF h).toNat + j]? with
      | none => rfl
      | some z => exact (List.mem_replicate.1 (List.mem_of_getElem? hx)).2
    rw [this, if_neg (by omega)]
    simp only [List.getD, Z8, List.getElem?_replicate, if_pos hr, Option.getD_some]
  | k + 1, hk, j, r, hj, hr => by
    have ih := img_get (m := m) hg (k := k) (by omega) j r hj hr
    have fb := first_nn hg
    have hlen : (firstF h).toNat + k / 8 < (imgK h m k).length := by rw [imgK_len]; omega
    by_cases hjk : j = k / 8
    · subst hjk
      have e : (imgK h m (k + 1)).getD ((firstF h).toNat + k / 8) Z8 = ((imgK h m k).getD ((firstF h).toNat + k / 8) Z8).set (k % 8) (m.getD k 0) := by
        simp only [imgK, List.getD, List.getElem?_set_self hlen, Option.getD_some]
      have h8 : ((imgK h m k).getD ((firstF h).toNat + k / 8) Z8).length = 8 := by
        simp only [List.getD, List.getElem?_eq_getElem hlen, Option.getD_some]
        exact img_line (List.getElem_mem hlen)
      rw [e]
      by_cases hrk : r = k % 8
      · subst hrk
        rw [if_pos (by omega), show 8 * (k / 8) + k % 8 = k by omega]
        generalize (imgK h m k).getD ((firstF h).toNat + k / 8) Z8 = L at h8 ⊢
        simp only [List.getD, List.getElem?_set_self (show k % 8 < L.length by omega), Option.getD_some]
      · have : (((imgK h m k).getD ((firstF h).toNat + k / 8) Z8).set (k % 8) (m.getD k 0)).getD r 0 = ((imgK h m k).getD ((firstF h).toNat + k / 8) Z8).getD r 0 := by
          simp only [List.getD]
          rw [List.getElem?_set_ne (by omega)]
        rw [this, ih]
        by_cases h1 : 8 * (k / 8) + r < k
        · rw [if_pos h1, if_pos (by omega)]
        · rw [if_neg h1, if_neg (by omega)]
    · have e : (imgK h m (k + 1)).getD ((firstF h).toNat + j) Z8 = (imgK h m k).getD ((firstF h).toNat + j) Z8 := by
        simp only [imgK, List.getD]
        rw [List.getElem?_set_ne (by omega)]
      rw [e, ih]
      by_cases h1 : 8 * j + r < k
      · rw [if_pos h1, if_pos (by omega)]
      · rw [if_neg h1, if_neg (by omega)]
theorem map_image {h : HN} {m : List Int} (hg : goodP h = true) (hm : (m.length : Int) = 8 * h.2.2) : mapF h (imageF h m).1 = m := by
  have fb := first_nn hg
  have hl : ((imgK h m m.length).length : Int) = h.1.2.1 := by rw [imgK_len]; omega
  rw [imageF, if_pos ⟨hg, hm⟩, mapF, if_pos ⟨hg, hl⟩]
  have h8 : ∀ x ∈ partF h (imgK h m m.length), List.length x = 8 := fun x hx => img_line (List.mem_of_mem_drop (List.mem_of_mem_take hx))
  have pl := part_len hg hl
  have fl := flat_len h8
  show (partF h (imgK h m m.length)).flatten = m
  apply List.ext_getElem?
  intro k
  by_cases hk : k < m.length
  · have hj : (partF h (imgK h m m.length))[k / 8]? = some ((imgK h m m.length).getD ((firstF h).toNat + k / 8) Z8) := by
      rw [partF, List.getElem?_take_of_lt (by omega), List.getElem?_drop]
      rw [List.getElem?_eq_getElem (by omega)]
      simp only [List.getD, List.getElem?_eq_getElem (show (firstF h).toNat + k / 8 < (imgK h m m.length).length by omega), Option.getD_some]
    rw [flat_get h8 hj, img_get hg (by omega) (k / 8) (k % 8) (by omega) (by omega), if_pos (by omega), show 8 * (k / 8) + k % 8 = k by omega]
    simp [List.getD, hk]
  · rw [List.getElem?_eq_none (by omega), List.getElem?_eq_none (by omega)]
theorem apart_law : ∀ x, rngTup [pH, pUs] x → ∃ lp, runF Tbl (spL L8) lp 0 Try.f5 (enVs [pH, pUs] x) ⟨0, []⟩ fun r' st' => fzR st' (mkB true) r' := by
  rintro ⟨⟨⟨(a : Int), (b : Int), (c : Int), (d : Int), (e : Int), (f : Int), (g : Int)⟩, (p : Int), (q : Int)⟩, (m : List Int)⟩ hr
  refine ⟨lp5 ((a, b, c, d, e, f, g), p, q) m, ?_⟩
  refine Eq.mp (by kernel_rfl : (((!goodP ((a, b, c, d, e, f, g), p, q) || decide ((↑m.length : Int) > (500 : Int))) = true → true = true ∧ True) ∧ ((!goodP ((a, b, c, d, e, f, g), p, q) || decide ((↑m.length : Int) > (500 : Int))) = false → ((0 : Tup (pU :: ([] : List PS))) :: countF ((a, b, c, d, e, f, g), p, q) :: ([] : List Int)).length * (8 : Nat) ≤ (140737488355328 : Nat) ∧ (∃ (x : Nat), (↑x : Int) ≤ (4 : Int) * p ∧ m ≍ m ∧ (0 : Int) = (↑x : Int) ∧ a = a ∧ b = b ∧ c = c ∧ d = d ∧ e = e ∧ f = f ∧ g = g ∧ p = p ∧ q = q ∧ (0 : Tup (pU :: ([] : List PS))) :: countF ((a, b, c, d, e, f, g), p, q) :: ([] : List Int) ≍ allV c ((2 : Nat) * x) ∧ True) ∧ ∀ (x : Nat), (↑x : Int) ≤ (4 : Int) * p → ((decide ((↑x : Int) < roomF ((a, b, c, d, e, f, g), p, q)) && decide ((↑x : Int) < (100 : Int))) = true → (64 : Int) ≠ (0 : Int) ∧ (64 : Int) ≠ (0 : Int) ∧ ((IntKind.u64.wrap ((entryF ((a, b, c, d, e, f, g), p, q) (↑x : Int)).tdiv (64 : Int)) != IntKind.u64.wrap ((IntKind.u64.wrap (entryF ((a, b, c, d, e, f, g), p, q) (↑x : Int) + (8 : Int))).tdiv (64 : Int))) = true → false = true ∧ True) ∧ ((IntKind.u64.wrap ((entryF ((a, b, c, d, e, f, g), p, q) (↑x : Int)).tdiv (64 : Int)) != IntKind.u64.wrap ((IntKind.u64.wrap (entryF ((a, b, c, d, e, f, g), p, q) (↑x : Int) + (8 : Int))).tdiv (64 : Int))) = false → ((allV c ((2 : Nat) * x)).length + (entryF ((a, b, c, d, e, f, g), p, q) (↑x : Int) :: IntKind.u64.wrap (entryF ((a, b, c, d, e, f, g), p, q) (↑x : Int) + (8 : Int)) :: ([] : List Int)).length) * (8 : Nat) ≤ (140737488355328 : Nat) ∧ ((-9223372036854775808 : Int) ≤ (↑x : Int) + (1 : Int) ∧ (↑x : Int) + (1 : Int) ≤ (9223372036854775807 : Int)) ∧ ∃ (y : Nat), (↑y : Int) ≤ (4 : Int) * p ∧ ((4 : Int) * p).toNat - y < ((4 : Int) * p).toNat - x ∧ m ≍ m ∧ (↑x : Int) + (1 : Int) = (↑y : Int) ∧ a = a ∧ b = b ∧ c = c ∧ d = d ∧ e = e ∧ f = f ∧ g = g ∧ p = p ∧ q = q ∧ allV c ((2 : Nat) * x) ++ entryF ((a, b, c, d, e, f, g), p, q) (↑x : Int) :: IntKind.u64.wrap (entryF ((a, b, c, d, e, f, g), p, q) (↑x : Int) + (8 : Int)) :: ([] : List Int) ≍ allV c ((2 : Nat) * y) ∧ True)) ∧ ((decide ((↑x : Int) < roomF ((a, b, c, d, e, f, g), p, q)) && decide ((↑x : Int) < (100 : Int))) = false → (∃ (x_1 : Nat), (↑x_1 : Int) ≤ (8 : Int) * q ∧ m ≍ m ∧ (0 : Int) = (↑x_1 : Int) ∧ a = a ∧ b = b ∧ c = c ∧ d = d ∧ e = e ∧ f = f ∧ g = g ∧ p = p ∧ q = q ∧ allV c ((2 : Nat) * x) ≍ allV c (((8 : Int) * p).toNat + x_1) ∧ True) ∧ ∀ (x : Nat), (↑x : Int) ≤ (8 : Int) * q → ((decide ((↑x : Int) < wordsF ((a, b, c, d, e, f, g), p, q)) && decide ((↑x : Int) < (200 : Int))) = true → ((allV c (((8 : Int) * p).toNat + x)).length + (wordF ((a, b, c, d, e, f, g), p, q) (↑x : Int) :: ([] : List Int)).length) * (8 : Nat) ≤ (140737488355328 : Nat) ∧ ((-9223372036854775808 : Int) ≤ (↑x : Int) + (1 : Int) ∧ (↑x : Int) + (1 : Int) ≤ (9223372036854775807 : Int)) ∧ ∃ (y : Nat), (↑y : Int) ≤ (8 : Int) * q ∧ ((8 : Int) * q).toNat - y < ((8 : Int) * q).toNat - x ∧ m ≍ m ∧ (↑x : Int) + (1 : Int) = (↑y : Int) ∧ a = a ∧ b = b ∧ c = c ∧ d = d ∧ e = e ∧ f = f ∧ g = g ∧ p = p ∧ q = q ∧ allV c (((8 : Int) * p).toNat + x) ++ wordF ((a, b, c, d, e, f, g), p, q) (↑x : Int) :: ([] : List Int) ≍ allV c (((8 : Int) * p).toNat + y) ∧ True) ∧ ((decide ((↑x : Int) < wordsF ((a, b, c, d, e, f, g), p, q)) && decide ((↑x : Int) < (200 : Int))) = false → ((∃ (x_1 : Nat), (↑x_1 : Int) ≤ (2 : Int) + (8 : Int) * p + (8 : Int) * q ∧ m ≍ m ∧ (0 : Int) = (↑x_1 : Int) ∧ a = a ∧ b = b ∧ c = c ∧ d = d ∧ e = e ∧ f = f ∧ g = g ∧ p = p ∧ q = q ∧ allV c (((8 : Int) * p).toNat + x) ≍ allV c ((8 : Int) * p + (8 : Int) * q).toNat ∧ True) ∧ ∀ (x : Nat), (↑x : Int) ≤ (2 : Int) + (8 : Int) * p + (8 : Int) * q → (decide ((↑x : Int) < (↑(allV c ((8 : Int) * p + (8 : Int) * q).toNat).length : Int)) = true → (((0 : Int) ≤ (↑x : Int) ∧ (↑x : Int) < (↑(allV c ((8 : Int) * p + (8 : Int) * q).toNat).length : Int)) ∧ (↑x : Int).toNat < (allV c ((8 : Int) * p + (8 : Int) * q).toNat).length ∧ ∀ (y : Int), (allV c ((8 : Int) * p + (8 : Int) * q).toNat)[(↑x : Int).toNat]? = some y → (8 : Int) ≠ (0 : Int) ∧ ((y.tmod (8 : Int) != (0 : Int)) = true → false = true ∧ True) ∧ ((y.tmod (8 : Int) != (0 : Int)) = false → ((0 : Int) ≤ (↑x : Int) ∧ (↑x : Int) < (↑(allV c ((8 : Int) * p + (8 : Int) * q).toNat).length : Int)) ∧ ((-9223372036854775808 : Int) ≤ (64 : Int) * b ∧ (64 : Int) * b ≤ (9223372036854775807 : Int)) ∧ (↑x : Int).toNat < (allV c ((8 : Int) * p + (8 : Int) * q).toNat).length ∧ ∀ (y : Int), (allV c ((8 : Int) * p + (8 : Int) * q).toNat)[(↑x : Int).toNat]? = some y → (decide (y ≥ IntKind.u64.wrap ((64 : Int) * b)) = true → false = true ∧ True) ∧ (decide (y ≥ IntKind.u64.wrap ((64 : Int) * b)) = false → (decide ((↑x : Int) > (0 : Int)) = true → ((0 : Int) ≤ (↑x : Int) ∧ (↑x : Int) < (↑(allV c ((8 : Int) * p + (8 : Int) * q).toNat).length : Int)) ∧ ((-9223372036854775808 : Int) ≤ (64 : Int) * c ∧ (64 : Int) * c ≤ (9223372036854775807 : Int)) ∧ (↑x : Int).toNat < (allV c ((8 : Int) * p + (8 : Int) * q).toNat).length ∧ ∀ (y : Int), (allV c ((8 : Int) * p + (8 : Int) * q).toNat)[(↑x : Int).toNat]? = some y → (decide (y < IntKind.u64.wrap ((64 : Int) * c)) = true → false = true ∧ True) ∧ (decide (y < IntKind.u64.wrap ((64 : Int) * c)) = false → ∃ (y : Nat), (↑y : Int) < (2 : Int) + (8 : Int) * p + (8 : Int) * q ∧ (↑y : Int) = (↑x : Int) ∧ m ≍ m ∧ (↑x : Int) = (↑x : Int) ∧ a = a ∧ b = b ∧ c = c ∧ d = d ∧ e = e ∧ f = f ∧ g = g ∧ p = p ∧ q = q ∧ allV c ((8 : Int) * p + (8 : Int) * q).toNat ≍ allV c ((8 : Int) * p + (8 : Int) * q).toNat ∧ True)) ∧ (decide ((↑x : Int) > (0 : Int)) = false → ∃ (y : Nat), (↑y : Int) < (2 : Int) + (8 : Int) * p + (8 : Int) * q ∧ (↑y : Int) = (↑x : Int) ∧ m ≍ m ∧ (↑x : Int) = (↑x : Int) ∧ a = a ∧ b = b ∧ c = c ∧ d = d ∧ e = e ∧ f = f ∧ g = g ∧ p = p ∧ q = q ∧ allV c ((8 : Int) * p + (8 : Int) * q).toNat ≍ allV c ((8 : Int) * p + (8 : Int) * q).toNat ∧ True)))) ∧ ∀ (x_1 : Nat), (↑x_1 : Int) < (2 : Int) + (8 : Int) * p + (8 : Int) * q → (↑x_1 : Int) = (↑x : Int) → (∃ (x_2 : Nat × Nat), D5 ((2 : Int) + (8 : Int) * p + (8 : Int) * q).toNat x_2.fst x_2.snd ∧ (↑x_2.fst : Int) = (↑x : Int) ∧ m ≍ m ∧ (↑x : Int) = (↑x_2.fst : Int) ∧ (0 : Int) = (↑x_2.snd : Int) ∧ a = a ∧ b = b ∧ c = c ∧ d = d ∧ e = e ∧ f = f ∧ g = g ∧ p = p ∧ q = q ∧ allV c ((8 : Int) * p + (8 : Int) * q).toNat ≍ allV c ((8 : Int) * p + (8 : Int) * q).toNat ∧ True) ∧ ∀ (x_2 : Nat × Nat), D5 ((2 : Int) + (8 : Int) * p + (8 : Int) * q).toNat x_2.fst x_2.snd → (↑x_2.fst : Int) = (↑x : Int) → (decide ((↑x_2.snd : Int) < (↑x_2.fst : Int)) = true → ((0 : Int) ≤ (↑x_2.snd : Int) ∧ (↑x_2.snd : Int) < (↑(allV c ((8 : Int) * p + (8 : Int) * q).toNat).length : Int)) ∧ ((0 : Int) ≤ (↑x_2.fst : Int) ∧ (↑x_2.fst : Int) < (↑(allV c ((8 : Int) * p + (8 : Int) * q).toNat).length : Int)) ∧ ((↑x_2.snd : Int).toNat < (allV c ((8 : Int) * p + (8 : Int) * q).toNat).length ∧ ∀ (y : Int), (allV c ((8 : Int) * p + (8 : Int) * q).toNat)[(↑x_2.snd : Int).toNat]? = some y → (↑x_2.fst : Int).toNat < (allV c ((8 : Int) * p + (8 : Int) * q).toNat).length ∧ ∀ (y_1 : Int), (allV c ((8 : Int) * p + (8 : Int) * q).toNat)[(↑x_2.fst : Int).toNat]? = some y_1 → ((y == y_1) = true → false = true ∧ True) ∧ ((y == y_1) = false → ((-9223372036854775808 : Int) ≤ (↑x_2.snd : Int) + (1 : Int) ∧ (↑x_2.snd : Int) + (1 : Int) ≤ (9223372036854775807 : Int)) ∧ ∃ (y : Nat × Nat), D5 ((2 : Int) + (8 : Int) * p + (8 : Int) * q).toNat y.fst y.snd ∧ (↑y.fst : Int) = (↑x : Int) ∧ y.fst - y.snd < x_2.fst - x_2.snd ∧ m ≍ m ∧ (↑x_2.fst : Int) = (↑y.fst : Int) ∧ (↑x_2.snd : Int) + (1 : Int) = (↑y.snd : Int) ∧ a = a ∧ b = b ∧ c = c ∧ d = d ∧ e = e ∧ f = f ∧ g = g ∧ p = p ∧ q = q ∧ allV c ((8 : Int) * p + (8 : Int) * q).toNat ≍ allV c ((8 : Int) * p + (8 : Int) * q).toNat ∧ True)) ∧ (↑x_2.fst : Int).toNat < (allV c ((8 : Int) * p + (8 : Int) * q).toNat).length ∧ ∀ (y : Int), (allV c ((8 : Int) * p + (8 : Int) * q).toNat)[(↑x_2.fst : Int).toNat]? = some y → (↑x_2.snd : Int).toNat < (allV c ((8 : Int) * p + (8 : Int) * q).toNat).length ∧ ∀ (y_1 : Int), (allV c ((8 : Int) * p + (8 : Int) * q).toNat)[(↑x_2.snd : Int).toNat]? = some y_1 → ((y_1 == y) = true → false = true ∧ True) ∧ ((y_1 == y) = false → ((-9223372036854775808 : Int) ≤ (↑x_2.snd : Int) + (1 : Int) ∧ (↑x_2.snd : Int) + (1 : Int) ≤ (9223372036854775807 : Int)) ∧ ∃ (y : Nat × Nat), D5 ((2 : Int) + (8 : Int) * p + (8 : Int) * q).toNat y.fst y.snd ∧ (↑y.fst : Int) = (↑x : Int) ∧ y.fst - y.snd < x_2.fst - x_2.snd ∧ m ≍ m ∧ (↑x_2.fst : Int) = (↑y.fst : Int) ∧ (↑x_2.snd : Int) + (1 : Int) = (↑y.snd : Int) ∧ a = a ∧ b = b ∧ c = c ∧ d = d ∧ e = e ∧ f = f ∧ g = g ∧ p = p ∧ q = q ∧ allV c ((8 : Int) * p + (8 : Int) * q).toNat ≍ allV c ((8 : Int) * p + (8 : Int) * q).toNat ∧ True)) ∧ (decide ((↑x_2.snd : Int) < (↑x_2.fst : Int)) = false → ((-9223372036854775808 : Int) ≤ (↑x_2.fst : Int) + (1 : Int) ∧ (↑x_2.fst : Int) + (1 : Int) ≤ (9223372036854775807 : Int)) ∧ ∃ (y : Nat), (↑y : Int) ≤ (2 : Int) + (8 : Int) * p + (8 : Int) * q ∧ ((2 : Int) + (8 : Int) * p + (8 : Int) * q).toNat - y < ((2 : Int) + (8 : Int) * p + (8 : Int) * q).toNat - x ∧ m ≍ m ∧ (↑x_2.fst : Int) + (1 : Int) = (↑y : Int) ∧ a = a ∧ b = b ∧ c = c ∧ d = d ∧ e = e ∧ f = f ∧ g = g ∧ p = p ∧ q = q ∧ allV c ((8 : Int) * p + (8 : Int) * q).toNat ≍ allV c ((8 : Int) * p + (8 : Int) * q).toNat ∧ True)) ∧ (decide ((↑x : Int) < (↑(allV c ((8 : Int) * p + (8 : Int) * q).toNat).length : Int)) = false → ∃ (y : Unit), True ∧ m ≍ m ∧ allV c ((8 : Int) * p + (8 : Int) * q).toNat ≍ allV c ((8 : Int) * p + (8 : Int) * q).toNat ∧ a = a ∧ b = b ∧ c = c ∧ d = d ∧ e = e ∧ f = f ∧ g = g ∧ p = p ∧ q = q ∧ True)) ∧ ∀ (x : Unit), True → (((-9223372036854775808 : Int) ≤ (2 : Int) * roomF ((a, b, c, d, e, f, g), p, q) ∧ (2 : Int) * roomF ((a, b, c, d, e, f, g), p, q) ≤ (9223372036854775807 : Int)) ∧ ((-9223372036854775808 : Int) ≤ (2 : Int) + (2 : Int) * roomF ((a, b, c, d, e, f, g), p, q) ∧ (2 : Int) + (2 : Int) * roomF ((a, b, c, d, e, f, g), p, q) ≤ (9223372036854775807 : Int)) ∧ ((-9223372036854775808 : Int) ≤ (2 : Int) + (2 : Int) * roomF ((a, b, c, d, e, f, g), p, q) + wordsF ((a, b, c, d, e, f, g), p, q) ∧ (2 : Int) + (2 : Int) * roomF ((a, b, c, d, e, f, g), p, q) + wordsF ((a, b, c, d, e, f, g), p, q) ≤ (9223372036854775807 : Int)) ∧ (((↑(allV c ((8 : Int) * p + (8 : Int) * q).toNat).length : Int) != (2 : Int) + (2 : Int) * roomF ((a, b, c, d, e, f, g), p, q) + wordsF ((a, b, c, d, e, f, g), p, q)) = true → false = true ∧ True) ∧ (((↑(allV c ((8 : Int) * p + (8 : Int) * q).toNat).length : Int) != (2 : Int) + (2 : Int) * roomF ((a, b, c, d, e, f, g), p, q) + wordsF ((a, b, c, d, e, f, g), p, q)) = false → ∃ (y : Unit), True ∧ m ≍ m ∧ a = a ∧ b = b ∧ c = c ∧ d = d ∧ e = e ∧ f = f ∧ g = g ∧ p = p ∧ q = q ∧ True)) ∧ ∀ (x : Unit), True → ((([] : List Int).length + m.length) * (8 : Nat) ≤ (140737488355328 : Nat) ∧ (([] : List Int) ++ m).length ≤ (100000 : Nat) ∧ ∀ (y : Tup (pLs :: pI :: ([] : List PS))), y = imageF ((a, b, c, d, e, f, g), p, q) (([] : List Int) ++ m) → ∃ (y_1 : Unit), True ∧ m ≍ m ∧ y.fst ≍ (imageF ((a, b, c, d, e, f, g), p, q) m).fst ∧ y.snd = (imageF ((a, b, c, d, e, f, g), p, q) m).snd ∧ a = a ∧ b = b ∧ c = c ∧ d = d ∧ e = e ∧ f = f ∧ g = g ∧ p = p ∧ q = q ∧ True) ∧ ∀ (x : Unit), True → (((imageF ((a, b, c, d, e, f, g), p, q) m).snd != (0 : Int)) = true → ((↑m.length : Int) != wordsF ((a, b, c, d, e, f, g), p, q) && true) = true ∧ True) ∧ (((imageF ((a, b, c, d, e, f, g), p, q) m).snd != (0 : Int)) = false → (imageF ((a, b, c, d, e, f, g), p, q) m).fst.length ≤ (100000 : Nat) ∧ ∀ (y : Tup (pUs :: ([] : List PS))), y = mapF ((a, b, c, d, e, f, g), p, q) (imageF ((a, b, c, d, e, f, g), p, q) m).fst → (eqB y m && true) = true ∧ True))))) = _) ?_
  refine ⟨fun _ => ⟨rfl, trivial⟩, fun h => ?_⟩
  simp only [Bool.or_eq_false_iff, Bool.not_eq_false', decide_eq_false_iff_not] at h
  obtain ⟨hg, hm⟩ := h
  have gb := goodP_b hg
  dsimp only at gb
  clear hr
  have er : roomF ((a, b, c, d, e, f, g), p, q) = 4 * p := by rw [roomF, if_pos hg]
  have ew : wordsF ((a, b, c, d, e, f, g), p, q) = 8 * q := words_in hg
  have ec : countF ((a, b, c, d, e, f, g), p, q) = c * 64 := by
    rw [countF, if_pos hg, addr_in (by dsimp only; omega)]
    dsimp only
    omega
  have ee : ∀ n : Nat, (n : Int) < 4 * p → entryF ((a, b, c, d, e, f, g), p, q) n = (c + 1) * 64 + 16 * (n : Int) := fun n hn => by
    rw [entryF, if_pos ⟨hg, by omega, by dsimp only; omega⟩, addr_in (by dsimp only; omega)]
    dsimp only
    omega
  have eo : ∀ n : Nat, (n : Int) < 8 * q → wordF ((a, b, c, d, e, f, g), p, q) n = (c + 1) * 64 + 8 * (8 * p + (n : Int)) := fun n hn => by
    rw [wordF, if_pos ⟨hg, by omega, by dsimp only; omega⟩, addr_in (by simp only [firstF]; omega)]
    simp only [firstF]
    omega
  have eB : (8 * p).toNat + (8 * q).toNat = (8 * p + 8 * q).toNat := by omega
  refine ⟨by simp, ⟨0, by omega, HEq.rfl, rfl, rfl, rfl, rfl, rfl, rfl, rfl, rfl, rfl, rfl, heq_of_eq (by rw [ec]; rfl), trivial⟩, fun n hn => ⟨fun h1 => ⟨by decide, by decide, ?_⟩, fun h1 => ⟨⟨0, by omega, HEq.rfl, rfl, rfl, rfl, rfl, rfl, rfl, rfl, rfl, rfl, rfl, heq_of_eq ?_, trivial⟩, fun w hw => ⟨fun h2 => ⟨?_, by omega, w + 1, ?_, ?_, HEq.rfl, by simp, rfl, rfl, rfl, rfl, rfl, rfl, rfl, rfl, rfl, heq_of_eq ?_, trivial⟩, fun h2 => ⟨⟨⟨0, by omega, HEq.rfl, rfl, rfl, rfl, rfl, rfl, rfl, rfl, rfl, rfl, rfl, heq_of_eq ?_, trivial⟩, fun i hi => ⟨fun h3 => ?_, fun h3 => ⟨(), trivial, HEq.rfl, HEq.rfl, rfl, rfl, rfl, rfl, rfl, rfl, rfl, rfl, rfl, trivial⟩⟩⟩, fun _ _ => ?_⟩⟩⟩⟩⟩
  · rw [er] at h1
    simp only [Bool.and_eq_true, decide_eq_true_eq] at h1
    rw [ee n h1.1]
    have e1 : IntKind.u64.wrap ((c + 1) * 64 + 16 * (n : Int) + 8) = (c + 1) * 64 + 16 * (n : Int) + 8 := by rw [IntKind.wrap_u64]; omega
    rw [e1, Int.tdiv_eq_ediv_of_nonneg (by omega), Int.tdiv_eq_ediv_of_nonneg (by omega)]
    have e2 : ((c + 1) * 64 + 16 * (n : Int)) / 64 = ((c + 1) * 64 + 16 * (n : Int) + 8) / 64 := by omega
    rw [e2]
    refine ⟨fun h => by simp at h, fun _ => ⟨by simp [allV_len]; omega, by omega, n + 1, by omega, by omega, HEq.rfl, by simp, rfl, rfl, rfl, rfl, rfl, rfl, rfl, rfl, rfl, heq_of_eq ?_, trivial⟩⟩
    rw [show 2 * (n + 1) = 2 * n + 1 + 1 by omega, ← allV_succ (N := 2 * n + 1) (v := (c + 1) * 64 + 16 * (n : Int) + 8) (by omega), ← allV_succ (N := 2 * n) (v := (c + 1) * 64 + 16 * (n : Int)) (by omega)]
    simp
  · rw [er] at h1
    simp only [Bool.and_eq_false_iff, decide_eq_false_iff_not] at h1
    rw [show 2 * n = (8 * p).toNat + 0 by omega]
  · simp only [List.length_append, List.length_cons, List.length_nil, allV_len]
    omega
  · rw [ew] at h2
    simp only [Bool.and_eq_true, decide_eq_true_eq] at h2
    omega
  · rw [ew] at h2
    simp only [Bool.and_eq_true, decide_eq_true_eq] at h2
    omega
  · rw [ew] at h2
    simp only [Bool.and_eq_true, decide_eq_true_eq] at h2
    rw [eo w h2.1, allV_succ (by omega)]
    rfl
  · rw [ew] at h2
    simp only [Bool.and_eq_false_iff, decide_eq_false_iff_not] at h2
    rw [show (8 * p).toNat + w = (8 * p + 8 * q).toNat by omega]
  · simp only [decide_eq_true_eq, allV_len] at h3
    have hi2 : i < (8 * p + 8 * q).toNat + 2 := by omega
    have hc1 : 1 ≤ c := by omega
    rw [allV_len]
    refine ⟨⟨by omega, by omega, fun y hy => ⟨by decide, ?_⟩⟩, ?_⟩
    · rw [Int.toNat_natCast] at hy
      obtain rfl := allV_get hy
      obtain ⟨v1, v2, v3, v4, v5, v6⟩ := valA_b (c := c) (i := i) hc1
      have vb : valA c i < 64 * b := by
        rcases Nat.lt_or_ge i 2 with h | h
        · have := v5 h; omega
        · have := v6 h; omega
      rw [Int.tmod_eq_emod_of_nonneg v1, v2]
      refine ⟨fun h => absurd h (by decide), fun _ => ⟨by omega, by omega, by omega, fun y2 hy2 => ?_⟩⟩
      rw [Int.toNat_natCast] at hy2
      obtain rfl := allV_get hy2
      rw [show IntKind.u64.wrap (64 * b) = 64 * b by rw [IntKind.wrap_u64]; omega]
      have P : ∃ y : Nat, ((y : Int) < 2 + 8 * p + 8 * q) ∧ (y : Int) = i ∧ HEq m m ∧ (i : Int) = i ∧ a = a ∧ b = b ∧ c = c ∧ d = d ∧ e = e ∧ f = f ∧ g = g ∧ p = p ∧ q = q ∧ HEq (allV c (8 * p + 8 * q).toNat) (allV c (8 * p + 8 * q).toNat) ∧ True := ⟨i, by omega, rfl, HEq.rfl, rfl, rfl, rfl, rfl, rfl, rfl, rfl, rfl, rfl, rfl, HEq.rfl, trivial⟩
      refine ⟨fun h => by simp only [decide_eq_true_eq] at h; omega, fun _ => ⟨fun h4 => ⟨by omega, by omega, by omega, fun y3 hy3 => ?_⟩, fun _ => P⟩⟩
      rw [Int.toNat_natCast] at hy3
      obtain rfl := allV_get hy3
      rw [show IntKind.u64.wrap (64 * c) = 64 * c by rw [IntKind.wrap_u64]; omega]
      have h4 : 0 < i := by simpa using h4
      have := v3 h4
      exact ⟨fun h => by simp only [decide_eq_true_eq] at h; omega, fun _ => P⟩
    · intro i2 _ e0
      obtain rfl : i2 = i := by omega
      clear e0
      refine ⟨⟨(i2, 0), ⟨by dsimp only; omega, Nat.zero_le _⟩, rfl, HEq.rfl, rfl, rfl, rfl, rfl, rfl, rfl, rfl, rfl, rfl, rfl, rfl, HEq.rfl, trivial⟩, ?_⟩
      rintro ⟨i3, k⟩ ⟨d1, d2⟩ e0
      dsimp only at d1 d2 e0 ⊢
      obtain rfl : i3 = i2 := by omega
      clear e0
      refine ⟨fun h4 => ⟨by omega, by omega, ?_⟩, fun h4 => ⟨by omega, i3 + 1, by omega, by omega, HEq.rfl, by simp, rfl, rfl, rfl, rfl, rfl, rfl, rfl, rfl, rfl, HEq.rfl, trivial⟩⟩
      have h4 : k < i3 := by simpa using h4
      have lt := valA_lt (c := c) hc1 h4
      have Q : ∃ y : Nat × Nat, D5 (2 + 8 * p + 8 * q).toNat y.1 y.2 ∧ (y.1 : Int) = i3 ∧ y.1 - y.2 < i3 - k ∧ HEq m m ∧ (i3 : Int) = y.1 ∧ (k : Int) + 1 = y.2 ∧ a = a ∧ b = b ∧ c = c ∧ d = d ∧ e = e ∧ f = f ∧ g = g ∧ p = p ∧ q = q ∧ HEq (allV c (8 * p + 8 * q).toNat) (allV c (8 * p + 8 * q).toNat) ∧ True := ⟨(i3, k + 1), ⟨d1, by dsimp only; omega⟩, rfl, by dsimp only; omega, HEq.rfl, rfl, by simp, rfl, rfl, rfl, rfl, rfl, rfl, rfl, rfl, rfl, HEq.rfl, trivial⟩
      constructor
      all_goals
        refine ⟨by omega, fun y hy => ⟨by omega, fun y2 hy2 => ?_⟩⟩
        rw [Int.toNat_natCast] at hy hy2
        obtain rfl := allV_get hy
        obtain rfl := allV_get hy2
        exact ⟨fun h => by have h := eq_of_beq h; omega, fun _ => ⟨by omega, Q⟩⟩
  · rw [er, ew, allV_len]
    refine ⟨⟨by omega, by omega, by omega, fun h => ?_, fun _ => ⟨(), trivial, HEq.rfl, rfl, rfl, rfl, rfl, rfl, rfl, rfl, rfl, rfl, trivial⟩⟩, fun _ _ => ⟨⟨by simp; omega, by simp; omega, ?_⟩, fun _ _ => ?_⟩⟩
    · simp only [bne_iff_ne, ne_eq] at h
      omega
    · intro zz0 qq0
      obtain rfl := qq0.symm
      exact ⟨(), trivial, HEq.rfl, HEq.rfl, rfl, rfl, rfl, rfl, rfl, rfl, rfl, rfl, rfl, rfl, trivial⟩
    · by_cases hml : (m.length : Int) = 8 * q
      · have e2 : imageF ((a, b, c, d, e, f, g), p, q) m = (imgK ((a, b, c, d, e, f, g), p, q) m m.length, 0) := by rw [imageF, if_pos ⟨hg, hml⟩]
        rw [e2]
        refine ⟨fun h => absurd (show ((0 : Int) != 0) = true from h) (by decide), fun _ => ⟨by rw [imgK_len]; dsimp only; omega, ?_⟩⟩
        intro zz0 qq0
        obtain rfl := qq0.symm
        have e3 := map_image hg (m := m) hml
        rw [e2] at e3
        rw [e3, eqB_self]
        exact ⟨rfl, trivial⟩
      · have e2 : imageF ((a, b, c, d, e, f, g), p, q) m = ([], 1) := by rw [imageF, if_neg (fun h => hml h.2)]
        rw [e2]
        refine ⟨fun _ => ⟨?_, trivial⟩, fun h => absurd h (by decide)⟩
        simpa using hml
section
variable {H : Type} {enc : TypeId × Value → H} {base : Nat} (W : World)
theorem maps_walk (v0 v1 v2 : Value) (a0 : Arg enc Try.prog W base 25 v0) (a1 : Arg enc Try.prog W base 33 v1) (a2 : Arg enc Try.prog W base 34 v2) : Calls Try.prog 4 #[v0, v1, v2] W fun e w' => e = .returned (.bool true) ∧ Below W.heap.size W w' :=
  law_of (ps := [pH, pLs, pUs]) (ts := [25, 33, 34]) (vs := [v0, v1, v2]) mixed Tbl_ok L8_ok Try.func4 rfl (by kernel_rfl) ⟨a0, a1, a2, trivial⟩ maps_law
theorem apart_walk (v0 v1 : Value) (a0 : Arg enc Try.prog W base 25 v0) (a1 : Arg enc Try.prog W base 34 v1) : Calls Try.prog 5 #[v0, v1] W fun e w' => e = .returned (.bool true) ∧ Below W.heap.size W w' :=
  law_of (ps := [pH, pUs]) (ts := [25, 34]) (vs := [v0, v1]) mixed Tbl_ok L8_ok Try.func5 rfl (by kernel_rfl) ⟨a0, a1, trivial⟩ apart_law
end
end Go.Proofs.Ytejeghfddnbhaaa.V
