import Derived.KernelRfl
import Derived.Test.YtgaiedcmohpiaaaNi
namespace Go.Proofs.Ytgaiedcmohpiaaa.V
open Go.RowKit Go.Proofs.Ytgaiedcmohpiaaa
set_option linter.unusedSimpArgs false
abbrev pUs : PS := (false, .sl (.int .u8))
abbrev two (v : Int) : EN := (2, [v, 0, 0, 0, 0, 0, 0, 0])
abbrev is2 (x : EN) : Bool := x.1 == 2
structure InvA (vals others : List Int) (i : Nat) (es : List EN) : Prop where
  le : i ≤ vals.length
  f : es.filter is2 = (vals.take i).map two
  n : es.length = i + min others.length i
structure InvB (vals : List Int) (i : Nat) (es : List EN) (ls : List LN) : Prop where
  le : i ≤ vals.length
  f : es.filter is2 = (vals.drop i).map two
  n : es.length ≤ 16
  l : ls.length = 4
theorem push_ok {n : Nat} {k : Nat} {line : Int} (h1 : 0 ≤ line ∧ line < n) (h2 : k < 16) : pushC n 16 k line = 0 := (if_pos h1).trans (if_pos (by omega))
/-- The first entry of a line, and what is left without it. -/
theorem drain_at {es : List EN} {line : Int} {y : EN} (h : es.find? (fun x => x.1 == line) = some y) : ∃ a b, es = a ++ y :: b ∧ (∀ x ∈ a, (x.1 == line) = false) ∧ (y.1 == line) = true ∧ drE es line = a ++ b := by
  induction es with
  | nil => simp at h
  | cons x r ih =>
    by_cases hx : (x.1 == line) = true
    · rw [List.find?_cons, hx] at h
      simp only [Option.some.injEq] at h
      subst h
      exact ⟨[], r, rfl, fun _ h => (by cases h), hx, by simp [drE, List.findIdx_cons, hx]⟩
    · simp only [Bool.not_eq_true] at hx
      rw [List.find?_cons, hx] at h
      obtain ⟨a, b, e, h1, h2, h3⟩ := ih h
      refine ⟨x :: a, b, by simp [e], fun z hz => ?_, h2, ?_⟩
      · rcases List.mem_cons.1 hz with rfl | hz
        · exact hx
        · exact h1 z hz
      · unfold drE at h3 ⊢
        rw [List.findIdx_cons, hx]
        simp [h3]
theorem drain_no {es : List EN} {line : Int} (h : es.find? (fun x => x.1 == line) = none) : drE es line = es := by
  unfold drE
  rw [(fnd_none (es := es) (line := line) fun j x hj => ?_).2, List.eraseIdx_of_length_le (Nat.le_refl _)]
  have := List.find?_eq_none.1 h x (List.mem_of_getElem? hj)
  simpa using this
theorem drainC {es : List EN} : (drE es 3).filter is2 = es.filter is2 ∧ (drE es 3).length ≤ es.length := by
  cases h : es.find? (fun x => x.1 == 3) with
  | none => rw [drain_no h]; exact ⟨rfl, Nat.le_refl _⟩
  | some y =>
    obtain ⟨a, b, e, h1, h2, h3⟩ := drain_at h
    have hy : y.1 = 3 := by simpa using h2
    rw [h3, e]
    refine ⟨by simp [is2, hy], by simp⟩
theorem drainB {es : List EN} {z : EN} {r : List EN} (h : es.filter is2 = z :: r) : es.find? (fun x => x.1 == 2) = some z ∧ (drE es 2).filter is2 = r ∧ (drE es 2).length = es.length - 1 ∧ 1 ≤ es.length := by
  have h0 : es.find? (fun x => x.1 == 2) = some z := by rw [← List.head?_filter]; exact (congrArg List.head? h).trans rfl
  obtain ⟨a, b, e, h1, h2, h3⟩ := drain_at h0
  refine ⟨h0, ?_, by rw [h3, e]; simp, by rw [e]; simp; omega⟩
  have ha : a.filter is2 = [] := List.filter_eq_nil_iff.2 fun x hx => by have := h1 x hx; simp only [is2]; simpa using this
  rw [e, List.filter_append, ha, List.filter_cons, if_pos h2] at h
  rw [h3, List.filter_append, ha]
  simpa using h
abbrev lp3 (vals others : List Int) (n : Int) : Nat → Option LoopSp := fun r => match Nat.beq r 6 with
  | true => some { X := Nat × List EN, sl := fun x => [(0, .one (.rd (.int .u8) vals)), (1, .one (.rd (.int .u8) others)), (5, .one (.ptr 1 0)), (7, .one (.ptr 0 0)), (9, .one (vi x.1))], h := fun x => quH 16 1 x.2 D4, nx := 4, inv := fun x => InvA vals others x.1 x.2, mu := fun x => vals.length - x.1 }
  | false => some { X := Nat × List EN × List LN, sl := fun x => [(0, .one (.rd (.int .u8) vals)), (1, .one (.rd (.int .u8) others)), (5, .one (.ptr 1 0)), (7, .one (.ptr 0 0)), (10, .one (vi n)), (11, .one (vi x.1))], h := fun x => quH 16 1 x.2.1 x.2.2, nx := 4, inv := fun x => InvB vals x.1 x.2.1 x.2.2, mu := fun x => vals.length - x.1 }
set_option maxRecDepth 100000 in
theorem order_law : ∀ x, rngTup [pUs, pUs] x → ∃ lp, runF Tbl (spL L12) lp 0 Try.f3 (enVs [pUs, pUs] x) ⟨0, []⟩ fun r' st' => fzR st' (mkB true) r' := by
  rintro ⟨vals, others⟩ hr
  refine ⟨lp3 vals others (vals.length + min others.length vals.length : Nat), ?_⟩
  refine Eq.mp (by kernel_rfl : (((4 : Int) = (4 : Int) ∧ (0 : Int) ≤ (4 : Int) ∧ (4 : Int) * (↑(64 : Nat) : Int) ≤ (140737488355328 : Int)) ∧ ((decide ((↑(List.length vals) : Int) > (8 : Int)) || decide ((↑(List.length others) : Int) > (8 : Int))) = true → true = true ∧ True) ∧ ((decide ((↑(List.length vals) : Int) > (8 : Int)) || decide ((↑(List.length others) : Int) > (8 : Int))) = false → (∃ (x : Nat × List EN), InvA vals others x.fst x.snd ∧ vals ≍ vals ∧ others ≍ others ∧ (0 : Int) = (↑x.fst : Int) ∧ (16 : Int) = (16 : Int) ∧ (1 : Int) = (1 : Int) ∧ x.snd = ([] : List (Int × List Int)) ∧ List.replicate (Int.toNat (4 : Int)) (List.replicate (8 : Nat) (0 : Int)) ≍ D4 ∧ True) ∧ ∀ (x : Nat × List EN), InvA vals others x.fst x.snd → (decide ((↑x.fst : Int) < (↑(List.length vals) : Int)) = true → ((0 : Int) ≤ (↑x.fst : Int) ∧ (↑x.fst : Int) < (↑(List.length vals) : Int)) ∧ ∀ (y : Int), vals[(↑x.fst : Int).toNat]? = some y → (16 : Int) ≤ (16 : Int) ∧ ∀ (x_1 x_2 x_3 : Int) (x_4 : List (Int × List Int)) (x_5 : List (List Int)), x_1 = pushC D4.length (16 : Int) x.snd.length (2 : Int) ∧ x_2 = (16 : Int) ∧ x_3 = (1 : Int) ∧ (x_4 = if pushC D4.length (16 : Int) x.snd.length (2 : Int) = (0 : Int) then x.snd ++ ((2 : Int), y :: (0 : Int) :: (0 : Int) :: (0 : Int) :: (0 : Int) :: (0 : Int) :: (0 : Int) :: (0 : Int) :: ([] : List Int)) :: ([] : List (Int × List Int)) else x.snd) ∧ x_5 = D4 → ((x_1 != (0 : Int)) = true → false = true ∧ True) ∧ ((x_1 != (0 : Int)) = false → (decide ((↑x.fst : Int) < (↑(List.length others) : Int)) = true → ((0 : Int) ≤ (↑x.fst : Int) ∧ (↑x.fst : Int) < (↑(List.length others) : Int)) ∧ ∀ (y : Int), others[(↑x.fst : Int).toNat]? = some y → x_2 ≤ (16 : Int) ∧ ∀ (x_6 x_7 x_8 : Int) (x_9 : List (Int × List Int)) (x_10 : List (List Int)), x_6 = pushC x_5.length x_2 x_4.length (3 : Int) ∧ x_7 = x_2 ∧ x_8 = x_3 ∧ (x_9 = if pushC x_5.length x_2 x_4.length (3 : Int) = (0 : Int) then x_4 ++ ((3 : Int), y :: (0 : Int) :: (0 : Int) :: (0 : Int) :: (0 : Int) :: (0 : Int) :: (0 : Int) :: (0 : Int) :: ([] : List Int)) :: ([] : List (Int × List Int)) else x_4) ∧ x_10 = x_5 → ((x_6 != (0 : Int)) = true → false = true ∧ True) ∧ ((x_6 != (0 : Int)) = false → ((-9223372036854775808 : Int) ≤ (↑x.fst : Int) + (1 : Int) ∧ (↑x.fst : Int) + (1 : Int) ≤ (9223372036854775807 : Int)) ∧ ∃ (y : Nat × List EN), InvA vals others y.fst y.snd ∧ List.length vals - y.fst < List.length vals - x.fst ∧ vals ≍ vals ∧ others ≍ others ∧ (↑x.fst : Int) + (1 : Int) = (↑y.fst : Int) ∧ x_7 = (16 : Int) ∧ x_8 = (1 : Int) ∧ x_9 ≍ y.snd ∧ x_10 ≍ D4 ∧ True)) ∧ (decide ((↑x.fst : Int) < (↑(List.length others) : Int)) = false → ((-9223372036854775808 : Int) ≤ (↑x.fst : Int) + (1 : Int) ∧ (↑x.fst : Int) + (1 : Int) ≤ (9223372036854775807 : Int)) ∧ ∃ (y : Nat × List EN), InvA vals others y.fst y.snd ∧ List.length vals - y.fst < List.length vals - x.fst ∧ vals ≍ vals ∧ others ≍ others ∧ (↑x.fst : Int) + (1 : Int) = (↑y.fst : Int) ∧ x_2 = (16 : Int) ∧ x_3 = (1 : Int) ∧ x_4 ≍ y.snd ∧ x_5 ≍ D4 ∧ True))) ∧ (decide ((↑x.fst : Int) < (↑(List.length vals) : Int)) = false → True ∧ ∀ (x_1 x_2 x_3 : Int) (x_4 : List (Int × List Int)) (x_5 : List (List Int)), x_1 = (↑x.snd.length : Int) ∧ x_2 = (16 : Int) ∧ x_3 = (1 : Int) ∧ x_4 = x.snd ∧ x_5 = D4 → (∃ (x : Nat × List EN × List LN), InvB vals x.fst x.snd.fst x.snd.snd ∧ vals ≍ vals ∧ others ≍ others ∧ x_1 = (↑(List.length vals + min (List.length others) (List.length vals)) : Int) ∧ (0 : Int) = (↑x.fst : Int) ∧ x_2 = (16 : Int) ∧ x_3 = (1 : Int) ∧ x_4 ≍ x.snd.fst ∧ x_5 ≍ x.snd.snd ∧ True) ∧ ∀ (x : Nat × List EN × List LN), InvB vals x.fst x.snd.fst x.snd.snd → (decide ((↑x.fst : Int) < (↑(List.length vals) : Int)) = true → (2 : Int) ≠ (0 : Int) ∧ (((↑x.fst : Int).tmod (2 : Int) == (1 : Int)) = true → x.snd.fst.length ≤ (16 : Nat) ∧ ∀ (x_6 x_7 x_8 : Int) (x_9 : List (Int × List Int)) (x_10 : List (List Int)), x_6 = drA x.snd.fst (3 : Int) ∧ x_7 = (16 : Int) ∧ x_8 = (1 : Int) ∧ x_9 = drE x.snd.fst (3 : Int) ∧ x_10 = drL x.snd.fst x.snd.snd (3 : Int) → True ∧ ∀ (x_11 x_12 x_13 : Int) (x_14 : List (Int × List Int)) (x_15 : List (List Int)), x_11 = (↑x_9.length : Int) ∧ x_12 = x_7 ∧ x_13 = x_8 ∧ x_14 = x_9 ∧ x_15 = x_10 → x_14.length ≤ (16 : Nat) ∧ ∀ (x_16 x_17 x_18 : Int) (x_19 : List (Int × List Int)) (x_20 : List (List Int)), x_16 = drA x_14 (2 : Int) ∧ x_17 = x_12 ∧ x_18 = x_13 ∧ x_19 = drE x_14 (2 : Int) ∧ x_20 = drL x_14 x_15 (2 : Int) → ((x_16 != (0 : Int)) = true → false = true ∧ True) ∧ ((x_16 != (0 : Int)) = false → True ∧ ∀ (x_21 x_22 x_23 : Int) (x_24 : List (Int × List Int)) (x_25 : List (List Int)), x_21 = (↑x_19.length : Int) ∧ x_22 = x_17 ∧ x_23 = x_18 ∧ x_24 = x_19 ∧ x_25 = x_20 → ((-9223372036854775808 : Int) ≤ x_11 - (1 : Int) ∧ x_11 - (1 : Int) ≤ (9223372036854775807 : Int)) ∧ ((x_21 != x_11 - (1 : Int)) = true → false = true ∧ True) ∧ ((x_21 != x_11 - (1 : Int)) = false → True ∧ ∀ (x_26 : List Int) (x_27 x_28 : Int) (x_29 : List (List Int)), x_27 = mayD x_25.length (2 : Int) ∧ x_26 = rdD x_25 (2 : Int) ∧ x_28 = x_23 ∧ x_29 = x_25 → ((x_27 != (0 : Int)) = true → false = true ∧ True) ∧ ((x_27 != (0 : Int)) = false → ((0 : Int) ≤ (↑x.fst : Int) ∧ (↑x.fst : Int) < (↑(List.length vals) : Int)) ∧ ∀ (y : Int), vals[(↑x.fst : Int).toNat]? = some y → ((x_26.getD (nat_lit 0) (0 : Int) != y) = true → false = true ∧ True) ∧ ((x_26.getD (nat_lit 0) (0 : Int) != y) = false → ((-9223372036854775808 : Int) ≤ (↑x.fst : Int) + (1 : Int) ∧ (↑x.fst : Int) + (1 : Int) ≤ (9223372036854775807 : Int)) ∧ ∃ (y : Nat × List EN × List LN), InvB vals y.fst y.snd.fst y.snd.snd ∧ List.length vals - y.fst < List.length vals - x.fst ∧ vals ≍ vals ∧ others ≍ others ∧ (↑(List.length vals + min (List.length others) (List.length vals)) : Int) = (↑(List.length vals + min (List.length others) (List.length vals)) : Int) ∧ (↑x.fst : Int) + (1 : Int) = (↑y.fst : Int) ∧ x_22 = (16 : Int) ∧ x_28 = (1 : Int) ∧ x_24 ≍ y.snd.fst ∧ x_29 ≍ y.snd.snd ∧ True))))) ∧ (((↑x.fst : Int).tmod (2 : Int) == (1 : Int)) = false → True ∧ ∀ (x_6 x_7 x_8 : Int) (x_9 : List (Int × List Int)) (x_10 : List (List Int)), x_6 = (↑x.snd.fst.length : Int) ∧ x_7 = (16 : Int) ∧ x_8 = (1 : Int) ∧ x_9 = x.snd.fst ∧ x_10 = x.snd.snd → x_9.length ≤ (16 : Nat) ∧ ∀ (x_11 x_12 x_13 : Int) (x_14 : List (Int × List Int)) (x_15 : List (List Int)), x_11 = drA x_9 (2 : Int) ∧ x_12 = x_7 ∧ x_13 = x_8 ∧ x_14 = drE x_9 (2 : Int) ∧ x_15 = drL x_9 x_10 (2 : Int) → ((x_11 != (0 : Int)) = true → false = true ∧ True) ∧ ((x_11 != (0 : Int)) = false → True ∧ ∀ (x_16 x_17 x_18 : Int) (x_19 : List (Int × List Int)) (x_20 : List (List Int)), x_16 = (↑x_14.length : Int) ∧ x_17 = x_12 ∧ x_18 = x_13 ∧ x_19 = x_14 ∧ x_20 = x_15 → ((-9223372036854775808 : Int) ≤ x_6 - (1 : Int) ∧ x_6 - (1 : Int) ≤ (9223372036854775807 : Int)) ∧ ((x_16 != x_6 - (1 : Int)) = true → false = true ∧ True) ∧ ((x_16 != x_6 - (1 : Int)) = false → True ∧ ∀ (x_21 : List Int) (x_22 x_23 : Int) (x_24 : List (List Int)), x_22 = mayD x_20.length (2 : Int) ∧ x_21 = rdD x_20 (2 : Int) ∧ x_23 = x_18 ∧ x_24 = x_20 → ((x_22 != (0 : Int)) = true → false = true ∧ True) ∧ ((x_22 != (0 : Int)) = false → ((0 : Int) ≤ (↑x.fst : Int) ∧ (↑x.fst : Int) < (↑(List.length vals) : Int)) ∧ ∀ (y : Int), vals[(↑x.fst : Int).toNat]? = some y → ((x_21.getD (nat_lit 0) (0 : Int) != y) = true → false = true ∧ True) ∧ ((x_21.getD (nat_lit 0) (0 : Int) != y) = false → ((-9223372036854775808 : Int) ≤ (↑x.fst : Int) + (1 : Int) ∧ (↑x.fst : Int) + (1 : Int) ≤ (9223372036854775807 : Int)) ∧ ∃ (y : Nat × List EN × List LN), InvB vals y.fst y.snd.fst y.snd.snd ∧ List.length vals - y.fst < List.length vals - x.fst ∧ vals ≍ vals ∧ others ≍ others ∧ (↑(List.length vals + min (List.length others) (List.length vals)) : Int) = (↑(List.length vals + min (List.length others) (List.length vals)) : Int) ∧ (↑x.fst : Int) + (1 : Int) = (↑y.fst : Int) ∧ x_17 = (16 : Int) ∧ x_23 = (1 : Int) ∧ x_19 ≍ y.snd.fst ∧ x_24 ≍ y.snd.snd ∧ True)))))) ∧ (decide ((↑x.fst : Int) < (↑(List.length vals) : Int)) = false → (((-9223372036854775808 : Int) ≤ (↑(List.length vals) : Int) + match true with | true => min (↑(List.length others) : Int) (↑(List.length vals) : Int) | false => max (↑(List.length others) : Int) (↑(List.length vals) : Int)) ∧ ((↑(List.length vals) : Int) + match true with | true => min (↑(List.length others) : Int) (↑(List.length vals) : Int) | false => max (↑(List.length others) : Int) (↑(List.length vals) : Int)) ≤ (9223372036854775807 : Int)) ∧ (((↑(List.length vals + min (List.length others) (List.length vals)) : Int) == (↑(List.length vals) : Int) + match true with | true => min (↑(List.length others) : Int) (↑(List.length vals) : Int) | false => max (↑(List.length others) : Int) (↑(List.length vals) : Int)) = true → x.snd.fst.length ≤ (16 : Nat) ∧ ∀ (x_6 x_7 x_8 : Int) (x_9 : List (Int × List Int)) (x_10 : List (List Int)), x_6 = drA x.snd.fst (2 : Int) ∧ x_7 = (16 : Int) ∧ x_8 = (1 : Int) ∧ x_9 = drE x.snd.fst (2 : Int) ∧ x_10 = drL x.snd.fst x.snd.snd (2 : Int) → (x_6 == (14 : Int) && true) = true ∧ True) ∧ (((↑(List.length vals + min (List.length others) (List.length vals)) : Int) == (↑(List.length vals) : Int) + match true with | true => min (↑(List.length others) : Int) (↑(List.length vals) : Int) | false => max (↑(List.length others) : Int) (↑(List.length vals) : Int)) = false → false = true ∧ True))))) = _) ?_
  have nt : ∀ {p : Prop} {b : Bool}, b = true → b = false → p := fun h h' => by rw [h] at h'; cases h'
  have no : ∀ {p : Prop} {b : Bool}, b = false → b = true → p := fun h h' => by rw [h] at h'; cases h'
  refine ⟨⟨rfl, by omega, by omega⟩, fun _ => ⟨rfl, trivial⟩, fun h0 => ?_⟩
  simp only [Bool.or_eq_false_iff, decide_eq_false_iff_not] at h0
  obtain ⟨V, hV⟩ : ∃ V, List.length vals = V := ⟨_, rfl⟩
  obtain ⟨O, hO⟩ : ∃ O, List.length others = O := ⟨_, rfl⟩
  rw [hV, hO] at h0 ⊢
  have b1 : V ≤ 8 ∧ O ≤ 8 := by omega
  clear h0
  refine ⟨⟨(0, []), ⟨by omega, by simp, by simp⟩, HEq.rfl, HEq.rfl, rfl, rfl, rfl, rfl, HEq.rfl, trivial⟩, ?_⟩
  rintro ⟨i, es⟩ ⟨hle, hf, hn⟩
  simp only at *
  rw [hV] at hle
  rw [hO] at hn
  refine ⟨fun hi => ?_, fun hi => ?_⟩
  · simp only [decide_eq_true_eq] at hi
    refine ⟨⟨by omega, by omega⟩, fun y hy => ⟨by omega, ?_⟩⟩
    rw [Int.toNat_natCast] at hy
    rintro a _ _ q _ ⟨ha, rfl, rfl, hq, rfl⟩
    rw [push_ok (by simp) (by omega)] at ha hq
    rw [if_pos rfl] at hq
    subst ha; subst hq
    have htake : vals.take (i + 1) = vals.take i ++ [y] := by rw [List.take_add_one, hy]; rfl
    refine ⟨no (by decide), fun _ => ⟨fun ho => ?_, fun ho => ⟨⟨by omega, by omega⟩, (i + 1, _), ⟨by simp only; omega, ?_, ?_⟩, by simp only; omega, HEq.rfl, HEq.rfl, by simp, rfl, rfl, HEq.rfl, HEq.rfl, trivial⟩⟩⟩
    · simp only [decide_eq_true_eq] at ho
      refine ⟨⟨by omega, by omega⟩, fun z hz => ⟨by omega, ?_⟩⟩
      rintro a _ _ q _ ⟨ha, rfl, rfl, hq, rfl⟩
      rw [push_ok (by simp) (by simp; omega)] at ha hq
      rw [if_pos rfl] at hq
      subst ha; subst hq
      refine ⟨no (by decide), fun _ => ⟨⟨by omega, by omega⟩, (i + 1, _), ⟨by simp only; omega, ?_, ?_⟩, by simp only; omega, HEq.rfl, HEq.rfl, by simp, rfl, rfl, HEq.rfl, HEq.rfl, trivial⟩⟩
      · simp only
        rw [List.filter_append, List.filter_append, hf, htake]
        simp [is2, two]
      · simp only [List.length_append, hn, List.length_cons, List.length_nil]
        omega
    · simp only
      rw [List.filter_append, hf, htake]
      simp [is2, two]
    · simp only [decide_eq_false_iff_not] at ho
      simp only [List.length_append, hn, List.length_cons, List.length_nil]
      omega
  · simp only [decide_eq_false_iff_not] at hi
    obtain rfl : i = V := by omega
    refine ⟨trivial, ?_⟩
    rintro _ _ _ es _ ⟨rfl, rfl, rfl, rfl, rfl⟩
    refine ⟨⟨(0, es, D4), ⟨by simp, by rw [hf]; simp [List.take_of_length_le, ← hV], by simp only; omega, rfl⟩, HEq.rfl, HEq.rfl, by rw [hn], rfl, rfl, rfl, HEq.rfl, HEq.rfl, trivial⟩, ?_⟩
    clear hf hn hle hi
    rintro ⟨i, es, ls⟩ ⟨hle, hf, hn, hl⟩
    simp only at *
    refine ⟨fun hi => ?_, fun hi => ?_⟩
    · simp only [decide_eq_true_eq] at hi
      have hy := List.getElem?_eq_getElem (l := vals) (i := i) (by omega)
      obtain ⟨y, hY⟩ : ∃ y, vals[i]'(by omega) = y := ⟨_, rfl⟩
      rw [hY] at hy
      refine ⟨by omega, fun _ => ⟨hn, ?odd⟩, fun _ => ⟨trivial, ?even⟩⟩
      case odd =>
        rintro _ _ _ es' ls' ⟨_, rfl, rfl, he, hls⟩
        have hf : es'.filter is2 = (vals.drop i).map two := by rw [he, drainC.1, hf]
        have hn : es'.length ≤ 16 := by rw [he]; exact Nat.le_trans drainC.2 hn
        have hl : ls'.length = 4 := by rw [hls, drL_len, hl]
        refine ⟨trivial, ?_⟩
        have hdr : vals.drop i = y :: vals.drop (i + 1) := by rw [← hY, ← List.drop_eq_getElem_cons]
        rw [hdr, List.map_cons] at hf
        obtain ⟨c1, c2, c3, c4⟩ := drainB hf
        rintro _ _ _ es' ls' ⟨rfl, rfl, rfl, rfl, rfl⟩
        refine ⟨hn, ?_⟩
        rintro a _ _ q l ⟨ha, rfl, rfl, hq, hll⟩
        have ha0 : a = 0 := by rw [ha]; simp [drA, c1]
        subst ha0
        refine ⟨no (by decide), fun _ => ⟨trivial, ?_⟩⟩
        rintro _ _ _ q l ⟨rfl, rfl, rfl, rfl, rfl⟩
        have hq1 : q.length = es'.length - 1 := by rw [hq]; exact c3
        have hl0 : l.length = 4 := by rw [hll, drL_len, hl]
        have hl2 : l = ls'.set 2 [y, 0, 0, 0, 0, 0, 0, 0] := by
          rw [hll]
          simp only [drL, c1]
          rw [wrD_in (by omega)]
          rfl
        refine ⟨⟨by omega, by omega⟩, no (by simp; omega), fun _ => ⟨trivial, ?_⟩⟩
        rintro m a _ l ⟨ha, hm, rfl, rfl⟩
        have ha0 : a = 0 := by rw [ha]; exact mayD_in (by omega)
        subst ha0
        have hm0 : m = [y, 0, 0, 0, 0, 0, 0, 0] := by
          rw [hm, rdD_in (by omega), hl2]
          simp [List.getD, hl]
        subst hm0
        refine ⟨no (by decide), fun _ => ⟨⟨by omega, by omega⟩, fun z hz => ?_⟩⟩
        rw [Int.toNat_natCast, hy] at hz
        cases hz
        refine ⟨no (by simp), fun _ => ⟨⟨by omega, by omega⟩, (i + 1, q, l), ⟨by simp only; omega, by rw [hq]; exact c2, by simp only; omega, hl0⟩, by simp only; omega, HEq.rfl, HEq.rfl, trivial, by simp, rfl, rfl, HEq.rfl, HEq.rfl, trivial⟩⟩
      case even =>
        obtain ⟨es', he⟩ : ∃ q, es = q := ⟨_, rfl⟩
        obtain ⟨ls', hls⟩ : ∃ q, ls = q := ⟨_, rfl⟩
        rw [he] at hf hn ⊢
        rw [hls] at hl ⊢
        have hdr : vals.drop i = y :: vals.drop (i + 1) := by rw [← hY, ← List.drop_eq_getElem_cons]
        rw [hdr, List.map_cons] at hf
        obtain ⟨c1, c2, c3, c4⟩ := drainB hf
        rintro _ _ _ es' ls' ⟨rfl, rfl, rfl, rfl, rfl⟩
        refine ⟨hn, ?_⟩
        rintro a _ _ q l ⟨ha, rfl, rfl, hq, hll⟩
        have ha0 : a = 0 := by rw [ha]; simp [drA, c1]
        subst ha0
        refine ⟨no (by decide), fun _ => ⟨trivial, ?_⟩⟩
        rintro _ _ _ q l ⟨rfl, rfl, rfl, rfl, rfl⟩
        have hq1 : q.length = es'.length - 1 := by rw [hq]; exact c3
        have hl0 : l.length = 4 := by rw [hll, drL_len, hl]
        have hl2 : l = ls'.set 2 [y, 0, 0, 0, 0, 0, 0, 0] := by
          rw [hll]
          simp only [drL, c1]
          rw [wrD_in (by omega)]
          rfl
        refine ⟨⟨by omega, by omega⟩, no (by simp; omega), fun _ => ⟨trivial, ?_⟩⟩
        rintro m a _ l ⟨ha, hm, rfl, rfl⟩
        have ha0 : a = 0 := by rw [ha]; exact mayD_in (by omega)
        subst ha0
        have hm0 : m = [y, 0, 0, 0, 0, 0, 0, 0] := by
          rw [hm, rdD_in (by omega), hl2]
          simp [List.getD, hl]
        subst hm0
        refine ⟨no (by decide), fun _ => ⟨⟨by omega, by omega⟩, fun z hz => ?_⟩⟩
        rw [Int.toNat_natCast, hy] at hz
        cases hz
        refine ⟨no (by simp), fun _ => ⟨⟨by omega, by omega⟩, (i + 1, q, l), ⟨by simp only; omega, by rw [hq]; exact c2, by simp only; omega, hl0⟩, by simp only; omega, HEq.rfl, HEq.rfl, trivial, by simp, rfl, rfl, HEq.rfl, HEq.rfl, trivial⟩⟩
    · simp only [decide_eq_false_iff_not] at hi
      have h2 : es.find? (fun x => x.1 == 2) = none := by
        rw [List.find?_eq_none]
        intro x hx
        have : es.filter is2 = [] := by rw [hf, List.drop_of_length_le (by omega)]; rfl
        exact List.filter_eq_nil_iff.1 this x hx
      refine ⟨⟨by omega, by omega⟩, fun _ => ⟨hn, ?_⟩, nt (by rw [beq_iff_eq]; omega)⟩
      rintro _ _ _ _ _ ⟨rfl, rfl, rfl, rfl, rfl⟩
      refine ⟨?_, trivial⟩
      simp [drA, h2]
end Go.Proofs.Ytgaiedcmohpiaaa.V
