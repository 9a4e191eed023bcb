import Derived.KernelRfl
import Derived.Test.YtgaiedcmohpiaaaNj
namespace Go.Proofs.Ytgaiedcmohpiaaa.V
open Go.RowKit Go.Proofs.Ytgaiedcmohpiaaa
set_option linter.unusedSimpArgs false
abbrev pSts : PS := (false, .sl shS)
abbrev D8 : List LN := List.replicate 8 Z8
structure InvC (n : Nat) (i : Nat) (es : List EN) : Prop where
  le : i ≤ n
  f : qIn es 8
  n : es.length ≤ 16
structure InvD (n : Nat) (was : List LN) (i : Nat) (es : List EN) (ls : List LN) : Prop where
  le : i ≤ n
  f : qIn es 8
  n : es.length ≤ 16
  l : ls.length = 8
  w : qimg es ls = was
theorem modI (a : Int) : (-8 < a.tmod 8 ∧ a.tmod 8 < 8) ∧ 0 ≤ (a.tmod 8 + 8).tmod 8 ∧ (a.tmod 8 + 8).tmod 8 < 8 := by
  have h1 := Int.tmod_lt_of_pos a (b := 8) (by omega)
  have h2 := Int.lt_tmod_of_pos a (b := 8) (by omega)
  exact ⟨⟨by omega, by omega⟩, Int.tmod_nonneg _ (by omega), Int.tmod_lt_of_pos _ (by omega)⟩
theorem invC_push {n i : Nat} {es : List EN} {line : Int} {m : LN} (h : InvC n i es) (hi : i < n) (hl : 0 ≤ line ∧ line < 8) : InvC n (i + 1) (if pushC D8.length 16 es.length line = 0 then es ++ [(line, m)] else es) := by
  refine ⟨by omega, ?_, ?_⟩
  · split
    · intro x hx
      rcases List.mem_append.1 hx with hx | hx
      · exact h.f x hx
      · simp at hx; subst hx; exact hl
    · exact h.f
  · split
    · rename_i hp
      have : es.length < 16 := by
        unfold pushC at hp
        rw [if_pos ⟨hl.1, by simp; omega⟩] at hp
        split at hp
        · omega
        · cases hp
      simp; omega
    · exact h.n
theorem qimg_set {es : List EN} {k : Nat} {l : LN} (h : ∀ x ∈ es, x.1.toNat ≠ k) (ls : List LN) : qimg es (ls.set k l) = (qimg es ls).set k l := by
  induction es generalizing ls with
  | nil => rfl
  | cons x r ih =>
    show qimg r ((ls.set k l).set x.1.toNat x.2) = (qimg r (ls.set x.1.toNat x.2)).set k l
    rw [List.set_comm _ _ (Ne.symm (h x (List.mem_cons_self ..))), ih fun y hy => h y (List.mem_cons_of_mem _ hy)]
theorem qimg_app (a b : List EN) (ls : List LN) : qimg (a ++ b) ls = qimg b (qimg a ls) := by simp [qimg, List.foldl_append]
theorem drain_img {es : List EN} {ls : List LN} {line : Int} (h : qIn es ls.length) : qimg (drE es line) (drL es ls line) = qimg es ls ∧ qIn (drE es line) ls.length ∧ (drE es line).length ≤ es.length := by
  cases hf : es.find? (fun x => x.1 == line) with
  | none => rw [drain_no hf]; simp [drL, hf, h]
  | some y =>
    obtain ⟨a, b, e, h1, h2, h3⟩ := drain_at hf
    have hy : y.1 = line := by simpa using h2
    subst hy
    have hb := h y (by rw [e]; simp)
    have e1 : drL es ls y.1 = ls.set y.1.toNat y.2 := by simp only [drL, hf]; exact wrD_in hb
    rw [h3, e1]
    refine ⟨?_, fun x hx => h x (by rw [e]; rcases List.mem_append.1 hx with hx | hx <;> simp [hx]), by rw [e]; simp⟩
    rw [e, qimg_app, qimg_app, qimg_set (es := a)]
    · rfl
    · intro x hx hk
      have n1 := h1 x hx
      have n2 := h x (by rw [e]; simp [hx])
      have : x.1 = y.1 := by omega
      rw [this] at n1
      simp at n1
theorem failD_at {ls : List LN} {i : Nat} (hl : ls.length = 8) (hi : i < 8) : (failD 2 ls)[i]? = some (if i < 2 then Z8 else ls.getD i Z8) := by
  unfold failD
  by_cases h : i < 2
  · rw [if_pos h, List.getElem?_append_left (by simp; omega)]
    rw [List.getElem?_replicate, if_pos (by simp; omega)]
  · rw [if_neg h, List.getElem?_append_right (by simp; omega)]
    simp only [List.length_replicate, List.getElem?_drop]
    rw [show (2 : Int).toNat + (i - (2 : Int).toNat) = i by omega, List.getElem?_eq_getElem (by omega)]
    simp [List.getD, List.getElem?_eq_getElem (show i < ls.length by omega)]
theorem failD_len8 {ls : List LN} (hl : ls.length = 8) : (failD 2 ls).length = 8 := by simp [failD, hl]
abbrev lp5 (l : List (Int × Int × LN)) (drains : List Int) : Nat → Option LoopSp := fun r => match Nat.beq r 6 with
  | true => some { X := Nat × List EN, sl := fun x => [(0, .one (.rd shS l)), (1, .one (.rd (.int .u8) drains)), (5, .one (.ptr 1 0)), (7, .one (.ptr 0 0)), (9, .one (vi x.1))], h := fun x => quH 16 2 x.2 D8, nx := 4, inv := fun x => InvC l.length x.1 x.2, mu := fun x => l.length - x.1 }
  | false => (match Nat.beq r 11 with
    | true => some { X := List LN × Nat × List EN × List LN, sl := fun x => [(1, .one (.rd (.int .u8) drains)), (5, .one (.ptr 1 0)), (7, .one (.ptr 0 0)), (10, .one (.sl 4)), (11, .one (vi x.2.1))], h := fun x => quH 16 2 x.2.2.1 x.2.2.2 ++ [(4, .own 34 shW x.1)], nx := 5, inv := fun x => InvD drains.length x.1 x.2.1 x.2.2.1 x.2.2.2, mu := fun x => drains.length - x.2.1 }
    | false => some { X := Nat × List LN, sl := fun x => [(7, .one (.ptr 0 0)), (10, .one (.sl 4)), (12, .one (.sl 5)), (13, .one (vi x.1))], h := fun x => quH 16 2 [] (failD 2 x.2) ++ [(4, .own 34 shW x.2), (5, .own 34 shW (failD 2 x.2))], nx := 6, inv := fun x => x.1 ≤ 8 ∧ x.2.length = 8, mu := fun x => 8 - x.1 })
set_option maxRecDepth 100000 in
theorem drains_law : ∀ x, rngTup [pSts, pUs] x → ∃ lp, runF Tbl (spL L12) lp 0 Try.f5 (enVs [pSts, pUs] x) ⟨0, []⟩ fun r' st' => fzR st' (mkB true) r' := by
  rintro ⟨l, drains⟩ hr
  refine ⟨lp5 l drains, ?_⟩
  refine Eq.mp (by kernel_rfl : (((8 : Int) = (8 : Int) ∧ (0 : Int) ≤ (8 : Int) ∧ (8 : Int) * (↑(64 : Nat) : Int) ≤ (140737488355328 : Int)) ∧ ((decide ((↑(List.length l) : Int) > (100 : Int)) || decide ((↑(List.length drains) : Int) > (100 : Int))) = true → true = true ∧ True) ∧ ((decide ((↑(List.length l) : Int) > (100 : Int)) || decide ((↑(List.length drains) : Int) > (100 : Int))) = false → (∃ (x : Nat × List EN), InvC (List.length l) x.fst x.snd ∧ l ≍ l ∧ drains ≍ drains ∧ (0 : Int) = (↑x.fst : Int) ∧ (16 : Int) = (16 : Int) ∧ (2 : Int) = (2 : Int) ∧ x.snd = ([] : List (Int × List Int)) ∧ List.replicate (Int.toNat (8 : Int)) (List.replicate (8 : Nat) (0 : Int)) ≍ D8 ∧ True) ∧ ∀ (x : Nat × List EN), InvC (List.length l) x.fst x.snd → (decide ((↑x.fst : Int) < (↑(List.length l) : Int)) = true → ((0 : Int) ≤ (↑x.fst : Int) ∧ (↑x.fst : Int) < (↑(List.length l) : Int)) ∧ ∀ (y : Int × Int × List Int), l[(↑x.fst : Int).toNat]? = some y → ((0 : Int) ≤ (↑x.fst : Int) ∧ (↑x.fst : Int) < (↑(List.length l) : Int)) ∧ ∀ (y_1 : Int × Int × List Int), l[(↑x.fst : Int).toNat]? = some y_1 → ((8 : Int) ≠ (0 : Int) ∧ ((-9223372036854775808 : Int) ≤ y.snd.fst.tmod (8 : Int) + (8 : Int) ∧ y.snd.fst.tmod (8 : Int) + (8 : Int) ≤ (9223372036854775807 : Int)) ∧ (8 : Int) ≠ (0 : Int) ∧ (16 : Int) ≤ (16 : Int) ∧ ∀ (x_1 x_2 x_3 : Int) (x_4 : List (Int × List Int)) (x_5 : List (List Int)), x_1 = pushC D8.length (16 : Int) x.snd.length ((y.snd.fst.tmod (8 : Int) + (8 : Int)).tmod (8 : Int)) ∧ x_2 = (16 : Int) ∧ x_3 = (2 : Int) ∧ (x_4 = if pushC D8.length (16 : Int) x.snd.length ((y.snd.fst.tmod (8 : Int) + (8 : Int)).tmod (8 : Int)) = (0 : Int) then x.snd ++ ((y.snd.fst.tmod (8 : Int) + (8 : Int)).tmod (8 : Int), y_1.snd.snd) :: ([] : List (Int × List Int)) else x.snd) ∧ x_5 = D8 → ((-9223372036854775808 : Int) ≤ (↑x.fst : Int) + (1 : Int) ∧ (↑x.fst : Int) + (1 : Int) ≤ (9223372036854775807 : Int)) ∧ ∃ (y : Nat × List EN), InvC (List.length l) y.fst y.snd ∧ List.length l - y.fst < List.length l - x.fst ∧ l ≍ l ∧ drains ≍ drains ∧ (↑x.fst : Int) + (1 : Int) = (↑y.fst : Int) ∧ x_2 = (16 : Int) ∧ x_3 = (2 : Int) ∧ x_4 ≍ y.snd ∧ x_5 ≍ D8 ∧ True) ∧ (8 : Int) ≠ (0 : Int) ∧ ((-9223372036854775808 : Int) ≤ y.snd.fst.tmod (8 : Int) + (8 : Int) ∧ y.snd.fst.tmod (8 : Int) + (8 : Int) ≤ (9223372036854775807 : Int)) ∧ (8 : Int) ≠ (0 : Int) ∧ (16 : Int) ≤ (16 : Int) ∧ ∀ (x_1 x_2 x_3 : Int) (x_4 : List (Int × List Int)) (x_5 : List (List Int)), x_1 = pushC D8.length (16 : Int) x.snd.length ((y.snd.fst.tmod (8 : Int) + (8 : Int)).tmod (8 : Int)) ∧ x_2 = (16 : Int) ∧ x_3 = (2 : Int) ∧ (x_4 = if pushC D8.length (16 : Int) x.snd.length ((y.snd.fst.tmod (8 : Int) + (8 : Int)).tmod (8 : Int)) = (0 : Int) then x.snd ++ ((y.snd.fst.tmod (8 : Int) + (8 : Int)).tmod (8 : Int), y_1.snd.snd) :: ([] : List (Int × List Int)) else x.snd) ∧ x_5 = D8 → ((-9223372036854775808 : Int) ≤ (↑x.fst : Int) + (1 : Int) ∧ (↑x.fst : Int) + (1 : Int) ≤ (9223372036854775807 : Int)) ∧ ∃ (y : Nat × List EN), InvC (List.length l) y.fst y.snd ∧ List.length l - y.fst < List.length l - x.fst ∧ l ≍ l ∧ drains ≍ drains ∧ (↑x.fst : Int) + (1 : Int) = (↑y.fst : Int) ∧ x_2 = (16 : Int) ∧ x_3 = (2 : Int) ∧ x_4 ≍ y.snd ∧ x_5 ≍ D8 ∧ True) ∧ (decide ((↑x.fst : Int) < (↑(List.length l) : Int)) = false → ((∀ (x_1 : EN), x_1 ∈ x.snd → (0 : Int) ≤ x_1.fst ∧ x_1.fst < (↑D8.length : Int)) ∧ D8.length * (64 : Nat) ≤ (140737488355328 : Nat)) ∧ ∀ (x_1 x_2 : Int) (x_3 : List (Int × List Int)) (x_4 x_5 : List (List Int)), x_1 = (16 : Int) ∧ x_2 = (2 : Int) ∧ x_3 = x.snd ∧ x_4 = D8 ∧ x_5 = qimg x.snd D8 → (∃ (x : List LN × Nat × List EN × List LN), InvD (List.length drains) x.fst x.snd.fst x.snd.snd.fst x.snd.snd.snd ∧ drains ≍ drains ∧ (0 : Int) = (↑x.snd.fst : Int) ∧ x_1 = (16 : Int) ∧ x_2 = (2 : Int) ∧ x_3 ≍ x.snd.snd.fst ∧ x_4 ≍ x.snd.snd.snd ∧ x_5 ≍ x.fst ∧ True) ∧ ∀ (x : List LN × Nat × List EN × List LN), InvD (List.length drains) x.fst x.snd.fst x.snd.snd.fst x.snd.snd.snd → (decide ((↑x.snd.fst : Int) < (↑(List.length drains) : Int)) = true → ((0 : Int) ≤ (↑x.snd.fst : Int) ∧ (↑x.snd.fst : Int) < (↑(List.length drains) : Int)) ∧ ∀ (y : Int), drains[(↑x.snd.fst : Int).toNat]? = some y → (8 : Int) ≠ (0 : Int) ∧ x.snd.snd.fst.length ≤ (16 : Nat) ∧ ∀ (x_6 x_7 x_8 : Int) (x_9 : List (Int × List Int)) (x_10 : List (List Int)), x_6 = drA x.snd.snd.fst (y.tmod (8 : Int)) ∧ x_7 = (16 : Int) ∧ x_8 = (2 : Int) ∧ x_9 = drE x.snd.snd.fst (y.tmod (8 : Int)) ∧ x_10 = drL x.snd.snd.fst x.snd.snd.snd (y.tmod (8 : Int)) → ((∀ (x : EN), x ∈ x_9 → (0 : Int) ≤ x.fst ∧ x.fst < (↑x_10.length : Int)) ∧ x_10.length * (64 : Nat) ≤ (140737488355328 : Nat)) ∧ ∀ (x_11 x_12 : Int) (x_13 : List (Int × List Int)) (x_14 x_15 : List (List Int)), x_11 = x_7 ∧ x_12 = x_8 ∧ x_13 = x_9 ∧ x_14 = x_10 ∧ x_15 = qimg x_9 x_10 → ((!eqB x_15 x.fst) = true → false = true ∧ True) ∧ ((!eqB x_15 x.fst) = false → ((-9223372036854775808 : Int) ≤ (↑x.snd.fst : Int) + (1 : Int) ∧ (↑x.snd.fst : Int) + (1 : Int) ≤ (9223372036854775807 : Int)) ∧ ∃ (y : List LN × Nat × List EN × List LN), InvD (List.length drains) y.fst y.snd.fst y.snd.snd.fst y.snd.snd.snd ∧ List.length drains - y.snd.fst < List.length drains - x.snd.fst ∧ drains ≍ drains ∧ (↑x.snd.fst : Int) + (1 : Int) = (↑y.snd.fst : Int) ∧ x_11 = (16 : Int) ∧ x_12 = (2 : Int) ∧ x_13 ≍ y.snd.snd.fst ∧ x_14 ≍ y.snd.snd.snd ∧ x.fst ≍ y.fst ∧ True)) ∧ (decide ((↑x.snd.fst : Int) < (↑(List.length drains) : Int)) = false → ((∀ (x_6 : EN), x_6 ∈ x.snd.snd.fst → (0 : Int) ≤ x_6.fst ∧ x_6.fst < (↑x.snd.snd.snd.length : Int)) ∧ (0 : Int) ≤ (2 : Int) ∧ (2 : Int) ≤ (↑x.snd.snd.snd.length : Int)) ∧ ∀ (x_6 x_7 : Int) (x_8 : List (Int × List Int)) (x_9 : List (List Int)), x_6 = (16 : Int) ∧ x_7 = (2 : Int) ∧ x_8 = ([] : List (Int × List Int)) ∧ x_9 = failD (2 : Int) (qimg x.snd.snd.fst x.snd.snd.snd) → x_9.length * (64 : Nat) ≤ (140737488355328 : Nat) ∧ ∀ (x_10 : Int) (x_11 x_12 : List (List Int)), x_10 = x_7 ∧ x_11 = x_9 ∧ x_12 = x_9 → (((↑x.fst.length : Int) != (8 : Int) || (↑x_12.length : Int) != (8 : Int)) = true → false = true ∧ True) ∧ (((↑x.fst.length : Int) != (8 : Int) || (↑x_12.length : Int) != (8 : Int)) = false → True ∧ ∀ (x_13 x_14 x_15 : Int) (x_16 : List (Int × List Int)) (x_17 : List (List Int)), x_13 = (↑x_8.length : Int) ∧ x_14 = x_6 ∧ x_15 = x_10 ∧ x_16 = x_8 ∧ x_17 = x_11 → ((x_13 != (0 : Int)) = true → false = true ∧ True) ∧ ((x_13 != (0 : Int)) = false → (∃ (x_18 : Nat × List LN), (x_18.fst ≤ (8 : Nat) ∧ x_18.snd.length = (8 : Nat)) ∧ (0 : Int) = (↑x_18.fst : Int) ∧ x_14 = (16 : Int) ∧ x_15 = (2 : Int) ∧ x_16 ≍ ([] : List EN) ∧ x_17 ≍ failD (2 : Int) x_18.snd ∧ x.fst ≍ x_18.snd ∧ x_12 ≍ failD (2 : Int) x_18.snd ∧ True) ∧ ∀ (x : Nat × List LN), x.fst ≤ (8 : Nat) ∧ x.snd.length = (8 : Nat) → (decide ((↑x.fst : Int) < (8 : Int)) = true → (decide ((↑x.fst : Int) < (2 : Int)) = true → ((0 : Int) ≤ (↑x.fst : Int) ∧ (↑x.fst : Int) < (↑(failD (2 : Int) x.snd).length : Int)) ∧ (↑x.fst : Int).toNat < (failD (2 : Int) x.snd).length ∧ ∀ (y : List Int), (failD (2 : Int) x.snd)[(↑x.fst : Int).toNat]? = some y → ((!y == List.replicate (8 : Nat) (0 : Int)) = true → false = true ∧ True) ∧ ((!y == List.replicate (8 : Nat) (0 : Int)) = false → (decide ((↑x.fst : Int) ≥ (2 : Int)) = true → ((0 : Int) ≤ (↑x.fst : Int) ∧ (↑x.fst : Int) < (↑(failD (2 : Int) x.snd).length : Int)) ∧ ((0 : Int) ≤ (↑x.fst : Int) ∧ (↑x.fst : Int) < (↑x.snd.length : Int)) ∧ ((↑x.fst : Int).toNat < (failD (2 : Int) x.snd).length ∧ ∀ (y : List Int), (failD (2 : Int) x.snd)[(↑x.fst : Int).toNat]? = some y → (↑x.fst : Int).toNat < x.snd.length ∧ ∀ (y_1 : List Int), x.snd[(↑x.fst : Int).toNat]? = some y_1 → ((!y == y_1) = true → false = true ∧ True) ∧ ((!y == y_1) = false → ((-9223372036854775808 : Int) ≤ (↑x.fst : Int) + (1 : Int) ∧ (↑x.fst : Int) + (1 : Int) ≤ (9223372036854775807 : Int)) ∧ ∃ (y : Nat × List LN), (y.fst ≤ (8 : Nat) ∧ y.snd.length = (8 : Nat)) ∧ (8 : Nat) - y.fst < (8 : Nat) - x.fst ∧ (↑x.fst : Int) + (1 : Int) = (↑y.fst : Int) ∧ (16 : Int) = (16 : Int) ∧ (2 : Int) = (2 : Int) ∧ ([] : List EN) ≍ ([] : List EN) ∧ failD (2 : Int) x.snd ≍ failD (2 : Int) y.snd ∧ x.snd ≍ y.snd ∧ failD (2 : Int) x.snd ≍ failD (2 : Int) y.snd ∧ True)) ∧ (↑x.fst : Int).toNat < x.snd.length ∧ ∀ (y : List Int), x.snd[(↑x.fst : Int).toNat]? = some y → (↑x.fst : Int).toNat < (failD (2 : Int) x.snd).length ∧ ∀ (y_1 : List Int), (failD (2 : Int) x.snd)[(↑x.fst : Int).toNat]? = some y_1 → ((!y_1 == y) = true → false = true ∧ True) ∧ ((!y_1 == y) = false → ((-9223372036854775808 : Int) ≤ (↑x.fst : Int) + (1 : Int) ∧ (↑x.fst : Int) + (1 : Int) ≤ (9223372036854775807 : Int)) ∧ ∃ (y : Nat × List LN), (y.fst ≤ (8 : Nat) ∧ y.snd.length = (8 : Nat)) ∧ (8 : Nat) - y.fst < (8 : Nat) - x.fst ∧ (↑x.fst : Int) + (1 : Int) = (↑y.fst : Int) ∧ (16 : Int) = (16 : Int) ∧ (2 : Int) = (2 : Int) ∧ ([] : List EN) ≍ ([] : List EN) ∧ failD (2 : Int) x.snd ≍ failD (2 : Int) y.snd ∧ x.snd ≍ y.snd ∧ failD (2 : Int) x.snd ≍ failD (2 : Int) y.snd ∧ True)) ∧ (decide ((↑x.fst : Int) ≥ (2 : Int)) = false → ((-9223372036854775808 : Int) ≤ (↑x.fst : Int) + (1 : Int) ∧ (↑x.fst : Int) + (1 : Int) ≤ (9223372036854775807 : Int)) ∧ ∃ (y : Nat × List LN), (y.fst ≤ (8 : Nat) ∧ y.snd.length = (8 : Nat)) ∧ (8 : Nat) - y.fst < (8 : Nat) - x.fst ∧ (↑x.fst : Int) + (1 : Int) = (↑y.fst : Int) ∧ (16 : Int) = (16 : Int) ∧ (2 : Int) = (2 : Int) ∧ ([] : List EN) ≍ ([] : List EN) ∧ failD (2 : Int) x.snd ≍ failD (2 : Int) y.snd ∧ x.snd ≍ y.snd ∧ failD (2 : Int) x.snd ≍ failD (2 : Int) y.snd ∧ True))) ∧ (decide ((↑x.fst : Int) < (2 : Int)) = false → (decide ((↑x.fst : Int) ≥ (2 : Int)) = true → ((0 : Int) ≤ (↑x.fst : Int) ∧ (↑x.fst : Int) < (↑(failD (2 : Int) x.snd).length : Int)) ∧ ((0 : Int) ≤ (↑x.fst : Int) ∧ (↑x.fst : Int) < (↑x.snd.length : Int)) ∧ ((↑x.fst : Int).toNat < (failD (2 : Int) x.snd).length ∧ ∀ (y : List Int), (failD (2 : Int) x.snd)[(↑x.fst : Int).toNat]? = some y → (↑x.fst : Int).toNat < x.snd.length ∧ ∀ (y_1 : List Int), x.snd[(↑x.fst : Int).toNat]? = some y_1 → ((!y == y_1) = true → false = true ∧ True) ∧ ((!y == y_1) = false → ((-9223372036854775808 : Int) ≤ (↑x.fst : Int) + (1 : Int) ∧ (↑x.fst : Int) + (1 : Int) ≤ (9223372036854775807 : Int)) ∧ ∃ (y : Nat × List LN), (y.fst ≤ (8 : Nat) ∧ y.snd.length = (8 : Nat)) ∧ (8 : Nat) - y.fst < (8 : Nat) - x.fst ∧ (↑x.fst : Int) + (1 : Int) = (↑y.fst : Int) ∧ (16 : Int) = (16 : Int) ∧ (2 : Int) = (2 : Int) ∧ ([] : List EN) ≍ ([] : List EN) ∧ failD (2 : Int) x.snd ≍ failD (2 : Int) y.snd ∧ x.snd ≍ y.snd ∧ failD (2 : Int) x.snd ≍ failD (2 : Int) y.snd ∧ True)) ∧ (↑x.fst : Int).toNat < x.snd.length ∧ ∀ (y : List Int), x.snd[(↑x.fst : Int).toNat]? = some y → (↑x.fst : Int).toNat < (failD (2 : Int) x.snd).length ∧ ∀ (y_1 : List Int), (failD (2 : Int) x.snd)[(↑x.fst : Int).toNat]? = some y_1 → ((!y_1 == y) = true → false = true ∧ True) ∧ ((!y_1 == y) = false → ((-9223372036854775808 : Int) ≤ (↑x.fst : Int) + (1 : Int) ∧ (↑x.fst : Int) + (1 : Int) ≤ (9223372036854775807 : Int)) ∧ ∃ (y : Nat × List LN), (y.fst ≤ (8 : Nat) ∧ y.snd.length = (8 : Nat)) ∧ (8 : Nat) - y.fst < (8 : Nat) - x.fst ∧ (↑x.fst : Int) + (1 : Int) = (↑y.fst : Int) ∧ (16 : Int) = (16 : Int) ∧ (2 : Int) = (2 : Int) ∧ ([] : List EN) ≍ ([] : List EN) ∧ failD (2 : Int) x.snd ≍ failD (2 : Int) y.snd ∧ x.snd ≍ y.snd ∧ failD (2 : Int) x.snd ≍ failD (2 : Int) y.snd ∧ True)) ∧ (decide ((↑x.fst : Int) ≥ (2 : Int)) = false → ((-9223372036854775808 : Int) ≤ (↑x.fst : Int) + (1 : Int) ∧ (↑x.fst : Int) + (1 : Int) ≤ (9223372036854775807 : Int)) ∧ ∃ (y : Nat × List LN), (y.fst ≤ (8 : Nat) ∧ y.snd.length = (8 : Nat)) ∧ (8 : Nat) - y.fst < (8 : Nat) - x.fst ∧ (↑x.fst : Int) + (1 : Int) = (↑y.fst : Int) ∧ (16 : Int) = (16 : Int) ∧ (2 : Int) = (2 : Int) ∧ ([] : List EN) ≍ ([] : List EN) ∧ failD (2 : Int) x.snd ≍ failD (2 : Int) y.snd ∧ x.snd ≍ y.snd ∧ failD (2 : Int) x.snd ≍ failD (2 : Int) y.snd ∧ True))) ∧ (decide ((↑x.fst : Int) < (8 : Int)) = false → ((∀ (x_18 : EN), x_18 ∈ ([] : List EN) → (0 : Int) ≤ x_18.fst ∧ x_18.fst < (↑(failD (2 : Int) x.snd).length : Int)) ∧ (failD (2 : Int) x.snd).length * (64 : Nat) ≤ (140737488355328 : Nat)) ∧ ∀ (x_18 x_19 : Int) (x_20 : List (Int × List Int)) (x_21 x_22 : List (List Int)), x_18 = (16 : Int) ∧ x_19 = (2 : Int) ∧ x_20 = ([] : List EN) ∧ x_21 = failD (2 : Int) x.snd ∧ x_22 = qimg ([] : List EN) (failD (2 : Int) x.snd) → (eqB x_22 (failD (2 : Int) x.snd) && true) = true ∧ True))))))) = _) ?_
  have nt : ∀ {p : Prop} {b : Bool}, b = true → b = false → p := fun h h' => by rw [h] at h'; cases h'
  have no : ∀ {p : Prop} {b : Bool}, b = false → b = true → p := fun h h' => by rw [h] at h'; cases h'
  refine ⟨⟨rfl, by omega, by omega⟩, fun _ => ⟨rfl, trivial⟩, fun h0 => ?_⟩
  simp only [Bool.or_eq_false_iff, decide_eq_false_iff_not] at h0
  obtain ⟨N, hN⟩ : ∃ N, List.length l = N := ⟨_, rfl⟩
  obtain ⟨M, hM⟩ : ∃ M, List.length drains = M := ⟨_, rfl⟩
  have hdr : ∀ y ∈ drains, 0 ≤ y ∧ y ≤ 255 := fun y hy => hr.2.2 y hy
  rw [hN, hM] at h0 ⊢
  refine ⟨⟨(0, []), ⟨by omega, (fun x hx => by cases hx), by simp⟩, HEq.rfl, HEq.rfl, rfl, rfl, rfl, rfl, HEq.rfl, trivial⟩, ?_⟩
  rintro ⟨i, es⟩ hC
  simp only at *
  refine ⟨fun hi => ?_, fun hi => ?_⟩
  · simp only [decide_eq_true_eq] at hi
    refine ⟨⟨by omega, by omega⟩, fun y hy => ⟨⟨by omega, by omega⟩, fun y1 hy1 => ⟨?a, ?a⟩⟩⟩
    case a =>
      obtain ⟨m1, m2⟩ := modI y.2.1
      refine ⟨by omega, ⟨by omega, by omega⟩, by omega, by omega, ?_⟩
      rintro _ _ _ q _ ⟨rfl, rfl, rfl, hq, rfl⟩
      refine ⟨⟨by omega, by omega⟩, (i + 1, q), ?_, by simp only; omega, HEq.rfl, HEq.rfl, by simp, rfl, rfl, HEq.rfl, HEq.rfl, trivial⟩
      simp only
      rw [hq]
      exact invC_push hC (by omega) m2
  · simp only [decide_eq_false_iff_not] at hi
    refine ⟨⟨hC.f, by simp⟩, ?_⟩
    rintro _ _ es _ was ⟨rfl, rfl, rfl, rfl, hw⟩
    refine ⟨⟨(was, 0, es, D8), ⟨by simp, hC.f, hC.n, rfl, hw.symm⟩, HEq.rfl, rfl, rfl, rfl, HEq.rfl, HEq.rfl, HEq.rfl, trivial⟩, ?_⟩
    clear hC hw hi
    rintro ⟨was, i, es, ls⟩ ⟨hle, hf, hn, hl, hw⟩
    simp only at *
    refine ⟨fun hi => ?_, fun hi => ?_⟩
    · simp only [decide_eq_true_eq] at hi
      refine ⟨⟨by omega, by omega⟩, fun y hy => ⟨by omega, hn, ?_⟩⟩
      obtain ⟨d1, d2, d3⟩ := drain_img (line := y.tmod 8) (ls := ls) (by rw [hl]; exact hf)
      rintro _ _ _ q m ⟨rfl, rfl, rfl, rfl, hm⟩
      have hm8 : m.length = 8 := by rw [hm, drL_len, hl]
      rw [hl] at d2
      refine ⟨⟨by rw [hm8]; exact d2, by omega⟩, ?_⟩
      rintro _ _ q m g ⟨rfl, rfl, rfl, rfl, hg⟩
      have hgw : g = was := by rw [hg, hm, d1, hw]
      refine ⟨no (by rw [hgw, eqB_self]; rfl), fun _ => ⟨⟨by omega, by omega⟩, (was, i + 1, _, m), ⟨by simp only; omega, d2, Nat.le_trans d3 hn, hm8, by simp only; rw [hm]; exact d1.trans hw⟩, by simp only; omega, HEq.rfl, by simp, rfl, rfl, HEq.rfl, HEq.rfl, HEq.rfl, trivial⟩⟩
    · simp only [decide_eq_false_iff_not] at hi
      have hw8 : was.length = 8 := by rw [← hw, qimg_len, hl]
      refine ⟨⟨by rw [hl]; exact hf, by omega, by omega⟩, ?_⟩
      rintro _ _ _ g ⟨rfl, rfl, rfl, hg⟩
      rw [hw] at hg
      have hg8 : g.length = 8 := by rw [hg]; exact failD_len8 hw8
      refine ⟨by omega, ?_⟩
      rintro _ g g2 ⟨rfl, rfl, rfl⟩
      refine ⟨no (by simp [hw8, hg8]), fun _ => ⟨trivial, ?_⟩⟩
      rintro _ _ _ _ g ⟨rfl, rfl, rfl, rfl, rfl⟩
      refine ⟨no (by simp), fun _ => ⟨⟨(0, was), ⟨by omega, hw8⟩, rfl, rfl, rfl, HEq.rfl, heq_of_eq hg, HEq.rfl, heq_of_eq hg, trivial⟩, ?_⟩⟩
      clear hg hg8 hw8 hw hf hn hl hi hle
      rintro ⟨i, ws⟩ ⟨hi8, hl8⟩
      simp only at *
      refine ⟨fun hi => ?_, fun hi => ?_⟩
      · simp only [decide_eq_true_eq] at hi
        have i8 : i < 8 := by omega
        have f1 := failD_at hl8 i8
        have g1 : ws[i]? = some (ws.getD i Z8) := by rw [List.getD, List.getElem?_eq_getElem (by omega)]; rfl
        have nxt : (-9223372036854775808 ≤ (i : Int) + 1 ∧ (i : Int) + 1 ≤ 9223372036854775807) ∧ ∃ y : Nat × List LN, (y.fst ≤ 8 ∧ y.snd.length = 8) ∧ 8 - y.fst < 8 - i ∧ (i : Int) + 1 = (y.fst : Int) ∧ True ∧ True ∧ HEq ([] : List EN) ([] : List EN) ∧ HEq (failD 2 ws) (failD 2 y.snd) ∧ HEq ws y.snd ∧ HEq (failD 2 ws) (failD 2 y.snd) ∧ True :=
          ⟨⟨by omega, by omega⟩, (i + 1, ws), ⟨by simp only; omega, hl8⟩, by simp only; omega, by simp, trivial, trivial, HEq.rfl, HEq.rfl, HEq.rfl, HEq.rfl, trivial⟩
        have fl := failD_len8 hl8
        simp only [Int.toNat_natCast]
        rw [f1, g1]
        have two : ((decide ((i : Int) ≥ 2)) = true → i ≥ 2) := fun h => by simp only [decide_eq_true_eq] at h; omega
        refine ⟨fun h2 => ⟨⟨by omega, by omega⟩, by omega, fun y hy => ?_⟩, fun h2 => ⟨fun h3 => ⟨⟨by omega, by omega⟩, ⟨by omega, by omega⟩, ⟨by omega, fun y hy => ⟨by omega, fun y1 hy1 => ?_⟩⟩, by omega, fun y1 hy1 => ⟨by omega, fun y hy => ?_⟩⟩, fun _ => nxt⟩⟩
        · simp only [decide_eq_true_eq] at h2
          rw [if_pos (by omega)] at hy
          cases hy
          exact ⟨no (by decide), fun _ => ⟨fun h => by have := two h; omega, fun _ => nxt⟩⟩
        · rw [if_neg (by have := two h3; omega)] at hy
          cases hy
          cases hy1
          exact ⟨no (by simp), fun _ => nxt⟩
        · rw [if_neg (by have := two h3; omega)] at hy
          cases hy
          cases hy1
          exact ⟨no (by simp), fun _ => nxt⟩
      · simp only [decide_eq_false_iff_not] at hi
        refine ⟨⟨(fun x hx => by cases hx), by rw [failD_len8 hl8]; omega⟩, ?_⟩
        rintro _ _ _ _ _ ⟨rfl, rfl, rfl, rfl, rfl⟩
        refine ⟨?_, trivial⟩
        show (eqB (failD 2 ws) (failD 2 ws) && true) = true
        rw [eqB_self]
        rfl
end Go.Proofs.Ytgaiedcmohpiaaa.V
