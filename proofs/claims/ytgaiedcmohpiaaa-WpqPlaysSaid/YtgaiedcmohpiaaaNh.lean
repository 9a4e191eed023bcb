import Derived.KernelRfl
import Derived.Test.YtgaiedcmohpiaaaNg
namespace Go.Proofs.Ytgaiedcmohpiaaa.V
open Go.RowKit Go.Proofs.Ytgaiedcmohpiaaa
set_option linter.unusedSimpArgs false
abbrev L11 : List (Nat × Spec) := (9, .full (inl Tbl (spL L10) Try.f9 noLp)) :: (20, .full (inl Tbl (spL L10) Try.f20 noLp)) :: (21, .full (inl Tbl (spL L10) Try.f21 noLp)) :: (17, .full (inl Tbl (spL L10) Try.f17 noLp)) :: (18, .full (callsP [qfail1, qfail2])) :: (11, .full (callsP [push1, push2])) :: (12, .full (callsP [len1, len2])) :: (15, .full (callsP [qimage1, qimage2])) :: (30, .full (callsP [lines1, lines2])) :: L10
theorem L11_all : ∀ p ∈ L11, Valid Try.prog p.1 p.2 := vcons (valid_inl mixed Tbl_ok L10_ok Try.func9 call9 noLp) (vcons (valid_inl mixed Tbl_ok L10_ok Try.func20 call20 noLp) (vcons (valid_inl mixed Tbl_ok L10_ok Try.func21 call21 noLp) (vcons (valid_inl mixed Tbl_ok L10_ok Try.func17 call17 noLp) (vcons v18 (vcons v11 (vcons v12 (vcons v15 (vcons v30 L10_all))))))))
theorem L11_ok : ∀ f S, spL L11 f = some S → Valid Try.prog f S := spL_ok L11_all
theorem v10 : Valid Try.prog 10 (.tot (tS [] [pB] fun _ => true)) := by
  refine tS_ok mixed Tbl_ok L11_ok Try.func10 call10 rfl rfl rfl ?_
  rintro _ hr z rfl
  refine ⟨noLoop, ?_⟩
  refine Eq.mp (by kernel_rfl : (((4 : Int) = (4 : Int) ∧ (0 : Int) ≤ (4 : Int) ∧ (4 : Int) * (↑(64 : Nat) : Int) ≤ (140737488355328 : Int)) ∧ (2 : Int) ≤ (16 : Int) ∧ ∀ (x x_1 x_2 : Int) (x_3 : List (Int × List Int)) (x_4 : List (List Int)), x = pushC (List.replicate (Int.toNat (4 : Int)) (List.replicate (8 : Nat) (0 : Int))).length (2 : Int) ([] : List (Int × List Int)).length (3 : Int) ∧ x_1 = (2 : Int) ∧ x_2 = (1 : Int) ∧ (x_3 = if pushC (List.replicate (Int.toNat (4 : Int)) (List.replicate (8 : Nat) (0 : Int))).length (2 : Int) ([] : List (Int × List Int)).length (3 : Int) = (0 : Int) then ([] : List (Int × List Int)) ++ ((3 : Int), (1 : Int) :: (0 : Int) :: (0 : Int) :: (0 : Int) :: (0 : Int) :: (0 : Int) :: (0 : Int) :: (0 : Int) :: ([] : List Int)) :: ([] : List (Int × List Int)) else ([] : List (Int × List Int))) ∧ x_4 = List.replicate (Int.toNat (4 : Int)) (List.replicate (8 : Nat) (0 : Int)) → ((x != (0 : Int)) = true → false = true ∧ True) ∧ ((x != (0 : Int)) = false → x_1 ≤ (16 : Int) ∧ ∀ (x x_5 x_6 : Int) (x_7 : List (Int × List Int)) (x_8 : List (List Int)), x = pushC x_4.length x_1 x_3.length (3 : Int) ∧ x_5 = x_1 ∧ x_6 = x_2 ∧ (x_7 = if pushC x_4.length x_1 x_3.length (3 : Int) = (0 : Int) then x_3 ++ ((3 : Int), (2 : Int) :: (0 : Int) :: (0 : Int) :: (0 : Int) :: (0 : Int) :: (0 : Int) :: (0 : Int) :: (0 : Int) :: ([] : List Int)) :: ([] : List (Int × List Int)) else x_3) ∧ x_8 = x_4 → ((x != (0 : Int)) = true → false = true ∧ True) ∧ ((x != (0 : Int)) = false → x_5 ≤ (16 : Int) ∧ ∀ (x x_9 x_10 : Int) (x_11 : List (Int × List Int)) (x_12 : List (List Int)), x = pushC x_8.length x_5 x_7.length (2 : Int) ∧ x_9 = x_5 ∧ x_10 = x_6 ∧ (x_11 = if pushC x_8.length x_5 x_7.length (2 : Int) = (0 : Int) then x_7 ++ ((2 : Int), (9 : Int) :: (0 : Int) :: (0 : Int) :: (0 : Int) :: (0 : Int) :: (0 : Int) :: (0 : Int) :: (0 : Int) :: ([] : List Int)) :: ([] : List (Int × List Int)) else x_7) ∧ x_12 = x_8 → ((x != (13 : Int)) = true → false = true ∧ True) ∧ ((x != (13 : Int)) = false → x_11.length ≤ (16 : Nat) ∧ ∀ (x x_13 x_14 : Int) (x_15 : List (Int × List Int)) (x_16 : List (List Int)), x = drA x_11 (3 : Int) ∧ x_13 = x_9 ∧ x_14 = x_10 ∧ x_15 = drE x_11 (3 : Int) ∧ x_16 = drL x_11 x_12 (3 : Int) → ((x != (0 : Int)) = true → false = true ∧ True) ∧ ((x != (0 : Int)) = false → True ∧ ∀ (x : List Int) (x_17 x_18 x_19 : Int) (x_20 : List (Int × List Int)) (x_21 : List (List Int)), x_17 = qre x_15 x_16.length (3 : Int) ∧ x = qrd x_15 x_16 (3 : Int) ∧ x_18 = x_13 ∧ x_19 = x_14 ∧ x_20 = x_15 ∧ x_21 = x_16 → True ∧ ∀ (x_22 : List Int) (x_23 x_24 : Int) (x_25 : List (List Int)), x_23 = mayD x_21.length (3 : Int) ∧ x_22 = rdD x_21 (3 : Int) ∧ x_24 = x_19 ∧ x_25 = x_21 → ((x_17 == (0 : Int) && x_23 == (0 : Int)) = true → ((x.getD (nat_lit 0) (0 : Int) == (2 : Int)) = true → ((x_22.getD (nat_lit 0) (0 : Int) == (1 : Int)) = true → True ∧ ∀ (x x_26 x_27 : Int) (x_28 : List (Int × List Int)) (x_29 : List (List Int)), x = (↑x_20.length : Int) ∧ x_26 = x_18 ∧ x_27 = x_24 ∧ x_28 = x_20 ∧ x_29 = x_25 → ((x == (1 : Int)) = true → x_28.length ≤ (16 : Nat) ∧ ∀ (x x_30 x_31 : Int) (x_32 : List (Int × List Int)) (x_33 : List (List Int)), x = drA x_28 (2 : Int) ∧ x_30 = x_26 ∧ x_31 = x_27 ∧ x_32 = drE x_28 (2 : Int) ∧ x_33 = drL x_28 x_29 (2 : Int) → (x == (14 : Int)) = true ∧ True) ∧ ((x == (1 : Int)) = false → false = true ∧ True)) ∧ ((x_22.getD (nat_lit 0) (0 : Int) == (1 : Int)) = false → false = true ∧ True)) ∧ ((x.getD (nat_lit 0) (0 : Int) == (2 : Int)) = false → false = true ∧ True)) ∧ ((x_17 == (0 : Int) && x_23 == (0 : Int)) = false → false = true ∧ True)))))) = _) ?_
  have no : ∀ {p : Prop} {b : Bool}, b = false → b = true → p := fun h h' => by rw [h] at h'; cases h'
  refine ⟨⟨rfl, by omega, by omega⟩, by omega, ?_⟩
  rintro a _ _ q l ⟨ha, rfl, rfl, hq, hl⟩
  obtain rfl : a = 0 := ha.trans (by decide)
  obtain rfl : q = [(3, [1, 0, 0, 0, 0, 0, 0, 0])] := hq.trans (by decide)
  obtain rfl : l = [Z8, Z8, Z8, Z8] := hl.trans (by decide)
  refine ⟨no (by decide), fun _ => ⟨by omega, ?_⟩⟩
  rintro a _ _ q _ ⟨ha, rfl, rfl, hq, rfl⟩
  obtain rfl : a = 0 := ha.trans (by decide)
  obtain rfl : q = [(3, [1, 0, 0, 0, 0, 0, 0, 0]), (3, [2, 0, 0, 0, 0, 0, 0, 0])] := hq.trans (by decide)
  refine ⟨no (by decide), fun _ => ⟨by omega, ?_⟩⟩
  rintro a _ _ q _ ⟨ha, rfl, rfl, hq, rfl⟩
  obtain rfl : a = 13 := ha.trans (by decide)
  obtain rfl : q = [(3, [1, 0, 0, 0, 0, 0, 0, 0]), (3, [2, 0, 0, 0, 0, 0, 0, 0])] := hq.trans (by decide)
  refine ⟨no (by decide), fun _ => ⟨by decide, ?_⟩⟩
  rintro a _ _ q l ⟨ha, rfl, rfl, hq, hl⟩
  obtain rfl : a = 0 := ha.trans (by decide)
  obtain rfl : q = [(3, [2, 0, 0, 0, 0, 0, 0, 0])] := hq.trans (by decide)
  obtain rfl : l = [Z8, Z8, Z8, [1, 0, 0, 0, 0, 0, 0, 0]] := hl.trans (by decide)
  refine ⟨no (by decide), fun _ => ⟨trivial, ?_⟩⟩
  rintro m a _ _ _ _ ⟨ha, hm, rfl, rfl, rfl, rfl⟩
  obtain rfl : a = 0 := ha.trans (by decide)
  obtain rfl : m = [2, 0, 0, 0, 0, 0, 0, 0] := hm.trans (by decide)
  refine ⟨trivial, ?_⟩
  rintro m a _ _ ⟨ha, hm, rfl, rfl⟩
  obtain rfl : a = 0 := ha.trans (by decide)
  obtain rfl : m = [1, 0, 0, 0, 0, 0, 0, 0] := hm.trans (by decide)
  have nt : ∀ {p : Prop} {b : Bool}, b = true → b = false → p := fun h h' => by rw [h] at h'; cases h'
  refine ⟨fun _ => ⟨fun _ => ⟨fun _ => ⟨trivial, ?_⟩, nt (by decide)⟩, nt (by decide)⟩, nt (by decide)⟩
  rintro a _ _ _ _ ⟨ha, rfl, rfl, rfl, rfl⟩
  obtain rfl : a = 1 := ha.trans (by decide)
  refine ⟨fun _ => ⟨by decide, ?_⟩, nt (by decide)⟩
  rintro a _ _ _ _ ⟨ha, rfl, rfl, rfl, rfl⟩
  obtain rfl : a = 14 := ha.trans (by decide)
  exact ⟨rfl, trivial⟩
noncomputable abbrev L12 : List (Nat × Spec) := (16, .tot (tS [pLs, pLs] [pB] fun x => eqB x.1 x.2)) :: (29, .tot (tS [pIs, pIs] [pB] fun x => eqB x.1 x.2)) :: (10, .tot (tS [] [pB] fun _ => true)) :: L11
theorem L12_all : ∀ p ∈ L12, Valid Try.prog p.1 p.2 := vcons v16 (vcons v29 (vcons v10 L11_all))
theorem L12_ok : ∀ f S, spL L12 f = some S → Valid Try.prog f S := spL_ok L12_all
end Go.Proofs.Ytgaiedcmohpiaaa.V
