import Derived.KernelRfl
import Derived.Test.YtgaiedcmohpiaaaNh
namespace Go.Proofs.Ytgaiedcmohpiaaa.V
open Go.RowKit Go.Proofs.Ytgaiedcmohpiaaa
set_option linter.unusedSimpArgs false
abbrev pI : PS := (false, .int .i64)
abbrev pU : PS := (false, .int .u8)
abbrev shS : Sh := .pair (.int .i64) (.pair (.int .i64) shW)
abbrev pSt : PS := (true, shS)
set_option maxRecDepth 100000 in
theorem none_law : ∀ x, rngTup [pSt, pI] x → ∃ lp, runF Tbl (spL L12) lp 0 Try.f7 (enVs [pSt, pI] x) ⟨0, []⟩ fun r' st' => fzR st' (mkB true) r' := by
  rintro ⟨⟨k, ln, m⟩, room⟩ hr
  refine ⟨noLoop, ?_⟩
  refine Eq.mp (by kernel_rfl : (True ∧ (True → True ∧ ∀ (x : List Int) (x_1 : Int), x_1 = (1 : Int) ∧ x = Z8 → ((x == List.replicate (8 : Nat) (0 : Int) && x_1 == (1 : Int)) = true → True ∧ ∀ (x : Int), x = (1 : Int) → ((x == (1 : Int)) = true → True ∧ ∀ (x : Int), x = (1 : Int) → ((x == (1 : Int)) = true → True ∧ ∀ (x : Int), x = (0 : Int) → ((x == (0 : Int)) = true → True ∧ ∀ (x : List Int), x = ([] : List Int) → (((↑x.length : Int) == (0 : Int)) = true → True ∧ ∀ (x : List (List Int)), x = ([] : List (List Int)) → ((↑x.length : Int) == (0 : Int) && true) = true ∧ True) ∧ (((↑x.length : Int) == (0 : Int)) = false → false = true ∧ True)) ∧ ((x == (0 : Int)) = false → false = true ∧ True)) ∧ ((x == (1 : Int)) = false → false = true ∧ True)) ∧ ((x == (1 : Int)) = false → false = true ∧ True)) ∧ ((x == List.replicate (8 : Nat) (0 : Int) && x_1 == (1 : Int)) = false → false = true ∧ True))) = _) ?_
  have nt : ∀ {p : Prop} {b : Bool}, b = true → b = false → p := fun h h' => by rw [h] at h'; cases h'
  refine ⟨trivial, fun _ => ⟨trivial, ?_⟩⟩
  rintro _ _ ⟨rfl, rfl⟩
  refine ⟨fun _ => ⟨trivial, ?_⟩, nt (by decide)⟩
  rintro _ rfl
  refine ⟨fun _ => ⟨trivial, ?_⟩, nt (by decide)⟩
  rintro _ rfl
  refine ⟨fun _ => ⟨trivial, ?_⟩, nt (by decide)⟩
  rintro _ rfl
  refine ⟨fun _ => ⟨trivial, ?_⟩, nt (by decide)⟩
  rintro _ rfl
  refine ⟨fun _ => ⟨trivial, ?_⟩, nt (by decide)⟩
  rintro _ rfl
  exact ⟨rfl, trivial⟩
/-- The first i entries of the statement WpqRoom. -/
def rmE (v : Int) (i : Nat) : List EN := (List.range i).map fun (j : Nat) => (1 + (j : Int).tmod 3, [v, 0, 0, 0, 0, 0, 0, 0])
theorem rmE_len (v : Int) (i : Nat) : (rmE v i).length = i := by simp [rmE]
theorem rmE_succ (v : Int) (i : Nat) : rmE v (i + 1) = rmE v i ++ [(1 + (i : Int).tmod 3, [v, 0, 0, 0, 0, 0, 0, 0])] := by simp [rmE, List.range_succ]
theorem rmE_in (v : Int) (i : Nat) : ∀ x ∈ rmE v i, 0 ≤ x.1 ∧ x.1 < 4 := by
  intro x hx
  obtain ⟨j, _, rfl⟩ := List.mem_map.1 hx
  have b3 : 0 ≤ (j : Int).tmod 3 ∧ (j : Int).tmod 3 < 3 := ⟨Int.tmod_nonneg _ (by omega), Int.tmod_lt_of_pos _ (by omega)⟩
  exact ⟨by simp only; omega, by simp only; omega⟩
theorem rmE_drain (v : Int) {i : Nat} (h : 1 ≤ i) : drA (rmE v i) 1 = 0 ∧ (drE (rmE v i) 1).length = i - 1 := by
  obtain ⟨j, rfl⟩ : ∃ j, i = j + 1 := ⟨i - 1, by omega⟩
  have h0 : (rmE v (j + 1))[0]? = some (1, [v, 0, 0, 0, 0, 0, 0, 0]) := by simp [rmE]
  obtain ⟨f1, f2⟩ := fnd_some (line := 1) (k := 0) (fun j x hj => by omega) h0 rfl
  refine ⟨by simp [drA, f1], ?_⟩
  rw [drE, f2, List.length_eraseIdx, rmE_len]
  simp
theorem drL_len (es : List EN) (ls : List LN) (line : Int) : (drL es ls line).length = ls.length := by
  unfold drL
  split <;> simp [wrD] <;> split <;> simp
abbrev D4 : List LN := [Z8, Z8, Z8, Z8]
abbrev lp4 (v kk : Int) : Nat → Option LoopSp := fun _ => some { X := Nat, sl := fun i => [(1, .one (.val (.int .u8 v))), (7, .one (vi kk)), (8, .one (.ptr 0 0)), (10, .one (vi i))], h := fun i => quH kk 1 (rmE v i) D4, nx := 4, inv := fun i => (i : Int) ≤ kk, mu := fun i => kk.toNat - i }
set_option maxRecDepth 100000 in
theorem room_law : ∀ x, rngTup [pU, pU] x → ∃ lp, runF Tbl (spL L12) lp 0 Try.f4 (enVs [pU, pU] x) ⟨0, []⟩ fun r' st' => fzR st' (mkB true) r' := by
  rintro ⟨n, v⟩ hr
  refine ⟨lp4 v (1 + Int.tmod n 16), ?_⟩
  refine Eq.mp (by kernel_rfl : (((4 : Int) = (4 : Int) ∧ (0 : Int) ≤ (4 : Int) ∧ (4 : Int) * (↑(64 : Nat) : Int) ≤ (140737488355328 : Int)) ∧ (16 : Int) ≠ (0 : Int) ∧ ((-9223372036854775808 : Int) ≤ (1 : Int) + Int.tmod n (16 : Int) ∧ (1 : Int) + Int.tmod n (16 : Int) ≤ (9223372036854775807 : Int)) ∧ ((decide ((1 : Int) + Int.tmod n (16 : Int) < (1 : Int)) || decide ((1 : Int) + Int.tmod n (16 : Int) > (16 : Int))) = true → false = true ∧ True) ∧ ((decide ((1 : Int) + Int.tmod n (16 : Int) < (1 : Int)) || decide ((1 : Int) + Int.tmod n (16 : Int) > (16 : Int))) = false → (∃ (x : Nat), (↑x : Int) ≤ (1 : Int) + Int.tmod n (16 : Int) ∧ v = v ∧ (1 : Int) + Int.tmod n (16 : Int) = (1 : Int) + Int.tmod n (16 : Int) ∧ (0 : Int) = (↑x : Int) ∧ (1 : Int) + Int.tmod n (16 : Int) = (1 : Int) + Int.tmod n (16 : Int) ∧ (1 : Int) = (1 : Int) ∧ rmE v x = ([] : List (Int × List Int)) ∧ List.replicate (Int.toNat (4 : Int)) (List.replicate (8 : Nat) (0 : Int)) ≍ D4 ∧ True) ∧ ∀ (x : Nat), (↑x : Int) ≤ (1 : Int) + Int.tmod n (16 : Int) → (decide ((↑x : Int) < (1 : Int) + Int.tmod n (16 : Int)) = true → (3 : Int) ≠ (0 : Int) ∧ ((-9223372036854775808 : Int) ≤ (1 : Int) + (↑x : Int).tmod (3 : Int) ∧ (1 : Int) + (↑x : Int).tmod (3 : Int) ≤ (9223372036854775807 : Int)) ∧ (1 : Int) + Int.tmod n (16 : Int) ≤ (16 : Int) ∧ ∀ (x_1 x_2 x_3 : Int) (x_4 : List (Int × List Int)) (x_5 : List (List Int)), x_1 = pushC D4.length ((1 : Int) + Int.tmod n (16 : Int)) (rmE v x).length ((1 : Int) + (↑x : Int).tmod (3 : Int)) ∧ x_2 = (1 : Int) + Int.tmod n (16 : Int) ∧ x_3 = (1 : Int) ∧ (x_4 = if pushC D4.length ((1 : Int) + Int.tmod n (16 : Int)) (rmE v x).length ((1 : Int) + (↑x : Int).tmod (3 : Int)) = (0 : Int) then rmE v x ++ ((1 : Int) + (↑x : Int).tmod (3 : Int), v :: (0 : Int) :: (0 : Int) :: (0 : Int) :: (0 : Int) :: (0 : Int) :: (0 : Int) :: (0 : Int) :: ([] : List Int)) :: ([] : List (Int × List Int)) else rmE v x) ∧ x_5 = D4 → ((x_1 != (0 : Int)) = true → false = true ∧ True) ∧ ((x_1 != (0 : Int)) = false → ((-9223372036854775808 : Int) ≤ (↑x : Int) + (1 : Int) ∧ (↑x : Int) + (1 : Int) ≤ (9223372036854775807 : Int)) ∧ ∃ (y : Nat), (↑y : Int) ≤ (1 : Int) + Int.tmod n (16 : Int) ∧ ((1 : Int) + Int.tmod n (16 : Int)).toNat - y < ((1 : Int) + Int.tmod n (16 : Int)).toNat - x ∧ v = v ∧ (1 : Int) + Int.tmod n (16 : Int) = (1 : Int) + Int.tmod n (16 : Int) ∧ (↑x : Int) + (1 : Int) = (↑y : Int) ∧ x_2 = (1 : Int) + Int.tmod n (16 : Int) ∧ x_3 = (1 : Int) ∧ x_4 ≍ rmE v y ∧ x_5 ≍ D4 ∧ True)) ∧ (decide ((↑x : Int) < (1 : Int) + Int.tmod n (16 : Int)) = false → ((∀ (x_1 : EN), x_1 ∈ rmE v x → (0 : Int) ≤ x_1.fst ∧ x_1.fst < (↑D4.length : Int)) ∧ D4.length * (64 : Nat) ≤ (140737488355328 : Nat)) ∧ ∀ (x_1 x_2 : Int) (x_3 : List (Int × List Int)) (x_4 x_5 : List (List Int)), x_1 = (1 : Int) + Int.tmod n (16 : Int) ∧ x_2 = (1 : Int) ∧ x_3 = rmE v x ∧ x_4 = D4 ∧ x_5 = qimg (rmE v x) D4 → x_1 ≤ (16 : Int) ∧ ∀ (x x_6 x_7 : Int) (x_8 : List (Int × List Int)) (x_9 : List (List Int)), x = pushC x_4.length x_1 x_3.length (1 : Int) ∧ x_6 = x_1 ∧ x_7 = x_2 ∧ (x_8 = if pushC x_4.length x_1 x_3.length (1 : Int) = (0 : Int) then x_3 ++ ((1 : Int), (99 : Int) :: (0 : Int) :: (0 : Int) :: (0 : Int) :: (0 : Int) :: (0 : Int) :: (0 : Int) :: (0 : Int) :: ([] : List Int)) :: ([] : List (Int × List Int)) else x_3) ∧ x_9 = x_4 → ((x != (13 : Int)) = true → false = true ∧ True) ∧ ((x != (13 : Int)) = false → True ∧ ∀ (x x_10 x_11 : Int) (x_12 : List (Int × List Int)) (x_13 : List (List Int)), x = (↑x_8.length : Int) ∧ x_10 = x_6 ∧ x_11 = x_7 ∧ x_12 = x_8 ∧ x_13 = x_9 → ((x != (1 : Int) + Int.tmod n (16 : Int)) = true → false = true ∧ True) ∧ ((x != (1 : Int) + Int.tmod n (16 : Int)) = false → ((∀ (x : EN), x ∈ x_12 → (0 : Int) ≤ x.fst ∧ x.fst < (↑x_13.length : Int)) ∧ x_13.length * (64 : Nat) ≤ (140737488355328 : Nat)) ∧ ∀ (x x_14 : Int) (x_15 : List (Int × List Int)) (x_16 x_17 : List (List Int)), x = x_10 ∧ x_14 = x_11 ∧ x_15 = x_12 ∧ x_16 = x_13 ∧ x_17 = qimg x_12 x_13 → ((!eqB x_17 x_5) = true → false = true ∧ True) ∧ ((!eqB x_17 x_5) = false → x_15.length ≤ (16 : Nat) ∧ ∀ (x_18 x_19 x_20 : Int) (x_21 : List (Int × List Int)) (x_22 : List (List Int)), x_18 = drA x_15 (1 : Int) ∧ x_19 = x ∧ x_20 = x_14 ∧ x_21 = drE x_15 (1 : Int) ∧ x_22 = drL x_15 x_16 (1 : Int) → ((x_18 == (0 : Int)) = true → x_19 ≤ (16 : Int) ∧ ∀ (x x_23 x_24 : Int) (x_25 : List (Int × List Int)) (x_26 : List (List Int)), x = pushC x_22.length x_19 x_21.length (2 : Int) ∧ x_23 = x_19 ∧ x_24 = x_20 ∧ (x_25 = if pushC x_22.length x_19 x_21.length (2 : Int) = (0 : Int) then x_21 ++ ((2 : Int), (98 : Int) :: (0 : Int) :: (0 : Int) :: (0 : Int) :: (0 : Int) :: (0 : Int) :: (0 : Int) :: (0 : Int) :: ([] : List Int)) :: ([] : List (Int × List Int)) else x_21) ∧ x_26 = x_22 → ((x == (0 : Int)) = true → True ∧ ∀ (x x_27 x_28 : Int) (x_29 : List (Int × List Int)) (x_30 : List (List Int)), x = (↑x_25.length : Int) ∧ x_27 = x_23 ∧ x_28 = x_24 ∧ x_29 = x_25 ∧ x_30 = x_26 → (x == (1 : Int) + Int.tmod n (16 : Int) && true) = true ∧ True) ∧ ((x == (0 : Int)) = false → false = true ∧ True)) ∧ ((x_18 == (0 : Int)) = false → false = true ∧ True))))))) = _) ?_
  have nt : ∀ {p : Prop} {b : Bool}, b = true → b = false → p := fun h h' => by rw [h] at h'; cases h'
  have no : ∀ {p : Prop} {b : Bool}, b = false → b = true → p := fun h h' => by rw [h] at h'; cases h'
  have hn : 0 ≤ n ∧ n ≤ 255 := hr.1
  have hk : 0 ≤ Int.tmod n 16 ∧ Int.tmod n 16 < 16 := ⟨Int.tmod_nonneg _ hn.1, by have := Int.tmod_lt_of_pos n (b := 16) (by omega); omega⟩
  obtain ⟨k, hkk⟩ : ∃ k : Nat, 1 + Int.tmod n 16 = (k : Int) := ⟨(1 + Int.tmod n 16).toNat, by omega⟩
  have h1 : 1 ≤ k ∧ k ≤ 16 := by omega
  rw [hkk]
  clear hkk hk hn
  refine ⟨⟨rfl, by omega, by omega⟩, by omega, ⟨by omega, by omega⟩, no (by simp; omega), fun _ => ⟨⟨0, by omega, rfl, rfl, rfl, rfl, rfl, rfl, HEq.rfl, trivial⟩, fun i hi => ⟨fun h2 => ?_, fun h2 => ?_⟩⟩⟩
  · simp only [decide_eq_true_eq] at h2
    have b3 : 0 ≤ (i : Int).tmod 3 ∧ (i : Int).tmod 3 < 3 := ⟨Int.tmod_nonneg _ (by omega), Int.tmod_lt_of_pos _ (by omega)⟩
    refine ⟨by omega, by omega, by omega, ?_⟩
    rintro a _ _ q _ ⟨ha, rfl, rfl, hq, rfl⟩
    have hp : pushC D4.length k (rmE v i).length (1 + (i : Int).tmod 3) = 0 := by
      rw [rmE_len]
      exact (if_pos ⟨by omega, by simp; omega⟩).trans (if_pos (by omega))
    rw [hp] at ha hq
    subst ha
    rw [if_pos rfl] at hq
    exact ⟨no (by decide), fun _ => ⟨by omega, i + 1, by omega, by omega, rfl, rfl, by omega, rfl, rfl, by rw [hq, rmE_succ], HEq.rfl, trivial⟩⟩
  · simp only [decide_eq_false_iff_not] at h2
    obtain rfl : i = k := by omega
    have hin := rmE_in v i
    refine ⟨⟨hin, by simp⟩, ?_⟩
    rintro _ _ _ _ m ⟨rfl, rfl, rfl, rfl, rfl⟩
    refine ⟨by omega, ?_⟩
    rintro a _ _ q _ ⟨ha, rfl, rfl, hq, rfl⟩
    have hp : pushC D4.length i (rmE v i).length 1 = 13 := by
      rw [rmE_len]
      exact (if_pos ⟨by omega, by simp⟩).trans (if_neg (by omega))
    rw [hp] at ha hq
    subst ha
    rw [if_neg (by decide)] at hq
    subst hq
    refine ⟨no (by decide), fun _ => ⟨trivial, ?_⟩⟩
    rintro _ _ _ _ _ ⟨rfl, rfl, rfl, rfl, rfl⟩
    refine ⟨no (by simp [rmE_len]), fun _ => ⟨⟨hin, by simp⟩, ?_⟩⟩
    rintro _ _ _ _ _ ⟨rfl, rfl, rfl, rfl, rfl⟩
    refine ⟨no (by simp [eqB_self]), fun _ => ⟨by rw [rmE_len]; omega, ?_⟩⟩
    obtain ⟨d1, d2⟩ := rmE_drain v (i := i) h1.1
    rintro a _ _ q l ⟨ha, rfl, rfl, hq, hl⟩
    rw [d1] at ha
    subst ha
    have hl : l.length = 4 := by rw [hl, drL_len]; rfl
    have hq2 : q.length = i - 1 := by rw [hq, d2]
    refine ⟨fun _ => ⟨by omega, ?_⟩, nt (by decide)⟩
    rintro a _ _ p l ⟨ha, rfl, rfl, hp, rfl⟩
    have hp2 : pushC l.length i q.length 2 = 0 := by
      rw [hl, hq2]
      exact (if_pos ⟨by omega, by omega⟩).trans (if_pos (by omega))
    rw [hp2] at ha hp
    subst ha
    rw [if_pos rfl] at hp
    refine ⟨fun _ => ⟨trivial, ?_⟩, nt (by decide)⟩
    rintro _ _ _ _ _ ⟨rfl, rfl, rfl, rfl, rfl⟩
    refine ⟨?_, trivial⟩
    rw [hp]
    simp [hq2]
    omega
end Go.Proofs.Ytgaiedcmohpiaaa.V
