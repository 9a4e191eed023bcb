import Derived.KernelRfl
import Derived.Test.YteddnnljmdjfbaaEl
namespace Go.Proofs.Yteddnnljmdjfbaa.V
open Go.RowKit Go.Proofs.Yteddnnljmdjfbaa
set_option linter.unusedSimpArgs false
abbrev J (v : Int) : IN := (19, 1, 2, 0, v)
def mkMs (set : Bool) (p : Int) (i : Nat) : List Int := [if (set && decide (p < (i : Int))) = true then p else -1]
def mkL (k : Int) (i : Nat) : List IN := List.replicate (min i k.toNat) (J 77)
def mkJs (k : Int) (i : Nat) : List JN := (List.range (min i k.toNat)).map fun (j : Nat) => ((j : Int), (0 : Int))
def mkW (k p : Int) : List Int := codeF (List.replicate k.toNat (J p))
abbrev lp6 (set : Bool) (k p : Int) : Nat → Option LoopSp := fun r => match Nat.beq r 6 with
  | true => some { X := Nat, sl := fun i => [(2, .one (.val (.bool set))), (7, .one (.ptr 0 0)), (8, .one (vi k)), (9, .one (vi p)), (10, .one (vi 0)), (11, .one (vi i))], h := fun i => bH false (mkL k i) (mkMs set p i) (mkJs k i), nx := 4, inv := fun i => (i : Int) ≤ k + 1, mu := fun i => (k + 1).toNat - i }
  | false => (match Nat.beq r 17 with
    | true => some { X := Nat, sl := fun i => [(7, .one (.ptr 0 0)), (8, .one (vi k)), (9, .one (vi p)), (10, .one (vi 0)), (12, .one (.sl 4)), (13, .one (vi 0)), (14, .one (.sl 5)), (15, .one (vi i))], h := fun i => bH false (mkL k k.toNat) (mkMs true p (k.toNat + 1)) (mkJs k k.toNat) ++ [(4, .own 61 shU (mkW k p)), (5, .own 36 shI (List.replicate i (J p)))], nx := 6, inv := fun i => (i : Int) ≤ k, mu := fun i => k.toNat - i }
    | false => none)
theorem mkL_len {k : Int} {i : Nat} : (mkL k i).length = min i k.toNat := by simp [mkL]
theorem mkJs_len {k : Int} {i : Nat} : (mkJs k i).length = min i k.toNat := by simp [mkJs]
theorem mkL_succ {k : Int} {i : Nat} (h : (i : Int) < k) : mkL k i ++ [J 77] = mkL k (i + 1) := by
  unfold mkL
  rw [Nat.min_eq_left (by omega), Nat.min_eq_left (by omega), List.replicate_succ']
theorem mkJs_succ {k : Int} {i : Nat} (h : (i : Int) < k) : mkJs k i ++ [(((mkL k i).length : Int), 0)] = mkJs k (i + 1) := by
  rw [mkL_len]
  unfold mkJs
  rw [Nat.min_eq_left (by omega), Nat.min_eq_left (by omega), List.range_succ]
  simp
theorem mkL_top {k : Int} {i j : Nat} (h : k ≤ (i : Int)) (h2 : k ≤ (j : Int)) : mkL k i = mkL k j := by
  unfold mkL
  rw [Nat.min_eq_right (by omega), Nat.min_eq_right (by omega)]
theorem mkJs_top {k : Int} {i j : Nat} (h : k ≤ (i : Int)) (h2 : k ≤ (j : Int)) : mkJs k i = mkJs k j := by
  unfold mkJs
  rw [Nat.min_eq_right (by omega), Nat.min_eq_right (by omega)]
theorem mkMs_stay {set : Bool} {p : Int} {i : Nat} (h : ((i : Int) == p && set) = false) : mkMs set p i = mkMs set p (i + 1) := by
  unfold mkMs
  cases set
  · rfl
  · have : ¬ (i : Int) = p := by simpa using h
    have : decide (p < (i : Int)) = decide (p < ((i + 1 : Nat) : Int)) := by
      rw [decide_eq_decide]; omega
    rw [this]
theorem mkMs_at {p : Int} {i : Nat} {k : Int} (h : (i : Int) = p) (hk : p ≤ k) : fit 0 (mkMs true p i) = true ∧ (mkMs true p i).set 0 ((mkL k i).length : Int) = mkMs true p (i + 1) := by
  have e : mkMs true p i = [-1] := by
    unfold mkMs
    rw [if_neg (by simp; omega)]
  have e2 : mkMs true p (i + 1) = [p] := by
    unfold mkMs
    rw [if_pos (by simp; omega)]
  rw [e, e2, mkL_len]
  refine ⟨by decide, ?_⟩
  simp only [List.set_cons_zero]
  rw [Nat.min_eq_left (by omega), h]
theorem mkMs_len {set : Bool} {p : Int} {i : Nat} : (mkMs set p i).length = 1 := rfl
theorem jok_one {ms : List Int} (h : ms.length = 1) : jok 19 0 ms = true := by
  simp [jok, isM, h, jmpF]
theorem rp_rep {ms : List Int} (h : ms.length = 1) : ∀ N : Nat, Rp (List.replicate N (J 77)) ms ((List.range N).map fun (j : Nat) => ((j : Int), (0 : Int))) (List.replicate N (J 77, (0 : Int)))
  | 0 => ⟨rfl, rfl, fun t h => (by cases h)⟩
  | N + 1 => by
    have := (rp_rep h N).jump (J 77) 0 (by simp [isM, h])
    rw [List.length_replicate] at this
    rw [List.replicate_succ', List.replicate_succ', List.range_succ, List.map_append]
    exact this
theorem good_J {v : Int} (h : 0 ≤ v ∧ v ≤ 100) : goodF (J v) = true := by
  have hg : goodF (J v) = (isF 19 && regF 1 (hasB 19 65) && regF 2 (hasB 19 66) && regF 0 (hasB 19 67) && (match hasB 19 73 with | true => immF v && (decide (v ≥ 0) || !jmpF 19) | false => v == 0)) := rfl
  rw [hg, show (isF 19 && regF 1 (hasB 19 65) && regF 2 (hasB 19 66) && regF 0 (hasB 19 67)) = true from by kernel_rfl, show hasB 19 73 = true from by kernel_rfl]
  simp [immF]
  omega
theorem done_mk {set : Bool} {k p : Int} (hk : 1 ≤ k ∧ k ≤ 12) (hp : 0 ≤ p ∧ p ≤ k) {i : Nat} (hi : (i : Int) = k + 1) : doneB false (mkL k i) (mkMs set p i) (mkJs k i) = if set = true then (mkW k p, 0) else ([], 20) := by
  have hr : Rp (mkL k i) (mkMs set p i) (mkJs k i) (List.replicate k.toNat (J 77, (0 : Int))) := by
    have := rp_rep (ms := mkMs set p i) rfl k.toNat
    unfold mkL mkJs
    rw [Nat.min_eq_right (by omega)]
    exact this
  rw [done_eq hr]
  obtain ⟨N, hN⟩ : ∃ N, k.toNat = N + 1 := ⟨k.toNat - 1, by omega⟩
  unfold doneR
  cases set
  · have : rbare (mkMs false p i) (List.replicate k.toNat (J 77, (0 : Int))) = true := by
      rw [hN]; simp [rbare, mkMs]
    rw [this]; rfl
  · have e : mkMs true p i = [p] := by
      unfold mkMs
      rw [if_pos (by simp; omega)]
    have h1 : rbare [p] (List.replicate k.toNat (J 77, (0 : Int))) = false := by
      simp [rbare]; omega
    have h2 : (List.replicate k.toNat (J 77, (0 : Int))).map (rpat [p]) = List.replicate k.toNat (J p) := by
      rw [List.map_replicate]; rfl
    rw [e, h1, h2]
    have h3 : (List.replicate k.toNat (J p)).all goodF = true := by
      rw [List.all_eq_true]
      intro x hx
      rw [(List.mem_replicate.1 hx).2]
      exact good_J (by omega)
    have h4 : ¬ k.toNat > 4096 := by omega
    simp only [encs, h3, if_true, List.length_replicate, if_neg h4]
    simp only [Bool.false_eq_true, if_false]
    refine Prod.ext ?_ rfl
    simp only [mkW, codeF]
    apply List.map_congr_left
    intro x hx
    rw [encF_t (List.all_eq_true.1 h3 x hx)]
theorem marks_law : ∀ x, rngTup [pU8, pU8, pB] x → ∃ lp, runF Tbl (spL M5) lp 0 Try.f6 (enVs [pU8, pU8, pB] x) ⟨0, []⟩ fun r' st' => fzR st' (mkB true) r' := by
  rintro ⟨(n : Int), (at_ : Int), (set : Bool)⟩ hr
  refine ⟨lp6 set (1 + n.tmod 12) (at_.tmod (1 + n.tmod 12 + 1)), ?_⟩
  refine Eq.mp (by kernel_rfl : ((12 : Int) ≠ (0 : Int) ∧ ((-9223372036854775808 : Int) ≤ (1 : Int) + n.tmod (12 : Int) ∧ (1 : Int) + n.tmod (12 : Int) ≤ (9223372036854775807 : Int)) ∧ ((-9223372036854775808 : Int) ≤ (1 : Int) + n.tmod (12 : Int) + (1 : Int) ∧ (1 : Int) + n.tmod (12 : Int) + (1 : Int) ≤ (9223372036854775807 : Int)) ∧ (1 : Int) + n.tmod (12 : Int) + (1 : Int) ≠ (0 : Int) ∧ ([] : List Int).length ≤ (100000 : Nat) ∧ ∀ (x : Int) (x_1 : Bool) (x_2 : List (Int × Int × Int × Int × Int)) (x_3 : List Int) (x_4 : List (Int × Int)), x = (↑([] : List Int).length : Int) ∧ x_1 = false ∧ x_2 = ([] : List (Int × Int × Int × Int × Int)) ∧ x_3 = ([] : List Int) ++ (-1 : Int) :: ([] : List Int) ∧ x_4 = ([] : List (Int × Int)) → (∃ (x_5 : Nat), (↑x_5 : Int) ≤ (1 : Int) + n.tmod (12 : Int) + (1 : Int) ∧ set = set ∧ (1 : Int) + n.tmod (12 : Int) = (1 : Int) + n.tmod (12 : Int) ∧ at_.tmod ((1 : Int) + n.tmod (12 : Int) + (1 : Int)) = at_.tmod ((1 : Int) + n.tmod (12 : Int) + (1 : Int)) ∧ x = (0 : Int) ∧ (0 : Int) = (↑x_5 : Int) ∧ x_1 = false ∧ x_2 ≍ mkL ((1 : Int) + n.tmod (12 : Int)) x_5 ∧ x_3 ≍ mkMs set (at_.tmod ((1 : Int) + n.tmod (12 : Int) + (1 : Int))) x_5 ∧ x_4 ≍ mkJs ((1 : Int) + n.tmod (12 : Int)) x_5 ∧ True) ∧ ∀ (x : Nat), (↑x : Int) ≤ (1 : Int) + n.tmod (12 : Int) + (1 : Int) → (decide ((↑x : Int) ≤ (1 : Int) + n.tmod (12 : Int)) = true → (((↑x : Int) == at_.tmod ((1 : Int) + n.tmod (12 : Int) + (1 : Int)) && set) = true → True ∧ ∀ (x_5 : Bool) (x_6 : List (Int × Int × Int × Int × Int)) (x_7 : List Int) (x_8 : List (Int × Int)), x_5 = (false || !fit (0 : Int) (mkMs set (at_.tmod ((1 : Int) + n.tmod (12 : Int) + (1 : Int))) x)) ∧ x_6 = mkL ((1 : Int) + n.tmod (12 : Int)) x ∧ (x_7 = if fit (0 : Int) (mkMs set (at_.tmod ((1 : Int) + n.tmod (12 : Int) + (1 : Int))) x) = true then (mkMs set (at_.tmod ((1 : Int) + n.tmod (12 : Int) + (1 : Int))) x).set (Int.toNat (0 : Int)) (↑(mkL ((1 : Int) + n.tmod (12 : Int)) x).length : Int) else mkMs set (at_.tmod ((1 : Int) + n.tmod (12 : Int) + (1 : Int))) x) ∧ x_8 = mkJs ((1 : Int) + n.tmod (12 : Int)) x → (decide ((↑x : Int) < (1 : Int) + n.tmod (12 : Int)) = true → (x_6.length ≤ (100000 : Nat) ∧ x_8.length ≤ (100000 : Nat)) ∧ ∀ (x_9 : Bool) (x_10 : List (Int × Int × Int × Int × Int)) (x_11 : List Int) (x_12 : List (Int × Int)), (x_9 = (x_5 || !jok (19 : Int) (0 : Int) x_7) ∧ (x_10 = if jok (19 : Int) (0 : Int) x_7 = true then x_6 ++ ((19 : Int), (1 : Int), (2 : Int), (0 : Int), (77 : Int)) :: ([] : List (Int × Int × Int × Int × Int)) else x_6) ∧ x_11 = x_7 ∧ x_12 = if jok (19 : Int) (0 : Int) x_7 = true then x_8 ++ ((↑x_6.length : Int), (0 : Int)) :: ([] : List (Int × Int)) else x_8) → ((-9223372036854775808 : Int) ≤ (↑x : Int) + (1 : Int) ∧ (↑x : Int) + (1 : Int) ≤ (9223372036854775807 : Int)) ∧ ∃ (y : Nat), (↑y : Int) ≤ (1 : Int) + n.tmod (12 : Int) + (1 : Int) ∧ ((1 : Int) + n.tmod (12 : Int) + (1 : Int)).toNat - y < ((1 : Int) + n.tmod (12 : Int) + (1 : Int)).toNat - x ∧ set = set ∧ (1 : Int) + n.tmod (12 : Int) = (1 : Int) + n.tmod (12 : Int) ∧ at_.tmod ((1 : Int) + n.tmod (12 : Int) + (1 : Int)) = at_.tmod ((1 : Int) + n.tmod (12 : Int) + (1 : Int)) ∧ (0 : Int) = (0 : Int) ∧ (↑x : Int) + (1 : Int) = (↑y : Int) ∧ x_9 = false ∧ x_10 ≍ mkL ((1 : Int) + n.tmod (12 : Int)) y ∧ x_11 ≍ mkMs set (at_.tmod ((1 : Int) + n.tmod (12 : Int) + (1 : Int))) y ∧ x_12 ≍ mkJs ((1 : Int) + n.tmod (12 : Int)) y ∧ True) ∧ (decide ((↑x : Int) < (1 : Int) + n.tmod (12 : Int)) = false → ((-9223372036854775808 : Int) ≤ (↑x : Int) + (1 : Int) ∧ (↑x : Int) + (1 : Int) ≤ (9223372036854775807 : Int)) ∧ ∃ (y : Nat), (↑y : Int) ≤ (1 : Int) + n.tmod (12 : Int) + (1 : Int) ∧ ((1 : Int) + n.tmod (12 : Int) + (1 : Int)).toNat - y < ((1 : Int) + n.tmod (12 : Int) + (1 : Int)).toNat - x ∧ set = set ∧ (1 : Int) + n.tmod (12 : Int) = (1 : Int) + n.tmod (12 : Int) ∧ at_.tmod ((1 : Int) + n.tmod (12 : Int) + (1 : Int)) = at_.tmod ((1 : Int) + n.tmod (12 : Int) + (1 : Int)) ∧ (0 : Int) = (0 : Int) ∧ (↑x : Int) + (1 : Int) = (↑y : Int) ∧ x_5 = false ∧ x_6 ≍ mkL ((1 : Int) + n.tmod (12 : Int)) y ∧ x_7 ≍ mkMs set (at_.tmod ((1 : Int) + n.tmod (12 : Int) + (1 : Int))) y ∧ x_8 ≍ mkJs ((1 : Int) + n.tmod (12 : Int)) y ∧ True)) ∧ (((↑x : Int) == at_.tmod ((1 : Int) + n.tmod (12 : Int) + (1 : Int)) && set) = false → (decide ((↑x : Int) < (1 : Int) + n.tmod (12 : Int)) = true → ((mkL ((1 : Int) + n.tmod (12 : Int)) x).length ≤ (100000 : Nat) ∧ (mkJs ((1 : Int) + n.tmod (12 : Int)) x).length ≤ (100000 : Nat)) ∧ ∀ (x_5 : Bool) (x_6 : List (Int × Int × Int × Int × Int)) (x_7 : List Int) (x_8 : List (Int × Int)), (x_5 = (false || !jok (19 : Int) (0 : Int) (mkMs set (at_.tmod ((1 : Int) + n.tmod (12 : Int) + (1 : Int))) x)) ∧ (x_6 = if jok (19 : Int) (0 : Int) (mkMs set (at_.tmod ((1 : Int) + n.tmod (12 : Int) + (1 : Int))) x) = true then mkL ((1 : Int) + n.tmod (12 : Int)) x ++ ((19 : Int), (1 : Int), (2 : Int), (0 : Int), (77 : Int)) :: ([] : List (Int × Int × Int × Int × Int)) else mkL ((1 : Int) + n.tmod (12 : Int)) x) ∧ x_7 = mkMs set (at_.tmod ((1 : Int) + n.tmod (12 : Int) + (1 : Int))) x ∧ x_8 = if jok (19 : Int) (0 : Int) (mkMs set (at_.tmod ((1 : Int) + n.tmod (12 : Int) + (1 : Int))) x) = true then mkJs ((1 : Int) + n.tmod (12 : Int)) x ++ ((↑(mkL ((1 : Int) + n.tmod (12 : Int)) x).length : Int), (0 : Int)) :: ([] : List (Int × Int)) else mkJs ((1 : Int) + n.tmod (12 : Int)) x) → ((-9223372036854775808 : Int) ≤ (↑x : Int) + (1 : Int) ∧ (↑x : Int) + (1 : Int) ≤ (9223372036854775807 : Int)) ∧ ∃ (y : Nat), (↑y : Int) ≤ (1 : Int) + n.tmod (12 : Int) + (1 : Int) ∧ ((1 : Int) + n.tmod (12 : Int) + (1 : Int)).toNat - y < ((1 : Int) + n.tmod (12 : Int) + (1 : Int)).toNat - x ∧ set = set ∧ (1 : Int) + n.tmod (12 : Int) = (1 : Int) + n.tmod (12 : Int) ∧ at_.tmod ((1 : Int) + n.tmod (12 : Int) + (1 : Int)) = at_.tmod ((1 : Int) + n.tmod (12 : Int) + (1 : Int)) ∧ (0 : Int) = (0 : Int) ∧ (↑x : Int) + (1 : Int) = (↑y : Int) ∧ x_5 = false ∧ x_6 ≍ mkL ((1 : Int) + n.tmod (12 : Int)) y ∧ x_7 ≍ mkMs set (at_.tmod ((1 : Int) + n.tmod (12 : Int) + (1 : Int))) y ∧ x_8 ≍ mkJs ((1 : Int) + n.tmod (12 : Int)) y ∧ True) ∧ (decide ((↑x : Int) < (1 : Int) + n.tmod (12 : Int)) = false → ((-9223372036854775808 : Int) ≤ (↑x : Int) + (1 : Int) ∧ (↑x : Int) + (1 : Int) ≤ (9223372036854775807 : Int)) ∧ ∃ (y : Nat), (↑y : Int) ≤ (1 : Int) + n.tmod (12 : Int) + (1 : Int) ∧ ((1 : Int) + n.tmod (12 : Int) + (1 : Int)).toNat - y < ((1 : Int) + n.tmod (12 : Int) + (1 : Int)).toNat - x ∧ set = set ∧ (1 : Int) + n.tmod (12 : Int) = (1 : Int) + n.tmod (12 : Int) ∧ at_.tmod ((1 : Int) + n.tmod (12 : Int) + (1 : Int)) = at_.tmod ((1 : Int) + n.tmod (12 : Int) + (1 : Int)) ∧ (0 : Int) = (0 : Int) ∧ (↑x : Int) + (1 : Int) = (↑y : Int) ∧ false = false ∧ mkL ((1 : Int) + n.tmod (12 : Int)) x ≍ mkL ((1 : Int) + n.tmod (12 : Int)) y ∧ mkMs set (at_.tmod ((1 : Int) + n.tmod (12 : Int) + (1 : Int))) x ≍ mkMs set (at_.tmod ((1 : Int) + n.tmod (12 : Int) + (1 : Int))) y ∧ mkJs ((1 : Int) + n.tmod (12 : Int)) x ≍ mkJs ((1 : Int) + n.tmod (12 : Int)) y ∧ True))) ∧ (decide ((↑x : Int) ≤ (1 : Int) + n.tmod (12 : Int)) = false → ((∀ (j : JN), j ∈ mkJs ((1 : Int) + n.tmod (12 : Int)) x → ((0 : Int) ≤ j.fst ∧ j.fst < (↑(mkL ((1 : Int) + n.tmod (12 : Int)) x).length : Int)) ∧ (0 : Int) ≤ j.snd ∧ j.snd < (↑(mkMs set (at_.tmod ((1 : Int) + n.tmod (12 : Int) + (1 : Int))) x).length : Int)) ∧ (mkL ((1 : Int) + n.tmod (12 : Int)) x).length ≤ (100000 : Nat)) ∧ ∀ (x_5 : Int) (x_6 : Bool) (x_7 : List (Int × Int × Int × Int × Int)) (x_8 : List Int) (x_9 : List (Int × Int)) (x_10 : List Int), (x_10, x_5) = doneB false (mkL ((1 : Int) + n.tmod (12 : Int)) x) (mkMs set (at_.tmod ((1 : Int) + n.tmod (12 : Int) + (1 : Int))) x) (mkJs ((1 : Int) + n.tmod (12 : Int)) x) ∧ x_6 = false ∧ x_7 = mkL ((1 : Int) + n.tmod (12 : Int)) x ∧ x_8 = mkMs set (at_.tmod ((1 : Int) + n.tmod (12 : Int) + (1 : Int))) x ∧ x_9 = mkJs ((1 : Int) + n.tmod (12 : Int)) x → ((!set) = true → (x_5 == (20 : Int) && (↑x_10.length : Int) == (0 : Int) && true) = true ∧ True) ∧ ((!set) = false → (∃ (x : Nat), (↑x : Int) ≤ (1 : Int) + n.tmod (12 : Int) ∧ (1 : Int) + n.tmod (12 : Int) = (1 : Int) + n.tmod (12 : Int) ∧ at_.tmod ((1 : Int) + n.tmod (12 : Int) + (1 : Int)) = at_.tmod ((1 : Int) + n.tmod (12 : Int) + (1 : Int)) ∧ (0 : Int) = (0 : Int) ∧ x_5 = (0 : Int) ∧ (0 : Int) = (↑x : Int) ∧ x_6 = false ∧ x_7 ≍ mkL ((1 : Int) + n.tmod (12 : Int)) ((1 : Int) + n.tmod (12 : Int)).toNat ∧ x_8 ≍ mkMs true (at_.tmod ((1 : Int) + n.tmod (12 : Int) + (1 : Int))) (((1 : Int) + n.tmod (12 : Int)).toNat + (1 : Nat)) ∧ x_9 ≍ mkJs ((1 : Int) + n.tmod (12 : Int)) ((1 : Int) + n.tmod (12 : Int)).toNat ∧ x_10 ≍ mkW ((1 : Int) + n.tmod (12 : Int)) (at_.tmod ((1 : Int) + n.tmod (12 : Int) + (1 : Int))) ∧ List.replicate x (J (at_.tmod ((1 : Int) + n.tmod (12 : Int) + (1 : Int)))) = ([] : List (Int × Int × Int × Int × Int)) ∧ True) ∧ ∀ (x : Nat), (↑x : Int) ≤ (1 : Int) + n.tmod (12 : Int) → (decide ((↑x : Int) < (1 : Int) + n.tmod (12 : Int)) = true → ((List.replicate x (J (at_.tmod ((1 : Int) + n.tmod (12 : Int) + (1 : Int))))).length + (((19 : Int), (1 : Int), (2 : Int), (0 : Int), at_.tmod ((1 : Int) + n.tmod (12 : Int) + (1 : Int))) :: ([] : List (Int × Int × Int × Int × Int))).length) * (40 : Nat) ≤ (140737488355328 : Nat) ∧ ((-9223372036854775808 : Int) ≤ (↑x : Int) + (1 : Int) ∧ (↑x : Int) + (1 : Int) ≤ (9223372036854775807 : Int)) ∧ ∃ (y : Nat), (↑y : Int) ≤ (1 : Int) + n.tmod (12 : Int) ∧ ((1 : Int) + n.tmod (12 : Int)).toNat - y < ((1 : Int) + n.tmod (12 : Int)).toNat - x ∧ (1 : Int) + n.tmod (12 : Int) = (1 : Int) + n.tmod (12 : Int) ∧ at_.tmod ((1 : Int) + n.tmod (12 : Int) + (1 : Int)) = at_.tmod ((1 : Int) + n.tmod (12 : Int) + (1 : Int)) ∧ (0 : Int) = (0 : Int) ∧ (0 : Int) = (0 : Int) ∧ (↑x : Int) + (1 : Int) = (↑y : Int) ∧ false = false ∧ mkL ((1 : Int) + n.tmod (12 : Int)) ((1 : Int) + n.tmod (12 : Int)).toNat ≍ mkL ((1 : Int) + n.tmod (12 : Int)) ((1 : Int) + n.tmod (12 : Int)).toNat ∧ mkMs true (at_.tmod ((1 : Int) + n.tmod (12 : Int) + (1 : Int))) (((1 : Int) + n.tmod (12 : Int)).toNat + (1 : Nat)) ≍ mkMs true (at_.tmod ((1 : Int) + n.tmod (12 : Int) + (1 : Int))) (((1 : Int) + n.tmod (12 : Int)).toNat + (1 : Nat)) ∧ mkJs ((1 : Int) + n.tmod (12 : Int)) ((1 : Int) + n.tmod (12 : Int)).toNat ≍ mkJs ((1 : Int) + n.tmod (12 : Int)) ((1 : Int) + n.tmod (12 : Int)).toNat ∧ mkW ((1 : Int) + n.tmod (12 : Int)) (at_.tmod ((1 : Int) + n.tmod (12 : Int) + (1 : Int))) ≍ mkW ((1 : Int) + n.tmod (12 : Int)) (at_.tmod ((1 : Int) + n.tmod (12 : Int) + (1 : Int))) ∧ List.replicate x (J (at_.tmod ((1 : Int) + n.tmod (12 : Int) + (1 : Int)))) ++ ((19 : Int), (1 : Int), (2 : Int), (0 : Int), at_.tmod ((1 : Int) + n.tmod (12 : Int) + (1 : Int))) :: ([] : List (Int × Int × Int × Int × Int)) ≍ List.replicate y (J (at_.tmod ((1 : Int) + n.tmod (12 : Int) + (1 : Int)))) ∧ True) ∧ (decide ((↑x : Int) < (1 : Int) + n.tmod (12 : Int)) = false → (((0 : Int) == (0 : Int)) = true → (List.replicate x (J (at_.tmod ((1 : Int) + n.tmod (12 : Int) + (1 : Int))))).length ≤ (100000 : Nat) ∧ ∀ (y : Tup (pUs :: ([] : List PS))), y = codeF (List.replicate x (J (at_.tmod ((1 : Int) + n.tmod (12 : Int) + (1 : Int))))) → ((eqB (mkW ((1 : Int) + n.tmod (12 : Int)) (at_.tmod ((1 : Int) + n.tmod (12 : Int) + (1 : Int)))) y && (0 : Int) == (0 : Int)) = true → True ∧ ∀ (x : Int) (x_11 : Bool) (x_12 : List (Int × Int × Int × Int × Int)) (x_13 : List Int) (x_14 : List (Int × Int)), x = (↑(mkL ((1 : Int) + n.tmod (12 : Int)) ((1 : Int) + n.tmod (12 : Int)).toNat).length : Int) ∧ x_11 = false ∧ x_12 = mkL ((1 : Int) + n.tmod (12 : Int)) ((1 : Int) + n.tmod (12 : Int)).toNat ∧ x_13 = mkMs true (at_.tmod ((1 : Int) + n.tmod (12 : Int) + (1 : Int))) (((1 : Int) + n.tmod (12 : Int)).toNat + (1 : Nat)) ∧ x_14 = mkJs ((1 : Int) + n.tmod (12 : Int)) ((1 : Int) + n.tmod (12 : Int)).toNat → (x == (1 : Int) + n.tmod (12 : Int) && true) = true ∧ True) ∧ ((eqB (mkW ((1 : Int) + n.tmod (12 : Int)) (at_.tmod ((1 : Int) + n.tmod (12 : Int) + (1 : Int)))) y && (0 : Int) == (0 : Int)) = false → false = true ∧ True)) ∧ (((0 : Int) == (0 : Int)) = false → false = true ∧ True))))) = _) ?_
  obtain ⟨r1, r2, -⟩ : (0 ≤ n ∧ n ≤ 255) ∧ (0 ≤ at_ ∧ at_ ≤ 255) ∧ True := ⟨hr.1, hr.2.1, trivial⟩
  have hk : 1 ≤ 1 + n.tmod 12 ∧ 1 + n.tmod 12 ≤ 12 := by
    rw [Int.tmod_eq_emod_of_nonneg (by omega)]; omega
  clear hr
  generalize 1 + n.tmod 12 = k at hk ⊢
  have hp : 0 ≤ at_.tmod (k + 1) ∧ at_.tmod (k + 1) ≤ k := by
    rw [Int.tmod_eq_emod_of_nonneg (by omega)]
    have h4 := Int.emod_nonneg at_ (b := k + 1) (by omega)
    have h5 := Int.emod_lt_of_pos at_ (b := k + 1) (by omega)
    omega
  generalize at_.tmod (k + 1) = p at hp ⊢
  refine ⟨by omega, by omega, by omega, by omega, by simp, ?_⟩
  rintro zz0 zz1 zz2 zz3 zz4 ⟨qq0, qq1, qq2, qq3, qq4⟩
  obtain rfl := qq0.symm
  obtain rfl := qq1.symm
  obtain rfl := qq2.symm
  obtain rfl := qq3.symm
  obtain rfl := qq4.symm
  refine ⟨⟨0, by omega, rfl, rfl, rfl, rfl, rfl, rfl, by simp [mkL], heq_of_eq ?_, by simp [mkJs], trivial⟩, fun i hi => ⟨fun h1 => ?_, fun h1 => ?_⟩⟩
  · unfold mkMs
    rw [if_neg (by simp; omega)]; rfl
  · simp only [decide_eq_true_eq] at h1
    have hl : (mkL k i).length ≤ 100 := by rw [mkL_len]; omega
    have hjl : (mkJs k i).length ≤ 100 := by rw [mkJs_len]; omega
    refine ⟨fun h2 => ⟨trivial, ?_⟩, fun h2 => ⟨fun h3 => ⟨⟨by omega, by omega⟩, ?_⟩, fun h3 => ?_⟩⟩
    · simp only [Bool.and_eq_true, beq_iff_eq] at h2
      obtain ⟨h2, rfl⟩ := h2
      obtain ⟨f1, f2⟩ := mkMs_at h2 hp.2
      rw [f1, if_pos rfl]
      have f2 : (mkMs true p i).set (Int.toNat 0) ((mkL k i).length : Int) = mkMs true p (i + 1) := f2
      rw [f2]
      rintro zz0 zz1 zz2 zz3 ⟨qq0, qq1, qq2, qq3⟩
      obtain rfl := qq0.symm
      obtain rfl := qq1.symm
      obtain rfl := qq2.symm
      obtain rfl := qq3.symm
      refine ⟨fun h3 => ⟨⟨by omega, by omega⟩, ?_⟩, fun h3 => ?_⟩
      · simp only [decide_eq_true_eq] at h3
        rw [jok_one mkMs_len, if_pos rfl, if_pos rfl, mkL_succ h3, mkJs_succ h3]
        rintro zz0 zz1 zz2 zz3 ⟨qq0, qq1, qq2, qq3⟩
        obtain rfl := qq0.symm
        obtain rfl := qq1.symm
        obtain rfl := qq2.symm
        obtain rfl := qq3.symm
        exact ⟨by omega, i + 1, by omega, by omega, rfl, rfl, rfl, rfl, by simp, rfl, HEq.rfl, HEq.rfl, HEq.rfl, trivial⟩
      · simp only [decide_eq_false_iff_not] at h3
        exact ⟨by omega, i + 1, by omega, by omega, rfl, rfl, rfl, rfl, by simp, rfl, heq_of_eq (mkL_top (by omega) (by omega)), HEq.rfl, heq_of_eq (mkJs_top (by omega) (by omega)), trivial⟩
    · simp only [decide_eq_true_eq] at h3
      rw [jok_one mkMs_len, if_pos rfl, if_pos rfl, mkL_succ h3, mkJs_succ h3, mkMs_stay h2]
      rintro zz0 zz1 zz2 zz3 ⟨qq0, qq1, qq2, qq3⟩
      obtain rfl := qq0.symm
      obtain rfl := qq1.symm
      obtain rfl := qq2.symm
      obtain rfl := qq3.symm
      exact ⟨by omega, i + 1, by omega, by omega, rfl, rfl, rfl, rfl, by simp, rfl, HEq.rfl, HEq.rfl, HEq.rfl, trivial⟩
    · simp only [decide_eq_false_iff_not] at h3
      exact ⟨by omega, i + 1, by omega, by omega, rfl, rfl, rfl, rfl, by simp, rfl, heq_of_eq (mkL_top (by omega) (by omega)), heq_of_eq (mkMs_stay h2), heq_of_eq (mkJs_top (by omega) (by omega)), trivial⟩
  · simp only [decide_eq_false_iff_not] at h1
    have hik : (i : Int) = k + 1 := by omega
    refine ⟨⟨?_, by rw [mkL_len]; omega⟩, ?_⟩
    · intro j hj
      unfold mkJs at hj
      obtain ⟨a, ha, rfl⟩ := List.mem_map.1 hj
      rw [List.mem_range] at ha
      rw [mkL_len, mkMs_len]
      simp only
      omega
    rw [done_mk hk hp hik]
    intro e z1 z2 z3 z4 o ⟨h7, q1, q2, q3, q4⟩
    obtain rfl := q1.symm
    obtain rfl := q2.symm
    obtain rfl := q3.symm
    obtain rfl := q4.symm
    cases set
    · cases h7
      exact ⟨fun _ => ⟨rfl, trivial⟩, fun h => (by cases h)⟩
    · rw [if_pos rfl] at h7
      cases h7
      refine ⟨fun h => (by cases h), fun _ => ⟨⟨0, by omega, rfl, rfl, rfl, rfl, rfl, rfl, heq_of_eq (mkL_top (by omega) (by omega)), heq_of_eq (by rw [show i = k.toNat + 1 by omega]), heq_of_eq (mkJs_top (by omega) (by omega)), HEq.rfl, rfl, trivial⟩, fun x hx => ⟨fun h2 => ?_, fun h2 => ⟨fun _ => ⟨?_, ?_⟩, fun h => absurd h (by decide)⟩⟩⟩⟩
      · simp only [decide_eq_true_eq] at h2
        refine ⟨by simp; omega, by omega, x + 1, by omega, by omega, rfl, rfl, rfl, rfl, by simp, rfl, HEq.rfl, HEq.rfl, HEq.rfl, HEq.rfl, heq_of_eq ?_, trivial⟩
        rw [List.replicate_succ']
      · simp; omega
      · simp only [decide_eq_false_iff_not] at h2
        have hx : x = k.toNat := by omega
        subst hx
        rintro _ rfl
        refine ⟨fun _ => ⟨trivial, ?_⟩, fun h => ?_⟩
        · rintro zz0 zz1 zz2 zz3 zz4 ⟨qq0, qq1, qq2, qq3, qq4⟩
          obtain rfl := qq0.symm
          obtain rfl := qq1.symm
          obtain rfl := qq2.symm
          obtain rfl := qq3.symm
          obtain rfl := qq4.symm
          refine ⟨?_, trivial⟩
          rw [mkL_len]
          simp; omega
        · have : eqB (mkW k p) (codeF (List.replicate k.toNat (J p))) = true := eqB_self _
          rw [this] at h
          simp at h
end Go.Proofs.Yteddnnljmdjfbaa.V
