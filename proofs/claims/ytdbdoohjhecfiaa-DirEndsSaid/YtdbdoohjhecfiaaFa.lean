import Derived.KernelRfl
import Derived.Test.YtdbdoohjhecfiaaSp

namespace Go.Proofs.Ytdbdoohjhecfiaa.V
open Go.RowKit Go.Proofs.Ytdbdoohjhecfiaa
set_option linter.unusedSimpArgs false
def noSp : FuncId → Option Spec := fun _ => none
theorem noSp_ok : ∀ f S, noSp f = some S → Valid Try.prog f S := fun f S h => by cases h
def noLoop : Nat → Option LoopSp := fun _ => none
def lp11 (n : Int) : Nat → Option LoopSp := fun _ => some { X := Nat, sl := fun k => [(0, .one (.val (.int .i64 n))), (3, .one (.val (.int .u8 (2 ^ k)))), (4, .one (.val (.int .i64 k)))], h := fun _ => [], nx := 0, inv := fun k => (k : Int) ≤ n ∧ n ≤ 7, mu := fun k => n.toNat - k }
theorem pow7 {x : Nat} (h : x ≤ 6) : IntKind.u8.wrap ((2 : Int) ^ x * 2) = 2 ^ (x + 1) := by
  match x, h with
  | 0, _ | 1, _ | 2, _ | 3, _ | 4, _ | 5, _ | 6, _ => rfl
set_option maxRecDepth 100000 in
theorem v11 : Valid Try.prog 11 (N (onI fun n => mkI .u8 (bitF n))) := by
  refine totI noSp_ok Try.func11 call11 fun n hn => ⟨rfl, lp11 n, ?_⟩
  refine Eq.mp (by kernel_rfl : (((decide (n < (0 : Int)) || decide (n > (7 : Int))) = true → (0 : Int) = bitF n ∧ True) ∧ ((decide (n < (0 : Int)) || decide (n > (7 : Int))) = false → (∃ (x : Nat), ((↑x : Int) ≤ n ∧ n ≤ (7 : Int)) ∧ n = n ∧ (1 : Int) = (2 : Int) ^ x ∧ (0 : Int) = (↑x : Int) ∧ True) ∧ ∀ (x : Nat), (↑x : Int) ≤ n ∧ n ≤ (7 : Int) → (decide ((↑x : Int) < n) = true → ((-9223372036854775808 : Int) ≤ (↑x : Int) + (1 : Int) ∧ (↑x : Int) + (1 : Int) ≤ (9223372036854775807 : Int)) ∧ ∃ (y : Nat), ((↑y : Int) ≤ n ∧ n ≤ (7 : Int)) ∧ n.toNat - y < n.toNat - x ∧ n = n ∧ IntKind.u8.wrap ((2 : Int) ^ x * (2 : Int)) = (2 : Int) ^ y ∧ (↑x : Int) + (1 : Int) = (↑y : Int) ∧ True) ∧ (decide ((↑x : Int) < n) = false → (2 : Int) ^ x = bitF n ∧ True))) = _) ?_
  simp only [and_true, true_and, Bool.or_eq_true, decide_eq_true_eq, Bool.or_eq_false_iff, decide_eq_false_iff_not]
  refine ⟨fun h => ?_, fun h => ⟨⟨0, by omega⟩, fun x hx => ⟨fun hlt => ⟨by omega, x + 1, by omega, ?_, pow7 (by omega), by omega⟩, fun hge => ?_⟩⟩⟩
  · unfold bitF; rw [if_neg (by omega)]
  · show n.toNat - (x + 1) < n.toNat - x; omega
  · have : x = n.toNat := by omega
    subst this
    unfold bitF; rw [if_pos (by omega)]
set_option maxRecDepth 100000 in
theorem v40 : Valid Try.prog 40 (N (onI fun n => mkI .u8 (bitF n))) := by
  refine totI noSp_ok Try.func40 call40 fun n hn => ⟨rfl, noLoop, ?_⟩
  refine Eq.mp (by kernel_rfl : (((decide (n < (0 : Int)) || decide (n ≥ (8 : Int))) = true → (0 : Int) = bitF n ∧ True) ∧ ((decide (n < (0 : Int)) || decide (n ≥ (8 : Int))) = false → (0 : Int) ≤ n ∧ IntKind.u8.wrap ((1 : Int) * (2 : Int) ^ min n.toNat IntKind.u8.bits) = bitF n ∧ True)) = _) ?_
  simp only [and_true, true_and, Bool.or_eq_true, decide_eq_true_eq, Bool.or_eq_false_iff, decide_eq_false_iff_not]
  refine ⟨fun h => ?_, fun h => ⟨by omega, ?_⟩⟩
  · unfold bitF; rw [if_neg (by omega)]
  · unfold bitF
    rw [if_pos (by omega), Int.one_mul]
    have h8 : n.toNat ≤ 7 := by omega
    generalize n.toNat = x at h8
    match x, h8 with
    | 0, _ | 1, _ | 2, _ | 3, _ | 4, _ | 5, _ | 6, _ | 7, _ => rfl
abbrev L1 : List (Nat × Spec) := [(11, N (onI fun n => mkI .u8 (bitF n))), (40, N (onI fun n => mkI .u8 (bitF n)))]
theorem L1_ok : ∀ f S, spL L1 f = some S → Valid Try.prog f S := spL_ok (vcons v11 (vcons v40 vnil))
set_option maxRecDepth 100000 in
theorem v43 : Valid Try.prog 43 (N (onUI fun m n => mkB (hasF m n))) := by
  refine totUI L1_ok Try.func43 call43 fun m n hm hn => ⟨rfl, noLoop, ?_⟩
  refine Eq.mp (by kernel_rfl : ((bits BinOp.and IntKind.u8 m (bitF n) != (0 : Int)) = hasF m n ∧ True) = _) ?_
  exact ⟨rfl, trivial⟩
set_option maxRecDepth 100000 in
theorem has_out (m n : Int) (h : ¬ (0 ≤ n ∧ n ≤ 7)) : hasF m n = false := by
  unfold hasF bitF andI
  rw [if_neg h]
  simp [bits]
  rfl
set_option maxRecDepth 100000 in
theorem v41 : Valid Try.prog 41 (N (onUI fun m n => mkB (hasF m n))) := by
  refine totUI L1_ok Try.func41 call41 fun m n hm hn => ⟨rfl, noLoop, ?_⟩
  refine Eq.mp (by kernel_rfl : ((decide (n ≥ (0 : Int)) && decide (n ≤ (7 : Int)) && bits BinOp.and IntKind.u8 m (bitF n) != (0 : Int)) = hasF m n ∧ True) = _) ?_
  refine ⟨?_, trivial⟩
  show ((decide (n ≥ 0) && decide (n ≤ 7)) && hasF m n) = hasF m n
  by_cases h : 0 ≤ n ∧ n ≤ 7
  · rw [decide_eq_true (show n ≥ 0 from h.1), decide_eq_true h.2]; rfl
  · rw [has_out m n h, Bool.and_false]
set_option maxRecDepth 100000 in
theorem v30 : Valid Try.prog 30 (N (onI fun n => mkB (coreF n))) := by
  refine totI noSp_ok Try.func30 call30 fun n hn => ⟨rfl, noLoop, ?_⟩
  refine Eq.mp (by kernel_rfl : ((decide (n ≥ (0 : Int)) && decide (n < (8 : Int))) = coreF n ∧ True) = _) ?_
  refine ⟨?_, trivial⟩
  (refine Bool.eq_iff_iff.2 ?_; simp only [coreF, asksF, ansF, Bool.and_eq_true, Bool.or_eq_true, Bool.not_eq_true', Bool.or_eq_false_iff, Bool.and_eq_false_iff, Bool.not_eq_false', decide_eq_true_eq, decide_eq_false_iff_not, beq_iff_eq, bne_iff_ne, beq_eq_false_iff_ne, bne_eq_false_iff_eq, ge_iff_le, gt_iff_lt, and_true, true_and]; try omega)
set_option maxRecDepth 100000 in
theorem v29 : Valid Try.prog 29 (N (onI fun n => mkB (coreF n))) := by
  refine totI noSp_ok Try.func29 call29 fun n hn => ⟨rfl, noLoop, ?_⟩
  refine Eq.mp (by kernel_rfl : ((decide (n ≥ (0 : Int)) && decide (n ≤ (7 : Int))) = coreF n ∧ True) = _) ?_
  refine ⟨?_, trivial⟩
  (refine Bool.eq_iff_iff.2 ?_; simp only [coreF, asksF, ansF, Bool.and_eq_true, Bool.or_eq_true, Bool.not_eq_true', Bool.or_eq_false_iff, Bool.and_eq_false_iff, Bool.not_eq_false', decide_eq_true_eq, decide_eq_false_iff_not, beq_iff_eq, bne_iff_ne, beq_eq_false_iff_ne, bne_eq_false_iff_eq, ge_iff_le, gt_iff_lt, and_true, true_and]; try omega)
set_option maxRecDepth 100000 in
theorem v32 : Valid Try.prog 32 (N (onI fun n => mkB (asksF n))) := by
  refine totI noSp_ok Try.func32 call32 fun n hn => ⟨rfl, noLoop, ?_⟩
  refine Eq.mp (by kernel_rfl : ((decide (n ≥ (1 : Int)) && decide (n ≤ (5 : Int))) = asksF n ∧ True) = _) ?_
  refine ⟨?_, trivial⟩
  (refine Bool.eq_iff_iff.2 ?_; simp only [coreF, asksF, ansF, Bool.and_eq_true, Bool.or_eq_true, Bool.not_eq_true', Bool.or_eq_false_iff, Bool.and_eq_false_iff, Bool.not_eq_false', decide_eq_true_eq, decide_eq_false_iff_not, beq_iff_eq, bne_iff_ne, beq_eq_false_iff_ne, bne_eq_false_iff_eq, ge_iff_le, gt_iff_lt, and_true, true_and]; try omega)
set_option maxRecDepth 100000 in
theorem v35 : Valid Try.prog 35 (N (onI fun n => mkB (asksF n))) := by
  refine totI noSp_ok Try.func35 call35 fun n hn => ⟨rfl, noLoop, ?_⟩
  refine Eq.mp (by kernel_rfl : ((decide (n ≥ (1 : Int)) && decide (n ≤ (5 : Int))) = asksF n ∧ True) = _) ?_
  refine ⟨?_, trivial⟩
  (refine Bool.eq_iff_iff.2 ?_; simp only [coreF, asksF, ansF, Bool.and_eq_true, Bool.or_eq_true, Bool.not_eq_true', Bool.or_eq_false_iff, Bool.and_eq_false_iff, Bool.not_eq_false', decide_eq_true_eq, decide_eq_false_iff_not, beq_iff_eq, bne_iff_ne, beq_eq_false_iff_ne, bne_eq_false_iff_eq, ge_iff_le, gt_iff_lt, and_true, true_and]; try omega)
set_option maxRecDepth 100000 in
theorem v42 : Valid Try.prog 42 (N (onI fun n => mkB (ansF n))) := by
  refine totI noSp_ok Try.func42 call42 fun n hn => ⟨rfl, noLoop, ?_⟩
  refine Eq.mp (by kernel_rfl : ((n == (6 : Int) || n == (7 : Int)) = ansF n ∧ True) = _) ?_
  refine ⟨?_, trivial⟩
  (refine Bool.eq_iff_iff.2 ?_; simp only [coreF, asksF, ansF, Bool.and_eq_true, Bool.or_eq_true, Bool.not_eq_true', Bool.or_eq_false_iff, Bool.and_eq_false_iff, Bool.not_eq_false', decide_eq_true_eq, decide_eq_false_iff_not, beq_iff_eq, bne_iff_ne, beq_eq_false_iff_ne, bne_eq_false_iff_eq, ge_iff_le, gt_iff_lt, and_true, true_and]; try omega)
set_option maxRecDepth 100000 in
theorem v48 : Valid Try.prog 48 (N (onI fun n => mkB (ansF n))) := by
  refine totI noSp_ok Try.func48 call48 fun n hn => ⟨rfl, noLoop, ?_⟩
  refine Eq.mp (by kernel_rfl : ((n == (6 : Int) || n == (7 : Int)) = ansF n ∧ True) = _) ?_
  refine ⟨?_, trivial⟩
  (refine Bool.eq_iff_iff.2 ?_; simp only [coreF, asksF, ansF, Bool.and_eq_true, Bool.or_eq_true, Bool.not_eq_true', Bool.or_eq_false_iff, Bool.and_eq_false_iff, Bool.not_eq_false', decide_eq_true_eq, decide_eq_false_iff_not, beq_iff_eq, bne_iff_ne, beq_eq_false_iff_ne, bne_eq_false_iff_eq, ge_iff_le, gt_iff_lt, and_true, true_and]; try omega)
set_option maxRecDepth 100000 in
theorem v56 : Valid Try.prog 56 (N (onI fun n => mkB (decide (8 ≤ n) && decide (n ≤ 14)))) := by
  refine totI noSp_ok Try.func56 call56 fun n hn => ⟨rfl, noLoop, ?_⟩
  refine Eq.mp (by kernel_rfl : ((decide (n ≥ (8 : Int)) && decide (n ≤ (14 : Int))) = (decide ((8 : Int) ≤ n) && decide (n ≤ (14 : Int))) ∧ True) = _) ?_
  refine ⟨?_, trivial⟩
  (refine Bool.eq_iff_iff.2 ?_; simp only [coreF, asksF, ansF, Bool.and_eq_true, Bool.or_eq_true, Bool.not_eq_true', Bool.or_eq_false_iff, Bool.and_eq_false_iff, Bool.not_eq_false', decide_eq_true_eq, decide_eq_false_iff_not, beq_iff_eq, bne_iff_ne, beq_eq_false_iff_ne, bne_eq_false_iff_eq, ge_iff_le, gt_iff_lt, and_true, true_and]; try omega)

abbrev L2 : List (Nat × Spec) := [(43, N (onUI fun m n => mkB (hasF m n))), (41, N (onUI fun m n => mkB (hasF m n))), (30, N (onI fun n => mkB (coreF n))), (29, N (onI fun n => mkB (coreF n))), (32, N (onI fun n => mkB (asksF n))), (35, N (onI fun n => mkB (asksF n))), (42, N (onI fun n => mkB (ansF n))), (48, N (onI fun n => mkB (ansF n))), (56, N (onI fun n => mkB (decide (8 ≤ n) && decide (n ≤ 14)))), (11, N (onI fun n => mkI .u8 (bitF n))), (40, N (onI fun n => mkI .u8 (bitF n)))]
theorem L2_all : ∀ p ∈ L2, Valid Try.prog p.1 p.2 := vcons v43 (vcons v41 (vcons v30 (vcons v29 (vcons v32 (vcons v35 (vcons v42 (vcons v48 (vcons v56 (vcons v11 (vcons v40 vnil))))))))))
theorem L2_ok : ∀ f S, spL L2 f = some S → Valid Try.prog f S := spL_ok L2_all
end Go.Proofs.Ytdbdoohjhecfiaa.V
