import Derived.KernelRfl
import Derived.Test.YtdbdoohjhecfiaaFb
namespace Go.Proofs.Ytdbdoohjhecfiaa.V
open Go.RowKit Go.Proofs.Ytdbdoohjhecfiaa
set_option linter.unusedSimpArgs false
theorem preU_of {sp : FuncId → Option Spec} {f : FuncId} {fn : Func} (hsp : ∀ f S, sp f = some S → Valid Try.prog f S) (hf : Try.prog.funcs[f]? = some fn) (hc : CallOk Try.prog f) {g : Int → Rs}
    (h : ∀ n, inR .u8 n → ∃ lp, runF Tbl sp lp 0 fn [.one (v8 n)] ⟨0, []⟩ fun r' st' => fzR st' (nrmR (g n)) r') : Valid Try.prog f (Q (onU g)) := by
  refine pre_of hsp hf hc fun args r hr hg => ?_
  unfold onU at hr
  split at hr
  · cases hr; rename_i n; exact ⟨rfl, h n hg.1⟩
  · cases hr
def coresN (m : Int) (k : Nat) : List Int := ((List.range k).map Int.ofNat).filter (hasF m)
theorem coresN_succ (m : Int) (k : Nat) : coresN m (k + 1) = coresN m k ++ (if hasF m k then [(k : Int)] else []) := by
  unfold coresN
  rw [List.range_succ, List.map_append, List.filter_append]
  congr 1
  simp only [List.map_cons, List.map_nil, List.filter_cons, List.filter_nil]
  rfl
theorem coresN_len (m : Int) (k : Nat) : (coresN m k).length ≤ k := by
  unfold coresN
  exact Nat.le_trans (List.length_filter_le _ _) (by simp)
theorem castL_self {a : Sh} (h : eqSh a a = true) (l : List a.T) : castL h l = l := by
  unfold castL; rfl
def lpC (m : Int) : Nat → Option LoopSp := fun _ => some { X := Nat, sl := fun k => [(0, .one (v8 m)), (3, .one (.sl 0)), (4, .one (vi k))], h := fun k => [(0, .own 3 (.int .i64) (coresN m k))], nx := 1, inv := fun k => k ≤ 8, mu := fun k => 8 - k }
set_option maxRecDepth 100000 in
theorem v22 : Valid Try.prog 22 (Q (onU fun m => rdI (coresF m))) := by
  refine preU_of L3_ok Try.func22 call22 fun n hn => ⟨lpC n, ?_⟩
  refine Eq.mp (by kernel_rfl : ((∃ (x : Nat), x ≤ (8 : Nat) ∧ n = n ∧ (0 : Int) = (↑x : Int) ∧ coresN n x = ([] : List (Sh.int IntKind.i64).T) ∧ True) ∧ ∀ (x : Nat), x ≤ (8 : Nat) → (decide ((↑x : Int) < (8 : Int)) = true → (hasF n (↑x : Int) = true → ((coresN n x).length + ((↑x : Int) :: ([] : List (Sh.int IntKind.i64).T)).length) * (8 : Nat) ≤ (140737488355328 : Nat) ∧ ((-9223372036854775808 : Int) ≤ (↑x : Int) + (1 : Int) ∧ (↑x : Int) + (1 : Int) ≤ (9223372036854775807 : Int)) ∧ ∃ (y : Nat), y ≤ (8 : Nat) ∧ (8 : Nat) - y < (8 : Nat) - x ∧ n = n ∧ (↑x : Int) + (1 : Int) = (↑y : Int) ∧ coresN n x ++ (↑x : Int) :: ([] : List (Sh.int IntKind.i64).T) ≍ coresN n y ∧ True) ∧ (hasF n (↑x : Int) = false → ((-9223372036854775808 : Int) ≤ (↑x : Int) + (1 : Int) ∧ (↑x : Int) + (1 : Int) ≤ (9223372036854775807 : Int)) ∧ ∃ (y : Nat), y ≤ (8 : Nat) ∧ (8 : Nat) - y < (8 : Nat) - x ∧ n = n ∧ (↑x : Int) + (1 : Int) = (↑y : Int) ∧ coresN n x ≍ coresN n y ∧ True)) ∧ (decide ((↑x : Int) < (8 : Int)) = false → coresN n x ≍ coresF n ∧ True)) = _) ?_
  simp only [castL_self, heq_eq_eq, and_true, true_and, decide_eq_true_eq, decide_eq_false_iff_not]
  refine ⟨⟨0, by omega, rfl, rfl⟩, fun x hx => ⟨fun h8 => ⟨fun ht => ⟨?_, by omega, x + 1, by omega, by omega, by omega, ?_⟩, fun hf => ⟨by omega, x + 1, by omega, by omega, by omega, ?_⟩⟩, fun h8 => ?_⟩⟩
  · have := coresN_len n x
    simp
    omega
  · rw [coresN_succ, if_pos ht]
  · rw [coresN_succ, if_neg (by simp [hf]), List.append_nil]
  · have : x = 8 := by omega
    subst this
    rfl

def lpC2 (m : Int) : Nat → Option LoopSp := fun _ => some { X := Nat, sl := fun k => [(0, .one (v8 m)), (3, .one (.sl 0)), (5, .one (vi k))], h := fun k => [(0, .own 3 (.int .i64) (coresN m k))], nx := 1, inv := fun k => k ≤ 8, mu := fun k => 8 - k }
set_option maxRecDepth 100000 in
theorem v59 : Valid Try.prog 59 (Q (onU fun m => rdI (coresF m))) := by
  refine preU_of L3_ok Try.func59 call59 fun n hn => ⟨lpC2 n, ?_⟩
  refine Eq.mp (by kernel_rfl : ((∃ (x : Nat), x ≤ (8 : Nat) ∧ n = n ∧ (0 : Int) = (↑x : Int) ∧ coresN n x = ([] : List (Sh.int IntKind.i64).T) ∧ True) ∧ ∀ (x : Nat), x ≤ (8 : Nat) → (decide ((↑x : Int) < (8 : Int)) = true → (hasF n (↑x : Int) = true → ((coresN n x).length + ((↑x : Int) :: ([] : List (Sh.int IntKind.i64).T)).length) * (8 : Nat) ≤ (140737488355328 : Nat) ∧ ((-9223372036854775808 : Int) ≤ (↑x : Int) + (1 : Int) ∧ (↑x : Int) + (1 : Int) ≤ (9223372036854775807 : Int)) ∧ ∃ (y : Nat), y ≤ (8 : Nat) ∧ (8 : Nat) - y < (8 : Nat) - x ∧ n = n ∧ (↑x : Int) + (1 : Int) = (↑y : Int) ∧ coresN n x ++ (↑x : Int) :: ([] : List (Sh.int IntKind.i64).T) ≍ coresN n y ∧ True) ∧ (hasF n (↑x : Int) = false → ((-9223372036854775808 : Int) ≤ (↑x : Int) + (1 : Int) ∧ (↑x : Int) + (1 : Int) ≤ (9223372036854775807 : Int)) ∧ ∃ (y : Nat), y ≤ (8 : Nat) ∧ (8 : Nat) - y < (8 : Nat) - x ∧ n = n ∧ (↑x : Int) + (1 : Int) = (↑y : Int) ∧ coresN n x ≍ coresN n y ∧ True)) ∧ (decide ((↑x : Int) < (8 : Int)) = false → coresN n x ≍ coresF n ∧ True)) = _) ?_
  simp only [castL_self, heq_eq_eq, and_true, true_and, decide_eq_true_eq, decide_eq_false_iff_not]
  refine ⟨⟨0, by omega, rfl, rfl⟩, fun x hx => ⟨fun h8 => ⟨fun ht => ⟨?_, by omega, x + 1, by omega, by omega, by omega, ?_⟩, fun hf => ⟨by omega, x + 1, by omega, by omega, by omega, ?_⟩⟩, fun h8 => ?_⟩⟩
  · have := coresN_len n x
    simp
    omega
  · rw [coresN_succ, if_pos ht]
  · rw [coresN_succ, if_neg (by simp [hf]), List.append_nil]
  · have : x = 8 := by omega
    subst this
    rfl
abbrev L4 : List (Nat × Spec) := (22, Q (onU fun m => rdI (coresF m))) :: (59, Q (onU fun m => rdI (coresF m))) :: (34, N (onM fun m => mkB (mgoodF m))) :: (31, N (onM fun m => mkB (mgoodF m))) :: (9, N (onE fun m => mkB (goodF m))) :: (15, N (onE fun m => mkB (goodF m))) :: L3
theorem L4_all : ∀ p ∈ L4, Valid Try.prog p.1 p.2 := vcons v22 (vcons v59 (vcons v34 (vcons v31 (vcons v9 (vcons v15 L3_all)))))
theorem L4_ok : ∀ f S, spL L4 f = some S → Valid Try.prog f S := spL_ok L4_all
set_option maxRecDepth 100000 in
theorem v16 : Valid Try.prog 16 (N (onE fun m => mkB (readyF m))) := by
  refine totE L4_ok Try.func16 call16 fun a b d o s k y w hr => ⟨rfl, noLoop, ?_⟩
  refine Eq.mp (by kernel_rfl : ((goodF { here := a, dirty := b, data := d, owner := o, share := s, busy := k, by_ := y, wait := w } && (k == (4 : Int) || k == (5 : Int)) && w == (0 : Int)) = readyF { here := a, dirty := b, data := d, owner := o, share := s, busy := k, by_ := y, wait := w } ∧ True) = _) ?_
  exact ⟨by simp only [readyF, Bool.and_assoc], trivial⟩
set_option maxRecDepth 100000 in
theorem v17 : Valid Try.prog 17 (N (onE fun m => mkB (readyF m))) := by
  refine totE L4_ok Try.func17 call17 fun a b d o s k y w hr => ⟨rfl, noLoop, ?_⟩
  refine Eq.mp (by kernel_rfl : ((goodF { here := a, dirty := b, data := d, owner := o, share := s, busy := k, by_ := y, wait := w } && (k == (4 : Int) || k == (5 : Int)) && w == (0 : Int)) = readyF { here := a, dirty := b, data := d, owner := o, share := s, busy := k, by_ := y, wait := w } ∧ True) = _) ?_
  exact ⟨by simp only [readyF, Bool.and_assoc], trivial⟩
abbrev emptyE : E := ⟨false, false, Z8, -1, 0, 0, 0, 0⟩
abbrev zeroE : E := ⟨false, false, Z8, 0, 0, 0, 0, 0⟩
set_option maxRecDepth 100000 in
theorem v20 : Valid Try.prog 20 (N (S0 (.v (.agg (encE emptyE))))) := by
  refine tot0 L4_ok Try.func20 call20 ⟨rfl, noLoop, ?_⟩
  refine Eq.mp (by kernel_rfl : (false = false ∧ false = false ∧ List.replicate (8 : Nat) (0 : Int) = Z8 ∧ (-1 : Int) = (-1 : Int) ∧ (0 : Int) = (0 : Int) ∧ (0 : Int) = (0 : Int) ∧ (0 : Int) = (0 : Int) ∧ (0 : Int) = (0 : Int) ∧ True) = _) ?_
  repeat' (first | apply And.intro | rfl | trivial)
set_option maxRecDepth 100000 in
theorem v21 : Valid Try.prog 21 (N (S0 (.v (.agg (encE emptyE))))) := by
  refine tot0 L4_ok Try.func21 call21 ⟨rfl, noLoop, ?_⟩
  refine Eq.mp (by kernel_rfl : (false = false ∧ false = false ∧ List.replicate (8 : Nat) (0 : Int) = Z8 ∧ (-1 : Int) = (-1 : Int) ∧ (0 : Int) = (0 : Int) ∧ (0 : Int) = (0 : Int) ∧ (0 : Int) = (0 : Int) ∧ (0 : Int) = (0 : Int) ∧ True) = _) ?_
  repeat' (first | apply And.intro | rfl | trivial)
set_option maxRecDepth 100000 in
theorem v10 : Valid Try.prog 10 (N (onE fun e => .v (.agg (encE e)))) := by
  refine totE L4_ok Try.func10 call10 fun a b d o s k y w hr => ⟨rfl, noLoop, ?_⟩
  refine Eq.mp (by kernel_rfl : (a = a ∧ b = b ∧ d = d ∧ o = o ∧ s = s ∧ k = k ∧ y = y ∧ w = w ∧ True) = _) ?_
  repeat' (first | apply And.intro | rfl | trivial)
end Go.Proofs.Ytdbdoohjhecfiaa.V
