import Derived.KernelRfl
import Derived.Test.YtdbdoohjhecfiaaFe
namespace Go.Proofs.Ytdbdoohjhecfiaa.V
open Go.RowKit Go.Proofs.Ytdbdoohjhecfiaa
set_option linter.unusedSimpArgs false
abbrev fnC (f : FuncId) : CV := .val (.func (.func f) #[] #[])
abbrev asksR : Rs := .v (.agg [.val .nilFunc, fnC 51, fnC 52, fnC 53, fnC 54, fnC 55])
set_option maxRecDepth 100000 in
theorem v33 : Valid Try.prog 33 (N (S0 asksR)) := by
  refine tot0 L8_ok Try.func33 call33 ⟨rfl, noLoop, ?_⟩
  refine Eq.mp (by kernel_rfl : (Value.nilFunc = Value.nilFunc ∧ Value.func (Fn.func (51 : Nat)) ([] : List Value).toArray ([] : List Value).toArray = Value.func (Fn.func (51 : FuncId)) ([] : List Value).toArray ([] : List Value).toArray ∧ Value.func (Fn.func (52 : Nat)) ([] : List Value).toArray ([] : List Value).toArray = Value.func (Fn.func (52 : FuncId)) ([] : List Value).toArray ([] : List Value).toArray ∧ Value.func (Fn.func (53 : Nat)) ([] : List Value).toArray ([] : List Value).toArray = Value.func (Fn.func (53 : FuncId)) ([] : List Value).toArray ([] : List Value).toArray ∧ Value.func (Fn.func (54 : Nat)) ([] : List Value).toArray ([] : List Value).toArray = Value.func (Fn.func (54 : FuncId)) ([] : List Value).toArray ([] : List Value).toArray ∧ Value.func (Fn.func (55 : Nat)) ([] : List Value).toArray ([] : List Value).toArray = Value.func (Fn.func (55 : FuncId)) ([] : List Value).toArray ([] : List Value).toArray ∧ True) = _) ?_
  repeat' (first | apply And.intro | rfl | trivial)
end Go.Proofs.Ytdbdoohjhecfiaa.V
