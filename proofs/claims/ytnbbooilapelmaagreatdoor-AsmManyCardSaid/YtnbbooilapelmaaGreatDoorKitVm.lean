/-
  A symbolic run of a function's text: a call run through in place.
-/
import Derived.Test.YtnbbooilapelmaaGreatDoorKitVl
set_option linter.unusedVariables false
set_option linter.unusedSimpArgs false
namespace Go.Proofs.YtnbbooilapelmaaGreatDoor.V
open Go.RowKit Go.Proofs.YtnbbooilapelmaaGreatDoor
section
variable {T : Tb} {sp : FuncId → Option Spec} {P : Program}
/-- A function without a contract of its own: its text is run from where it is called. -/
def inl (T : Tb) (sp : FuncId → Option Spec) (fn : Func) (lp : List Vl → St → Nat → Option LoopSp) (args : List Vl) (st : St) (K : Rs → St → Prop) : Prop :=
  runF T sp (lp args st) st.nx fn args st K
def noLp : List Vl → St → Nat → Option LoopSp := fun _ _ _ => none
theorem valid_inl (hm : P.follows .mixedOrders = true) (hT : ∀ t i, T t = some i → TyOk P t i) (hsp : ∀ f S, sp f = some S → Valid P f S) {f : FuncId} {fn : Func} (hf : P.funcs[f]? = some fn) (hc : CallOk P f) (lp : List Vl → St → Nat → Option LoopSp) : Valid P f (.full (inl T sp fn lp)) := by
  refine ⟨hc, fun args st K hS B β F w vs hw hd => ?_⟩
  have S0 : Sat ⟨w, fun k => ∃ p ∈ st.h, bk (β p.1) = some k, F, st.nx, β⟩ β F st w :=
    ⟨Only.refl _ w, hw.fresh, hw.cks, fun p hp k hk => ⟨.inl ⟨p, hp, hk⟩, (hw.own p hp k hk).2⟩, hw.sep, hw.frz, fun _ h => h, fun _ h => .inl h, Nat.le_refl _, fun _ _ => rfl⟩
  refine (runF_ok (B := ⟨w, fun k => ∃ p ∈ st.h, bk (β p.1) = some k, F, st.nx, β⟩) hm hT hsp hf hS hd S0).mono ?_
  rintro e w' ⟨u, r', st', β', F', rfl, hK, S1, hu⟩
  have hk : ∀ k, F k → w'.heap[k]? = w.heap[k]? := fun k hk => S1.only.block k (hw.frz k hk) fun ⟨p, hp, hO⟩ => (hw.own p hp k hO).2.1 hk
  have hO : ∀ k, ((∃ p ∈ st.h, bk (β p.1) = some k) ∨ w.heap.size ≤ k) → B.O k ∨ B.w0.heap.size ≤ k := fun k h => by
    rcases h with ⟨p, hp, h⟩ | h
    · exact (hw.own p hp k h).1
    · exact .inr (Nat.le_trans hw.only.size h)
  refine ⟨u, r', st', β', F', rfl, hK, ⟨fun id v hv => ?_, S1.f1, hk⟩, ⟨⟨S1.only.os.trans hw.only.os, S1.only.tape.trans hw.only.tape, S1.only.output.trans hw.only.output, Nat.le_trans hw.only.size S1.only.size, fun k hk hn => ?_⟩, S1.fresh, S1.cks, fun p hp k hk => ⟨hO k (S1.own p hp k hk).1, (S1.own p hp k hk).2⟩, S1.sep, S1.frz, fun k h => S1.f1 k (hw.f1 k h), fun k h => ?_, Nat.le_trans hw.anc.1 S1.anc.1, fun i hi => (S1.anc.2 i (Nat.lt_of_lt_of_le hi hw.anc.1)).trans (hw.anc.2 i hi)⟩, hu⟩
  · have hlt : id < st.nx := by
      rcases Nat.lt_or_ge id st.nx with h | h
      · exact h
      · rw [hw.fresh id h] at hv; cases hv
    exact (S1.anc.2 id hlt).trans hv
  · refine (S1.only.block k (Nat.lt_of_lt_of_le hk hw.only.size) fun ⟨p, hp, h⟩ => ?_).trans (hw.only.block k hk hn)
    rcases (hw.own p hp k h).1 with h1 | h1
    · exact hn h1
    · omega
  · rcases S1.f2 k h with h | h
    · exact hw.f2 k h
    · exact .inr (hO k h)
end
end Go.Proofs.YtnbbooilapelmaaGreatDoor.V
