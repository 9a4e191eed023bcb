/-
  What Run answers, in every case.
-/
import Derived.Test.YtigbhlkafmpgmaaRun
namespace Go.Proofs.Ytigbhlkafmpgmaa
open Go.RowKit Go.Maps
def allS (m : List Int) (room : Int) (ops : List Op) (ab : Bool) : List Int × List Int × Int :=
  if goodT ops = true then (if room < 0 ∨ 1000 < room ∨ 1000 < (m.length : Int) then ([], [], 1) else ((ranS m room ops ab).2.1, (ranS m room ops ab).2.2, 0)) else ([], [], 11)
theorem own_len {w : World} {base : Nat} {v : Value} {n : Nat} {xs : List Int} (h : Own w base 37 1 v n (encU xs)) : xs.length = n := by
  have := h.1
  rw [encU_len] at this
  omega
theorem run_all (va : Option Addr) (vc : Nat) (ab : Bool) (ops : List Op) (am : Option Addr) (cm : Nat) (m : List Int) (room : Int) (w : World) (hr : Rds w 3 (.slice va ops.length vc) ops.length (encOs ops)) (hm : Rds w 1 (.slice am m.length cm) m.length (encU m)) (hok : ∀ o ∈ ops, (Lit.int .u64 o.v).wf = true) :
    Calls Try.prog 9 #[.slice am m.length cm, .int .i64 room, .agg #[.slice va ops.length vc, .bool ab]] w fun e w' => ∃ v1 v2, e = .returned (.tuple #[v1, v2, .int .i64 (allS m room ops ab).2.2]) ∧ Own w' w.heap.size 37 1 v1 (allS m room ops ab).1.length (encU (allS m room ops ab).1) ∧ Own w' w.heap.size 37 1 v2 (allS m room ops ab).2.1.length (encU (allS m room ops ab).2.1) ∧ Below w.heap.size w w' := by
  by_cases hg : goodT ops = true
  · have bad : (room < 0 ∨ 1000 < room ∨ 1000 < (m.length : Int)) → allS m room ops ab = ([], [], 1) := fun h => by unfold allS; rw [if_pos hg, if_pos h]
    by_cases h0 : room < 0
    · rw [bad (Or.inl h0)]
      refine (run_low va vc ab ops am m.length cm room w hr hg h0).mono ?_
      rintro e w' ⟨rfl, hb⟩
      exact ⟨_, _, rfl, Own.nil _ _ _ _, Own.nil _ _ _ _, hb⟩
    · by_cases h1 : 1000 < room
      · rw [bad (Or.inr (Or.inl h1))]
        refine (run_high va vc ab ops am m.length cm room w hr hg h0 h1).mono ?_
        rintro e w' ⟨rfl, hb⟩
        exact ⟨_, _, rfl, Own.nil _ _ _ _, Own.nil _ _ _ _, hb⟩
      · by_cases h2 : 1000 < m.length
        · rw [bad (Or.inr (Or.inr (by omega)))]
          refine (run_many va vc ab ops am m.length cm room w hr hg h0 h1 h2).mono ?_
          rintro e w' ⟨rfl, hb⟩
          exact ⟨_, _, rfl, Own.nil _ _ _ _, Own.nil _ _ _ _, hb⟩
        · rw [show allS m room ops ab = ((ranS m room ops ab).2.1, (ranS m room ops ab).2.2, 0) by unfold allS; rw [if_pos hg, if_neg (by omega)]]
          refine (run_any va vc ab ops am cm m room w hr hg (by omega) (by omega) (by omega) hm hok).mono ?_
          rintro e w' ⟨v1, v2, rfl, hO1, hO2, hb⟩
          refine ⟨v1, v2, rfl, ?_, hO2, hb⟩
          show Own _ _ _ _ _ (ranS m room ops ab).2.1.length _
          rw [own_len hO1]
          exact hO1
  · have hg' : goodT ops = false := by simpa using hg
    rw [show allS m room ops ab = ([], [], 11) by unfold allS; rw [if_neg hg]]
    refine (run_noform va vc ab ops (.slice am m.length cm) room w hr hg').mono ?_
    rintro e w' ⟨rfl, hb⟩
    exact ⟨_, _, rfl, Own.nil _ _ _ _, Own.nil _ _ _ _, hb⟩
end Go.Proofs.Ytigbhlkafmpgmaa
