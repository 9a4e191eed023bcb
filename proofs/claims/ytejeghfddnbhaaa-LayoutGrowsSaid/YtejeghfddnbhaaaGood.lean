/-
  Whether a configuration is good: the program's function and the reference's answer alike. 
-/
import Derived.Test.YtejeghfddnbhaaaRows
import Derived.Test.YtejeghfddnbhaaaKitA
namespace Go.Proofs.Ytejeghfddnbhaaa
open Go.RowKit

theorem ret_bool {a b : Bool} (h : a = b) : Ending.returned (.bool a) = .returned (.bool b) := by rw [h]
def goodC (a b c d e f g : Int) : Bool := decide (1 ≤ a ∧ a ≤ 8 ∧ 2 ≤ b ∧ b ≤ 64 ∧ 1 ≤ c ∧ c ≤ b - 1 ∧ (d = 1 ∨ d = 2 ∨ d = 4 ∨ d = 8) ∧ 1 ≤ e ∧ e ≤ 8 ∧ 1 ≤ f ∧ f ≤ 16 ∧ 1 ≤ g ∧ g ≤ 16)
set_option maxHeartbeats 4000000 in
theorem good_any (a b c d e f g : Int) (hb : -9223372036854775808 < b) (w : World) : Calls Try.prog 40 #[.agg #[.int .i64 a, .int .i64 b, .int .i64 c, .int .i64 d, .int .i64 e, .int .i64 f, .int .i64 g]] w fun E w' => E = .returned (.bool (goodC a b c d e f g)) ∧ Below w.heap.size w w' := by
  go_enter Try.func40, Try.ntmps40
  go_wp2
  all_goals
    go_ret
    refine ⟨ret_bool ?_, (Below.refl _ _).alloc (Nat.le_refl _) _⟩
    first | exact (decide_eq_true ⟨by omega, by omega, by omega, by omega, by omega, by omega, by omega, by omega, by omega, by omega, by omega, by omega, by omega⟩).symm | exact (decide_eq_false (fun ⟨h1, h2, h3, h4, h5, h6, h7, h8, h9, h10, h11, h12, h13⟩ => by omega)).symm | exact decide_eq_decide.2 ⟨fun h => ⟨by omega, by omega, by omega, by omega, by omega, by omega, by omega, by omega, by omega, by omega, by omega, by omega, by omega⟩, fun ⟨h1, h2, h3, h4, h5, h6, h7, h8, h9, h10, h11, h12, h13⟩ => by omega⟩
end Go.Proofs.Ytejeghfddnbhaaa
