/-
  Whether a configuration is good: the program's function, for every number of lines.
-/
import Derived.Test.YtejeghfddnbhaaaGood
namespace Go.Proofs.Ytejeghfddnbhaaa
open Go.RowKit
set_option maxHeartbeats 4000000 in
theorem good_low (a b c d e f g : Int) (hb : ¬ 2 ≤ b) (w : World) : Calls Try.prog 40 #[.agg #[.int .i64 a, .int .i64 b, .int .i64 c, .int .i64 d, .int .i64 e, .int .i64 f, .int .i64 g]] w fun E w' => E = .returned (.bool false) ∧ Below w.heap.size w w' := by
  go_enter Try.func40, Try.ntmps40
  go_wp2
  all_goals
    go_ret
    exact ⟨rfl, (Below.refl _ _).alloc (Nat.le_refl _) _⟩
theorem good_all (a b c d e f g : Int) (w : World) : Calls Try.prog 40 #[.agg #[.int .i64 a, .int .i64 b, .int .i64 c, .int .i64 d, .int .i64 e, .int .i64 f, .int .i64 g]] w fun E w' => E = .returned (.bool (goodC a b c d e f g)) ∧ Below w.heap.size w w' := by
  by_cases hb : 2 ≤ b
  · exact good_any a b c d e f g (by omega) w
  · have h : goodC a b c d e f g = false := decide_eq_false (fun ⟨h1, h2, h3, h4, h5, h6, h7, h8, h9, h10, h11, h12, h13⟩ => by omega)
    rw [h]
    exact good_low a b c d e f g hb w
end Go.Proofs.Ytejeghfddnbhaaa
