/-
  Whether a message has a form: the program's answer and the reference's, kind by kind.
-/
import Derived.Test.YtjkckcmogpipmaaRows
import Derived.Test.YtjkckcmogpipmaaKitA
namespace Go.Proofs.Ytjkckcmogpipmaa
open Go.RowKit
attribute [local go_sem ↓] Go.wp_at_zero Go.wp_at_succ

theorem ret_bool {a b : Bool} (h : a = b) : Ending.returned (.bool a) = .returned (.bool b) := by rw [h]
theorem info22 : (Try.prog.info? 22).map (·.size) = some 1 := by kernel_rfl
def zM (d0 d1 d2 d3 d4 d5 d6 d7 : Int) : Bool := d0 == 0 && (d1 == 0 && (d2 == 0 && (d3 == 0 && (d4 == 0 && (d5 == 0 && (d6 == 0 && d7 == 0))))))
def goodM (k l : Int) (a b z : Bool) : Bool := decide (1 ≤ k ∧ k ≤ 14 ∧ 0 ≤ l ∧ l < 64) && ((!a || (k == 3 || (k == 6 || k == 7))) && ((!b || k == 7) && (a || ((k == 8 || (k == 9 || k == 10)) || z))))
set_option maxHeartbeats 400000 in
theorem may_any (w : World) : Calls Try.prog 24 #[] w fun e w' => e = .returned (.agg #[.int .i64 0, .int .i64 0, .int .i64 0, .int .i64 1, .int .i64 0, .int .i64 0, .int .i64 1, .int .i64 3, .int .i64 4, .int .i64 4, .int .i64 4, .int .i64 0, .int .i64 0, .int .i64 0, .int .i64 0]) ∧ Below w.heap.size w w' := by
  go_enter Try.func24, Try.ntmps24
  go_wp2
  first
    | (go_ret; exact ⟨rfl, Below.refl _ _⟩)
    | exact bodyPost_ret (v := .agg #[.int .i64 0, .int .i64 0, .int .i64 0, .int .i64 1, .int .i64 0, .int .i64 0, .int .i64 1, .int .i64 3, .int .i64 4, .int .i64 4, .int .i64 4, .int .i64 0, .int .i64 0, .int .i64 0, .int .i64 0]) (by simp [results, Try.results24, go_sem]) rfl ⟨rfl, Below.al (Below.refl _ _) _⟩
end Go.Proofs.Ytjkckcmogpipmaa
