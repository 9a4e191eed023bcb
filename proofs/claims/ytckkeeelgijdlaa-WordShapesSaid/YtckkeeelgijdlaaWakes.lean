/-
  'wakes' answers true.
-/
import Derived.Test.YtckkeeelgijdlaaGood
namespace Go.Proofs.Ytckkeeelgijdlaa
open Go.RowKit
theorem put0 : lnV (putW (fun _ => 0) 3 9) = #[.int .u64 0, .int .u64 0, .int .u64 0, .int .u64 9, .int .u64 0, .int .u64 0, .int .u64 0, .int .u64 0] := rfl
set_option maxHeartbeats 4000000 in
theorem wakes_any (w : World) :
    Calls Try.prog 11 #[] w fun e w' => e = .returned (.bool true) ∧ Below w.heap.size w w' := by
  have e1 : atL 4 72 = 1 := by decide
  have e2 : atW 4 72 = 1 := by decide
  have e3 : atE 4 72 = 0 := by decide
  have e4 : atE 4 73 = 12 := by decide
  have e5 : goodC 1 2 1 1 1 1 1 = true := by decide
  have e6 : addrW 2 1 = 136 := by decide
  go_enter Try.func11, Try.ntmps11
  go_wp2_with (first | (go_at_call 15; refine (at_any _ _ (by decide) (by decide) _).mono ?_; rintro e w' ⟨rfl, rfl⟩))
  go_wp2_with fail
  refine (put_any (fun _ => 0) _ _ _).mono ?_
  rintro e w1 ⟨rfl, hb1⟩
  rw [put0]
  go_wp2_with fail
  refine (get_any (putW (fun _ => 0) 3 9) _ _).mono ?_
  rintro e w2 ⟨rfl, hb2⟩
  have e7 : getW (putW (fun _ => 0) 3 9) 3 = 9 := by decide
  go_wp2_with (first | (go_at_call 16; refine (addr_any _ _ _).mono ?_; rintro e w' ⟨rfl, rfl⟩) | (go_at_call 12; refine (good_any _ _ _ _ _ _ _ (by decide) _).mono ?_; rintro e w' ⟨rfl, hb3⟩))
  go_ret
  exact ⟨rfl, Below.then (Below.then (Below.al hb1 _) hb2) hb3⟩

end Go.Proofs.Ytckkeeelgijdlaa
