/-
  Which way a kind goes: the program's answers and the reference's.
-/
import Derived.Test.YtjkckcmogpipmaaGood0
namespace Go.Proofs.Ytjkckcmogpipmaa
open Go.RowKit

def asksM (k : Int) : Bool := decide (1 ≤ k) && decide (k ≤ 5)
def answersM (k : Int) : Bool := k == 6 || k == 7
def tellsM (k : Int) : Bool := decide (8 ≤ k) && decide (k ≤ 14)
set_option maxHeartbeats 400000 in
theorem asks_any (k : Int) (w : World) : Calls Try.prog 10 #[.int .i64 k] w fun e w' => e = .returned (.bool (asksM k)) ∧ w = w' := by
  by_cases h : 1 ≤ k
  · go_enter Try.func10, Try.ntmps10
    go_wp2
    go_ret
    exact ⟨ret_bool (by simp [asksM, h]), rfl⟩
  · have hd : decide (1 ≤ k) = false := by simpa using h
    go_enter Try.func10, Try.ntmps10
    go_wp2
    go_ret
    exact ⟨ret_bool (by simp only [asksM, hd, Bool.false_and]), rfl⟩
set_option maxHeartbeats 400000 in
theorem asksr_any (k : Int) (w : World) : Calls Try.prog 11 #[.int .i64 k] w fun e w' => e = .returned (.bool (asksM k)) ∧ w = w' := by
  by_cases h : 1 ≤ k
  · go_enter Try.func11, Try.ntmps11
    go_wp2
    go_ret
    exact ⟨ret_bool (by simp [asksM, h]), rfl⟩
  · have hd : decide (1 ≤ k) = false := by simpa using h
    go_enter Try.func11, Try.ntmps11
    go_wp2
    go_ret
    exact ⟨ret_bool (by simp only [asksM, hd, Bool.false_and]), rfl⟩
set_option maxHeartbeats 400000 in
theorem tells_any (k : Int) (w : World) : Calls Try.prog 14 #[.int .i64 k] w fun e w' => e = .returned (.bool (tellsM k)) ∧ w = w' := by
  by_cases h : 8 ≤ k
  · go_enter Try.func14, Try.ntmps14
    go_wp2
    go_ret
    exact ⟨ret_bool (by simp [tellsM, h]), rfl⟩
  · have hd : decide (8 ≤ k) = false := by simpa using h
    go_enter Try.func14, Try.ntmps14
    go_wp2
    go_ret
    exact ⟨ret_bool (by simp only [tellsM, hd, Bool.false_and]), rfl⟩
set_option maxHeartbeats 400000 in
theorem tellsr_any (k : Int) (w : World) : Calls Try.prog 15 #[.int .i64 k] w fun e w' => e = .returned (.bool (tellsM k)) ∧ w = w' := by
  by_cases h : 8 ≤ k
  · go_enter Try.func15, Try.ntmps15
    go_wp2
    go_ret
    exact ⟨ret_bool (by simp [tellsM, h]), rfl⟩
  · have hd : decide (8 ≤ k) = false := by simpa using h
    go_enter Try.func15, Try.ntmps15
    go_wp2
    go_ret
    exact ⟨ret_bool (by simp only [tellsM, hd, Bool.false_and]), rfl⟩
set_option maxHeartbeats 400000 in
theorem answers_any (k : Int) (w : World) : Calls Try.prog 12 #[.int .i64 k] w fun e w' => e = .returned (.bool (answersM k)) ∧ w = w' := by
  have hq : answersM k = (k == 6 || k == 7) := rfl
  by_cases h : k = 6
  · subst h
    go_enter Try.func12, Try.ntmps12
    go_wp2
    go_ret
    exact ⟨rfl, rfl⟩
  · have hd : (k == 6) = false := by simpa using h
    rw [hq, hd, Bool.false_or]
    clear h hq
    go_enter Try.func12, Try.ntmps12
    go_wp2
    go_ret
    exact ⟨rfl, rfl⟩
set_option maxHeartbeats 400000 in
theorem answersr_any (k : Int) (w : World) : Calls Try.prog 13 #[.int .i64 k] w fun e w' => e = .returned (.bool (answersM k)) ∧ w = w' := by
  have hq : answersM k = (k == 6 || k == 7) := rfl
  by_cases h : k = 6
  · subst h
    go_enter Try.func13, Try.ntmps13
    go_wp2
    go_ret
    exact ⟨rfl, rfl⟩
  · have hd : (k == 6) = false := by simpa using h
    rw [hq, hd, Bool.false_or]
    clear h hq
    go_enter Try.func13, Try.ntmps13
    go_wp2
    go_ret
    exact ⟨rfl, rfl⟩
end Go.Proofs.Ytjkckcmogpipmaa
