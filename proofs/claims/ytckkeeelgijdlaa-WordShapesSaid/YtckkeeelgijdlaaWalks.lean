/-
  The functions of layer 1 (word), its reference's and the statements' helpers: what each call answers.
-/
import Derived.Test.YtckkeeelgijdlaaRows
import Derived.Test.YtckkeeelgijdlaaKitA
namespace Go.Proofs.Ytckkeeelgijdlaa
open Go.RowKit

def getW (f : Nat → Int) (n : Int) : Int := if 0 ≤ n ∧ n < 8 then f n.toNat else 0
def putW (f : Nat → Int) (n v : Int) : Nat → Int := if 0 ≤ n ∧ n < 8 then updL f n.toNat v else f

theorem tmod_mod (k n : Int) (h : 0 < n) : (k.tmod n + n).tmod n = k % n := by
  have h1 := Int.tmod_lt_of_pos k h
  have h2 : -n < k.tmod n := by
    have := Int.lt_tmod_of_pos k h
    exact this
  have h3 : (k.tmod n + n).tmod n = (k.tmod n + n) % n := Int.tmod_eq_emod_of_nonneg (by omega)
  rw [h3, Int.add_emod_right]
  have h4 := Int.emod_emod_of_dvd k (Int.dvd_refl n)
  have h5 : k = n * k.tdiv n + k.tmod n := (Int.mul_tdiv_add_tmod k n).symm
  conv => rhs; rw [h5]
  rw [Int.mul_add_emod_self_left]

set_option maxHeartbeats 400000 in
theorem mod_any (k n : Int) (h : 0 < n) (h' : n ≤ 1000000) (w : World) :
    Calls Try.prog 14 #[.int .i64 k, .int .i64 n] w fun e w' => e = .returned (.int .i64 (k % n)) ∧ w = w' := by
  have h1 := Int.tmod_lt_of_pos k h
  have h2 := Int.lt_tmod_of_pos k h
  go_enter Try.func14, Try.ntmps14
  go_wp2
  go_ret
  exact ⟨by show Ending.returned (.int .i64 ((k.tmod n + n) % n)) = _; rw [← tmod_mod k n h, Int.tmod_eq_emod_of_nonneg (a := k.tmod n + n) (by omega)], rfl⟩

set_option maxHeartbeats 400000 in
theorem get_any (f : Nat → Int) (n : Int) (w : World) :
    Calls Try.prog 7 #[.agg (lnV f), .int .i64 n] w fun e w' => e = .returned (.int .u64 (getW f n)) ∧ Below w.heap.size w w' := by
  by_cases h0 : 0 ≤ n
  · by_cases h1 : n < 8
    · have hc : (w.alloc (.cells (lnV f) 24)).cell? ⟨w.heap.size, n.toNat, none⟩ = some (.int .u64 (f n.toNat)) := by
        rw [cell_of_row _ _ _ (lnV f) 24 (0,0) (heap_alloc_new w _), lnV_get _ _ (by omega)]
      simp only [lnV] at hc
      go_enter Try.func7, Try.ntmps7
      go_wp2
      go_ret
      exact ⟨by simp [getW, h0, h1], (Below.refl _ _).alloc (Nat.le_refl _) _⟩
    · go_enter Try.func7, Try.ntmps7
      go_wp2
      go_ret
      exact ⟨by rw [getW, if_neg (by omega)]; simp, (Below.refl _ _).alloc (Nat.le_refl _) _⟩
  · go_enter Try.func7, Try.ntmps7
    go_wp2
    go_ret
    exact ⟨by rw [getW, if_neg (by omega)]; simp, (Below.refl _ _).alloc (Nat.le_refl _) _⟩

set_option maxHeartbeats 400000 in
theorem put_any (f : Nat → Int) (n v : Int) (w : World) :
    Calls Try.prog 9 #[.agg (lnV f), .int .i64 n, .int .u64 v] w fun e w' => e = .returned (.agg (lnV (putW f n v))) ∧ Below w.heap.size w w' := by
  by_cases h0 : 0 ≤ n
  · by_cases h1 : n < 8
    · have hc := lnV_set f n.toNat v (by omega)
      simp only [lnV] at hc
      have hp : putW f n v = updL f n.toNat v := by simp [putW, h0, h1]
      have Hp := Lib.hid hp; clear hp
      go_enter Try.func9, Try.ntmps9
      go_wp2
      refine bodyPost_ret (v := .agg (lnV (updL f n.toNat v))) (by simp [results, Try.results9, go_sem]) rfl ⟨by rw [Hp.out]; try rfl, ((Below.refl _ _).alloc (Nat.le_refl _) _).alloc (by simp) _⟩
    · have hp : putW f n v = f := by simp [putW, h0, h1]
      have Hp := Lib.hid hp; clear hp
      go_enter Try.func9, Try.ntmps9
      go_wp2
      refine bodyPost_ret (v := .agg (lnV f)) (by simp [results, Try.results9, go_sem]) rfl ⟨by rw [Hp.out]; try rfl, ((Below.refl _ _).alloc (Nat.le_refl _) _).alloc (by simp) _⟩
  · have hp : putW f n v = f := by simp [putW, h0]
    have Hp := Lib.hid hp; clear hp
    go_enter Try.func9, Try.ntmps9
    go_wp2
    refine bodyPost_ret (v := .agg (lnV f)) (by simp [results, Try.results9, go_sem]) rfl ⟨by rw [Hp.out]; try rfl, ((Below.refl _ _).alloc (Nat.le_refl _) _).alloc (by simp) _⟩


set_option maxHeartbeats 400000 in
theorem getr_any (f : Nat → Int) (n : Int) (w : World) :
    Calls Try.prog 8 #[.agg (lnV f), .int .i64 n] w fun e w' => e = .returned (.int .u64 (getW f n)) ∧ Below w.heap.size w w' := by
  by_cases h0 : 0 ≤ n
  · by_cases h1 : n < 8
    · have hc : (w.alloc (.cells (lnV f) 24)).cell? ⟨w.heap.size, n.toNat, none⟩ = some (.int .u64 (f n.toNat)) := by
        rw [cell_of_row _ _ _ (lnV f) 24 (0,0) (heap_alloc_new w _), lnV_get _ _ (by omega)]
      simp only [lnV] at hc
      go_enter Try.func8, Try.ntmps8
      go_wp2
      go_ret
      exact ⟨by simp [getW, h0, h1], (Below.refl _ _).alloc (Nat.le_refl _) _⟩
    · go_enter Try.func8, Try.ntmps8
      go_wp2
      go_ret
      exact ⟨by rw [getW, if_neg (by omega)]; simp, (Below.refl _ _).alloc (Nat.le_refl _) _⟩
  · go_enter Try.func8, Try.ntmps8
    go_wp2
    go_ret
    exact ⟨by rw [getW, if_neg (by omega)]; simp, (Below.refl _ _).alloc (Nat.le_refl _) _⟩

set_option maxHeartbeats 400000 in
theorem putr_any (f : Nat → Int) (n v : Int) (w : World) :
    Calls Try.prog 10 #[.agg (lnV f), .int .i64 n, .int .u64 v] w fun e w' => e = .returned (.agg (lnV (putW f n v))) ∧ Below w.heap.size w w' := by
  by_cases h0 : 0 ≤ n
  · by_cases h1 : n < 8
    · have hc := lnV_set f n.toNat v (by omega)
      simp only [lnV] at hc
      have hp : putW f n v = updL f n.toNat v := by simp [putW, h0, h1]
      have Hp := Lib.hid hp; clear hp
      go_enter Try.func10, Try.ntmps10
      go_wp2
      refine bodyPost_ret (v := .agg (lnV (updL f n.toNat v))) (by simp [results, Try.results10, go_sem]) rfl ⟨by rw [Hp.out]; try rfl, ((Below.refl _ _).alloc (Nat.le_refl _) _).alloc (by simp) _⟩
    · have hp : putW f n v = f := by simp [putW, h0, h1]
      have Hp := Lib.hid hp; clear hp
      go_enter Try.func10, Try.ntmps10
      go_wp2
      refine bodyPost_ret (v := .agg (lnV f)) (by simp [results, Try.results10, go_sem]) rfl ⟨by rw [Hp.out]; try rfl, ((Below.refl _ _).alloc (Nat.le_refl _) _).alloc (by simp) _⟩
  · have hp : putW f n v = f := by simp [putW, h0]
    have Hp := Lib.hid hp; clear hp
    go_enter Try.func10, Try.ntmps10
    go_wp2
    refine bodyPost_ret (v := .agg (lnV f)) (by simp [results, Try.results10, go_sem]) rfl ⟨by rw [Hp.out]; try rfl, ((Below.refl _ _).alloc (Nat.le_refl _) _).alloc (by simp) _⟩



def isW (n : Int) : Bool := decide (0 ≤ n) && decide (n < 8)
set_option maxHeartbeats 400000 in
theorem is_any (n : Int) (w : World) : Calls Try.prog 17 #[.int .i64 n] w fun e w' => e = .returned (.bool (isW n)) ∧ w = w' := by
  by_cases h : 0 ≤ n
  · go_enter Try.func17, Try.ntmps17
    go_wp2
    go_ret
    exact ⟨by simp [isW, h], rfl⟩
  · go_enter Try.func17, Try.ntmps17
    go_wp2
    go_ret
    exact ⟨by have hd : decide (0 ≤ n) = false := by simpa using h
              simp [isW, hd], rfl⟩

/-- At: the line, the word, the error. -/
def atL (lines addr : Int) : Int := if lines < 1 ∨ 64 < lines then 0 else if addr % 8 ≠ 0 ∨ lines * 64 ≤ addr then 0 else addr / 64
def atW (lines addr : Int) : Int := if lines < 1 ∨ 64 < lines then 0 else if addr % 8 ≠ 0 ∨ lines * 64 ≤ addr then 0 else addr % 64 / 8
def atE (lines addr : Int) : Int := if lines < 1 ∨ 64 < lines then 1 else if addr % 8 ≠ 0 ∨ lines * 64 ≤ addr then 12 else 0
theorem tup3 {a b c a' b' c' : Int} (h1 : a = a') (h2 : b = b') (h3 : c = c') : Ending.returned (.tuple #[.int .i64 a, .int .i64 b, .int .i64 c]) = .returned (.tuple #[.int .i64 a', .int .i64 b', .int .i64 c']) := by rw [h1, h2, h3]
set_option maxHeartbeats 400000 in
theorem at_any (lines addr : Int) (h0 : 0 ≤ addr) (h1 : addr ≤ 18446744073709551615) (w : World) :
    Calls Try.prog 15 #[.int .i64 lines, .int .u64 addr] w fun e w' => e = .returned (.tuple #[.int .i64 (atL lines addr), .int .i64 (atW lines addr), .int .i64 (atE lines addr)]) ∧ w = w' := by
  by_cases c1 : lines < 1
  · go_enter Try.func15, Try.ntmps15
    go_wp2
    go_ret3
    exact ⟨tup3 (by simp [atL, c1]) (by simp [atW, c1]) (by simp [atE, c1]), rfl⟩
  · by_cases c2 : 64 < lines
    · go_enter Try.func15, Try.ntmps15
      go_wp2
      go_ret3
      exact ⟨tup3 (by simp [atL, c2]) (by simp [atW, c2]) (by simp [atE, c2]), rfl⟩
    · have hn : ¬ (lines < 1 ∨ 64 < lines) := by omega
      by_cases c3 : addr % 8 = 0
      · by_cases c4 : lines * 64 ≤ addr
        · have e1 : atL lines addr = 0 := by rw [atL, if_neg hn, if_pos (by omega)]
          have e2 : atW lines addr = 0 := by rw [atW, if_neg hn, if_pos (by omega)]
          have e3 : atE lines addr = 12 := by rw [atE, if_neg hn, if_pos (by omega)]
          have E1 := Lib.hid e1; have E2 := Lib.hid e2; have E3 := Lib.hid e3; clear e1 e2 e3 hn
          go_enter Try.func15, Try.ntmps15
          go_wp2
          go_ret3
          exact ⟨tup3 E1.out.symm E2.out.symm E3.out.symm, rfl⟩
        · have e1 : atL lines addr = addr / 64 := by rw [atL, if_neg hn, if_neg (by omega)]
          have e2 : atW lines addr = addr % 64 / 8 := by rw [atW, if_neg hn, if_neg (by omega)]
          have e3 : atE lines addr = 0 := by rw [atE, if_neg hn, if_neg (by omega)]
          have E1 := Lib.hid e1; have E2 := Lib.hid e2; have E3 := Lib.hid e3; clear e1 e2 e3 hn
          go_enter Try.func15, Try.ntmps15
          go_wp2
          go_ret3
          exact ⟨tup3 E1.out.symm E2.out.symm E3.out.symm, rfl⟩
      · have e1 : atL lines addr = 0 := by rw [atL, if_neg hn, if_pos (by omega)]
        have e2 : atW lines addr = 0 := by rw [atW, if_neg hn, if_pos (by omega)]
        have e3 : atE lines addr = 12 := by rw [atE, if_neg hn, if_pos (by omega)]
        have E1 := Lib.hid e1; have E2 := Lib.hid e2; have E3 := Lib.hid e3; clear e1 e2 e3 hn
        go_enter Try.func15, Try.ntmps15
        go_wp2
        go_ret3
        exact ⟨tup3 E1.out.symm E2.out.symm E3.out.symm, rfl⟩

def addrW (line n : Int) : Int := if 0 ≤ line ∧ line < 64 ∧ 0 ≤ n ∧ n < 8 then line * 64 + n * 8 else 0
theorem ret_u64 {a b : Int} (h : a = b) : Ending.returned (.int .u64 a) = .returned (.int .u64 b) := by rw [h]
set_option maxHeartbeats 400000 in
theorem addr_any (line n : Int) (w : World) : Calls Try.prog 16 #[.int .i64 line, .int .i64 n] w fun e w' => e = .returned (.int .u64 (addrW line n)) ∧ w = w' := by
  by_cases h : 0 ≤ line ∧ line < 64 ∧ 0 ≤ n ∧ n < 8
  · have e1 : addrW line n = line * 64 + n * 8 := by rw [addrW, if_pos h]
    have E1 := Lib.hid e1; clear e1
    obtain ⟨h1, h2, h3, h4⟩ := h
    go_enter Try.func16, Try.ntmps16
    go_wp2
    go_ret
    exact ⟨ret_u64 E1.out.symm, rfl⟩
  · have e1 : addrW line n = 0 := by rw [addrW, if_neg h]
    have E1 := Lib.hid e1; clear e1
    by_cases h1 : 0 ≤ line
    · by_cases h2 : line < 64
      · by_cases h3 : 0 ≤ n
        · have h4 : ¬ n < 8 := by omega
          clear h
          go_enter Try.func16, Try.ntmps16
          go_wp2
          go_ret
          exact ⟨ret_u64 E1.out.symm, rfl⟩
        · clear h
          go_enter Try.func16, Try.ntmps16
          go_wp2
          go_ret
          exact ⟨ret_u64 E1.out.symm, rfl⟩
      · clear h
        go_enter Try.func16, Try.ntmps16
        go_wp2
        go_ret
        exact ⟨ret_u64 E1.out.symm, rfl⟩
    · clear h
      go_enter Try.func16, Try.ntmps16
      go_wp2
      go_ret
      exact ⟨ret_u64 E1.out.symm, rfl⟩
end Go.Proofs.Ytckkeeelgijdlaa
