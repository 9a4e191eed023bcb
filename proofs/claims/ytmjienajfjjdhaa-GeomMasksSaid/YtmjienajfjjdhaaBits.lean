/-
  Sets, bits, cores of a mask: the program's functions and the reference's.
-/
import Derived.Test.YtmjienajfjjdhaaCount
namespace Go.Proofs.Ytmjienajfjjdhaa
open Go.RowKit
attribute [local go_sem ↓] Go.wp_at_zero Go.wp_at_succ

def setI (n line : Int) : Int := if 0 ≤ line ∧ (n = 1 ∨ n = 2 ∨ n = 4 ∨ n = 8) then line % n else 0
def bitI (c : Int) : Int := if 0 ≤ c ∧ c ≤ 7 then 2 ^ c.toNat else 0
def hasB (m c : Int) : Bool := bits BinOp.and IntKind.u8 m (bitI c) != 0
theorem and_zero (m : Int) : bits BinOp.and IntKind.u8 m 0 = 0 := by
  simp [bits]
  decide
theorem hasB_out (m c : Int) (h : ¬ (0 ≤ c ∧ c ≤ 7)) : hasB m c = false := by
  rw [hasB, bitI, if_neg h, and_zero]; rfl
theorem set_any (n line : Int) (w : World) : Calls Try.prog 6 #[.int .i64 n, .int .i64 line] w fun e w' => e = .returned (.int .i64 (setI n line)) ∧ w = w' := by
  by_cases h0 : 0 ≤ line
  · by_cases h1 : n = 1 ∨ n = 2 ∨ n = 4 ∨ n = 8
    · have hs : setI n line = line % n := if_pos ⟨h0, h1⟩
      have HS := Lib.hid hs
      clear hs
      rcases h1 with rfl | rfl | rfl | rfl
      all_goals
        go_enter Try.func6, Try.ntmps6
        go_wp2
        go_ret
        exact ⟨by rw [HS.out]; first | rfl | simp, by first | rfl | trivial⟩
    · have hs : setI n line = 0 := if_neg (fun h => h1 h.2)
      have HS := Lib.hid hs
      clear hs
      have h11 : ¬ n = 1 := fun h => h1 (Or.inl h)
      have h12 : ¬ n = 2 := fun h => h1 (Or.inr (Or.inl h))
      have h14 : ¬ n = 4 := fun h => h1 (Or.inr (Or.inr (Or.inl h)))
      have h18 : ¬ n = 8 := fun h => h1 (Or.inr (Or.inr (Or.inr h)))
      clear h1
      go_enter Try.func6, Try.ntmps6
      go_wp2
      go_ret
      exact ⟨by rw [HS.out]; rfl, by first | rfl | trivial⟩
  · have hs : setI n line = 0 := if_neg (fun h => h0 h.1)
    have HS := Lib.hid hs
    clear hs
    go_enter Try.func6, Try.ntmps6
    go_wp2
    go_ret
    exact ⟨by rw [HS.out]; rfl, by first | rfl | trivial⟩
theorem rset_any (n line : Int) (w : World) : Calls Try.prog 7 #[.int .i64 n, .int .i64 line] w fun e w' => e = .returned (.int .i64 (setI n line)) ∧ w = w' := by
  by_cases h1 : n = 1 ∨ n = 2 ∨ n = 4 ∨ n = 8
  · by_cases h0 : 0 ≤ line
    · have hs : setI n line = line % n := if_pos ⟨h0, h1⟩
      have HS := Lib.hid hs
      clear hs
      rcases h1 with rfl | rfl | rfl | rfl
      all_goals
        go_enter Try.func7, Try.ntmps7
        go_wp2
        go_ret
        exact ⟨by rw [HS.out]; first | rfl | simp, by first | rfl | trivial⟩
    · have hs : setI n line = 0 := if_neg (fun h => h0 h.1)
      have HS := Lib.hid hs
      clear hs
      rcases h1 with rfl | rfl | rfl | rfl
      all_goals
        go_enter Try.func7, Try.ntmps7
        go_wp2
        go_ret
        exact ⟨by rw [HS.out]; rfl, by first | rfl | trivial⟩
  · have hs : setI n line = 0 := if_neg (fun h => h1 h.2)
    have HS := Lib.hid hs
    clear hs
    have h11 : ¬ n = 1 := fun h => h1 (Or.inl h)
    have h12 : ¬ n = 2 := fun h => h1 (Or.inr (Or.inl h))
    have h14 : ¬ n = 4 := fun h => h1 (Or.inr (Or.inr (Or.inl h)))
    have h18 : ¬ n = 8 := fun h => h1 (Or.inr (Or.inr (Or.inr h)))
    clear h1
    go_enter Try.func7, Try.ntmps7
    go_wp2
    go_ret
    exact ⟨by rw [HS.out]; rfl, by first | rfl | trivial⟩
theorem bit_any (c : Int) (w : World) : Calls Try.prog 8 #[.int .i64 c] w fun e w' => e = .returned (.int .u8 (bitI c)) ∧ w = w' := by
  by_cases h : 0 ≤ c ∧ c ≤ 7
  · have hc : c = 0 ∨ c = 1 ∨ c = 2 ∨ c = 3 ∨ c = 4 ∨ c = 5 ∨ c = 6 ∨ c = 7 := by omega
    rcases hc with rfl | rfl | rfl | rfl | rfl | rfl | rfl | rfl
    all_goals
      go_enter Try.func8, Try.ntmps8
      go_wp2
      go_ret
      exact ⟨rfl, by first | rfl | trivial⟩
  · have hb : bitI c = 0 := if_neg h
    have HB := Lib.hid hb
    clear hb
    by_cases h0 : c < 0
    · go_enter Try.func8, Try.ntmps8
      go_wp2
      go_ret
      exact ⟨by rw [HB.out]; rfl, by first | rfl | trivial⟩
    · have h8 : 8 ≤ c := by omega
      clear h
      go_enter Try.func8, Try.ntmps8
      go_wp2
      go_ret
      exact ⟨by rw [HB.out]; rfl, by first | rfl | trivial⟩
theorem rbit_any (c : Int) (w : World) : Calls Try.prog 9 #[.int .i64 c] w fun e w' => e = .returned (.int .u8 (bitI c)) ∧ w = w' := by
  by_cases h : 0 ≤ c ∧ c ≤ 7
  · obtain ⟨k, rfl⟩ : ∃ k : Nat, c = k := ⟨c.toNat, by omega⟩
    have hb : bitI k = 2 ^ k := by rw [bitI, if_pos h]; rfl
    have HB := Lib.hid hb
    have hk : k ≤ 7 := by omega
    clear hb
    go_enter Try.func9, Try.ntmps9
    go_wp2_with fail
    go_loopw [3, 4] (fun b i w' => ∃ j : Nat, j ≤ k ∧ i = .int .i64 j ∧ b = .int .u8 (2 ^ j : Int) ∧ w' = w) (fun b i _ => k - (intOf i).toNat)
    case atStart => exact ⟨0, by omega, rfl, rfl, rfl⟩
    case round =>
    obtain ⟨j, hj, rfl, rfl, rfl⟩ := hrel
    by_cases hlt : j < k
    · have hj1 : (j : Int) < (k : Int) := by omega
      have hp : (2 : Int) ^ j * 2 ≤ 255 ∧ 0 ≤ (2 : Int) ^ j * 2 := by
        have : j = 0 ∨ j = 1 ∨ j = 2 ∨ j = 3 ∨ j = 4 ∨ j = 5 ∨ j = 6 := by omega
        rcases this with rfl | rfl | rfl | rfl | rfl | rfl | rfl <;> decide
      obtain ⟨x, hx⟩ : ∃ x : Int, (2 : Int) ^ j = x := ⟨_, rfl⟩
      have hx2 : (2 : Int) ^ (j + 1) = x * 2 := by rw [← hx]; exact Int.pow_succ 2 j
      rw [hx] at hp ⊢
      have HX := Lib.hid hx2
      have hp1 := hp.1
      have hp2 := hp.2
      clear hx hx2 hp
      go_wp2
      go_roundw
      case rel => exact ⟨j + 1, by omega, by go_num, by rw [HX.out], by first | rfl | trivial⟩
      case measure => simp [intOf]; omega
    · have hj1 : ¬ (j : Int) < (k : Int) := by omega
      obtain rfl : j = k := by omega
      obtain ⟨x, hx⟩ : ∃ x : Int, (2 : Int) ^ j = x := ⟨_, rfl⟩
      rw [hx] at HB ⊢
      clear hx
      go_wp2
      go_ret
      exact ⟨by rw [HB.out]; rfl, by first | rfl | trivial⟩
  · have hb : bitI c = 0 := if_neg h
    have HB := Lib.hid hb
    clear hb
    by_cases h0 : c < 0
    · go_enter Try.func9, Try.ntmps9
      go_wp2
      go_ret
      exact ⟨by rw [HB.out]; rfl, by first | rfl | trivial⟩
    · have h8 : 8 ≤ c := by omega
      clear h
      go_enter Try.func9, Try.ntmps9
      go_wp2
      go_ret
      exact ⟨by rw [HB.out]; rfl, by first | rfl | trivial⟩
theorem has_any (m c : Int) (w : World) : Calls Try.prog 10 #[.int .u8 m, .int .i64 c] w fun e w' => e = .returned (.bool (hasB m c)) ∧ w = w' := by
  have hb := fun w => bit_any c w
  obtain ⟨x, hx⟩ : ∃ x, bitI c = x := ⟨_, rfl⟩
  simp only [hx] at hb
  have HX := Lib.hid hx
  clear hx
  go_enter Try.func10, Try.ntmps10
  go_wp2_with (go_at_call 8; refine (hb _).mono ?_; rintro e w' ⟨rfl, rfl⟩)
  go_ret
  exact ⟨by rw [hasB, HX.out]; rfl, by first | rfl | trivial⟩
theorem rhas_any (m c : Int) (w : World) : Calls Try.prog 11 #[.int .u8 m, .int .i64 c] w fun e w' => e = .returned (.bool (hasB m c)) ∧ w = w' := by
  have hb := fun w => rbit_any c w
  by_cases h0 : 0 ≤ c
  · by_cases h7 : c ≤ 7
    · obtain ⟨x, hx⟩ : ∃ x, bitI c = x := ⟨_, rfl⟩
      simp only [hx] at hb
      have HX := Lib.hid hx
      clear hx
      go_enter Try.func11, Try.ntmps11
      go_wp2_with (go_at_call 9; refine (hb _).mono ?_; rintro e w' ⟨rfl, rfl⟩)
      go_ret
      exact ⟨by rw [hasB, HX.out]; rfl, by first | rfl | trivial⟩
    · have hs := hasB_out m c (fun h => h7 h.2)
      have HS := Lib.hid hs
      clear hs hb
      go_enter Try.func11, Try.ntmps11
      go_wp2
      go_ret
      exact ⟨by rw [HS.out]; rfl, by first | rfl | trivial⟩
  · have hs := hasB_out m c (fun h => h0 h.1)
    have HS := Lib.hid hs
    clear hs hb
    go_enter Try.func11, Try.ntmps11
    go_wp2
    go_ret
    exact ⟨by rw [HS.out]; rfl, by first | rfl | trivial⟩
end Go.Proofs.Ytmjienajfjjdhaa
