/-
  WordBack, walked.
-/
import Derived.Test.YtckkeeelgijdlaaWakes
import Derived.Test.YtckkeeelgijdlaaKitB
import Derived.Deep.QuietTactic
import Derived.BigQuiet
import Derived.WalkSmall
namespace Go.Proofs.Ytckkeeelgijdlaa
open Go.RowKit
attribute [local go_sem ↓] Go.wp_at_zero Go.wp_at_succ

def fn8 (a0 a1 a2 a3 a4 a5 a6 a7 : Int) : Nat → Int := fun i => match i with | 0 => a0 | 1 => a1 | 2 => a2 | 3 => a3 | 4 => a4 | 5 => a5 | 6 => a6 | _ => a7
theorem get_lit (a0 a1 a2 a3 a4 a5 a6 a7 n : Int) (w : World) :
    Calls Try.prog 7 #[.agg #[.int .u64 a0, .int .u64 a1, .int .u64 a2, .int .u64 a3, .int .u64 a4, .int .u64 a5, .int .u64 a6, .int .u64 a7], .int .i64 n] w fun e w' => e = .returned (.int .u64 (getW (fn8 a0 a1 a2 a3 a4 a5 a6 a7) n)) ∧ Below w.heap.size w w' := get_any (fn8 a0 a1 a2 a3 a4 a5 a6 a7) n w
theorem getW_fn8 (f : Nat → Int) (n : Int) : getW (fn8 (f 0) (f 1) (f 2) (f 3) (f 4) (f 5) (f 6) (f 7)) n = getW f n := by
  unfold getW
  split
  · rename_i h
    obtain ⟨k, rfl⟩ := Int.eq_ofNat_of_zero_le h.1
    have : k < 8 := by omega
    match k, this with
    | 0, _ | 1, _ | 2, _ | 3, _ | 4, _ | 5, _ | 6, _ | 7, _ => rfl
  · rfl
set_option maxHeartbeats 4000000 in
theorem back_law (line n : Int) (f : Nat → Int) (w : World) :
    Calls Try.prog 5 #[.int .i64 line, .int .i64 n, .agg (lnV f)] w fun e w' => e = .returned (.bool true) ∧ Below w.heap.size w w' := by
  obtain ⟨k, hk⟩ : ∃ k, line % 64 = k := ⟨_, rfl⟩
  obtain ⟨m, hm⟩ : ∃ m, n % 8 = m := ⟨_, rfl⟩
  have hk0 : 0 ≤ k := by omega
  have hk1 : k < 64 := by omega
  have hm0 : 0 ≤ m := by omega
  have hm1 : m < 8 := by omega
  have e1 : addrW k m = k * 64 + m * 8 := by rw [addrW, if_pos (by omega)]
  have e2 : atL 64 (k * 64 + m * 8) = k := by rw [atL, if_neg (by omega), if_neg (by omega)]; omega
  have e3 : atW 64 (k * 64 + m * 8) = m := by rw [atW, if_neg (by omega), if_neg (by omega)]; omega
  have e4 : atE 64 (k * 64 + m * 8) = 0 := by rw [atE, if_neg (by omega), if_neg (by omega)]
  go_enter Try.func5, Try.ntmps5
  go_wp2_with (first | (go_at_call 14; refine (mod_any _ _ (by decide) (by decide) _).mono ?_; rintro e w' ⟨rfl, rfl⟩) | (go_at_call 16; refine (addr_any _ _ _).mono ?_; rintro e w' ⟨rfl, rfl⟩) | (go_at_call 15; refine (at_any _ _ (by omega) (by omega) _).mono ?_; rintro e w' ⟨rfl, rfl⟩))
  go_wp2_with fail
  refine (put_any f m 12345 _).mono ?_
  rintro e w1 ⟨rfl, hb1⟩
  obtain ⟨hS, hc1⟩ := stay_of hb1
  have hz1 : w.heap.size < w1.heap.size := by have := hb1.size; simp at this; omega
  have F0 : Below w.heap.size w (w1.alloc (.cells (lnV (putW f m 12345)) 24)) := Below.al (Below.then (Below.al (Below.refl _ _) _) hb1) _
  have F1 : ∀ o, (w1.alloc (.cells (lnV (putW f m 12345)) 24)).cell? ⟨w.heap.size, o, none⟩ = (lnV f)[o]? := fun o => by
    rw [World.cell?_alloc_old _ _ _ (by simp; omega), hc1 _ _ (by simp)]
    exact cell_of_row _ _ _ (lnV f) 24 (0, 0) (heap_alloc_new w _)
  have F2 : ∀ o, (w1.alloc (.cells (lnV (putW f m 12345)) 24)).cell? ⟨w1.heap.size, o, none⟩ = (lnV (putW f m 12345))[o]? := fun o => cell_of_row _ _ _ _ 24 (0, 0) (heap_alloc_new w1 _)
  have F3 : w1.heap.size < (w1.alloc (.cells (lnV (putW f m 12345)) 24)).heap.size := by simp
  have G0 : ∀ j : Nat, j < 8 → (j : Int) ≠ m → getW (putW f m 12345) j = getW f j := fun j h1 h2 => by
    have : ¬ j = m.toNat := by omega
    simp [getW, putW, hm0, hm1, updL, this]
  have G1 : getW (putW f m 12345) m = 12345 := by simp [getW, putW, hm0, hm1, updL]
  generalize putW f m 12345 = g at *
  simp only [lnV] at F0 F1 F2 F3
  go_wp2_with fail
  generalize w1.alloc _ = W2 at *
  generalize w1.heap.size = B1 at *
  have H0 := Lib.hid hk; have H1 := Lib.hid hm; have H2 := Lib.hid F0
  have hz2 : w.heap.size < W2.heap.size := by omega
  clear hk hm F0 e1 e2 e3 e4 hb1 hS hc1
  go_loopw [13] (fun i w' => ∃ j : Nat, j ≤ 8 ∧ i = .int .i64 j ∧ Below W2.heap.size W2 w' ∧ (∀ b o, b < W2.heap.size → w'.cell? ⟨b, o, none⟩ = W2.cell? ⟨b, o, none⟩)) (fun i _ => 8 - (intOf i).toNat)
  case atStart => exact ⟨0, by omega, rfl, Below.refl _ _, fun _ _ _ => rfl⟩
  case round =>
    obtain ⟨j, hj, rfl, hB, hC⟩ := hrel
    by_cases hlt : j < 8
    · by_cases hne : (j : Int) = m
      · subst hne
        go_wp2
        go_quiet (fail)
        go_wp2
        go_roundw
        case rel => exact ⟨j + 1, by omega, by go_num, stay_of (below_drewN hB _)⟩
        case measure => simp [intOf]; omega
      · have E : getW (fn8 (g 0) (g 1) (g 2) (g 3) (g 4) (g 5) (g 6) (g 7)) j = getW (fn8 (f 0) (f 1) (f 2) (f 3) (f 4) (f 5) (f 6) (f 7)) j := by rw [getW_fn8, getW_fn8]; exact G0 j hlt hne
        have hne' : ((j : Int) != m) = true := by simpa using hne
        clear G0
        go_wp2
        go_region_held3 (fun w' => Below W2.heap.size W2 w' ∧ (∀ b o, b < W2.heap.size → w'.cell? ⟨b, o, none⟩ = W2.cell? ⟨b, o, none⟩)) (first | exact stay_of (Below.drew hB) | exact stay_step (Nat.le_refl _) (by assumption) (by assumption))
          ((go_at_call 7; refine (get_lit _ _ _ _ _ _ _ _ _ _).mono ?_; rintro e w' ⟨rfl, hb⟩))
        go_wp2
        go_roundw
        case rel => exact ⟨j + 1, by omega, by go_num, by assumption⟩
        case measure => simp [intOf]; omega
    · go_wp2_with (first | (go_at_call 7; refine (get_any g m _).mono ?_; rintro e w' ⟨rfl, hb⟩) | (go_at_call 11; refine (wakes_any _).mono ?_; rintro e w' ⟨rfl, hb'⟩))
      go_ret
      exact ⟨rfl, H2.out.trans ((Below.then (Below.then hB hb) hb').mono (by have := H2.out.size; omega))⟩
end Go.Proofs.Ytckkeeelgijdlaa
