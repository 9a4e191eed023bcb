/-
  WordApart, walked.
-/
import Derived.Test.YtckkeeelgijdlaaWakes
import Derived.Test.YtckkeeelgijdlaaKitB
import Derived.Deep.QuietTactic
import Derived.BigQuiet
import Derived.WalkSmall
namespace Go.Proofs.Ytckkeeelgijdlaa
open Go.RowKit

theorem apart_at (a b : Int) (h0 : 0 ≤ a) (h1 : a < 64) (h2 : 0 ≤ b) (h3 : b < 8) : atE (a + 1) (a * 64 + b * 8) = 0 ∧ atE (a + 1) (a * 64 + b * 8 + 1) = 12 ∧ (0 < a → atE a (a * 64 + b * 8) = 12) := by
  refine ⟨?_, ?_, fun h => ?_⟩
  · rw [atE, if_neg (by omega), if_neg (by omega)]
  · rw [atE, if_neg (by omega), if_pos (by omega)]
  · rw [atE, if_neg (by omega), if_pos (by omega)]

set_option maxHeartbeats 4000000 in
theorem apart_law (n0 n1 n2 n3 : Int) (w : World) :
    Calls Try.prog 6 #[.agg #[.int .i64 n0, .int .i64 n1, .int .i64 n2, .int .i64 n3]] w fun e w' => e = .returned (.bool true) ∧ Below w.heap.size w w' := by
  obtain ⟨a, ha⟩ : ∃ k, n0 % 64 = k := ⟨_, rfl⟩
  obtain ⟨b, hb⟩ : ∃ k, n1 % 8 = k := ⟨_, rfl⟩
  obtain ⟨c, hc⟩ : ∃ k, n2 % 64 = k := ⟨_, rfl⟩
  obtain ⟨d, hd⟩ : ∃ k, n3 % 8 = k := ⟨_, rfl⟩
  have a0 : 0 ≤ a := by omega
  have a1 : a < 64 := by omega
  have b0 : 0 ≤ b := by omega
  have b1 : b < 8 := by omega
  have c0 : 0 ≤ c := by omega
  have c1 : c < 64 := by omega
  have d0 : 0 ≤ d := by omega
  have d1 : d < 8 := by omega
  have e1 : addrW a b = a * 64 + b * 8 := by rw [addrW, if_pos (by omega)]
  have e2 : addrW c d = c * 64 + d * 8 := by rw [addrW, if_pos (by omega)]
  obtain ⟨p1, p2, p3⟩ := apart_at a b a0 a1 b0 b1
  obtain ⟨x, hx⟩ : ∃ x, a * 64 + b * 8 = x := ⟨_, rfl⟩
  obtain ⟨y, hy⟩ : ∃ y, c * 64 + d * 8 = y := ⟨_, rfl⟩
  have x0 : 0 ≤ x := by omega
  have x1 : x < 4096 := by omega
  have f1 : (x == y) = ((a == c) && (b == d)) := by
    rw [Bool.eq_iff_iff]; simp; omega
  have f2 : a < c → x < y := by omega
  rw [hx] at p1 p2 p3 e1
  rw [hy] at e2
  clear hx hy
  go_enter Try.func6, Try.ntmps6
  go_wp2_with fail
  go_region_held3 (fun w' => Below (w.heap.size + 1) (w.alloc (.cells #[.int .i64 n0, .int .i64 n1, .int .i64 n2, .int .i64 n3] 38)) w' ∧ (∀ b' o, b' < w.heap.size + 1 → w'.cell? ⟨b', o, none⟩ = (w.alloc (.cells #[.int .i64 n0, .int .i64 n1, .int .i64 n2, .int .i64 n3] 38)).cell? ⟨b', o, none⟩)) (first | exact stay_drew)
    ((go_at_call 14; refine (mod_any _ _ (by decide) (by decide) _).mono ?_; rintro e w' ⟨rfl, rfl⟩))
  go_wp2_with fail
  go_region_held3 (fun w' => Below (w.heap.size + 1) (w.alloc (.cells #[.int .i64 n0, .int .i64 n1, .int .i64 n2, .int .i64 n3] 38)) w' ∧ (∀ b' o, b' < w.heap.size + 1 → w'.cell? ⟨b', o, none⟩ = (w.alloc (.cells #[.int .i64 n0, .int .i64 n1, .int .i64 n2, .int .i64 n3] 38)).cell? ⟨b', o, none⟩)) (first | exact stay_of (Below.drew (Below.drew (Below.refl _ _))))
    ((go_at_call 14; refine (mod_any _ _ (by decide) (by decide) _).mono ?_; rintro e w' ⟨rfl, rfl⟩))
  have A0 := Lib.hid ha; have A1 := Lib.hid hb; have A2 := Lib.hid hc; have A3 := Lib.hid hd
  clear ha hb hc hd
  by_cases z : a ≤ 0
  · have z' : (a == 0) = true := by simp; omega
    clear p3
    rcases Int.lt_trichotomy a c with g | g | g
    · have q : (a == c) = false := by simp; omega
      have g' := f2 g
      clear f2
      rw [q] at f1
      simp only [Bool.false_and] at f1
      go_wp2_with (first | (go_at_call 16; refine (addr_any _ _ _).mono ?_; rintro e w' ⟨rfl, rfl⟩) | (go_at_call 15; refine (at_any _ _ (by omega) (by omega) _).mono ?_; rintro e w' ⟨rfl, rfl⟩) | (go_at_call 11; refine (wakes_any _).mono ?_; rintro e w' ⟨rfl, hb'⟩))
      go_ret
      exact ⟨rfl, Below.then (Below.drew (Below.drew (Below.al (Below.refl _ _) _))) hb'⟩
    · have q : (a == c) = true := by simp; omega
      have g' : c ≤ a := by omega
      clear f2
      clear g
      by_cases u : b = d
      · have r : (b == d) = true := by simpa using u
        rw [q, r] at f1
        clear u
        go_wp2_with (first | (go_at_call 16; refine (addr_any _ _ _).mono ?_; rintro e w' ⟨rfl, rfl⟩) | (go_at_call 15; refine (at_any _ _ (by omega) (by omega) _).mono ?_; rintro e w' ⟨rfl, rfl⟩) | (go_at_call 11; refine (wakes_any _).mono ?_; rintro e w' ⟨rfl, hb'⟩))
        go_ret
        exact ⟨rfl, Below.then (Below.drew (Below.drew (Below.al (Below.refl _ _) _))) hb'⟩
      · have r : (b == d) = false := by simpa using u
        rw [q, r] at f1
        clear u
        go_wp2_with (first | (go_at_call 16; refine (addr_any _ _ _).mono ?_; rintro e w' ⟨rfl, rfl⟩) | (go_at_call 15; refine (at_any _ _ (by omega) (by omega) _).mono ?_; rintro e w' ⟨rfl, rfl⟩) | (go_at_call 11; refine (wakes_any _).mono ?_; rintro e w' ⟨rfl, hb'⟩))
        go_ret
        exact ⟨rfl, Below.then (Below.drew (Below.drew (Below.al (Below.refl _ _) _))) hb'⟩
    · omega
  · have z' : (a == 0) = false := by simp; omega
    have p4 := p3 (by omega)
    clear p3
    rcases Int.lt_trichotomy a c with g | g | g
    · have q : (a == c) = false := by simp; omega
      have g' := f2 g
      clear f2
      rw [q] at f1
      simp only [Bool.false_and] at f1
      go_wp2_with (first | (go_at_call 16; refine (addr_any _ _ _).mono ?_; rintro e w' ⟨rfl, rfl⟩) | (go_at_call 15; refine (at_any _ _ (by omega) (by omega) _).mono ?_; rintro e w' ⟨rfl, rfl⟩) | (go_at_call 11; refine (wakes_any _).mono ?_; rintro e w' ⟨rfl, hb'⟩))
      go_ret
      exact ⟨rfl, Below.then (Below.drew (Below.drew (Below.al (Below.refl _ _) _))) hb'⟩
    · have q : (a == c) = true := by simp; omega
      have g' : c ≤ a := by omega
      clear f2
      clear g
      by_cases u : b = d
      · have r : (b == d) = true := by simpa using u
        rw [q, r] at f1
        clear u
        go_wp2_with (first | (go_at_call 16; refine (addr_any _ _ _).mono ?_; rintro e w' ⟨rfl, rfl⟩) | (go_at_call 15; refine (at_any _ _ (by omega) (by omega) _).mono ?_; rintro e w' ⟨rfl, rfl⟩) | (go_at_call 11; refine (wakes_any _).mono ?_; rintro e w' ⟨rfl, hb'⟩))
        go_ret
        exact ⟨rfl, Below.then (Below.drew (Below.drew (Below.al (Below.refl _ _) _))) hb'⟩
      · have r : (b == d) = false := by simpa using u
        rw [q, r] at f1
        clear u
        go_wp2_with (first | (go_at_call 16; refine (addr_any _ _ _).mono ?_; rintro e w' ⟨rfl, rfl⟩) | (go_at_call 15; refine (at_any _ _ (by omega) (by omega) _).mono ?_; rintro e w' ⟨rfl, rfl⟩) | (go_at_call 11; refine (wakes_any _).mono ?_; rintro e w' ⟨rfl, hb'⟩))
        go_ret
        exact ⟨rfl, Below.then (Below.drew (Below.drew (Below.al (Below.refl _ _) _))) hb'⟩
    · have q : (a == c) = false := by simp; omega
      clear f2
      rw [q] at f1
      simp only [Bool.false_and] at f1
      go_wp2_with (first | (go_at_call 16; refine (addr_any _ _ _).mono ?_; rintro e w' ⟨rfl, rfl⟩) | (go_at_call 15; refine (at_any _ _ (by omega) (by omega) _).mono ?_; rintro e w' ⟨rfl, rfl⟩) | (go_at_call 11; refine (wakes_any _).mono ?_; rintro e w' ⟨rfl, hb'⟩))
      go_ret
      exact ⟨rfl, Below.then (Below.drew (Below.drew (Below.al (Below.refl _ _) _))) hb'⟩
end Go.Proofs.Ytckkeeelgijdlaa
