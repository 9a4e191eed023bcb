/-
  'wakes' answers true.
-/
import Derived.Test.YtjkckcmogpipmaaAll
namespace Go.Proofs.Ytjkckcmogpipmaa
open Go.RowKit
attribute [local go_sem ↓] Go.wp_at_zero Go.wp_at_succ

theorem QAt.step {q base n : Nat} {v : Value} {xs : List Value} {w w' : World} (hQ : QAt w q base v n xs) (ho : Only (fun k => k = q ∨ v.ownBlock = some k) w w') (hq : base ≤ q) : Below base w w' :=
  ho.below hQ.low (fun k hk => by rcases hk with rfl | h; exact hq; exact (hQ.own.lt k h).1)
theorem QAt.stepq {q base n : Nat} {v : Value} {xs : List Value} {w w' : World} (hQ : QAt w q base v n xs) (ho : Only (fun k => k = q) w w') (hq : base ≤ q) : Below base w w' :=
  ho.below hQ.low (fun k hk => by subst hk; exact hq)
theorem QAt.new (w : World) (T : TypeId) (base : Nat) (hb : base ≤ w.heap.size) : QAt (w.alloc (.cells #[.slice none 0 0] T)) w.heap.size base (.slice none 0 0) 0 [] :=
  ⟨by rw [cell_of_row _ _ _ _ T (0, 0) (heap_alloc_new w _)]; rfl, frozen_of_row _ _ _ _ T (heap_alloc_new w _), Own.nil _ _ _ _, by simp [Value.ownBlock], by simp, by simp; omega⟩

set_option maxRecDepth 100000 in
set_option maxHeartbeats 8000000 in
theorem wakes_any (w : World) : Calls Try.prog 16 #[] w fun e w' => e = .returned (.bool true) ∧ Below w.heap.size w w' := by
  have a1 : asksM 5 = true := by decide
  have a2 : answersM 7 = true := by decide
  have a3 : tellsM 14 = true := by decide
  have hQ0 := QAt.new w 33 w.heap.size (Nat.le_refl _)
  have HB0 := Lib.hid (Below.al (Below.refl w.heap.size w) (.cells #[.slice none 0 0] 33))
  have HQ0 := Lib.hid hQ0
  clear hQ0
  go_enter Try.func16, Try.ntmps16
  go_wp2_with fail
  refine (push_ok w.heap.size w.heap.size (.slice none 0 0) 0 [] _ _ _ _ _ _ _ _ _ _ _ _  _ HQ0.out (by decide) (by omega)).mono ?_
  rintro e w1 ⟨rfl, v1, hQ1, ho1, _⟩
  have HB1 := Lib.hid (HB0.out.trans (HQ0.out.step ho1 (Nat.le_refl _)))
  have HQ1 := Lib.hid hQ1
  clear hQ1 ho1
  go_wp2_with fail
  refine (push_form w.heap.size _ _ _ _ _ _ _ _ _ _ _ _  _ (by decide)).mono ?_
  rintro e w2 ⟨rfl, hb2⟩
  have HB2 := Lib.hid (Below.then HB1.out hb2)
  have HQ2 := Lib.hid (HQ1.out.below hb2)
  clear hb2
  go_wp2_with fail
  refine (push_ok w.heap.size w.heap.size v1 1 _ _ _ _ _ _ _ _ _ _ _ _ _  _ HQ2.out (by decide) (by omega)).mono ?_
  rintro e w3 ⟨rfl, v3, hQ3, ho3, _⟩
  have HB3 := Lib.hid (HB2.out.trans (HQ2.out.step ho3 (Nat.le_refl _)))
  have HQ3 := Lib.hid hQ3
  clear hQ3 ho3
  go_wp2_with fail
  refine (pop_some w.heap.size w.heap.size v3 1 _ _ _ _ _ _ _ _ _ _ _ _ _  _ HQ3.out).mono ?_
  rintro e w4 ⟨rfl, v4, hQ4, ho4, _⟩
  have HB4 := Lib.hid (HB3.out.trans (HQ3.out.stepq ho4 (Nat.le_refl _)))
  have HQ4 := Lib.hid hQ4
  clear hQ4 ho4
  go_wp2_with fail
  refine (head_some w.heap.size w.heap.size v4 0 _ _ _ _ _ _ _ _ _ _ _ _ _  _ (HQ4.out.al _)).mono ?_
  rintro e w5 ⟨rfl, hb5⟩
  have HQ5 := Lib.hid ((HQ4.out.al _).below hb5)
  have HB5 := Lib.hid (Below.then (Below.al HB4.out _) hb5)
  have hc5 := fun o => hb5.cell (p := ⟨w4.heap.size, o, none⟩) (by simp)
  have hz5 : w4.heap.size < w5.heap.size := by have := hb5.size; simp at this; omega
  clear hb5
  go_wp2_with (first | (go_at_call 18; refine (len_any w.heap.size w.heap.size v4 1 _ _ (HQ5.out.al _)).mono ?_; rintro e w' ⟨rfl, rfl⟩) | (go_at_call 10; refine (asks_any _ _).mono ?_; rintro e w' ⟨rfl, rfl⟩) | (go_at_call 12; refine (answers_any _ _).mono ?_; rintro e w' ⟨rfl, rfl⟩) | (go_at_call 14; refine (tells_any _ _).mono ?_; rintro e w' ⟨rfl, rfl⟩))
  go_ret
  exact ⟨rfl, Below.al HB5.out _⟩
end Go.Proofs.Ytjkckcmogpipmaa
