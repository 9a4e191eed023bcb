/-
  MsgFull, walked.
-/
import Derived.Test.YtjkckcmogpipmaaForms
import Derived.Test.YtjkckcmogpipmaaWakes
namespace Go.Proofs.Ytjkckcmogpipmaa
open Go.RowKit
attribute [local go_sem ↓] Go.wp_at_zero Go.wp_at_succ

def fullM (n : Int) : M := ⟨2, n, false, false, 0, 0, 0, 0, 0, 0, 0, 0⟩
theorem rep_push (m : M) (j : Nat) : encMs (List.replicate j m) ++ encM m = encMs (List.replicate (j + 1) m) := by
  rw [List.replicate_succ', encMs_app]
  rfl
theorem rep_pop (m : M) (j : Nat) : encMs (List.replicate (j + 1) m) = encM m ++ encMs (List.replicate j m) := rfl

set_option maxRecDepth 100000 in
set_option maxHeartbeats 8000000 in
theorem full_law (n : Int) (h0 : 0 ≤ n) (h1 : n ≤ 255) (w : World) :
    Calls Try.prog 4 #[.int .u8 n] w fun e w' => e = .returned (.bool true) ∧ Below w.heap.size w w' := by
  obtain ⟨r, hr⟩ : ∃ r, n % 64 = r := ⟨_, rfl⟩
  have hr0 : 0 ≤ r := by omega
  have hr1 : r < 64 := by omega
  have hg : goodM 2 r false false (zM 0 0 0 0 0 0 0 0) = true := by simp [goodM, zM]; omega
  have HG := Lib.hid hg
  clear hg
  go_enter Try.func4, Try.ntmps4
  go_wp2_with fail
  have F1 : ∀ o, ((w.alloc (.cells #[.slice none 0 0] 33)).alloc (.cells #[.int .i64 2, .int .i64 r, .bool false, .bool false, .int .u64 0, .int .u64 0, .int .u64 0, .int .u64 0, .int .u64 0, .int .u64 0, .int .u64 0, .int .u64 0] 26)).cell? ⟨w.heap.size + 1, o, none⟩ = (encM (fullM r))[o]? := fun o => by
    rw [show w.heap.size + 1 = (w.alloc (.cells #[.slice none 0 0] 33)).heap.size by simp, cell_of_row _ _ _ _ 26 (0, 0) (heap_alloc_new _ _)]
    simp [encM, fullM]
  have F2 : QAt ((w.alloc (.cells #[.slice none 0 0] 33)).alloc (.cells #[.int .i64 2, .int .i64 r, .bool false, .bool false, .int .u64 0, .int .u64 0, .int .u64 0, .int .u64 0, .int .u64 0, .int .u64 0, .int .u64 0, .int .u64 0] 26)) w.heap.size (w.heap.size + 2) (.slice none 0 0) 0 (encMs (List.replicate 0 (fullM r))) := by
    have h := (QAt.new w 33 w.heap.size (Nat.le_refl _)).al (.cells #[.int .i64 2, .int .i64 r, .bool false, .bool false, .int .u64 0, .int .u64 0, .int .u64 0, .int .u64 0, .int .u64 0, .int .u64 0, .int .u64 0, .int .u64 0] 26)
    exact ⟨h.cell, h.free, Own.nil _ _ _ _, h.ne_, h.lt, by simp⟩
  have F3 : Below w.heap.size w ((w.alloc (.cells #[.slice none 0 0] 33)).alloc (.cells #[.int .i64 2, .int .i64 r, .bool false, .bool false, .int .u64 0, .int .u64 0, .int .u64 0, .int .u64 0, .int .u64 0, .int .u64 0, .int .u64 0, .int .u64 0] 26)) := Below.al (Below.al (Below.refl _ _) _) _
  have H1 := Lib.hid F1; have H2 := Lib.hid F2; have H3 := Lib.hid F3
  have HR := Lib.hid hr
  clear F1 F2 F3 hr
  go_loopw [5] (fun i w' => ∃ (j : Nat) (v : Value), j ≤ 1000 ∧ i = .int .i64 j ∧ QAt w' w.heap.size (w.heap.size + 2) v j (encMs (List.replicate j (fullM r))) ∧ (∀ o, w'.cell? ⟨w.heap.size + 1, o, none⟩ = (encM (fullM r))[o]?) ∧ Below w.heap.size w w') (fun i _ => 1000 - (intOf i).toNat)
  case atStart => exact ⟨0, _, by omega, rfl, H2.out, H1.out, H3.out⟩
  case round =>
    obtain ⟨j, v, hj, rfl, hQ, hM, hB⟩ := hrel
    have hpush : ∀ (w1 w2 : World) (v1 : Value) (k : Nat) (xs : List Value), QAt w1 w.heap.size (w.heap.size + 2) v1 k xs → Only (fun k => k = w.heap.size ∨ v1.ownBlock = some k) w1 w2 → (∀ o, w1.cell? ⟨w.heap.size + 1, o, none⟩ = (encM (fullM r))[o]?) → Below w.heap.size w w1 → w.heap.size + 1 < w1.heap.size →
        (∀ o, w2.cell? ⟨w.heap.size + 1, o, none⟩ = (encM (fullM r))[o]?) ∧ Below w.heap.size w w2 := fun w1 w2 v1 k xs hq ho hm hb hl =>
      ⟨fun o => (ho.cell (p := ⟨w.heap.size + 1, o, none⟩) hl (by
        rintro (h | h)
        · simp at h
        · have := (hq.own.lt _ h).1
          simp at this)).trans (hm o),
       hb.trans (ho.below hb.size (fun k hk => by rcases hk with rfl | h; exact Nat.le_refl _; have := (hq.own.lt _ h).1; omega))⟩
    have hlt1 : w.heap.size + 1 < wr.heap.size := by have := hQ.low; omega
    have m0 := hM 0
    have m1 := hM 1
    have m2 := hM 2
    have m3 := hM 3
    have m4 := hM 4
    have m5 := hM 5
    have m6 := hM 6
    have m7 := hM 7
    have m8 := hM 8
    have m9 := hM 9
    have m10 := hM 10
    have m11 := hM 11
    simp only [encM, fullM, List.getElem?_cons_zero, List.getElem?_cons_succ] at m0 m1 m2 m3 m4 m5 m6 m7 m8 m9 m10 m11
    have HQ := Lib.hid hQ; have HM := Lib.hid hM; have HB := Lib.hid hB; have HP := Lib.hid hpush
    clear hQ hM hB hpush
    by_cases hlt : j < 1000
    · have hlt' : (j : Int) < 1000 := by omega
      go_wp2_with fail
      refine (push_ok w.heap.size (w.heap.size + 2) v j _ _ _ _ _ _ _ _ _ _ _ _ _  _ HQ.out HG.out hlt).mono ?_
      rintro e w1 ⟨rfl, v1, hQ1, ho1, _⟩
      have hp := HP.out _ _ _ _ _ HQ.out ho1 HM.out HB.out hlt1
      have hQ2 : QAt w1 w.heap.size (w.heap.size + 2) v1 (j + 1) (encMs (List.replicate (j + 1) (fullM r))) := by rw [← rep_push]; exact hQ1
      have HP1 := Lib.hid hp; have HQ1 := Lib.hid hQ2
      clear hp hQ1 ho1 hQ2
      go_wp2
      go_roundw
      case rel => exact ⟨j + 1, v1, by omega, by go_num, HQ1.out, HP1.out.1, HP1.out.2⟩
      case measure => simp [intOf]; omega
    · have hj' : j = 1000 := by omega
      subst hj'
      go_wp2_with fail
      refine (push_full w.heap.size (w.heap.size + 2) v 1000 _ _ _ _ _ _ _ _ _ _ _ _ _  _ HQ.out HG.out (Nat.le_refl _)).mono ?_
      rintro e w1 ⟨rfl, hb1⟩
      have HQ1 := Lib.hid (HQ.out.below hb1)
      have HM1 := Lib.hid (fun o => (hb1.cell (p := ⟨w.heap.size + 1, o, none⟩) hlt1).trans (HM.out o))
      have HB1 := Lib.hid (Below.then HB.out hb1)
      have hz1 := hb1.size
      clear hb1
      go_wp2_with fail
      refine (len_any w.heap.size (w.heap.size + 2) v 1000 _ _ HQ1.out).mono ?_
      rintro e w1' ⟨rfl, rfl⟩
      go_wp2_with fail
      refine (pop_some w.heap.size (w.heap.size + 2) v 999 (encMs (List.replicate 999 (fullM r))) _ _ _ _ _ _ _ _ _ _ _ _  _ HQ1.out).mono ?_
      rintro e w2 ⟨rfl, v2, hQ2, ho2, _⟩
      have hs2 : w.heap.size + 1 < w1.heap.size := Nat.lt_of_lt_of_le hlt1 hz1
      have hM2 : ∀ o, w2.cell? ⟨w.heap.size + 1, o, none⟩ = (encM (fullM r))[o]? := fun o => (ho2.cell (p := ⟨w.heap.size + 1, o, none⟩) hs2 (by simp)).trans (HM1.out o)
      have hB2 : Below w.heap.size w w2 := HB1.out.trans (ho2.below HB1.out.size (fun k hk => by omega))
      have hz2 := ho2.size
      have hQ3 := hQ2.al (.cells #[.int .i64 2, .int .i64 r, .bool false, .bool false, .int .u64 0, .int .u64 0, .int .u64 0, .int .u64 0, .int .u64 0, .int .u64 0, .int .u64 0, .int .u64 0] 26)
      have n0 := hM2 0
      have n1 := hM2 1
      have n2 := hM2 2
      have n3 := hM2 3
      have n4 := hM2 4
      have n5 := hM2 5
      have n6 := hM2 6
      have n7 := hM2 7
      have n8 := hM2 8
      have n9 := hM2 9
      have n10 := hM2 10
      have n11 := hM2 11
      simp only [encM, fullM, List.getElem?_cons_zero, List.getElem?_cons_succ] at n0 n1 n2 n3 n4 n5 n6 n7 n8 n9 n10 n11
      have hs3 : w.heap.size + 1 < w2.heap.size := Nat.lt_of_lt_of_le hs2 hz2
      have HQ3 := Lib.hid hQ3; have HB2 := Lib.hid hB2
      clear hQ2 ho2 hM2 hB2 hQ3
      simp only [fullM]
      go_wp2_with fail
      refine (push_ok w.heap.size (w.heap.size + 2) v2 999 _ _ _ _ _ _ _ _ _ _ _ _ _  _ HQ3.out HG.out (by omega)).mono ?_
      rintro e w3 ⟨rfl, v3, hQ4, ho4, _⟩
      have HB4 := Lib.hid ((Below.al HB2.out _).trans (ho4.below (Nat.le_trans HB2.out.size (by simp)) (fun k hk => by rcases hk with rfl | h; exact Nat.le_refl _; have := (HQ3.out.own.lt _ h).1; omega)))
      have HQ4 := Lib.hid hQ4
      clear hQ4 ho4
      go_wp2_with fail
      refine (len_any w.heap.size (w.heap.size + 2) v3 1000 _ _ HQ4.out).mono ?_
      rintro e w3' ⟨rfl, rfl⟩
      go_wp2_with fail
      refine (wakes_any _).mono ?_
      rintro e w5 ⟨rfl, hb5⟩
      have HB5 := Lib.hid hb5
      clear hb5
      go_wp2
      go_ret
      exact ⟨rfl, Below.then HB4.out HB5.out⟩
section
variable {H : Type} {enc : TypeId × Value → H}
theorem full_walk {base : Nat} (W : World) (v0 : Value) (a0 : Arg enc Try.prog W base 5 v0) :
    Calls Try.prog 4 #[v0] W fun e w' => e = .returned (.bool true) ∧ Below W.heap.size W w' := by
  obtain ⟨n, rfl, h⟩ := a0.int Try.underlying5
  have := wf_u8 h
  exact full_law n this.1 this.2 W
end
end Go.Proofs.Ytjkckcmogpipmaa
