/-
  The memory of lines: Restore, New; the reference's New.
-/
import Derived.Test.YtkkeilbaieflmaaNvm2
namespace Go.Proofs.Ytkkeilbaieflmaa
open Go.RowKit
attribute [local go_sem ↓] Go.wp_at_zero Go.wp_at_succ

theorem DAt.lay_all {w : World} {d g base : Nat} {ls : List Ln} {vol : Nat} (h : DAt w d g base ls vol) (xs : List Ln) (hx : xs.length = ls.length) : DAt (w.setCells g 0 (encLns xs)) d g base xs vol := by
  have := h.lay xs (by omega)
  rwa [hx, List.drop_length, List.append_nil] at this
set_option maxRecDepth 100000 in
set_option maxHeartbeats 4000000 in
theorem restore_any (d g base : Nat) (ls xs : List Ln) (vol : Nat) (v : Value) (hx : xs.length = ls.length) (h2 : 0 < ls.length) (w : World) (h : DAt w d g base ls vol) (hr : Rds w 8 v xs.length (encLns xs)) :
    Calls Try.prog 17 #[.pointer (some ⟨d, 0, none⟩), v] w fun e w' => e = .returned (.int .i64 0) ∧ DAt w' d g base xs vol ∧ Only (fun k => k = g) w w' := by
  obtain ⟨i0, hi0, hz0, hz1, hz2⟩ := info_parts info34
  obtain ⟨_, ad, cap, rfl, r2, r3, r4, r5⟩ := hr
  obtain ⟨b, o, rfl, hb, hc⟩ := r5 (by omega)
  rw [hx] at r2 ⊢
  have hadd : ∀ j, (⟨b, o, none⟩ : Addr).add j = ⟨b, o + j, none⟩ := fun j => by unfold Addr.add; split <;> simp_all
  have hcp : ∀ ty, (Builtin.copy_ #[35, 35] ty #[.slice (some ⟨g, 0, none⟩) ls.length ls.length, .slice (some ⟨b, o, none⟩) ls.length cap]).run Try.prog w = .ok (goInt ls.length) (w.setCells g 0 (encLns xs)) := fun ty =>
    run_copy_row w 35 35 ty 34 i0 8 g 0 ls.length ls.length ⟨b, o, none⟩ cap (encLns xs) Try.underlying35 hi0 hz1 (by rw [encLns_len, hx]) (fun j u hj => by rw [hadd]; exact hc j u hj) (fun j hj => by
      rw [h.gcell (0 + j), List.getElem?_eq_getElem (by rw [encLns_len] at hj ⊢; omega)]; rfl) (fun j hj => h.gfree _) (encLns_one _)
  have HD := Lib.hid (h.lay_all xs hx); have HO := Lib.hid (Only.setCells g (encLns xs) 0 w)
  have c0 := h.c0
  have n1 := h.n1
  clear h hc hx
  go_enter Try.func17, Try.ntmps17
  go_wp2
  go_ret
  exact ⟨rfl, HD.out, HO.out⟩
theorem restore_bad (d g base : Nat) (ls : List Ln) (vol : Nat) (a : Option Addr) (n cap : Nat) (hx : ¬ n = ls.length) (w : World) (h : DAt w d g base ls vol) :
    Calls Try.prog 17 #[.pointer (some ⟨d, 0, none⟩), .slice a n cap] w fun e w' => e = .returned (.int .i64 1) ∧ w = w' := by
  have c0 := h.c0
  have n1 := h.n1
  have hx' : ¬ (n : Int) = (ls.length : Int) := by omega
  clear h hx
  go_enter Try.func17, Try.ntmps17
  go_wp2
  go_ret
  exact ⟨rfl, rfl⟩
theorem restore_nil (a : Option Addr) (n cap : Nat) (w : World) :
    Calls Try.prog 17 #[.pointer none, .slice a n cap] w fun e w' => e = .returned (.int .i64 1) ∧ w = w' := by
  go_enter Try.func17, Try.ntmps17
  go_wp2
  go_ret
  exact ⟨rfl, rfl⟩
/-- What New takes. -/
def okN (a b : Int) : Prop := 2 ≤ a ∧ a ≤ 64 ∧ 1 ≤ b ∧ b < a
theorem DAt.made (w : World) (n m : Nat) (h64 : n ≤ 64) (hm : m ≤ n) : DAt ((w.alloc (.cells (encLns (List.replicate n Ln.zero)).toArray 34)).alloc (.cells #[.slice (some ⟨w.heap.size, 0, none⟩) n n, .int .i64 m, .int .i64 0, .int .i64 0] 60)) (w.heap.size + 1) w.heap.size w.heap.size (List.replicate n Ln.zero) m := by
  have hd : ((w.alloc (.cells (encLns (List.replicate n Ln.zero)).toArray 34)).alloc (.cells #[.slice (some ⟨w.heap.size, 0, none⟩) n n, .int .i64 m, .int .i64 0, .int .i64 0] 60)).heap[w.heap.size + 1]? = some (.cells #[.slice (some ⟨w.heap.size, 0, none⟩) n n, .int .i64 m, .int .i64 0, .int .i64 0] 60 (0, 0)) := by
    have := heap_alloc_new (w.alloc (.cells (encLns (List.replicate n Ln.zero)).toArray 34)) (.cells #[.slice (some ⟨w.heap.size, 0, none⟩) n n, .int .i64 m, .int .i64 0, .int .i64 0] 60)
    simpa using this
  have hg : ((w.alloc (.cells (encLns (List.replicate n Ln.zero)).toArray 34)).alloc (.cells #[.slice (some ⟨w.heap.size, 0, none⟩) n n, .int .i64 m, .int .i64 0, .int .i64 0] 60)).heap[w.heap.size]? = some (.cells (encLns (List.replicate n Ln.zero)).toArray 34 (0, 0)) := by
    have hb : Below (w.alloc (.cells (encLns (List.replicate n Ln.zero)).toArray 34)).heap.size _ _ := Below.al (Below.refl _ (w.alloc (.cells (encLns (List.replicate n Ln.zero)).toArray 34))) (.cells #[.slice (some ⟨w.heap.size, 0, none⟩) n n, .int .i64 m, .int .i64 0, .int .i64 0] 60)
    rw [hb.block w.heap.size (by simp)]
    exact heap_alloc_new _ _
  have hsz : w.heap.size + 1 < ((w.alloc (.cells (encLns (List.replicate n Ln.zero)).toArray 34)).alloc (.cells #[.slice (some ⟨w.heap.size, 0, none⟩) n n, .int .i64 m, .int .i64 0, .int .i64 0] 60)).heap.size := by simp
  generalize ((w.alloc (.cells (encLns (List.replicate n Ln.zero)).toArray 34)).alloc (.cells #[.slice (some ⟨w.heap.size, 0, none⟩) n n, .int .i64 m, .int .i64 0, .int .i64 0] 60)) = w2 at hd hg hsz ⊢
  have hc := fun o => cell_of_row w2 (w.heap.size + 1) o _ 60 (0, 0) hd
  exact ⟨by rw [hc, List.length_replicate]; rfl, by rw [hc]; rfl, ⟨0, by rw [hc]; rfl⟩, ⟨0, by rw [hc]; rfl⟩, fun o => frozen_of_row w2 _ o _ 60 hd, hg, by omega, hsz, by omega, Nat.le_refl _, by rw [List.length_replicate]; exact hm, by rw [List.length_replicate]; exact h64⟩
set_option maxHeartbeats 4000000 in
theorem new_any (n m : Nat) (h2 : 2 ≤ n) (h64 : n ≤ 64) (hm : 1 ≤ m) (hmn : m < n) (w : World) :
    Calls Try.prog 9 #[.int .i64 n, .int .i64 m] w fun e w' => ∃ d g, e = .returned (.tuple #[.pointer (some ⟨d, 0, none⟩), .int .i64 0]) ∧ DAt w' d g w.heap.size (List.replicate n Ln.zero) m ∧ Below w.heap.size w w' := by
  obtain ⟨i0, hi0, hz0, hz1, hz2⟩ := info_parts info34
  have hmk : ∀ w, (Instr.makeSlice 35 (.int .i64 n) (.int .i64 n)).run Try.prog w = .ok (.slice (some ⟨w.heap.size, 0, none⟩) n n) (w.alloc (.cells (encLns (List.replicate n Ln.zero)).toArray 34)) := fun w => by
    have := run_make (P := Try.prog) w 35 34 i0 _ Try.underlying35 hi0 hz0 .i64 .i64 n n (by omega) (Int.le_refl _) (by rw [hz2]; omega) (by omega)
    rw [this, hz1, Int.toNat_natCast]
    show Result.ok _ (w.alloc (.cells (madeCells #[.int .u64 0, .int .u64 0, .int .u64 0, .int .u64 0, .int .u64 0, .int .u64 0, .int .u64 0, .int .u64 0] (n * 8)) 34)) = _
    rw [made_lines]
  have e2 : (2 : Int) ≤ (n : Int) := by omega
  have e64 : (n : Int) ≤ 64 := by omega
  have e1 : (1 : Int) ≤ (m : Int) := by omega
  have en : (m : Int) ≤ (n : Int) - 1 := by omega
  clear hi0 hz0 hz1 hz2
  go_enter Try.func9, Try.ntmps9
  go_wp2
  exact bodyPost_ret (v := .tuple #[.pointer (some ⟨w.heap.size + 1, 0, none⟩), .int .i64 0]) (by simp [results, Try.results9, go_sem]) rfl ⟨_, _, rfl, DAt.made w n m (by omega) (by omega), Below.al (Below.al (Below.refl _ _) _) _⟩
theorem new_bad (a b : Int) (h : ¬ okN a b) (w : World) : Calls Try.prog 9 #[.int .i64 a, .int .i64 b] w fun e w' => e = .returned (.tuple #[.pointer none, .int .i64 1]) ∧ w = w' := by
  by_cases h1 : 2 ≤ a
  · by_cases h2 : a ≤ 64
    · by_cases h3 : 1 ≤ b
      · have h4 : ¬ b < a := fun h4 => h ⟨h1, h2, h3, h4⟩
        have h5 : ¬ b ≤ a - 1 := by omega
        clear h h4
        go_enter Try.func9, Try.ntmps9
        go_wp2
        exact bodyPost_ret (v := .tuple #[.pointer none, .int .i64 1]) (by simp [results, Try.results9, go_sem]) rfl ⟨rfl, rfl⟩
      · clear h
        go_enter Try.func9, Try.ntmps9
        go_wp2
        exact bodyPost_ret (v := .tuple #[.pointer none, .int .i64 1]) (by simp [results, Try.results9, go_sem]) rfl ⟨rfl, rfl⟩
    · clear h
      go_enter Try.func9, Try.ntmps9
      go_wp2
      exact bodyPost_ret (v := .tuple #[.pointer none, .int .i64 1]) (by simp [results, Try.results9, go_sem]) rfl ⟨rfl, rfl⟩
  · clear h
    go_enter Try.func9, Try.ntmps9
    go_wp2
    exact bodyPost_ret (v := .tuple #[.pointer none, .int .i64 1]) (by simp [results, Try.results9, go_sem]) rfl ⟨rfl, rfl⟩
end Go.Proofs.Ytkkeilbaieflmaa
