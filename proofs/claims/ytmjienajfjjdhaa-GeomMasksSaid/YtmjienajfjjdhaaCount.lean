/-
  How many bits are set in a mask: by the table, which is filled once.
-/
import Derived.Test.YtmjienajfjjdhaaFill
import Derived.Deep.QuietTactic
import Derived.BigQuiet
import Derived.IntWalk
namespace Go.Proofs.Ytmjienajfjjdhaa
open Go.RowKit
attribute [local go_sem ↓] Go.wp_at_zero Go.wp_at_succ

theorem pc_cell (c0 c1 c2 : Value) (i : Nat) (h : i < 16) : (rowF c0 c1 c2 16)[3 + i]? = some (.int .i64 (pcT.getD i 0)) := by
  have hcs : i = 0 ∨ i = 1 ∨ i = 2 ∨ i = 3 ∨ i = 4 ∨ i = 5 ∨ i = 6 ∨ i = 7 ∨ i = 8 ∨ i = 9 ∨ i = 10 ∨ i = 11 ∨ i = 12 ∨ i = 13 ∨ i = 14 ∨ i = 15 := by omega
  rcases hcs with rfl | rfl | rfl | rfl | rfl | rfl | rfl | rfl | rfl | rfl | rfl | rfl | rfl | rfl | rfl | rfl <;> rfl
theorem pc_small (i : Nat) (h : i < 16) : 0 ≤ pcT.getD i 0 ∧ pcT.getD i 0 ≤ 4 := by
  have hcs : i = 0 ∨ i = 1 ∨ i = 2 ∨ i = 3 ∨ i = 4 ∨ i = 5 ∨ i = 6 ∨ i = 7 ∨ i = 8 ∨ i = 9 ∨ i = 10 ∨ i = 11 ∨ i = 12 ∨ i = 13 ∨ i = 14 ∨ i = 15 := by omega
  rcases hcs with rfl | rfl | rfl | rfl | rfl | rfl | rfl | rfl | rfl | rfl | rfl | rfl | rfl | rfl | rfl | rfl <;> decide
set_option maxRecDepth 100000 in
set_option maxHeartbeats 4000000 in
theorem of_any (b : Nat) (m : Int) (h0 : 0 ≤ m) (h1 : m ≤ 255) (w : World) (hrow : w.heap[b]? = some (.cells (rowF (.int .u32 0) (.int .i32 0) (.int .u32 0) 0) 47 (0, 0))) :
    Calls Try.prog 19 #[.pointer (some ⟨b, 0, none⟩), .int .u8 m] w fun e w' => e = .returned (.int .i64 (pcT.getD (m / 16).toNat 0 + pcT.getD (m % 16).toNat 0)) ∧ Only (fun k => k = b) w w' := by
  have hdo : Calls Try.prog 20 #[.pointer (some ⟨b, 0, none⟩), .func (.func 21) #[.pointer (some ⟨b, 0, none⟩)] #[]] w fun e w' => e = .returned (.tuple #[]) ∧ Only (fun k => k = b) w w' ∧ w'.heap[b]? = some (.cells (rowF (.int .u32 1) (.int .i32 0) (.int .u32 0) 16) 47 (0, 0)) := by
    refine (do_first b #[.pointer (some ⟨b, 0, none⟩)] #[] (fun w1 w2 => Only (fun k => k = b) w1 w2 ∧ w2.heap[b]? = some (.cells (rowF (.int .u32 0) (.int .i32 1) (.int .u32 0) 16) 47 (0, 0))) w (by rw [cell_of_row _ _ _ _ 47 (0, 0) hrow]; rfl) (by rw [cell_of_row _ _ _ _ 47 (0, 0) hrow]; rfl) (fun o => frozen_of_row w b o _ 47 hrow) ?_).mono ?_
    · rintro w1 rfl
      have hr1 : (w.setCell ⟨b, 1, none⟩ (.int .i32 1)).heap[b]? = some (.cells (rowF (.int .u32 0) (.int .i32 1) (.int .u32 0) 0) 47 (0, 0)) := row_setCells b 47 [.int .i32 1] 1 w _ hrow (by show 1 + 1 ≤ 19; omega)
      refine (fill_any b _ _ _ _ hr1).mono ?_
      rintro e w2 ⟨rfl, hO, hr⟩
      exact ⟨rfl, ⟨hO, hr⟩, by rw [cell_of_row _ _ _ _ 47 (0, 0) hr]; rfl, by rw [cell_of_row _ _ _ _ 47 (0, 0) hr]; rfl, fun o => frozen_of_row w2 b o _ 47 hr⟩
    · rintro e w' ⟨rfl, w2, ⟨hO, hr⟩, hw'⟩
      have hr2 : (w2.drew.setCell ⟨b, 0, none⟩ (.int .u32 1)).heap[b]? = some (.cells (rowF (.int .u32 1) (.int .i32 1) (.int .u32 0) 16) 47 (0, 0)) := row_setCells b 47 [.int .u32 1] 0 w2.drew _ hr (by show 0 + 1 ≤ 19; omega)
      have hr3 : ((w2.drew.setCell ⟨b, 0, none⟩ (.int .u32 1)).setCell ⟨b, 1, none⟩ (.int .i32 0)).heap[b]? = some (.cells (rowF (.int .u32 1) (.int .i32 0) (.int .u32 0) 16) 47 (0, 0)) := row_setCells b 47 [.int .i32 0] 1 _ _ hr2 (by show 1 + 1 ≤ 19; omega)
      unfold OnceDone at hw'
      rw [hw']
      exact ⟨rfl, (((((Only.refl (fun k => k = b) w).set ⟨b, 1, none⟩ _ (Or.inl rfl)).trans hO).drew).set ⟨b, 0, none⟩ _ (Or.inl rfl)).set ⟨b, 1, none⟩ _ (Or.inl rfl), hr3⟩
  have HDO := Lib.hid hdo
  clear hdo hrow
  go_enter Try.func19, Try.ntmps19
  go_wp2_with (go_at_call 20; refine HDO.out.mono ?_; rintro e w1 ⟨rfl, hO1, hr1⟩)
  obtain ⟨i, hi⟩ : ∃ i : Nat, m / 16 = (i : Int) := ⟨(m / 16).toNat, by omega⟩
  obtain ⟨k, hk⟩ : ∃ k : Nat, m % 16 = (k : Int) := ⟨(m % 16).toNat, by omega⟩
  have hk' : m.tmod 16 = (k : Int) := by rw [Int.tmod_eq_emod_of_nonneg h0]; exact hk
  have hi16 : i < 16 := by omega
  have hk16 : k < 16 := by omega
  have hi0 : (0 : Int) ≤ (i : Int) := by omega
  have hi1 : (i : Int) < 16 := by omega
  have hk0 : (0 : Int) ≤ (k : Int) := by omega
  have hk1 : (k : Int) < 16 := by omega
  have hpi := pc_small i hi16
  have hpk := pc_small k hk16
  have e1 : pcT.getD (m / 16).toNat 0 = pcT.getD i 0 := by rw [hi]; rfl
  have e2 : pcT.getD (m % 16).toNat 0 = pcT.getD k 0 := by rw [hk]; rfl
  have qi : w1.cell? ⟨b, 3 + i, none⟩ = some (.int .i64 (pcT.getD i 0)) := by rw [cell_of_row _ _ _ _ 47 (0, 0) hr1]; exact pc_cell _ _ _ i hi16
  have qk : w1.cell? ⟨b, 3 + k, none⟩ = some (.int .i64 (pcT.getD k 0)) := by rw [cell_of_row _ _ _ _ 47 (0, 0) hr1]; exact pc_cell _ _ _ k hk16
  obtain ⟨x, hx⟩ : ∃ x, pcT.getD i 0 = x := ⟨_, rfl⟩
  obtain ⟨y, hy⟩ : ∃ y, pcT.getD k 0 = y := ⟨_, rfl⟩
  rw [hx] at hpi qi e1
  rw [hy] at hpk qk e2
  have hw : IntKind.i64.wrap (x + y) = x + y := IntWalk.i64_in _ (by omega)
  have E1 := Lib.hid e1; have E2 := Lib.hid e2; have HO := Lib.hid hO1
  clear e1 e2 hO1 hr1 hx hy hpi hpk hk
  go_quiet (fail)
  go_wp2
  go_ret
  exact ⟨by rw [E1.out, E2.out]; rfl, HO.out.drewN _⟩
def pcI (m : Int) : Int := pcT.getD (m / 16).toNat 0 + pcT.getD (m % 16).toNat 0
theorem count_any (m : Int) (h0 : 0 ≤ m) (h1 : m ≤ 255) (w : World) :
    Calls Try.prog 15 #[.int .u8 m] w fun e w' => e = .returned (.int .i64 (pcI m)) ∧ Below w.heap.size w w' := by
  have hof := of_any w.heap.size m h0 h1 (w.alloc (.cells (rowF (.int .u32 0) (.int .i32 0) (.int .u32 0) 0) 47)) (heap_alloc_new w _)
  have HOF := Lib.hid hof
  clear hof
  go_enter Try.func15, Try.ntmps15
  go_wp2_with (go_at_call 19; refine HOF.out.mono ?_; rintro e w1 ⟨rfl, hO1⟩)
  go_ret
  exact ⟨rfl, ((Only.refl _ w).al _).trans (hO1.mono (fun k _ h => h)) |>.below (Nat.le_refl _) (fun k h => by omega)⟩
end Go.Proofs.Ytmjienajfjjdhaa
