/-
  The cores of a mask, as a list; lists of numbers, alike; the first core.
-/
import Derived.Test.YtmjienajfjjdhaaBits
import Derived.Test.YtmjienajfjjdhaaKitG
namespace Go.Proofs.Ytmjienajfjjdhaa
open Go.RowKit
attribute [local go_sem ↓] Go.wp_at_zero Go.wp_at_succ

theorem info3 : (Try.prog.info? 3).map (fun i => (i.zero, i.size, i.bytes)) = some (some (.int .i64 0), 1, 8) := by kernel_rfl
def encI (l : List Nat) : List Value := l.map fun (i : Nat) => .int .i64 i
theorem encI_app (l : List Nat) (j : Nat) : encI (l ++ [j]) = encI l ++ [.int .i64 j] := by simp [encI]
theorem encI_len (l : List Nat) : (encI l).length = l.length := by simp [encI]
def coresU (m : Int) (j : Nat) : List Nat := (List.range j).filter fun (i : Nat) => hasB m i
theorem coresU_yes (m : Int) (j : Nat) (h : hasB m j = true) : coresU m (j + 1) = coresU m j ++ [j] := by
  rw [coresU, List.range_succ, List.filter_append]
  simp [h, coresU]
theorem coresU_no (m : Int) (j : Nat) (h : hasB m j = false) : coresU m (j + 1) = coresU m j := by
  rw [coresU, List.range_succ, List.filter_append]
  simp [h, coresU]
theorem coresU_len (m : Int) (j : Nat) : (coresU m j).length ≤ j := by
  have := List.length_filter_le (fun (i : Nat) => hasB m i) (List.range j)
  simpa [coresU] using this
set_option maxRecDepth 100000 in
set_option maxHeartbeats 4000000 in
theorem cores_any (m : Int) (w : World) : Calls Try.prog 13 #[.int .u8 m] w fun e w' => ∃ v', e = .returned v' ∧ Own w' w.heap.size 3 1 v' (coresU m 8).length (encI (coresU m 8)) ∧ Below w.heap.size w w' := by
  obtain ⟨i0, hi0, hz0, hz1, hz2⟩ := info_parts info3
  go_enter Try.func13, Try.ntmps13
  go_wp2_with fail
  go_loopw [3, 5] (fun l i w' => ∃ j : Nat, j ≤ 8 ∧ i = .int .i64 j ∧ Own w' w.heap.size 3 1 l (coresU m j).length (encI (coresU m j)) ∧ Below w.heap.size w w') (fun l i _ => 8 - (intOf i).toNat)
  case atStart => exact ⟨0, by omega, rfl, Own.nil _ _ _ _, Below.refl _ _⟩
  case round =>
  obtain ⟨j, hj, rfl, hO, hB⟩ := hrel
  obtain ⟨va, vc, rfl, hv1, hv2⟩ := hO.any
  have hn8 := coresU_len m j
  obtain ⟨n, hn⟩ : ∃ n, (coresU m j).length = n := ⟨_, rfl⟩
  have HSZ : w.heap.size ≤ wr.heap.size := hB.size
  rw [hn] at hO hn8 hv1 ⊢
  have HO := Lib.hid hO; have HB := Lib.hid hB; have HN := Lib.hid hn
  clear hO hB hn
  by_cases hlt : j < 8
  · have hj1 : (j : Int) < 8 := by omega
    by_cases hb : hasB m j = true
    · have hh : ∀ w, Calls Try.prog 10 #[.int .u8 m, .int .i64 j] w fun e w' => e = .returned (.bool true) ∧ w = w' := fun w => by rw [← hb]; exact has_any m j w
      have HS := Lib.hid (coresU_yes m j hb)
      clear hb
      go_wp2_with (first | (go_at_call 10; refine (hh _).mono ?_; rintro e w' ⟨rfl, rfl⟩) | (at_builtin; refine wpList_append_Own _ rfl _ _ 26 rfl w.heap.size 3 i0 _ 1 8 Try.underlying26 hi0 hz0 hz1 hz2 rfl (.slice va n vc) n (encI (coresU m j)) rfl (HO.out.below' (Below.al (Below.refl _ _) _)) ⟨wr.heap.size, 0, none⟩ 1 1 [.int .i64 j] rfl rfl (World.news_of_block (cs := #[.int .i64 j]) (t := 3) (fr := (0, 0)) (heap_alloc_new wr _)) (by simp [Value.oneCell']) (by omega) (by unfold maxLen; omega) (by omega) (by simp; omega) ?_; intro g' o' cap' w3 hown3 honly3 hat3 hlt3))
      have HO3 := Lib.hid hown3
      have hB3 : Below w.heap.size w w3 := (Below.al HB.out _).trans (honly3.below (by simp; omega) (fun k hk => (HO.out.lt k hk).1))
      have HB3 := Lib.hid hB3
      clear hown3 honly3 hat3 hB3
      go_wp2
      go_roundw
      case rel => exact ⟨j + 1, by omega, by go_num, by rw [HS.out]; simp only [List.length_append, List.length_singleton, HN.out, encI_app]; exact HO3.out, HB3.out⟩
      case measure => simp [intOf]; omega
    · have hb' : hasB m j = false := by simpa using hb
      have hh : ∀ w, Calls Try.prog 10 #[.int .u8 m, .int .i64 j] w fun e w' => e = .returned (.bool false) ∧ w = w' := fun w => by rw [← hb']; exact has_any m j w
      have HS := Lib.hid (coresU_no m j hb')
      clear hb hb'
      go_wp2_with (go_at_call 10; refine (hh _).mono ?_; rintro e w' ⟨rfl, rfl⟩)
      go_roundw
      case rel => exact ⟨j + 1, by omega, by go_num, by rw [HS.out, HN.out]; exact HO.out, HB.out⟩
      case measure => simp [intOf]; omega
  · obtain rfl : j = 8 := by omega
    go_wp2
    go_ret
    exact ⟨_, rfl, by rw [HN.out]; exact HO.out, HB.out⟩
set_option maxRecDepth 100000 in
set_option maxHeartbeats 4000000 in
theorem rcores_any (m : Int) (w : World) : Calls Try.prog 14 #[.int .u8 m] w fun e w' => ∃ v', e = .returned v' ∧ Own w' w.heap.size 3 1 v' (coresU m 8).length (encI (coresU m 8)) ∧ Below w.heap.size w w' := by
  obtain ⟨i0, hi0, hz0, hz1, hz2⟩ := info_parts info3
  go_enter Try.func14, Try.ntmps14
  go_wp2_with fail
  go_loopw [3, 4] (fun l i w' => ∃ j : Nat, j ≤ 8 ∧ i = .int .i64 j ∧ Own w' w.heap.size 3 1 l (coresU m j).length (encI (coresU m j)) ∧ Below w.heap.size w w') (fun l i _ => 8 - (intOf i).toNat)
  case atStart => exact ⟨0, by omega, rfl, Own.nil _ _ _ _, Below.refl _ _⟩
  case round =>
  obtain ⟨j, hj, rfl, hO, hB⟩ := hrel
  obtain ⟨va, vc, rfl, hv1, hv2⟩ := hO.any
  have hn8 := coresU_len m j
  obtain ⟨n, hn⟩ : ∃ n, (coresU m j).length = n := ⟨_, rfl⟩
  have HSZ : w.heap.size ≤ wr.heap.size := hB.size
  rw [hn] at hO hn8 hv1 ⊢
  have HO := Lib.hid hO; have HB := Lib.hid hB; have HN := Lib.hid hn
  clear hO hB hn
  by_cases hlt : j < 8
  · have hj1 : (j : Int) < 8 := by omega
    by_cases hb : hasB m j = true
    · have hh : ∀ w, Calls Try.prog 11 #[.int .u8 m, .int .i64 j] w fun e w' => e = .returned (.bool true) ∧ w = w' := fun w => by rw [← hb]; exact rhas_any m j w
      have HS := Lib.hid (coresU_yes m j hb)
      clear hb
      go_wp2_with (first | (go_at_call 11; refine (hh _).mono ?_; rintro e w' ⟨rfl, rfl⟩) | (at_builtin; refine wpList_append_Own _ rfl _ _ 26 rfl w.heap.size 3 i0 _ 1 8 Try.underlying26 hi0 hz0 hz1 hz2 rfl (.slice va n vc) n (encI (coresU m j)) rfl (HO.out.below' (Below.al (Below.refl _ _) _)) ⟨wr.heap.size, 0, none⟩ 1 1 [.int .i64 j] rfl rfl (World.news_of_block (cs := #[.int .i64 j]) (t := 3) (fr := (0, 0)) (heap_alloc_new wr _)) (by simp [Value.oneCell']) (by omega) (by unfold maxLen; omega) (by omega) (by simp; omega) ?_; intro g' o' cap' w3 hown3 honly3 hat3 hlt3))
      have HO3 := Lib.hid hown3
      have hB3 : Below w.heap.size w w3 := (Below.al HB.out _).trans (honly3.below (by simp; omega) (fun k hk => (HO.out.lt k hk).1))
      have HB3 := Lib.hid hB3
      clear hown3 honly3 hat3 hB3
      go_wp2
      go_roundw
      case rel => exact ⟨j + 1, by omega, by go_num, by rw [HS.out]; simp only [List.length_append, List.length_singleton, HN.out, encI_app]; exact HO3.out, HB3.out⟩
      case measure => simp [intOf]; omega
    · have hb' : hasB m j = false := by simpa using hb
      have hh : ∀ w, Calls Try.prog 11 #[.int .u8 m, .int .i64 j] w fun e w' => e = .returned (.bool false) ∧ w = w' := fun w => by rw [← hb']; exact rhas_any m j w
      have HS := Lib.hid (coresU_no m j hb')
      clear hb hb'
      go_wp2_with (go_at_call 11; refine (hh _).mono ?_; rintro e w' ⟨rfl, rfl⟩)
      go_roundw
      case rel => exact ⟨j + 1, by omega, by go_num, by rw [HS.out, HN.out]; exact HO.out, HB.out⟩
      case measure => simp [intOf]; omega
  · obtain rfl : j = 8 := by omega
    go_wp2
    go_ret
    exact ⟨_, rfl, by rw [HN.out]; exact HO.out, HB.out⟩
end Go.Proofs.Ytmjienajfjjdhaa
