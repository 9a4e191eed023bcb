/-
  The reference's Good.
-/
import Derived.Test.YtigbhlkafmpgmaaTx
namespace Go.Proofs.Ytigbhlkafmpgmaa
open Go.RowKit
attribute [local go_sem ↓] Go.wp_at_zero Go.wp_at_succ
set_option maxRecDepth 100000 in
set_option maxHeartbeats 8000000 in
theorem rgood_any (va : Option Addr) (vc : Nat) (ab : Bool) (ops : List Op) (w : World) (hr : Rds w 3 (.slice va ops.length vc) ops.length (encOs ops)) :
    Calls Try.prog 21 #[.agg #[.slice va ops.length vc, .bool ab]] w fun E w' => E = .returned (.bool (goodT ops)) ∧ Below w.heap.size w w' := by
  obtain ⟨_, a, cap, e0, p2, p3, p4, p5⟩ := hr
  injection e0 with e1 e2 e3
  subst e1; subst e3
  obtain ⟨n, hn⟩ : ∃ n, ops.length = n := ⟨_, rfl⟩
  have HN := Lib.hid hn
  rw [hn] at p2 p4 p5 ⊢
  have P5 := Lib.hid p5
  clear hn p4 p5
  by_cases h16 : n ≤ 16
  · have h16' : (n : Int) ≤ 16 := by omega
    go_enter Try.func21, Try.ntmps21
    go_wp2_with fail
    go_loopw [3] (fun i w' => ∃ j : Nat, j ≤ n ∧ i = .int .i64 j ∧ Below w.heap.size w w' ∧ w'.heap[w.heap.size]? = some (.cells #[.slice va n vc, .bool ab] 25 (0, 0)) ∧ (∀ o ∈ ops.take j, goodO o = true)) (fun i _ => n - (intOf i).toNat)
    case atStart => exact ⟨0, by omega, rfl, Below.al (Below.refl _ _) _, heap_alloc_new w _, fun o ho => by simp at ho⟩
    case round =>
    obtain ⟨j, hj, rfl, hB, hbx, hE⟩ := hrel
    have HB := Lib.hid hB; have HBX := Lib.hid hbx; have HE := Lib.hid hE
    have hsz : w.heap.size < wr.heap.size := (Array.getElem?_eq_some_iff.1 hbx).1
    have q0 : wr.cell? ⟨w.heap.size, 0, none⟩ = some (.slice va n vc) := by rw [cell_of_row _ _ _ _ 25 (0, 0) hbx]; rfl
    by_cases hlt : j < n
    · obtain ⟨⟨k, ww, v⟩, ho⟩ : ∃ o, ops[j]? = some o := ⟨_, List.getElem?_eq_getElem (by rw [HN.out]; exact hlt)⟩
      obtain ⟨g, of, rfl, ga1, ca⟩ := P5.out (by omega)
      have hx : ∀ i u, i < 3 → (encO ⟨k, ww, v⟩)[i]? = some u → wr.cell? ⟨g, of + j * 3 + i, none⟩ = some u := fun i u hi hu => by
        rw [hB.cell (p := ⟨g, of + j * 3 + i, none⟩) ga1, Nat.add_assoc]
        exact ca _ u ((encOs_get ops j _ ho i hi).trans hu)
      have x0 : wr.cell? ⟨g, of + j * 3, none⟩ = some (.int .i64 k) := hx 0 _ (by omega) rfl
      have x1 : wr.cell? ⟨g, of + j * 3 + 1, none⟩ = some (.int .i64 ww) := hx 1 _ (by omega) rfl
      have x2 : wr.cell? ⟨g, of + j * 3 + 2, none⟩ = some (.int .u64 v) := hx 2 _ (by omega) rfl
      have HO := Lib.hid ho
      have hj0 : (0 : Int) ≤ (j : Int) := by omega
      have hj1 : (j : Int) < (n : Int) := by omega
      have HB2 := Lib.hid (Below.al HB.out (.cells #[.int .i64 k, .int .i64 ww, .int .u64 v] 39))
      have HBX2 := Lib.hid (below_row HBX.out (Below.al (Below.refl _ _) (.cells #[.int .i64 k, .int .i64 ww, .int .u64 v] 39)))
      clear hx hB hbx hE ca ho HB HBX
      by_cases h1 : 1 ≤ k
      · by_cases h2 : k ≤ 4
        · by_cases h3 : v < 2147483648
          · by_cases h4 : k = 1
            · subst h4
              by_cases h6 : v = 0
              · skip
                subst h6
                have HGO := Lib.hid (show goodO ⟨1, ww, 0⟩ = true from decide_eq_true (by simp))
                have HE2 := Lib.hid (show ∀ x ∈ ops.take (j + 1), goodO x = true from fun x hxm => by
                  rw [List.take_add_one, HO.out] at hxm
                  rcases List.mem_append.1 hxm with h | h
                  · exact HE.out x h
                  · simp at h; rw [h]; exact HGO.out)
                clear h1 h2
                go_wp2
                go_roundw
                case rel => exact ⟨j + 1, by omega, by go_num, HB2.out, HBX2.out, HE2.out⟩
                case measure => simp [intOf]; omega
              · skip
                have HGO := Lib.hid (show goodO ⟨1, ww, v⟩ = false from decide_eq_false (by simp; omega))
                have h6' : (v != 0) = true := by simpa using h6
                clear h1 h2
                have HG := Lib.hid (show goodT ops = false by
                  unfold goodT
                  rw [Bool.and_eq_false_iff]
                  exact Or.inl (List.all_eq_false.2 ⟨⟨1, ww, v⟩, List.mem_of_getElem? HO.out, by rw [HGO.out]; simp⟩))
                go_wp2
                go_ret
                exact ⟨by rw [HG.out]; rfl, HB2.out⟩
            · by_cases h5 : k = 4
              · subst h5
                by_cases h6 : v = 0
                · skip
                  subst h6
                  have HGO := Lib.hid (show goodO ⟨4, ww, 0⟩ = false from decide_eq_false (by simp))
                  clear h1 h2 h4
                  have HG := Lib.hid (show goodT ops = false by
                    unfold goodT
                    rw [Bool.and_eq_false_iff]
                    exact Or.inl (List.all_eq_false.2 ⟨⟨4, ww, 0⟩, List.mem_of_getElem? HO.out, by rw [HGO.out]; simp⟩))
                  go_wp2
                  go_ret
                  exact ⟨by rw [HG.out]; rfl, HB2.out⟩
                · skip
                  have HGO := Lib.hid (show goodO ⟨4, ww, v⟩ = true from decide_eq_true (by simp; omega))
                  have HE2 := Lib.hid (show ∀ x ∈ ops.take (j + 1), goodO x = true from fun x hxm => by
                    rw [List.take_add_one, HO.out] at hxm
                    rcases List.mem_append.1 hxm with h | h
                    · exact HE.out x h
                    · simp at h; rw [h]; exact HGO.out)
                  have h6' : (v == 0) = false := by simpa using h6
                  clear h1 h2 h4
                  go_wp2
                  go_roundw
                  case rel => exact ⟨j + 1, by omega, by go_num, HB2.out, HBX2.out, HE2.out⟩
                  case measure => simp [intOf]; omega
              · skip
                have HGO := Lib.hid (show goodO ⟨k, ww, v⟩ = true from decide_eq_true ⟨h1, h2, h3, fun h => absurd h h4, fun h => absurd h h5⟩)
                have HE2 := Lib.hid (show ∀ x ∈ ops.take (j + 1), goodO x = true from fun x hxm => by
                  rw [List.take_add_one, HO.out] at hxm
                  rcases List.mem_append.1 hxm with h | h
                  · exact HE.out x h
                  · simp at h; rw [h]; exact HGO.out)
                have h4' : (k == 1) = false := by simpa using h4
                have h5' : (k == 4) = false := by simpa using h5
                go_wp2
                go_roundw
                case rel => exact ⟨j + 1, by omega, by go_num, HB2.out, HBX2.out, HE2.out⟩
                case measure => simp [intOf]; omega
          · skip
            have HGO := Lib.hid (show goodO ⟨k, ww, v⟩ = false from decide_eq_false fun h => h3 h.2.2.1)
            have HG := Lib.hid (show goodT ops = false by
              unfold goodT
              rw [Bool.and_eq_false_iff]
              exact Or.inl (List.all_eq_false.2 ⟨⟨k, ww, v⟩, List.mem_of_getElem? HO.out, by rw [HGO.out]; simp⟩))
            go_wp2
            go_ret
            exact ⟨by rw [HG.out]; rfl, HB2.out⟩
        · skip
          have HGO := Lib.hid (show goodO ⟨k, ww, v⟩ = false from decide_eq_false fun h => h2 h.2.1)
          have HG := Lib.hid (show goodT ops = false by
            unfold goodT
            rw [Bool.and_eq_false_iff]
            exact Or.inl (List.all_eq_false.2 ⟨⟨k, ww, v⟩, List.mem_of_getElem? HO.out, by rw [HGO.out]; simp⟩))
          go_wp2
          go_ret
          exact ⟨by rw [HG.out]; rfl, HB2.out⟩
      · skip
        have HGO := Lib.hid (show goodO ⟨k, ww, v⟩ = false from decide_eq_false fun h => h1 h.1)
        have HG := Lib.hid (show goodT ops = false by
          unfold goodT
          rw [Bool.and_eq_false_iff]
          exact Or.inl (List.all_eq_false.2 ⟨⟨k, ww, v⟩, List.mem_of_getElem? HO.out, by rw [HGO.out]; simp⟩))
        go_wp2
        go_ret
        exact ⟨by rw [HG.out]; rfl, HB2.out⟩
    · obtain rfl : j = n := by omega
      have HG := Lib.hid (show goodT ops = true by
        unfold goodT
        rw [show ops.all goodO = true from List.all_eq_true.2 (fun x hx => HE.out x (by rw [← HN.out, List.take_length]; exact hx)), HN.out, Bool.true_and]
        exact decide_eq_true h16)
      clear hB hbx hE
      go_wp2
      go_ret
      exact ⟨by rw [HG.out]; rfl, HB.out⟩
  · have h16' : ¬ (n : Int) ≤ 16 := by omega
    have HG := Lib.hid (show goodT ops = false by
      unfold goodT
      rw [HN.out, decide_eq_false h16, Bool.and_false])
    go_enter Try.func21, Try.ntmps21
    go_wp2
    go_ret
    exact ⟨by rw [HG.out]; rfl, Below.al (Below.refl _ _) _⟩
end Go.Proofs.Ytigbhlkafmpgmaa
