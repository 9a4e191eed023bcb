/-
  Transactions: what they are, whether they have a form.
-/
import Derived.Test.YtigbhlkafmpgmaaRows
import Derived.Test.YtigbhlkafmpgmaaKitD
import Derived.Test.YtigbhlkafmpgmaaKitE
import Derived.Test.YtigbhlkafmpgmaaKitG
import Derived.Deep.QuietTactic
import Derived.BigQuiet
import Derived.WalkSmall
import Derived.IntWalk
import Derived.Deep.RegionLaw
namespace Go.Proofs.Ytigbhlkafmpgmaa
open Go.RowKit
attribute [local go_sem ↓] Go.wp_at_zero Go.wp_at_succ

structure Op where
  k : Int
  w : Int
  v : Int
def encO (o : Op) : List Value := [.int .i64 o.k, .int .i64 o.w, .int .u64 o.v]
theorem encO_len (o : Op) : (encO o).length = 3 := rfl
def encOs (l : List Op) : List Value := encL encO l
theorem encOs_len (l : List Op) : (encOs l).length = l.length * 3 := encL_len encO_len l
theorem encOs_get (l : List Op) (i : Nat) (o : Op) (h : l[i]? = some o) (j : Nat) (hj : j < 3) : (encOs l)[i * 3 + j]? = (encO o)[j]? := encL_get encO_len l i o h j hj
theorem encOs_one (l : List Op) : ∀ u ∈ encOs l, u.oneCell' = true := by
  induction l with
  | nil => intro u hu; cases hu
  | cons o r ih =>
    intro u hu
    rcases List.mem_append.1 hu with h | h
    · simp [encO] at h
      rcases h with rfl | rfl | rfl <;> rfl
    · exact ih u h
def encU (xs : List Int) : List Value := xs.map (fun x => .int .u64 x)
theorem encU_len (xs : List Int) : (encU xs).length = xs.length := by simp [encU]
theorem encU_get {xs : List Int} {i : Nat} {x : Int} (h : xs[i]? = some x) : (encU xs)[i]? = some (.int .u64 x) := by simp [encU, h]
theorem encU_app (xs ys : List Int) : encU (xs ++ ys) = encU xs ++ encU ys := by simp [encU]
theorem encU_one (xs : List Int) : ∀ u ∈ encU xs, u.oneCell' = true := by
  intro u hu
  obtain ⟨x, _, rfl⟩ := List.mem_map.1 hu
  rfl
theorem encU_set (xs : List Int) (i : Nat) (x : Int) (h : i < xs.length) : (encU xs).take i ++ [.int .u64 x] ++ (encU xs).drop (i + 1) = encU (xs.set i x) := by
  unfold encU
  rw [← List.map_take, ← List.map_drop, List.set_eq_take_append_cons_drop, if_pos h]
  simp
/-- Has an Op a form? -/
def goodO (o : Op) : Bool := decide (1 ≤ o.k ∧ o.k ≤ 4 ∧ o.v < 2147483648 ∧ (o.k = 1 → o.v = 0) ∧ (o.k = 4 → ¬ o.v = 0))
def goodT (l : List Op) : Bool := l.all goodO && decide (l.length ≤ 16)
set_option maxRecDepth 100000 in
set_option maxHeartbeats 8000000 in
theorem good_any (o : Op) (w : World) : Calls Try.prog 23 #[.agg #[.int .i64 o.k, .int .i64 o.w, .int .u64 o.v]] w fun E w' => E = .returned (.bool (goodO o)) ∧ Below w.heap.size w w' := by
  obtain ⟨k, ww, v⟩ := o
  by_cases h1 : 1 ≤ k
  · by_cases h2 : k ≤ 4
    · by_cases h3 : v < 2147483648
      · by_cases h4 : k = 1
        · subst h4
          have HG := Lib.hid (show goodO ⟨1, ww, v⟩ = (v == 0) by unfold goodO; simp [h3]; rw [Bool.eq_iff_iff]; simp)
          clear h1 h2
          go_enter Try.func23, Try.ntmps23
          go_wp2
          go_ret
          exact ⟨by rw [HG.out]; rfl, Below.al (Below.refl _ _) _⟩
        · by_cases h5 : k = 4
          · subst h5
            have HG := Lib.hid (show goodO ⟨4, ww, v⟩ = (v != 0) by unfold goodO; simp [h3]; rw [Bool.eq_iff_iff]; simp)
            clear h1 h2 h4
            go_enter Try.func23, Try.ntmps23
            go_wp2
            go_ret
            exact ⟨by rw [HG.out]; rfl, Below.al (Below.refl _ _) _⟩
          · have HG := Lib.hid (show goodO ⟨k, ww, v⟩ = true from decide_eq_true ⟨h1, h2, h3, fun h => absurd h h4, fun h => absurd h h5⟩)
            have h4' : (k == 1) = false := by simpa using h4
            have h5' : (k == 4) = false := by simpa using h5
            go_enter Try.func23, Try.ntmps23
            go_wp2
            go_ret
            exact ⟨by rw [HG.out]; rfl, Below.al (Below.refl _ _) _⟩
      · have HG := Lib.hid (show goodO ⟨k, ww, v⟩ = false from decide_eq_false fun h => h3 h.2.2.1)
        go_enter Try.func23, Try.ntmps23
        go_wp2
        go_ret
        exact ⟨by rw [HG.out]; rfl, Below.al (Below.refl _ _) _⟩
    · have HG := Lib.hid (show goodO ⟨k, ww, v⟩ = false from decide_eq_false fun h => h2 h.2.1)
      go_enter Try.func23, Try.ntmps23
      go_wp2
      go_ret
      exact ⟨by rw [HG.out]; rfl, Below.al (Below.refl _ _) _⟩
  · have HG := Lib.hid (show goodO ⟨k, ww, v⟩ = false from decide_eq_false fun h => h1 h.1)
    go_enter Try.func23, Try.ntmps23
    go_wp2
    go_ret
    exact ⟨by rw [HG.out]; rfl, Below.al (Below.refl _ _) _⟩
theorem below_row {w w' : World} {b : Nat} {o : Obj} (h : w.heap[b]? = some o) (hb : Below w.heap.size w w') : w'.heap[b]? = some o := by
  rw [hb.block b (Array.getElem?_eq_some_iff.1 h).1]
  exact h
set_option maxRecDepth 100000 in
set_option maxHeartbeats 8000000 in
theorem tgood_any (va : Option Addr) (vc : Nat) (ab : Bool) (ops : List Op) (w : World) (hr : Rds w 3 (.slice va ops.length vc) ops.length (encOs ops)) :
    Calls Try.prog 17 #[.agg #[.slice va ops.length vc, .bool ab]] w fun E w' => E = .returned (.bool (goodT ops)) ∧ Below w.heap.size w w' := by
  obtain ⟨_, a, cap, e0, p2, p3, p4, p5⟩ := hr
  injection e0 with e1 e2 e3
  subst e1; subst e3
  obtain ⟨n, hn⟩ : ∃ n, ops.length = n := ⟨_, rfl⟩
  have HN := Lib.hid hn
  rw [hn] at p2 p4 p5 ⊢
  have P5 := Lib.hid p5
  have hnm : (n : Int) ≤ 9223372036854775807 := by unfold maxLen at p3; omega
  clear hn p4 p5
  go_enter Try.func17, Try.ntmps17
  go_wp2_with fail
  go_loopw [8] (fun i w' => ∃ j : Nat, j ≤ n ∧ i = .int .i64 j ∧ Below w.heap.size w w' ∧ w'.heap[w.heap.size]? = some (.cells #[.slice va n vc, .bool ab] 25 (0, 0)) ∧ (∀ o ∈ ops.take j, goodO o = true)) (fun i _ => n - (intOf i).toNat)
  case atStart => exact ⟨0, by omega, rfl, Below.al (Below.refl _ _) _, heap_alloc_new w _, fun o ho => by simp at ho⟩
  case round =>
  obtain ⟨j, hj, rfl, hB, hbx, hE⟩ := hrel
  have HB := Lib.hid hB; have HBX := Lib.hid hbx; have HE := Lib.hid hE
  have hsz : w.heap.size < wr.heap.size := (Array.getElem?_eq_some_iff.1 hbx).1
  by_cases hlt : j < n
  · obtain ⟨o, ho⟩ : ∃ o, ops[j]? = some o := ⟨_, List.getElem?_eq_getElem (by rw [HN.out]; exact hlt)⟩
    obtain ⟨g, of, rfl, ga1, ca⟩ := P5.out (by omega)
    have hx : ∀ i u, i < 3 → (encO o)[i]? = some u → wr.cell? ⟨g, of + j * 3 + i, none⟩ = some u := fun i u hi hu => by
      rw [hB.cell (p := ⟨g, of + j * 3 + i, none⟩) ga1, Nat.add_assoc]
      exact ca _ u ((encOs_get ops j o ho i hi).trans hu)
    have x0 : wr.cell? ⟨g, of + j * 3, none⟩ = some (.int .i64 o.k) := hx 0 _ (by omega) rfl
    have x1 : wr.cell? ⟨g, of + j * 3 + 1, none⟩ = some (.int .i64 o.w) := hx 1 _ (by omega) rfl
    have x2 : wr.cell? ⟨g, of + j * 3 + 2, none⟩ = some (.int .u64 o.v) := hx 2 _ (by omega) rfl
    have HO := Lib.hid ho
    have hj0 : (0 : Int) ≤ (j : Int) := by omega
    have hj1 : (j : Int) < (n : Int) := by omega
    clear hx hB hbx hE ca ho
    go_wp2_with fail
    refine (good_any o _).mono ?_
    rintro e w2 ⟨rfl, hb2⟩
    have HB2 := Lib.hid (Below.then (Below.al HB.out _) hb2)
    have HBX2 := Lib.hid (below_row (below_row HBX.out (Below.al (Below.refl _ _) _)) hb2)
    clear hb2 HB HBX x0 x1 x2
    cases hg : goodO o with
    | true =>
      have HE2 := Lib.hid (show ∀ x ∈ ops.take (j + 1), goodO x = true from fun x hxm => by
        rw [List.take_add_one, HO.out] at hxm
        rcases List.mem_append.1 hxm with h | h
        · exact HE.out x h
        · simp at h; rw [h]; exact hg)
      clear hg
      go_wp2
      go_roundw
      case rel => exact ⟨j + 1, by omega, by go_num, HB2.out, HBX2.out, HE2.out⟩
      case measure => simp [intOf]; omega
    | false =>
      have HG := Lib.hid (show goodT ops = false by
        unfold goodT
        rw [Bool.and_eq_false_iff]
        exact Or.inl (List.all_eq_false.2 ⟨o, List.mem_of_getElem? HO.out, by rw [hg]; simp⟩))
      clear hg
      go_wp2
      go_ret
      exact ⟨by rw [HG.out]; rfl, HB2.out⟩
  · obtain rfl : j = n := by omega
    have HG := Lib.hid (show goodT ops = decide ((j : Int) ≤ 16) by
      unfold goodT
      rw [show ops.all goodO = true from List.all_eq_true.2 (fun x hx => HE.out x (by rw [← HN.out, List.take_length]; exact hx)), HN.out, Bool.true_and]
      exact decide_eq_decide.2 (by omega))
    have q0 : wr.cell? ⟨w.heap.size, 0, none⟩ = some (.slice va j vc) := by rw [cell_of_row _ _ _ _ 25 (0, 0) hbx]; rfl
    clear hB hbx hE
    go_wp2
    go_ret
    exact ⟨by rw [HG.out]; rfl, HB.out⟩
end Go.Proofs.Ytigbhlkafmpgmaa
