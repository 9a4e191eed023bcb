/-
  A queue in memory: Push, Len, Head, Pop, All, Clear.
-/
import Derived.Test.YtjkckcmogpipmaaKinds
import Derived.Test.YtjkckcmogpipmaaGoodC
import Derived.Test.YtjkckcmogpipmaaKitC
import Derived.Deep.RegionLaw
namespace Go.Proofs.Ytjkckcmogpipmaa
open Go.RowKit
attribute [local go_sem ↓] Go.wp_at_zero Go.wp_at_succ

theorem info26 : (Try.prog.info? 26).map (fun i => (i.zero, i.size, i.bytes)) = some (some (.agg #[.int .i64 0, .int .i64 0, .bool false, .bool false, .int .u64 0, .int .u64 0, .int .u64 0, .int .u64 0, .int .u64 0, .int .u64 0, .int .u64 0, .int .u64 0]), 12, 88) := by kernel_rfl

/-- A queue at block q: its cell holds the slice v, which has n messages, the cells xs. -/
structure QAt (w : World) (q base : Nat) (v : Value) (n : Nat) (xs : List Value) : Prop where
  cell : w.cell? ⟨q, 0, none⟩ = some v
  free : w.frozen? ⟨q, 0, none⟩ = false
  own : Own w base 26 12 v n xs
  ne_ : v.ownBlock ≠ some q
  lt : q < w.heap.size
  low : base ≤ w.heap.size

set_option maxRecDepth 100000 in
set_option maxHeartbeats 4000000 in
theorem push_ok (q base : Nat) (v : Value) (n : Nat) (xs : List Value) (k l : Int) (a b : Bool) (d0 d1 d2 d3 d4 d5 d6 d7 : Int) (w : World) (hQ : QAt w q base v n xs) (hg : goodM k l a b (zM d0 d1 d2 d3 d4 d5 d6 d7) = true) (hn : n < 1000) :
    Calls Try.prog 17 #[.pointer (some ⟨q, 0, none⟩), .agg #[.int .i64 k, .int .i64 l, .bool a, .bool b, .int .u64 d0, .int .u64 d1, .int .u64 d2, .int .u64 d3, .int .u64 d4, .int .u64 d5, .int .u64 d6, .int .u64 d7]] w fun e w' => e = .returned (.int .i64 0) ∧
      ∃ v', QAt w' q base v' (n + 1) (xs ++ [.int .i64 k, .int .i64 l, .bool a, .bool b, .int .u64 d0, .int .u64 d1, .int .u64 d2, .int .u64 d3, .int .u64 d4, .int .u64 d5, .int .u64 d6, .int .u64 d7]) ∧ Only (fun k => k = q ∨ v.ownBlock = some k) w w' ∧ (v'.ownBlock = v.ownBlock ∨ ∃ g, v'.ownBlock = some g ∧ w.heap.size ≤ g) := by
  obtain ⟨hq, hf, hown, hne, hlt, hlow⟩ := hQ
  obtain ⟨i0, hi0, hz0, hz1, hz2⟩ := info_parts info26
  obtain ⟨va, vc, hv, hv1, hv2⟩ := hown.any
  subst hv
  have hn' : ¬ (1000 : Int) ≤ (n : Int) := by omega
  go_enter Try.func17, Try.ntmps17
  go_wp2_with fail
  refine (good_any _ _ _ _ _ _ _ _ _ _ _ _ _).mono ?_
  rintro e w1 ⟨rfl, hb⟩
  rw [hg]
  have hq1 : w1.cell? ⟨q, 0, none⟩ = some (.slice va n vc) := by rw [hb.cell (p := ⟨q, 0, none⟩) (by simp; omega), World.cell?_alloc_old _ _ _ (by simp; omega)]; exact hq
  have hf1 : w1.frozen? ⟨q, 0, none⟩ = false := by rw [hb.frozen (p := ⟨q, 0, none⟩) (by simp; omega), World.frozen?_alloc_old _ _ _ (by simp; omega)]; exact hf
  have hx1 : ∀ o, w1.cell? ⟨w.heap.size, o, none⟩ = (#[.int .i64 k, .int .i64 l, .bool a, .bool b, .int .u64 d0, .int .u64 d1, .int .u64 d2, .int .u64 d3, .int .u64 d4, .int .u64 d5, .int .u64 d6, .int .u64 d7] : Array Value)[o]? := fun o => by
    rw [hb.cell (p := ⟨w.heap.size, o, none⟩) (by simp)]
    exact cell_of_row _ _ _ _ 26 (0, 0) (heap_alloc_new w _)
  have hown1 : Own w1 base 26 12 (.slice va n vc) n xs := (hown.below' (Below.al (Below.refl _ _) _)).below' hb
  have ho1 : Only (fun k => k = q ∨ (Value.slice va n vc).ownBlock = some k) w w1 := Only.of_below (Below.then (Below.al (Below.refl _ _) _) hb)
  have hs1 : w.heap.size < w1.heap.size := by have := hb.size; simp at this; omega
  have hq2 : q < w1.heap.size := by omega
  have hq3 : ¬ q = w1.heap.size := by omega
  have hq4 : ¬ w.heap.size = w1.heap.size := by omega
  clear hb hq hf hown
  go_wp2_with fail
  go_region_law ((refine step_append_Own _ rfl _ _ 31 (by rfl) base 26 i0 _ 12 88 Try.underlying31 hi0 hz0 hz1 hz2 rfl (.slice va n vc) n xs (by rfl) (by exact Own.below' hown1 (Below.al (Below.drew (Below.refl _ _)) _)) ⟨w1.heap.size, 0, none⟩ 1 1 [.int .i64 k, .int .i64 l, .bool a, .bool b, .int .u64 d0, .int .u64 d1, .int .u64 d2, .int .u64 d3, .int .u64 d4, .int .u64 d5, .int .u64 d6, .int .u64 d7] (by rfl) (by rfl) (World.news_of_block (cs := #[.int .i64 k, .int .i64 l, .bool a, .bool b, .int .u64 d0, .int .u64 d1, .int .u64 d2, .int .u64 d3, .int .u64 d4, .int .u64 d5, .int .u64 d6, .int .u64 d7]) (t := 26) (fr := (0, 0)) (heap_alloc_new w1 _)) (by simp [Value.oneCell']) (by omega) (by unfold maxLen; omega) (by omega) (by simp; omega) ?_; intro g o cap w2 hown2 honly2 hat2 hlt2; have hc2 : w2.cell? ⟨q, 0, none⟩ = some (.slice va n vc) := ((honly2.cell (p := ⟨q, 0, none⟩) (by simp; omega) hne).trans (World.cell?_alloc_old w1 _ _ (by simp; omega))).trans hq1; have hf2 : w2.frozen? ⟨q, 0, none⟩ = false := ((honly2.frozen (p := ⟨q, 0, none⟩) (by simp; omega) hne).trans (World.frozen?_alloc_old w1 _ _ (by simp; omega))).trans hf1))
  all_goals
    go_wp2
    go_ret
    refine ⟨rfl, .slice (some ⟨g, o, none⟩) (n + 1) cap, ⟨?_, ?_, ?_, ?_, ?_, ?_⟩, ?_, ?_⟩
    · exact World.cell?_setCell_same _ _ _ hc2
    · rw [World.frozen?_setCell]; exact hf2
    · exact hown2.only (Only.set (S := fun k => k = q) (Only.refl _ w2) _ _ (Or.inl rfl)) (fun k hk hkq => by subst hkq; rcases hat2 with h | h; exact hne (h.trans hk); simp [Value.ownBlock] at hk; simp at h; omega)
    · intro hk
      simp [Value.ownBlock] at hk
      rcases hat2 with h | h
      · exact hne (by rw [h, hk])
      · simp at h; omega
    · have := honly2.size; simp [World.setCell] at this ⊢; omega
    · have := honly2.size; simp [World.setCell] at this ⊢; omega
    · exact ho1.trans (((Only.refl _ w1).drew.al _).trans (honly2.mono (fun k _ h => Or.inr h)) |>.set _ _ (Or.inl (Or.inl rfl)))
    · rcases hat2 with h | h
      · exact Or.inl (by rw [h]; rfl)
      · exact Or.inr ⟨g, rfl, by simp at h; omega⟩

set_option maxRecDepth 100000 in
set_option maxHeartbeats 4000000 in
theorem push_full (q base : Nat) (v : Value) (n : Nat) (xs : List Value) (k l : Int) (a b : Bool) (d0 d1 d2 d3 d4 d5 d6 d7 : Int) (w : World) (hQ : QAt w q base v n xs) (hg : goodM k l a b (zM d0 d1 d2 d3 d4 d5 d6 d7) = true) (hn : 1000 ≤ n) :
    Calls Try.prog 17 #[.pointer (some ⟨q, 0, none⟩), .agg #[.int .i64 k, .int .i64 l, .bool a, .bool b, .int .u64 d0, .int .u64 d1, .int .u64 d2, .int .u64 d3, .int .u64 d4, .int .u64 d5, .int .u64 d6, .int .u64 d7]] w fun e w' => e = .returned (.int .i64 13) ∧ Below w.heap.size w w' := by
  obtain ⟨hq, hf, hown, hne, hlt, hlow⟩ := hQ
  obtain ⟨va, vc, hv, hv1, hv2⟩ := hown.any
  subst hv
  have hn' : (1000 : Int) ≤ (n : Int) := by omega
  clear hown
  go_enter Try.func17, Try.ntmps17
  go_wp2_with fail
  refine (good_any _ _ _ _ _ _ _ _ _ _ _ _ _).mono ?_
  rintro e w1 ⟨rfl, hb⟩
  rw [hg]
  have hq1 : w1.cell? ⟨q, 0, none⟩ = some (.slice va n vc) := by rw [hb.cell (p := ⟨q, 0, none⟩) (by simp; omega), World.cell?_alloc_old _ _ _ (by simp; omega)]; exact hq
  have Hb := Lib.hid hb
  clear hb hq
  go_wp2
  go_ret
  exact ⟨rfl, Below.then (Below.al (Below.refl _ _) _) Hb.out⟩
set_option maxHeartbeats 4000000 in
theorem push_form (q : Nat) (k l : Int) (a b : Bool) (d0 d1 d2 d3 d4 d5 d6 d7 : Int) (w : World) (hg : goodM k l a b (zM d0 d1 d2 d3 d4 d5 d6 d7) = false) :
    Calls Try.prog 17 #[.pointer (some ⟨q, 0, none⟩), .agg #[.int .i64 k, .int .i64 l, .bool a, .bool b, .int .u64 d0, .int .u64 d1, .int .u64 d2, .int .u64 d3, .int .u64 d4, .int .u64 d5, .int .u64 d6, .int .u64 d7]] w fun e w' => e = .returned (.int .i64 11) ∧ Below w.heap.size w w' := by
  go_enter Try.func17, Try.ntmps17
  go_wp2_with fail
  refine (good_any _ _ _ _ _ _ _ _ _ _ _ _ _).mono ?_
  rintro e w1 ⟨rfl, hb⟩
  rw [hg]
  have Hb := Lib.hid hb
  clear hb
  go_wp2
  go_ret
  exact ⟨rfl, Below.then (Below.al (Below.refl _ _) _) Hb.out⟩
set_option maxHeartbeats 4000000 in
theorem push_nil (k l : Int) (a b : Bool) (d0 d1 d2 d3 d4 d5 d6 d7 : Int) (w : World) :
    Calls Try.prog 17 #[.pointer none, .agg #[.int .i64 k, .int .i64 l, .bool a, .bool b, .int .u64 d0, .int .u64 d1, .int .u64 d2, .int .u64 d3, .int .u64 d4, .int .u64 d5, .int .u64 d6, .int .u64 d7]] w fun e w' => e = .returned (.int .i64 1) ∧ Below w.heap.size w w' := by
  go_enter Try.func17, Try.ntmps17
  go_wp2
  go_ret
  exact ⟨rfl, Below.al (Below.refl _ _) _⟩
set_option maxHeartbeats 400000 in
theorem len_any (q base : Nat) (v : Value) (n : Nat) (xs : List Value) (w : World) (hQ : QAt w q base v n xs) :
    Calls Try.prog 18 #[.pointer (some ⟨q, 0, none⟩)] w fun e w' => e = .returned (.int .i64 n) ∧ w = w' := by
  obtain ⟨hq, hf, hown, hne, hlt, hlow⟩ := hQ
  obtain ⟨va, vc, hv, hv1, hv2⟩ := hown.any
  subst hv
  clear hown
  go_enter Try.func18, Try.ntmps18
  go_wp2
  go_ret
  exact ⟨rfl, rfl⟩
theorem len_nil (w : World) : Calls Try.prog 18 #[.pointer none] w fun e w' => e = .returned (.int .i64 0) ∧ w = w' := by
  go_enter Try.func18, Try.ntmps18
  go_wp2
  go_ret
  exact ⟨rfl, rfl⟩
set_option maxHeartbeats 400000 in
theorem clear_any (q base : Nat) (v : Value) (n : Nat) (xs : List Value) (w : World) (hQ : QAt w q base v n xs) :
    Calls Try.prog 21 #[.pointer (some ⟨q, 0, none⟩)] w fun e w' => e = .returned (.tuple #[]) ∧ QAt w' q base (.slice none 0 0) 0 [] ∧ Only (fun k => k = q) w w' := by
  obtain ⟨hq, hf, hown, hne, hlt, hlow⟩ := hQ
  clear hown
  go_enter Try.func21, Try.ntmps21
  go_wp2
  go_end0
  exact ⟨rfl, ⟨World.cell?_setCell_same _ _ _ hq, by rw [World.frozen?_setCell]; exact hf, Own.nil _ _ _ _, by simp [Value.ownBlock], by simp [World.setCell]; exact hlt, by simp [World.setCell]; exact hlow⟩, Only.set (Only.refl _ _) _ _ (Or.inl rfl)⟩
theorem clear_nil (w : World) : Calls Try.prog 21 #[.pointer none] w fun e w' => e = .returned (.tuple #[]) ∧ w = w' := by
  go_enter Try.func21, Try.ntmps21
  go_wp2
  go_end0
  exact ⟨rfl, rfl⟩
/-- Head and Pop answer of no queue, and of an empty one. -/
def noM : Value := .tuple #[.agg #[.int .i64 0, .int .i64 0, .bool false, .bool false, .int .u64 0, .int .u64 0, .int .u64 0, .int .u64 0, .int .u64 0, .int .u64 0, .int .u64 0, .int .u64 0], .bool false]
set_option maxHeartbeats 400000 in
theorem head_nil (w : World) : Calls Try.prog 20 #[.pointer none] w fun e w' => e = .returned noM ∧ Below w.heap.size w w' := by
  go_enter Try.func20, Try.ntmps20
  go_wp2_with (first | (go_at_call 18; refine (len_nil _).mono ?_; rintro e w' ⟨rfl, rfl⟩))
  exact bodyPost_ret (v := noM) (by simp [results, Try.results20, go_sem, noM]) rfl ⟨rfl, Below.al (Below.refl _ _) _⟩
set_option maxHeartbeats 400000 in
theorem head_none (q base : Nat) (v : Value) (w : World) (hQ : QAt w q base v 0 []) : Calls Try.prog 20 #[.pointer (some ⟨q, 0, none⟩)] w fun e w' => e = .returned noM ∧ Below w.heap.size w w' := by
  have hQ1 : ∀ o, QAt (w.alloc o) q base v 0 [] := fun o => ⟨by rw [World.cell?_alloc_old _ _ _ (by have := hQ.lt; simp; omega)]; exact hQ.cell, by rw [World.frozen?_alloc_old _ _ _ (by have := hQ.lt; simp; omega)]; exact hQ.free, hQ.own.below' (Below.al (Below.refl _ _) _), hQ.ne_, by have := hQ.lt; simp; omega, by have := hQ.low; simp; omega⟩
  have HQ := Lib.hid hQ1
  clear hQ1 hQ
  go_enter Try.func20, Try.ntmps20
  go_wp2_with (first | (go_at_call 18; refine (len_any q base v 0 [] _ (HQ.out _)).mono ?_; rintro e w' ⟨rfl, rfl⟩))
  exact bodyPost_ret (v := noM) (by simp [results, Try.results20, go_sem, noM]) rfl ⟨rfl, Below.al (Below.refl _ _) _⟩

theorem QAt.al {q base n : Nat} {v : Value} {xs : List Value} {w : World} (h : QAt w q base v n xs) (o : Obj) : QAt (w.alloc o) q base v n xs :=
  ⟨by rw [World.cell?_alloc_old _ _ _ (by have := h.lt; simp; omega)]; exact h.cell, by rw [World.frozen?_alloc_old _ _ _ (by have := h.lt; simp; omega)]; exact h.free, h.own.below' (Below.al (Below.refl _ _) _), h.ne_, by have := h.lt; simp; omega, by have := h.low; simp; omega⟩
theorem QAt.below {q base n : Nat} {v : Value} {xs : List Value} {w w' : World} (h : QAt w q base v n xs) (hb : Below w.heap.size w w') : QAt w' q base v n xs :=
  ⟨by rw [hb.cell (p := ⟨q, 0, none⟩) h.lt]; exact h.cell, by rw [hb.frozen (p := ⟨q, 0, none⟩) h.lt]; exact h.free, h.own.below' hb, h.ne_, Nat.lt_of_lt_of_le h.lt hb.size, Nat.le_trans h.low hb.size⟩
set_option maxRecDepth 100000 in
set_option maxHeartbeats 4000000 in
theorem head_some (q base : Nat) (v : Value) (n : Nat) (xs : List Value) (k l : Int) (a b : Bool) (d0 d1 d2 d3 d4 d5 d6 d7 : Int) (w : World) (hQ : QAt w q base v (n + 1) ([.int .i64 k, .int .i64 l, .bool a, .bool b, .int .u64 d0, .int .u64 d1, .int .u64 d2, .int .u64 d3, .int .u64 d4, .int .u64 d5, .int .u64 d6, .int .u64 d7] ++ xs)) :
    Calls Try.prog 20 #[.pointer (some ⟨q, 0, none⟩)] w fun e w' => e = .returned (.tuple #[.agg #[.int .i64 k, .int .i64 l, .bool a, .bool b, .int .u64 d0, .int .u64 d1, .int .u64 d2, .int .u64 d3, .int .u64 d4, .int .u64 d5, .int .u64 d6, .int .u64 d7], .bool true]) ∧ Below w.heap.size w w' := by
  have HQ := Lib.hid hQ
  obtain ⟨hq, hf, hown, hne, hlt, hlow⟩ := hQ
  obtain ⟨g, o, cap, rfl, h1, h2, hg0, hg1, hc, hfz⟩ := hown.form (by omega)
  have c0 := hc 0 _ rfl
  have c1 := hc 1 _ rfl
  have c2 := hc 2 _ rfl
  have c3 := hc 3 _ rfl
  have c4 := hc 4 _ rfl
  have c5 := hc 5 _ rfl
  have c6 := hc 6 _ rfl
  have c7 := hc 7 _ rfl
  have c8 := hc 8 _ rfl
  have c9 := hc 9 _ rfl
  have c10 := hc 10 _ rfl
  have c11 := hc 11 _ rfl
  simp only [Nat.add_zero] at c0
  clear hc hown hfz hne
  go_enter Try.func20, Try.ntmps20
  go_wp2_with (first | (go_at_call 18; refine (len_any q base _ _ _ _ (HQ.out.al _)).mono ?_; rintro e w' ⟨rfl, rfl⟩))
  exact bodyPost_ret (v := .tuple #[.agg #[.int .i64 k, .int .i64 l, .bool a, .bool b, .int .u64 d0, .int .u64 d1, .int .u64 d2, .int .u64 d3, .int .u64 d4, .int .u64 d5, .int .u64 d6, .int .u64 d7], .bool true]) (by simp [results, Try.results20, go_sem]) rfl ⟨rfl, Below.al (Below.refl _ _) _⟩

theorem QAt.only {q base n : Nat} {v : Value} {xs : List Value} {w w' : World} {S : Nat → Prop} (h : QAt w q base v n xs) (ho : Only S w w') (hq : ¬ S q) (hv : ∀ k, v.ownBlock = some k → ¬ S k) : QAt w' q base v n xs :=
  ⟨by rw [ho.cell (p := ⟨q, 0, none⟩) h.lt hq]; exact h.cell, by rw [ho.frozen (p := ⟨q, 0, none⟩) h.lt hq]; exact h.free, h.own.only ho hv, h.ne_, Nat.lt_of_lt_of_le h.lt ho.size, Nat.le_trans h.low ho.size⟩
set_option maxRecDepth 100000 in
set_option maxHeartbeats 4000000 in
theorem pop_some (q base : Nat) (v : Value) (n : Nat) (xs : List Value) (k l : Int) (a b : Bool) (d0 d1 d2 d3 d4 d5 d6 d7 : Int) (w : World) (hQ : QAt w q base v (n + 1) ([.int .i64 k, .int .i64 l, .bool a, .bool b, .int .u64 d0, .int .u64 d1, .int .u64 d2, .int .u64 d3, .int .u64 d4, .int .u64 d5, .int .u64 d6, .int .u64 d7] ++ xs)) :
    Calls Try.prog 19 #[.pointer (some ⟨q, 0, none⟩)] w fun e w' => e = .returned (.tuple #[.agg #[.int .i64 k, .int .i64 l, .bool a, .bool b, .int .u64 d0, .int .u64 d1, .int .u64 d2, .int .u64 d3, .int .u64 d4, .int .u64 d5, .int .u64 d6, .int .u64 d7], .bool true]) ∧ ∃ v', QAt w' q base v' n xs ∧ Only (fun k => k = q) w w' ∧ v'.ownBlock = v.ownBlock := by
  have HQ := Lib.hid hQ
  obtain ⟨hq, hf, hown, hne, hlt, hlow⟩ := hQ
  obtain ⟨g, o, cap, rfl, h1, h2, hg0, hg1, hc, hfz⟩ := hown.form (by omega)
  have hcut := Own.cut (k := 1) hown (by omega)
  have hneq : ¬ g = q := fun h => hne (by rw [h]; rfl)
  clear hc hown hfz hne
  go_enter Try.func19, Try.ntmps19
  go_wp2_with (fail)
  refine (head_some q base _ n xs k l a b d0 d1 d2 d3 d4 d5 d6 d7 _ (HQ.out.al _)).mono ?_
  rintro e w1 ⟨rfl, hb⟩
  have HQ1 := (HQ.out.al _).below hb
  have hq1 := HQ1.cell
  have hf1 := HQ1.free
  have hlt1 := HQ1.lt
  have hw1 : w.heap.size < w1.heap.size := by have := hb.size; simp at this; omega
  have hz := fun o' => hb.cell (p := ⟨w.heap.size, o', none⟩) (by simp)
  have hzf := fun o' => hb.frozen (p := ⟨w.heap.size, o', none⟩) (by simp)
  have Hb := Lib.hid hb
  have hzs : ∀ V j, j < 12 → ((w1.setCell ⟨q, 0, none⟩ V).cell? ⟨w.heap.size, j, none⟩).isSome = true := fun V j hj => by
    rw [World.cell?_setCell_other _ _ _ _ (by intro he; injection he; omega), hz, cell_of_row _ _ _ _ 26 (0, 0) (heap_alloc_new w _)]
    simp; omega
  have hres := fun V => cells_setCells (w1.setCell ⟨q, 0, none⟩ V) w.heap.size [.int .i64 k, .int .i64 l, .bool a, .bool b, .int .u64 d0, .int .u64 d1, .int .u64 d2, .int .u64 d3, .int .u64 d4, .int .u64 d5, .int .u64 d6, .int .u64 d7] (fun j hj => hzs V j hj)
  have hon := fun V => Only.setCells w.heap.size [.int .i64 k, .int .i64 l, .bool a, .bool b, .int .u64 d0, .int .u64 d1, .int .u64 d2, .int .u64 d3, .int .u64 d4, .int .u64 d5, .int .u64 d6, .int .u64 d7] 0 (w1.setCell ⟨q, 0, none⟩ V)
  have hQ3 : ∀ V, Own w1 base 26 12 V n xs → V.ownBlock = some g → QAt (((w1.setCell ⟨q, 0, none⟩ V).setCells w.heap.size 0 [.int .i64 k, .int .i64 l, .bool a, .bool b, .int .u64 d0, .int .u64 d1, .int .u64 d2, .int .u64 d3, .int .u64 d4, .int .u64 d5, .int .u64 d6, .int .u64 d7]).alloc (.cells #[.int .i64 k, .int .i64 l, .bool a, .bool b, .int .u64 d0, .int .u64 d1, .int .u64 d2, .int .u64 d3, .int .u64 d4, .int .u64 d5, .int .u64 d6, .int .u64 d7] 26)) q base V n xs := fun V h h' => by
    refine QAt.al (QAt.only (S := fun k => k = w.heap.size) (w := w1.setCell ⟨q, 0, none⟩ V) ⟨World.cell?_setCell_same _ _ _ hq1, by rw [World.frozen?_setCell]; exact hf1, ?_, ?_, by simp [World.setCell]; exact hlt1, by simp [World.setCell]; omega⟩ (hon V) (by omega) (fun k hk => by rw [h'] at hk; injection hk; omega)) _
    · exact h.only (Only.set (S := fun k => k = q) (Only.refl _ w1) _ _ (Or.inl rfl)) (fun k hk hkq => by rw [h'] at hk; exact hneq ((Option.some.inj hk).trans hkq))
    · rw [h']; intro hk; exact hneq (Option.some.inj hk)
  have hon3 : ∀ V, Only (fun k => k = q) w (((w1.setCell ⟨q, 0, none⟩ V).setCells w.heap.size 0 [.int .i64 k, .int .i64 l, .bool a, .bool b, .int .u64 d0, .int .u64 d1, .int .u64 d2, .int .u64 d3, .int .u64 d4, .int .u64 d5, .int .u64 d6, .int .u64 d7]).alloc (.cells #[.int .i64 k, .int .i64 l, .bool a, .bool b, .int .u64 d0, .int .u64 d1, .int .u64 d2, .int .u64 d3, .int .u64 d4, .int .u64 d5, .int .u64 d6, .int .u64 d7] 26)) := fun V =>
    Only.al (Only.out (Only.set (S := fun k => k = q) (Only.of_below (Below.then (Below.al (Below.refl _ _) _) Hb.out)) ⟨q, 0, none⟩ V (Or.inl rfl)) (hon V) (fun k hk => by omega)) _
  have HQ2 := Lib.hid HQ1
  have HQ3 := Lib.hid hQ3; have HON := Lib.hid hon3; have HR := Lib.hid hres; have HC := Lib.hid hcut
  clear hb HQ1 hq hf hQ3 hon3 hres hcut hon hzs
  go_wp2
  · refine bodyPost_ret (v := .tuple #[.agg #[.int .i64 k, .int .i64 l, .bool a, .bool b, .int .u64 d0, .int .u64 d1, .int .u64 d2, .int .u64 d3, .int .u64 d4, .int .u64 d5, .int .u64 d6, .int .u64 d7], .bool true]) ?_ rfl ⟨rfl, _, HQ3.out (.slice (some ⟨g, o, none⟩) n 0) ?_ rfl, HON.out _, rfl⟩
    · have hr := HR.out (.slice (some ⟨g, o, none⟩) n 0)
      have hsz : w.heap.size < ((w1.setCell ⟨q, 0, none⟩ (.slice (some ⟨g, o, none⟩) n 0)).setCells w.heap.size 0 [.int .i64 k, .int .i64 l, .bool a, .bool b, .int .u64 d0, .int .u64 d1, .int .u64 d2, .int .u64 d3, .int .u64 d4, .int .u64 d5, .int .u64 d6, .int .u64 d7]).heap.size := Nat.lt_of_lt_of_le (by simp [World.setCell]; exact hw1) (Only.setCells w.heap.size _ 0 _).size
      show Sem.run Try.prog (results Try.f19 _) (((w1.setCell ⟨q, 0, none⟩ (.slice (some ⟨g, o, none⟩) n 0)).setCells w.heap.size 0 [.int .i64 k, .int .i64 l, .bool a, .bool b, .int .u64 d0, .int .u64 d1, .int .u64 d2, .int .u64 d3, .int .u64 d4, .int .u64 d5, .int .u64 d6, .int .u64 d7]).alloc (.cells #[.int .i64 k, .int .i64 l, .bool a, .bool b, .int .u64 d0, .int .u64 d1, .int .u64 d2, .int .u64 d3, .int .u64 d4, .int .u64 d5, .int .u64 d6, .int .u64 d7] 26)) = .ok _ (((w1.setCell ⟨q, 0, none⟩ (.slice (some ⟨g, o, none⟩) n 0)).setCells w.heap.size 0 [.int .i64 k, .int .i64 l, .bool a, .bool b, .int .u64 d0, .int .u64 d1, .int .u64 d2, .int .u64 d3, .int .u64 d4, .int .u64 d5, .int .u64 d6, .int .u64 d7]).alloc (.cells #[.int .i64 k, .int .i64 l, .bool a, .bool b, .int .u64 d0, .int .u64 d1, .int .u64 d2, .int .u64 d3, .int .u64 d4, .int .u64 d5, .int .u64 d6, .int .u64 d7] 26))
      generalize (w1.setCell ⟨q, 0, none⟩ (.slice (some ⟨g, o, none⟩) n 0)).setCells w.heap.size 0 [.int .i64 k, .int .i64 l, .bool a, .bool b, .int .u64 d0, .int .u64 d1, .int .u64 d2, .int .u64 d3, .int .u64 d4, .int .u64 d5, .int .u64 d6, .int .u64 d7] = W2 at hr hsz ⊢
      clear HR HC HQ3 HON
      have hr' : ∀ j, j < 12 → (W2.alloc (.cells #[.int .i64 k, .int .i64 l, .bool a, .bool b, .int .u64 d0, .int .u64 d1, .int .u64 d2, .int .u64 d3, .int .u64 d4, .int .u64 d5, .int .u64 d6, .int .u64 d7] 26)).cell? ⟨w.heap.size, j, none⟩ = ([.int .i64 k, .int .i64 l, .bool a, .bool b, .int .u64 d0, .int .u64 d1, .int .u64 d2, .int .u64 d3, .int .u64 d4, .int .u64 d5, .int .u64 d6, .int .u64 d7] : List Value)[j]? := fun j hj => (World.cell?_alloc_old _ _ _ (by simp; omega)).trans (hr j hj)
      generalize W2.alloc (.cells #[.int .i64 k, .int .i64 l, .bool a, .bool b, .int .u64 d0, .int .u64 d1, .int .u64 d2, .int .u64 d3, .int .u64 d4, .int .u64 d5, .int .u64 d6, .int .u64 d7] 26) = W3 at hr' ⊢
      simp [results, Try.results19, go_sem, hr']
    · have := (HC.out.below' (Below.al (Below.refl _ _) _)).below' Hb.out
      simpa [h] using this
  · refine bodyPost_ret (v := .tuple #[.agg #[.int .i64 k, .int .i64 l, .bool a, .bool b, .int .u64 d0, .int .u64 d1, .int .u64 d2, .int .u64 d3, .int .u64 d4, .int .u64 d5, .int .u64 d6, .int .u64 d7], .bool true]) ?_ rfl ⟨rfl, _, HQ3.out (.slice (some ⟨g, o + 12, none⟩) n (cap - 1)) ?_ rfl, HON.out _, rfl⟩
    · have hr := HR.out (.slice (some ⟨g, o + 12, none⟩) n (cap - 1))
      have hsz : w.heap.size < ((w1.setCell ⟨q, 0, none⟩ (.slice (some ⟨g, o + 12, none⟩) n (cap - 1))).setCells w.heap.size 0 [.int .i64 k, .int .i64 l, .bool a, .bool b, .int .u64 d0, .int .u64 d1, .int .u64 d2, .int .u64 d3, .int .u64 d4, .int .u64 d5, .int .u64 d6, .int .u64 d7]).heap.size := Nat.lt_of_lt_of_le (by simp [World.setCell]; exact hw1) (Only.setCells w.heap.size _ 0 _).size
      show Sem.run Try.prog (results Try.f19 _) (((w1.setCell ⟨q, 0, none⟩ (.slice (some ⟨g, o + 12, none⟩) n (cap - 1))).setCells w.heap.size 0 [.int .i64 k, .int .i64 l, .bool a, .bool b, .int .u64 d0, .int .u64 d1, .int .u64 d2, .int .u64 d3, .int .u64 d4, .int .u64 d5, .int .u64 d6, .int .u64 d7]).alloc (.cells #[.int .i64 k, .int .i64 l, .bool a, .bool b, .int .u64 d0, .int .u64 d1, .int .u64 d2, .int .u64 d3, .int .u64 d4, .int .u64 d5, .int .u64 d6, .int .u64 d7] 26)) = .ok _ (((w1.setCell ⟨q, 0, none⟩ (.slice (some ⟨g, o + 12, none⟩) n (cap - 1))).setCells w.heap.size 0 [.int .i64 k, .int .i64 l, .bool a, .bool b, .int .u64 d0, .int .u64 d1, .int .u64 d2, .int .u64 d3, .int .u64 d4, .int .u64 d5, .int .u64 d6, .int .u64 d7]).alloc (.cells #[.int .i64 k, .int .i64 l, .bool a, .bool b, .int .u64 d0, .int .u64 d1, .int .u64 d2, .int .u64 d3, .int .u64 d4, .int .u64 d5, .int .u64 d6, .int .u64 d7] 26))
      generalize (w1.setCell ⟨q, 0, none⟩ (.slice (some ⟨g, o + 12, none⟩) n (cap - 1))).setCells w.heap.size 0 [.int .i64 k, .int .i64 l, .bool a, .bool b, .int .u64 d0, .int .u64 d1, .int .u64 d2, .int .u64 d3, .int .u64 d4, .int .u64 d5, .int .u64 d6, .int .u64 d7] = W2 at hr hsz ⊢
      clear HR HC HQ3 HON
      have hr' : ∀ j, j < 12 → (W2.alloc (.cells #[.int .i64 k, .int .i64 l, .bool a, .bool b, .int .u64 d0, .int .u64 d1, .int .u64 d2, .int .u64 d3, .int .u64 d4, .int .u64 d5, .int .u64 d6, .int .u64 d7] 26)).cell? ⟨w.heap.size, j, none⟩ = ([.int .i64 k, .int .i64 l, .bool a, .bool b, .int .u64 d0, .int .u64 d1, .int .u64 d2, .int .u64 d3, .int .u64 d4, .int .u64 d5, .int .u64 d6, .int .u64 d7] : List Value)[j]? := fun j hj => (World.cell?_alloc_old _ _ _ (by simp; omega)).trans (hr j hj)
      generalize W2.alloc (.cells #[.int .i64 k, .int .i64 l, .bool a, .bool b, .int .u64 d0, .int .u64 d1, .int .u64 d2, .int .u64 d3, .int .u64 d4, .int .u64 d5, .int .u64 d6, .int .u64 d7] 26) = W3 at hr' ⊢
      simp [results, Try.results19, go_sem, hr']
    · have := (HC.out.below' (Below.al (Below.refl _ _) _)).below' Hb.out
      simpa [h] using this

set_option maxRecDepth 100000 in
set_option maxHeartbeats 4000000 in
theorem pop_no (p : Option Addr) (w : World) (hh : Calls Try.prog 20 #[.pointer p] (w.alloc (.cells #[.int .i64 0, .int .i64 0, .bool false, .bool false, .int .u64 0, .int .u64 0, .int .u64 0, .int .u64 0, .int .u64 0, .int .u64 0, .int .u64 0, .int .u64 0] 26)) fun e w' => e = .returned noM ∧ Below (w.alloc (.cells #[.int .i64 0, .int .i64 0, .bool false, .bool false, .int .u64 0, .int .u64 0, .int .u64 0, .int .u64 0, .int .u64 0, .int .u64 0, .int .u64 0, .int .u64 0] 26)).heap.size (w.alloc (.cells #[.int .i64 0, .int .i64 0, .bool false, .bool false, .int .u64 0, .int .u64 0, .int .u64 0, .int .u64 0, .int .u64 0, .int .u64 0, .int .u64 0, .int .u64 0] 26)) w') :
    Calls Try.prog 19 #[.pointer p] w fun e w' => e = .returned noM ∧ Below w.heap.size w w' := by
  have HH := Lib.hid hh
  clear hh
  go_enter Try.func19, Try.ntmps19
  go_wp2_with (fail)
  refine HH.out.mono ?_
  rintro e w1 ⟨rfl, hb⟩
  unfold noM
  have hw1 : w.heap.size < w1.heap.size := by have := hb.size; simp at this; omega
  have hz := fun o' => hb.cell (p := ⟨w.heap.size, o', none⟩) (by simp)
  have hzf := fun o' => hb.frozen (p := ⟨w.heap.size, o', none⟩) (by simp)
  have hzs : ∀ j, j < 12 → (w1.cell? ⟨w.heap.size, j, none⟩).isSome = true := fun j hj => by
    rw [hz, cell_of_row _ _ _ _ 26 (0, 0) (heap_alloc_new w _)]
    simp; omega
  have hr := cells_setCells w1 w.heap.size [.int .i64 0, .int .i64 0, .bool false, .bool false, .int .u64 0, .int .u64 0, .int .u64 0, .int .u64 0, .int .u64 0, .int .u64 0, .int .u64 0, .int .u64 0] (fun j hj => hzs j hj)
  have HR := Lib.hid hr
  have Hb := Lib.hid hb
  clear hb hr hzs
  go_wp2
  refine bodyPost_ret (v := noM) ?_ rfl ⟨rfl, ?_⟩
  · have hr := HR.out
    have hsz : w.heap.size < (w1.setCells w.heap.size 0 [.int .i64 0, .int .i64 0, .bool false, .bool false, .int .u64 0, .int .u64 0, .int .u64 0, .int .u64 0, .int .u64 0, .int .u64 0, .int .u64 0, .int .u64 0]).heap.size := Nat.lt_of_lt_of_le hw1 (Only.setCells w.heap.size _ 0 _).size
    show Sem.run Try.prog (results Try.f19 _) ((w1.setCells w.heap.size 0 [.int .i64 0, .int .i64 0, .bool false, .bool false, .int .u64 0, .int .u64 0, .int .u64 0, .int .u64 0, .int .u64 0, .int .u64 0, .int .u64 0, .int .u64 0]).alloc (.cells #[.int .i64 0, .int .i64 0, .bool false, .bool false, .int .u64 0, .int .u64 0, .int .u64 0, .int .u64 0, .int .u64 0, .int .u64 0, .int .u64 0, .int .u64 0] 26)) = .ok _ ((w1.setCells w.heap.size 0 [.int .i64 0, .int .i64 0, .bool false, .bool false, .int .u64 0, .int .u64 0, .int .u64 0, .int .u64 0, .int .u64 0, .int .u64 0, .int .u64 0, .int .u64 0]).alloc (.cells #[.int .i64 0, .int .i64 0, .bool false, .bool false, .int .u64 0, .int .u64 0, .int .u64 0, .int .u64 0, .int .u64 0, .int .u64 0, .int .u64 0, .int .u64 0] 26))
    clear HR
    generalize w1.setCells w.heap.size 0 [.int .i64 0, .int .i64 0, .bool false, .bool false, .int .u64 0, .int .u64 0, .int .u64 0, .int .u64 0, .int .u64 0, .int .u64 0, .int .u64 0, .int .u64 0] = W2 at hr hsz ⊢
    have hr' : ∀ j, j < 12 → (W2.alloc (.cells #[.int .i64 0, .int .i64 0, .bool false, .bool false, .int .u64 0, .int .u64 0, .int .u64 0, .int .u64 0, .int .u64 0, .int .u64 0, .int .u64 0, .int .u64 0] 26)).cell? ⟨w.heap.size, j, none⟩ = ([.int .i64 0, .int .i64 0, .bool false, .bool false, .int .u64 0, .int .u64 0, .int .u64 0, .int .u64 0, .int .u64 0, .int .u64 0, .int .u64 0, .int .u64 0] : List Value)[j]? := fun j hj => (World.cell?_alloc_old _ _ _ (by simp; omega)).trans (hr j hj)
    generalize W2.alloc (.cells #[.int .i64 0, .int .i64 0, .bool false, .bool false, .int .u64 0, .int .u64 0, .int .u64 0, .int .u64 0, .int .u64 0, .int .u64 0, .int .u64 0, .int .u64 0] 26) = W3 at hr' ⊢
    simp [results, Try.results19, go_sem, hr', noM]
  · exact Only.below (S := fun k => k = w.heap.size) (Only.al (Only.trans (Only.of_below (Below.then (Below.al (Below.refl _ _) _) Hb.out)) (Only.setCells w.heap.size [.int .i64 0, .int .i64 0, .bool false, .bool false, .int .u64 0, .int .u64 0, .int .u64 0, .int .u64 0, .int .u64 0, .int .u64 0, .int .u64 0, .int .u64 0] 0 w1)) _) (Nat.le_refl _) (fun k hk => by omega)
end Go.Proofs.Ytjkckcmogpipmaa
