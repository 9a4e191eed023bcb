/-
  The reference's Run: its end.
-/
import Derived.Test.YtigbhlkafmpgmaaRun
import Derived.Test.YtigbhlkafmpgmaaRtx
namespace Go.Proofs.Ytigbhlkafmpgmaa
open Go.RowKit Go.Maps
attribute [local go_sem ↓] Go.wp_at_zero Go.wp_at_succ
theorem info33s : (Try.prog.info? 33).map (·.size) = some 3 := by kernel_rfl
set_option linter.unusedVariables false in
set_option maxRecDepth 100000 in
set_option maxHeartbeats 8000000 in
theorem rend_ok (B : Nat) (oa : Option Addr) (lo oc : Nat) (ta : Option Addr) (tc : Nat) (vm : Value) (m cur tells : List Int) (code : Int) (w : World) (hB : B ≤ w.heap.size) (ho : Own w B 37 1 (.slice oa lo oc) lo (encU cur)) (ht : Own w B 37 1 (.slice ta tells.length tc) tells.length (encU tells)) (hm : ∀ w', Below B w w' → Rds w' 1 vm m.length (encU m)) (hl : tells.length ≤ 1000) (hm1 : m.length ≤ 1000) (hd : ∀ k, (Value.slice ta tells.length tc).ownBlock = some k → ¬ (Value.slice oa lo oc).ownBlock = some k) (hc : code = 101) :
    Calls Try.prog 22 #[.agg #[.slice oa lo oc, .slice ta tells.length tc, .int .i64 0], vm, .int .u64 code] w fun e w' => ∃ vt', e = .returned (.agg #[.slice oa lo oc, vt', .int .i64 0]) ∧ Own w' B 37 1 (.slice oa lo oc) lo (encU cur) ∧ Own w' B 37 1 vt' (tells ++ [code]).length (encU (tells ++ [code])) ∧ (∀ k, vt'.ownBlock = some k → (Value.slice ta tells.length tc).ownBlock = some k ∨ w.heap.size ≤ k) ∧ Only (fun k => (Value.slice ta tells.length tc).ownBlock = some k) w w' := by
  subst hc
  obtain ⟨i0, hi0, hz0, hz1, hz2⟩ := info_parts info37
  obtain ⟨l, hl'⟩ : ∃ l, tells.length = l := ⟨_, rfl⟩
  have HL := Lib.hid hl'
  rw [hl'] at hl ht hd ⊢
  obtain ⟨W1, hW1⟩ : ∃ W1, w.alloc (.cells #[.slice oa lo oc, .slice ta l tc, .int .i64 0] 33) = W1 := ⟨_, rfl⟩
  obtain ⟨W2, hW2⟩ : ∃ W2, W1.alloc (.cells #[.slice none 0 0, .slice none 0 0, .int .i64 0] 33) = W2 := ⟨_, rfl⟩
  obtain ⟨W3, hW3⟩ : ∃ W3, W2.alloc (.cells #[.int .u64 101] 37) = W3 := ⟨_, rfl⟩
  obtain ⟨n0, hn0⟩ : ∃ n0, w.heap.size = n0 := ⟨_, rfl⟩
  have e1 : W1.heap.size = n0 + 1 := by rw [← hW1, ← hn0]; simp
  have e2 : W2.heap.size = n0 + 1 + 1 := by rw [← hW2, ← e1]; simp
  have e3 : W3.heap.size = n0 + 1 + 1 + 1 := by rw [← hW3, ← e2]; simp
  have g1 : W1.heap[n0]? = some (.cells #[.slice oa lo oc, .slice ta l tc, .int .i64 0] 33 (0, 0)) := by rw [← hW1, ← hn0]; exact heap_alloc_new w _
  have b2 : Below W1.heap.size W1 W2 := by rw [← hW2]; exact Below.al (Below.refl _ _) _
  have b3 : Below W2.heap.size W2 W3 := by rw [← hW3]; exact Below.al (Below.refl _ _) _
  have g2 := below_row g1 b2
  have g3 := below_row g2 b3
  have k2 : W2.heap[n0 + 1]? = some (.cells #[.slice none 0 0, .slice none 0 0, .int .i64 0] 33 (0, 0)) := by rw [← hW2, ← e1]; exact heap_alloc_new W1 _
  have k3 := below_row k2 b3
  have hb0 : Below w.heap.size w W1 := by rw [← hW1]; exact Below.al (Below.refl _ _) _
  have hB3 : Below w.heap.size w W3 := Below.then (Below.then hb0 b2) b3
  have ht3 := ht.below' hB3
  have ho3 := ho.below' hB3
  have hlt3 : ∀ k, (Value.slice ta l tc).ownBlock = some k → k < n0 := fun k hk => by rw [← hn0]; exact (ht.lt k hk).2
  have q0 : W2.cell? ⟨n0, 1, none⟩ = some (.slice ta l tc) := by rw [cell_of_row _ _ _ _ 33 (0, 0) g2]; rfl
  have news := World.news_of_block (w := W3) (cs := #[.int .u64 101]) (t := 37) (fr := (0, 0)) (B := n0 + 1 + 1) (by rw [← hW3, ← e2]; exact heap_alloc_new W2 _)
  have HT3 := Lib.hid ht3; have HO3 := Lib.hid ho3; have HB3 := Lib.hid hB3; have G3 := Lib.hid g3; have K3 := Lib.hid k3; have HLT := Lib.hid hlt3; have HD := Lib.hid hd; have NW := Lib.hid news
  have HOLT := Lib.hid (show ∀ k, (Value.slice oa lo oc).ownBlock = some k → k < n0 from fun k hk => by rw [← hn0]; exact (ho.lt k hk).2)
  clear g1 g2 g3 k2 k3 b2 b3 hb0 hB3 ht3 ho3 hlt3 hl' ho ht hm hd news
  go_enter Try.func22, Try.ntmps22
  go_wp2_with (at_builtin; refine wpList_append_Own _ rfl _ _ 22 rfl B 37 i0 _ 1 8 Try.underlying22 hi0 hz0 hz1 hz2 rfl (.slice ta l tc) l (encU tells) rfl HT3.out ⟨n0 + 1 + 1, 0, none⟩ 1 1 [.int .u64 101] rfl rfl NW.out (by simp [Value.oneCell']) (by omega) (by unfold maxLen; omega) (by omega) (by rw [e3]; omega) ?_; intro g' o' cap' w4 hown4 honly4 hat4 hlt4; have g4 := (honly4.block n0 (by omega) (fun h => Nat.lt_irrefl _ (HLT.out _ h))).trans G3.out; have k4 := (honly4.block (n0 + 1) (by omega) (fun h => by have := HLT.out _ h; omega)).trans K3.out; have c0 : w4.cell? ⟨n0, 0, none⟩ = some (.slice oa lo oc) := (by rw [cell_of_row _ _ _ _ 33 (0, 0) g4]; rfl); have c1 : w4.cell? ⟨n0, 1, none⟩ = some (.slice ta l tc) := (by rw [cell_of_row _ _ _ _ 33 (0, 0) g4]; rfl); have c2 : w4.cell? ⟨n0, 2, none⟩ = some (.int .i64 0) := (by rw [cell_of_row _ _ _ _ 33 (0, 0) g4]; rfl); have d0 : w4.cell? ⟨n0 + 1, 0, none⟩ = some (.slice none 0 0) := (by rw [cell_of_row _ _ _ _ 33 (0, 0) k4]; rfl); have d1 : w4.cell? ⟨n0 + 1, 1, none⟩ = some (.slice none 0 0) := (by rw [cell_of_row _ _ _ _ 33 (0, 0) k4]; rfl); have d2 : w4.cell? ⟨n0 + 1, 2, none⟩ = some (.int .i64 0) := (by rw [cell_of_row _ _ _ _ 33 (0, 0) k4]; rfl); have f4 : ∀ o, w4.frozen? ⟨n0, o, none⟩ = false := (fun o => frozen_of_row _ _ _ _ 33 g4); have f5 : ∀ o, w4.frozen? ⟨n0 + 1, o, none⟩ = false := (fun o => frozen_of_row _ _ _ _ 33 k4); have G4 := Lib.hid g4; have K4 := Lib.hid k4; have HO4 := Lib.hid hown4; have HN4 := Lib.hid honly4; have HA4 := Lib.hid hat4; clear g4 k4 hown4 honly4 hat4)
  obtain ⟨nw, hnw⟩ : ∃ nw, Value.slice (some ⟨g', o', none⟩) (l + 1) cap' = nw := ⟨_, rfl⟩
  have hnb : nw.ownBlock = some g' := by rw [← hnw]; rfl
  have HO4 := Lib.hid (show Own w4 B 37 1 nw (l + 1) (encU tells ++ [.int .u64 101]) by rw [← hnw]; exact HO4.out)
  rw [hnw]
  have r5 : (w4.setCell ⟨n0, 1, none⟩ nw).heap[n0 + 1]? = some (.cells #[.slice none 0 0, .slice none 0 0, .int .i64 0] 33 (0, 0)) := (((Only.refl (fun k => k = n0) w4).set ⟨n0, 1, none⟩ nw (Or.inl rfl)).block (n0 + 1) (Array.getElem?_eq_some_iff.1 K4.out).1 (by omega)).trans K4.out
  have r6 := row_setCells (n0 + 1) 33 [.slice oa lo oc, nw, .int .i64 0] 0 _ _ r5 (by show 0 + 3 ≤ 3; omega)
  have hO : Only (fun k => k = n0 ∨ k = n0 + 1) w4 ((((w4.setCell ⟨n0, 1, none⟩ nw).setCell ⟨n0 + 1, 0, none⟩ (.slice oa lo oc)).setCell ⟨n0 + 1, 1, none⟩ nw).setCell ⟨n0 + 1, 2, none⟩ (.int .i64 0)) := ((((Only.refl _ _).set _ _ (Or.inl (Or.inl rfl))).set _ _ (Or.inl (Or.inr rfl))).set _ _ (Or.inl (Or.inr rfl))).set _ _ (Or.inl (Or.inr rfl))
  have R6 := Lib.hid (show ((((w4.setCell ⟨n0, 1, none⟩ nw).setCell ⟨n0 + 1, 0, none⟩ (.slice oa lo oc)).setCell ⟨n0 + 1, 1, none⟩ nw).setCell ⟨n0 + 1, 2, none⟩ (.int .i64 0)).heap[n0 + 1]? = some (.cells #[.slice oa lo oc, nw, .int .i64 0] 33 (0, 0)) from r6)
  generalize ((((w4.setCell ⟨n0, 1, none⟩ nw).setCell ⟨n0 + 1, 0, none⟩ (.slice oa lo oc)).setCell ⟨n0 + 1, 1, none⟩ nw).setCell ⟨n0 + 1, 2, none⟩ (.int .i64 0)) = W6 at hO R6 ⊢
  refine bodyPost_ret (v := .agg #[.slice oa lo oc, nw, .int .i64 0]) (results_cell1 (fn := Try.f22) (p := 6) _ rfl _ (n0 + 1) [.slice oa lo oc, nw, .int .i64 0] _ rfl (fun j u hj => by rw [cell_of_row _ _ _ _ 33 (0, 0) R6.out]; simpa using hj) Try.underlying33 rfl info33s) rfl ⟨nw, rfl, ?_, ?_, ?_, ?_⟩
  · refine (HO3.out.only HN4.out (fun k hk h => HD.out k h hk)).only hO (fun k hk h => ?_)
    have := HOLT.out k hk
    omega
  · rw [encU_app, HL.out]
    refine HO4.out.only hO (fun k hk h => ?_)
    rw [hnb] at hk
    injection hk with hk
    rcases HA4.out with h2 | h2
    · have := HLT.out _ h2
      omega
    · omega
  · intro k hk
    rw [hnb] at hk
    injection hk with hk
    rcases HA4.out with h2 | h2
    · exact Or.inl (by rw [h2, hk])
    · exact Or.inr (by omega)
  · exact Only.out ((Only.of_below HB3.out).trans HN4.out) hO (fun k hk => by omega)
set_option linter.unusedVariables false in
set_option maxRecDepth 100000 in
set_option maxHeartbeats 8000000 in
theorem rend_back (B : Nat) (oa : Option Addr) (lo oc : Nat) (ta : Option Addr) (tc : Nat) (vm : Value) (m cur tells : List Int) (code : Int) (w : World) (hB : B ≤ w.heap.size) (ho : Own w B 37 1 (.slice oa lo oc) lo (encU cur)) (ht : Own w B 37 1 (.slice ta tells.length tc) tells.length (encU tells)) (hm : ∀ w', Below B w w' → Rds w' 1 vm m.length (encU m)) (hl : tells.length ≤ 1000) (hm1 : m.length ≤ 1000) (hd : ∀ k, (Value.slice ta tells.length tc).ownBlock = some k → ¬ (Value.slice oa lo oc).ownBlock = some k) (hc : ¬ code = 101) :
    Calls Try.prog 22 #[.agg #[.slice oa lo oc, .slice ta tells.length tc, .int .i64 0], vm, .int .u64 code] w fun e w' => ∃ vo' vt', e = .returned (.agg #[vo', vt', .int .i64 0]) ∧ (∀ k, vo'.ownBlock = some k → w.heap.size ≤ k) ∧ Own w' B 37 1 vo' m.length (encU m) ∧ Own w' B 37 1 vt' (tells ++ [code]).length (encU (tells ++ [code])) ∧ (∀ k, vt'.ownBlock = some k → (Value.slice ta tells.length tc).ownBlock = some k ∨ w.heap.size ≤ k) ∧ Only (fun k => (Value.slice ta tells.length tc).ownBlock = some k) w w' := by
  have hne : (code != 101) = true := by simpa using hc
  clear hc
  obtain ⟨i0, hi0, hz0, hz1, hz2⟩ := info_parts info37
  obtain ⟨l, hl'⟩ : ∃ l, tells.length = l := ⟨_, rfl⟩
  have HL := Lib.hid hl'
  rw [hl'] at hl ht hd ⊢
  obtain ⟨W1, hW1⟩ : ∃ W1, w.alloc (.cells #[.slice oa lo oc, .slice ta l tc, .int .i64 0] 33) = W1 := ⟨_, rfl⟩
  obtain ⟨W2, hW2⟩ : ∃ W2, W1.alloc (.cells #[.slice none 0 0, .slice none 0 0, .int .i64 0] 33) = W2 := ⟨_, rfl⟩
  obtain ⟨W3, hW3⟩ : ∃ W3, W2.alloc (.cells #[.int .u64 code] 37) = W3 := ⟨_, rfl⟩
  obtain ⟨n0, hn0⟩ : ∃ n0, w.heap.size = n0 := ⟨_, rfl⟩
  have e1 : W1.heap.size = n0 + 1 := by rw [← hW1, ← hn0]; simp
  have e2 : W2.heap.size = n0 + 1 + 1 := by rw [← hW2, ← e1]; simp
  have e3 : W3.heap.size = n0 + 1 + 1 + 1 := by rw [← hW3, ← e2]; simp
  have g1 : W1.heap[n0]? = some (.cells #[.slice oa lo oc, .slice ta l tc, .int .i64 0] 33 (0, 0)) := by rw [← hW1, ← hn0]; exact heap_alloc_new w _
  have b2 : Below W1.heap.size W1 W2 := by rw [← hW2]; exact Below.al (Below.refl _ _) _
  have b3 : Below W2.heap.size W2 W3 := by rw [← hW3]; exact Below.al (Below.refl _ _) _
  have g2 := below_row g1 b2
  have g3 := below_row g2 b3
  have k2 : W2.heap[n0 + 1]? = some (.cells #[.slice none 0 0, .slice none 0 0, .int .i64 0] 33 (0, 0)) := by rw [← hW2, ← e1]; exact heap_alloc_new W1 _
  have k3 := below_row k2 b3
  have hb0 : Below w.heap.size w W1 := by rw [← hW1]; exact Below.al (Below.refl _ _) _
  have hB3 : Below w.heap.size w W3 := Below.then (Below.then hb0 b2) b3
  have ht3 := ht.below' hB3
  have ho3 := ho.below' hB3
  have hlt3 : ∀ k, (Value.slice ta l tc).ownBlock = some k → k < n0 := fun k hk => by rw [← hn0]; exact (ht.lt k hk).2
  have q0 : W2.cell? ⟨n0, 1, none⟩ = some (.slice ta l tc) := by rw [cell_of_row _ _ _ _ 33 (0, 0) g2]; rfl
  have news := World.news_of_block (w := W3) (cs := #[.int .u64 code]) (t := 37) (fr := (0, 0)) (B := n0 + 1 + 1) (by rw [← hW3, ← e2]; exact heap_alloc_new W2 _)
  have HT3 := Lib.hid ht3; have HO3 := Lib.hid ho3; have HB3 := Lib.hid hB3; have G3 := Lib.hid g3; have K3 := Lib.hid k3; have HLT := Lib.hid hlt3; have HD := Lib.hid hd; have NW := Lib.hid news
  have HOLT := Lib.hid (show ∀ k, (Value.slice oa lo oc).ownBlock = some k → k < n0 from fun k hk => by rw [← hn0]; exact (ho.lt k hk).2)
  have HM := Lib.hid hm
  clear g1 g2 g3 k2 k3 b2 b3 hb0 hB3 ht3 ho3 hlt3 hl' ho ht hm hd news
  go_enter Try.func22, Try.ntmps22
  go_wp2_with (first | (at_builtin; refine wpList_append_Own _ rfl _ _ 22 rfl B 37 i0 _ 1 8 Try.underlying22 hi0 hz0 hz1 hz2 rfl (.slice ta l tc) l (encU tells) rfl HT3.out ⟨n0 + 1 + 1, 0, none⟩ 1 1 [.int .u64 code] rfl rfl NW.out (by simp [Value.oneCell']) (by omega) (by unfold maxLen; omega) (by omega) (by rw [e3]; omega) ?_; intro g' o' cap' w4 hown4 honly4 hat4 hlt4; have xg := (honly4.block n0 (by omega) (fun h => Nat.lt_irrefl _ (HLT.out _ h))).trans G3.out; have xk := (honly4.block (n0 + 1) (by omega) (fun h => by have := HLT.out _ h; omega)).trans K3.out; have xc0 : w4.cell? ⟨n0, 0, none⟩ = some (.slice oa lo oc) := (by rw [cell_of_row _ _ _ _ 33 (0, 0) xg]; rfl); have xc1 : w4.cell? ⟨n0, 1, none⟩ = some (.slice ta l tc) := (by rw [cell_of_row _ _ _ _ 33 (0, 0) xg]; rfl); have xc2 : w4.cell? ⟨n0, 2, none⟩ = some (.int .i64 0) := (by rw [cell_of_row _ _ _ _ 33 (0, 0) xg]; rfl); have xd0 : w4.cell? ⟨n0 + 1, 0, none⟩ = some (.slice none 0 0) := (by rw [cell_of_row _ _ _ _ 33 (0, 0) xk]; rfl); have xd1 : w4.cell? ⟨n0 + 1, 1, none⟩ = some (.slice none 0 0) := (by rw [cell_of_row _ _ _ _ 33 (0, 0) xk]; rfl); have xd2 : w4.cell? ⟨n0 + 1, 2, none⟩ = some (.int .i64 0) := (by rw [cell_of_row _ _ _ _ 33 (0, 0) xk]; rfl); have xf4 : ∀ o, w4.frozen? ⟨n0, o, none⟩ = false := (fun o => frozen_of_row _ _ _ _ 33 xg); have xf5 : ∀ o, w4.frozen? ⟨n0 + 1, o, none⟩ = false := (fun o => frozen_of_row _ _ _ _ 33 xk); obtain ⟨w5, hw5⟩ : ∃ w5, w4.setCell ⟨n0, 1, none⟩ (.slice (some ⟨g', o', none⟩) (l + 1) cap') = w5 := ⟨_, rfl⟩; have hO5 : Only (fun k => k = n0) w4 w5 := (by rw [← hw5]; exact (Only.refl _ _).set _ _ (Or.inl rfl)); have G5 := Lib.hid (show w5.heap[n0]? = some (.cells #[.slice oa lo oc, (.slice (some ⟨g', o', none⟩) (l + 1) cap'), .int .i64 0] 33 (0, 0)) from by rw [← hw5]; exact row_setCells n0 33 [(.slice (some ⟨g', o', none⟩) (l + 1) cap')] 1 w4 _ xg (by show 1 + 1 ≤ 3; omega)); have K5 := Lib.hid ((hO5.block (n0 + 1) (Array.getElem?_eq_some_iff.1 xk).1 (by omega)).trans xk); have h34 : Below B W3 w4 := honly4.below (by rw [e3]; omega) (fun k hk => (HT3.out.lt k hk).1); have HT5 := Lib.hid (show Own w5 B 37 1 (.slice (some ⟨g', o', none⟩) (l + 1) cap') (l + 1) (encU tells ++ [.int .u64 code]) from hown4.only hO5 (fun k hk h => by have hk2 : g' = k := (by simpa [Value.ownBlock] using hk); rcases hat4 with h2 | h2; (have := HLT.out _ h2; omega); omega)); have HB5 := Lib.hid (((HB3.out.mono hB).trans h34).trans (hO5.below (by have := honly4.size; omega) (fun k hk => by omega))); have HW5 : n0 ≤ w5.heap.size := (by have := honly4.size; have := hO5.size; omega); have HN5 := Lib.hid (Only.out ((Only.of_below (S := fun k => (Value.slice ta l tc).ownBlock = some k) HB3.out).trans honly4) hO5 (fun k hk => by omega)); have HW5B := Lib.hid (show B ≤ w5.heap.size from by omega); have GN := Lib.hid (show ¬ g' = n0 ∧ ¬ g' = n0 + 1 from by rcases hat4 with h2 | h2; (have := HLT.out _ h2; omega); omega); have HA4 := Lib.hid hat4; clear xg xk hown4 honly4 hat4 hO5 h34) | (at_builtin; refine wpList_copy_new rfl _ _ 22 rfl 37 i0 _ 1 8 Try.underlying22 hi0 hz0 hz1 hz2 rfl w5 rfl vm m.length (encU m) rfl (HM.out w5 HB5.out) (encU_one m) (by unfold maxLen; omega) (by omega) ?_; intro v2 w6 hown6 hb6; obtain ⟨v2a, v2c, rfl, _, _⟩ := hown6.any; have yg := below_row G5.out hb6; have yk := below_row K5.out hb6; have yc0 : w6.cell? ⟨n0, 0, none⟩ = some (.slice oa lo oc) := (by rw [cell_of_row _ _ _ _ 33 (0, 0) yg]; rfl); have yc1 : w6.cell? ⟨n0, 1, none⟩ = some ((.slice (some ⟨g', o', none⟩) (l + 1) cap')) := (by rw [cell_of_row _ _ _ _ 33 (0, 0) yg]; rfl); have yc2 : w6.cell? ⟨n0, 2, none⟩ = some (.int .i64 0) := (by rw [cell_of_row _ _ _ _ 33 (0, 0) yg]; rfl); have yd0 : w6.cell? ⟨n0 + 1, 0, none⟩ = some (.slice none 0 0) := (by rw [cell_of_row _ _ _ _ 33 (0, 0) yk]; rfl); have yd1 : w6.cell? ⟨n0 + 1, 1, none⟩ = some (.slice none 0 0) := (by rw [cell_of_row _ _ _ _ 33 (0, 0) yk]; rfl); have yd2 : w6.cell? ⟨n0 + 1, 2, none⟩ = some (.int .i64 0) := (by rw [cell_of_row _ _ _ _ 33 (0, 0) yk]; rfl); have yf4 : ∀ o, w6.frozen? ⟨n0, o, none⟩ = false := (fun o => frozen_of_row _ _ _ _ 33 yg); have yf5 : ∀ o, w6.frozen? ⟨n0 + 1, o, none⟩ = false := (fun o => frozen_of_row _ _ _ _ 33 yk); have HO6 := Lib.hid hown6; have HB6 := Lib.hid hb6; have YG := Lib.hid yg; have YK := Lib.hid yk; clear yg yk hown6 hb6))
  obtain ⟨nw, hnw⟩ : ∃ nw, Value.slice (some ⟨g', o', none⟩) (l + 1) cap' = nw := ⟨_, rfl⟩
  have hnb : nw.ownBlock = some g' := by rw [← hnw]; rfl
  have hT6 := (HT5.out.below' HB6.out)
  rw [hnw] at hT6 ⊢
  have HT6 := Lib.hid hT6
  obtain ⟨vv, hvv⟩ : ∃ vv, Value.slice v2a m.length v2c = vv := ⟨_, rfl⟩
  have hO6 := HO6.out
  rw [hvv] at hO6 ⊢
  have HV6 := Lib.hid hO6
  have hsz : n0 + 1 < w5.heap.size := (Array.getElem?_eq_some_iff.1 K5.out).1
  have r5 : (w6.setCell ⟨n0, 0, none⟩ vv).heap[n0 + 1]? = some (.cells #[.slice none 0 0, .slice none 0 0, .int .i64 0] 33 (0, 0)) := (((Only.refl (fun k => k = n0) w6).set ⟨n0, 0, none⟩ vv (Or.inl rfl)).block (n0 + 1) (Array.getElem?_eq_some_iff.1 YK.out).1 (by omega)).trans YK.out
  have r6 := row_setCells (n0 + 1) 33 [vv, nw, .int .i64 0] 0 _ _ r5 (by show 0 + 3 ≤ 3; omega)
  have hO : Only (fun k => k = n0 ∨ k = n0 + 1) w6 ((((w6.setCell ⟨n0, 0, none⟩ vv).setCell ⟨n0 + 1, 0, none⟩ vv).setCell ⟨n0 + 1, 1, none⟩ nw).setCell ⟨n0 + 1, 2, none⟩ (.int .i64 0)) := ((((Only.refl _ _).set _ _ (Or.inl (Or.inl rfl))).set _ _ (Or.inl (Or.inr rfl))).set _ _ (Or.inl (Or.inr rfl))).set _ _ (Or.inl (Or.inr rfl))
  have R6 := Lib.hid (show ((((w6.setCell ⟨n0, 0, none⟩ vv).setCell ⟨n0 + 1, 0, none⟩ vv).setCell ⟨n0 + 1, 1, none⟩ nw).setCell ⟨n0 + 1, 2, none⟩ (.int .i64 0)).heap[n0 + 1]? = some (.cells #[vv, nw, .int .i64 0] 33 (0, 0)) from r6)
  generalize ((((w6.setCell ⟨n0, 0, none⟩ vv).setCell ⟨n0 + 1, 0, none⟩ vv).setCell ⟨n0 + 1, 1, none⟩ nw).setCell ⟨n0 + 1, 2, none⟩ (.int .i64 0)) = W6 at hO R6 ⊢
  have hgn : ¬ g' = n0 ∧ ¬ g' = n0 + 1 := GN.out
  refine bodyPost_ret (v := .agg #[vv, nw, .int .i64 0]) (results_cell1 (fn := Try.f22) (p := 6) _ rfl _ (n0 + 1) [vv, nw, .int .i64 0] _ rfl (fun j u hj => by rw [cell_of_row _ _ _ _ 33 (0, 0) R6.out]; simpa using hj) Try.underlying33 rfl info33s) rfl ⟨vv, nw, rfl, fun k hk => ?_, ?_, ?_, ?_, ?_⟩
  · have := (HV6.out.lt k hk).1
    omega
  · refine (HV6.out.only hO (fun k hk h => ?_)).low HW5B.out
    have := (HV6.out.lt k hk).1
    omega
  · rw [encU_app, HL.out]
    refine HT6.out.only hO (fun k hk h => ?_)
    rw [hnb] at hk
    injection hk with hk
    omega
  · intro k hk
    rw [hnb] at hk
    injection hk with hk
    rcases HA4.out with h2 | h2
    · exact Or.inl (by rw [h2, hk])
    · exact Or.inr (by omega)
  · exact Only.out (HN5.out.trans (Only.of_below HB6.out)) hO (fun k hk => by omega)
end Go.Proofs.Ytigbhlkafmpgmaa
