/-
  The reference's answer whether a configuration is good: some of the ways.
-/
import Derived.Test.YtejeghfddnbhaaaFast
namespace Go.Proofs.Ytejeghfddnbhaaa
open Go.RowKit
set_option linter.unusedSimpArgs false in
set_option maxRecDepth 10000 in
set_option maxHeartbeats 4000000 in
theorem goodr_n1 (a b c d e f g : Int) (w : World) (k0 : 1 ≤ a) (k1 : ¬ a ≤ 8) : Calls Try.prog 30 #[.agg #[.int .i64 a, .int .i64 b, .int .i64 c, .int .i64 d, .int .i64 e, .int .i64 f, .int .i64 g]] w fun E w' => E = .returned (.bool false) ∧ Below w.heap.size w w' := by
  go_enter Try.func30, Try.ntmps30
  go_upto_region 1 with fail
  rename_i hK
  obtain ⟨W, hW⟩ : ∃ W, w.alloc (.cells #[.int .i64 a, .int .i64 b, .int .i64 c, .int .i64 d, .int .i64 e, .int .i64 f, .int .i64 g] 23) = W := ⟨_, rfl⟩
  rw [hW]
  have hrow : W.heap[w.heap.size]? = some (.cells #[.int .i64 a, .int .i64 b, .int .i64 c, .int .i64 d, .int .i64 e, .int .i64 f, .int .i64 g] 23 (0, 0)) := by rw [← hW]; exact heap_alloc_new w _
  have q0 : W.cell? ⟨w.heap.size, 0, none⟩ = some (.int .i64 a) := by rw [cell_of_row _ _ _ _ 23 (0, 0) hrow]; rfl
  have q1 : W.cell? ⟨w.heap.size, 1, none⟩ = some (.int .i64 b) := by rw [cell_of_row _ _ _ _ 23 (0, 0) hrow]; rfl
  have q2 : W.cell? ⟨w.heap.size, 2, none⟩ = some (.int .i64 c) := by rw [cell_of_row _ _ _ _ 23 (0, 0) hrow]; rfl
  have q3 : W.cell? ⟨w.heap.size, 3, none⟩ = some (.int .i64 d) := by rw [cell_of_row _ _ _ _ 23 (0, 0) hrow]; rfl
  have q4 : W.cell? ⟨w.heap.size, 4, none⟩ = some (.int .i64 e) := by rw [cell_of_row _ _ _ _ 23 (0, 0) hrow]; rfl
  have q5 : W.cell? ⟨w.heap.size, 5, none⟩ = some (.int .i64 f) := by rw [cell_of_row _ _ _ _ 23 (0, 0) hrow]; rfl
  have q6 : W.cell? ⟨w.heap.size, 6, none⟩ = some (.int .i64 g) := by rw [cell_of_row _ _ _ _ 23 (0, 0) hrow]; rfl
  have hB : Below w.heap.size w W := by rw [← hW]; exact (Below.refl _ _).alloc (Nat.le_refl _) _
  have HB := Lib.hid hB
  clear hrow hW hB
  refine wp_region_lit ?_
  refine limb_end (.pointer (some ⟨w.heap.size, 0, none⟩)) (.pointer (some ⟨w.heap.size, 0, none⟩)) 1 rfl rfl rfl ?_
  intro l hlen h1 hm
  have hn := h1
  refine fast_val 3 (.pointer (some ⟨w.heap.size, 0, none⟩)) (by kernel_rfl) (by kernel_rfl) (fast_addr0 W _ _ (.tmp 1) w.heap.size (by kernel_rfl) (eval_tmp 1 _ h1)) ?_
  refine fast_val 4 (.int .i64 a) (by kernel_rfl) (by kernel_rfl) (fast_load W _ _ (.tmp 3) w.heap.size 0 a q0 (by kernel_rfl) (eval_tmp 3 _ (ge hlen rfl))) ?_
  refine fast_val 5 (.bool true) (by kernel_rfl) (by kernel_rfl) (fast_geq W _ _ (.tmp 4) (.const (.int .i64 1)) a 1 true (decide_eq_true (by omega)) (by kernel_rfl) (eval_tmp 4 _ (ge (ls hlen) rfl)) (by kernel_rfl)) ?_
  refine fast_val 6 (.bool true) (by kernel_rfl) (by kernel_rfl) (fast_move W _ _ (.tmp 5) (.bool true) (by kernel_rfl) (eval_tmp 5 _ (ge (ls (ls hlen)) rfl))) ?_
  refine limb_end (.pointer (some ⟨w.heap.size, 0, none⟩)) (.bool true) 6 (gn rfl (gn rfl (gn rfl (gn rfl h1)))) (ge (ls (ls (ls hlen))) rfl) (ls (ls (ls (ls hlen)))) ?_
  clear h1 hm hn hlen
  intro l hlen h1 hm
  have hn := h1
  refine fast_val 7 (.pointer (some ⟨w.heap.size, 0, none⟩)) (by kernel_rfl) ((wanted_of 3 6 true true (by kernel_rfl) (by kernel_rfl) hm).trans rfl) (fast_addr0 W _ _ (.tmp 1) w.heap.size (by kernel_rfl) (eval_tmp 1 _ h1)) ?_
  refine fast_val 8 (.int .i64 a) (by kernel_rfl) ((wanted_of 3 6 true true (by kernel_rfl) (by kernel_rfl) (gn rfl hm)).trans rfl) (fast_load W _ _ (.tmp 7) w.heap.size 0 a q0 (by kernel_rfl) (eval_tmp 7 _ (ge hlen rfl))) ?_
  refine fast_val 9 (.bool false) (by kernel_rfl) ((wanted_of 3 6 true true (by kernel_rfl) (by kernel_rfl) (gn rfl (gn rfl hm))).trans rfl) (fast_leq W _ _ (.tmp 8) (.const (.int .i64 8)) a 8 false (decide_eq_false (by omega)) (by kernel_rfl) (eval_tmp 8 _ (ge (ls hlen) rfl)) (by kernel_rfl)) ?_
  refine fast_val 10 (.bool false) (by kernel_rfl) (by kernel_rfl) (fast_pick W _ _ (.tmp 6) (.tmp 9) (.const (.bool false)) true (.bool false) (by kernel_rfl) (eval_tmp 6 _ (gn rfl (gn rfl (gn rfl hm)))) (eval_tmp 9 _ (ge (ls (ls hlen)) rfl))) ?_
  refine fast_val 11 (.bool false) (by kernel_rfl) (by kernel_rfl) (fast_move W _ _ (.tmp 10) (.bool false) (by kernel_rfl) (eval_tmp 10 _ (ge (ls (ls (ls hlen))) rfl))) ?_
  refine limb_end (.pointer (some ⟨w.heap.size, 0, none⟩)) (.bool false) 11 (gn rfl (gn rfl (gn rfl (gn rfl (gn rfl h1))))) (ge (ls (ls (ls (ls hlen)))) rfl) (ls (ls (ls (ls (ls hlen))))) ?_
  clear h1 hm hn hlen
  intro l hlen h1 hm
  have hn := h1
  refine fast_skip 12 (by kernel_rfl) ((wanted_of 8 11 true false (by kernel_rfl) (by kernel_rfl) hm).trans rfl) ?_
  refine fast_skip 13 (by kernel_rfl) ((wanted_of 8 11 true false (by kernel_rfl) (by kernel_rfl) (gn rfl hm)).trans rfl) ?_
  refine fast_skip 14 (by kernel_rfl) ((wanted_of 8 11 true false (by kernel_rfl) (by kernel_rfl) (gn rfl (gn rfl hm))).trans rfl) ?_
  refine fast_val 15 (.bool false) (by kernel_rfl) (by kernel_rfl) (fast_pick W _ _ (.tmp 11) (.tmp 14) (.const (.bool false)) false (.bool false) (by kernel_rfl) (eval_tmp 11 _ (gn rfl (gn rfl (gn rfl hm)))) (by kernel_rfl)) ?_
  refine fast_val 16 (.bool false) (by kernel_rfl) (by kernel_rfl) (fast_move W _ _ (.tmp 15) (.bool false) (by kernel_rfl) (eval_tmp 15 _ (ge (ls (ls (ls hlen))) rfl))) ?_
  refine limb_end (.pointer (some ⟨w.heap.size, 0, none⟩)) (.bool false) 16 (gn rfl (gn rfl (gn rfl (gn rfl (gn rfl h1))))) (ge (ls (ls (ls (ls hlen)))) rfl) (ls (ls (ls (ls (ls hlen))))) ?_
  clear h1 hm hn hlen
  intro l hlen h1 hm
  have hn := h1
  refine fast_skip 17 (by kernel_rfl) ((wanted_of 13 16 true false (by kernel_rfl) (by kernel_rfl) hm).trans rfl) ?_
  refine fast_skip 18 (by kernel_rfl) ((wanted_of 13 16 true false (by kernel_rfl) (by kernel_rfl) (gn rfl hm)).trans rfl) ?_
  refine fast_skip 19 (by kernel_rfl) ((wanted_of 13 16 true false (by kernel_rfl) (by kernel_rfl) (gn rfl (gn rfl hm))).trans rfl) ?_
  refine fast_val 20 (.bool false) (by kernel_rfl) (by kernel_rfl) (fast_pick W _ _ (.tmp 16) (.tmp 19) (.const (.bool false)) false (.bool false) (by kernel_rfl) (eval_tmp 16 _ (gn rfl (gn rfl (gn rfl hm)))) (by kernel_rfl)) ?_
  refine fast_val 21 (.bool false) (by kernel_rfl) (by kernel_rfl) (fast_move W _ _ (.tmp 20) (.bool false) (by kernel_rfl) (eval_tmp 20 _ (ge (ls (ls (ls hlen))) rfl))) ?_
  refine limb_end (.pointer (some ⟨w.heap.size, 0, none⟩)) (.bool false) 21 (gn rfl (gn rfl (gn rfl (gn rfl (gn rfl h1))))) (ge (ls (ls (ls (ls hlen)))) rfl) (ls (ls (ls (ls (ls hlen))))) ?_
  clear h1 hm hn hlen
  intro l hlen h1 hm
  have hn := h1
  refine fast_skip 22 (by kernel_rfl) ((wanted_of 18 21 true false (by kernel_rfl) (by kernel_rfl) hm).trans rfl) ?_
  refine fast_skip 23 (by kernel_rfl) ((wanted_of 18 21 true false (by kernel_rfl) (by kernel_rfl) (gn rfl hm)).trans rfl) ?_
  refine fast_skip 24 (by kernel_rfl) ((wanted_of 18 21 true false (by kernel_rfl) (by kernel_rfl) (gn rfl (gn rfl hm))).trans rfl) ?_
  refine fast_val 25 (.bool false) (by kernel_rfl) (by kernel_rfl) (fast_pick W _ _ (.tmp 21) (.tmp 24) (.const (.bool false)) false (.bool false) (by kernel_rfl) (eval_tmp 21 _ (gn rfl (gn rfl (gn rfl hm)))) (by kernel_rfl)) ?_
  refine fast_val 26 (.bool false) (by kernel_rfl) (by kernel_rfl) (fast_move W _ _ (.tmp 25) (.bool false) (by kernel_rfl) (eval_tmp 25 _ (ge (ls (ls (ls hlen))) rfl))) ?_
  refine limb_end (.pointer (some ⟨w.heap.size, 0, none⟩)) (.bool false) 26 (gn rfl (gn rfl (gn rfl (gn rfl (gn rfl h1))))) (ge (ls (ls (ls (ls hlen)))) rfl) (ls (ls (ls (ls (ls hlen))))) ?_
  clear h1 hm hn hlen
  intro l hlen h1 hm
  have hn := h1
  refine fast_skip 27 (by kernel_rfl) ((wanted_of 23 26 true false (by kernel_rfl) (by kernel_rfl) hm).trans rfl) ?_
  refine fast_skip 28 (by kernel_rfl) ((wanted_of 23 26 true false (by kernel_rfl) (by kernel_rfl) (gn rfl hm)).trans rfl) ?_
  refine fast_skip 29 (by kernel_rfl) ((wanted_of 23 26 true false (by kernel_rfl) (by kernel_rfl) (gn rfl (gn rfl hm))).trans rfl) ?_
  refine fast_skip 30 (by kernel_rfl) ((wanted_of 23 26 true false (by kernel_rfl) (by kernel_rfl) (gn rfl (gn rfl (gn rfl hm)))).trans rfl) ?_
  refine fast_skip 31 (by kernel_rfl) ((wanted_of 23 26 true false (by kernel_rfl) (by kernel_rfl) (gn rfl (gn rfl (gn rfl (gn rfl hm))))).trans rfl) ?_
  refine fast_val 32 (.bool false) (by kernel_rfl) (by kernel_rfl) (fast_pick W _ _ (.tmp 26) (.tmp 31) (.const (.bool false)) false (.bool false) (by kernel_rfl) (eval_tmp 26 _ (gn rfl (gn rfl (gn rfl (gn rfl (gn rfl hm)))))) (by kernel_rfl)) ?_
  refine fast_val 33 (.bool false) (by kernel_rfl) (by kernel_rfl) (fast_move W _ _ (.tmp 32) (.bool false) (by kernel_rfl) (eval_tmp 32 _ (ge (ls (ls (ls (ls (ls hlen))))) rfl))) ?_
  refine limb_end (.pointer (some ⟨w.heap.size, 0, none⟩)) (.bool false) 33 (gn rfl (gn rfl (gn rfl (gn rfl (gn rfl (gn rfl (gn rfl h1))))))) (ge (ls (ls (ls (ls (ls (ls hlen)))))) rfl) (ls (ls (ls (ls (ls (ls (ls hlen))))))) ?_
  clear h1 hm hn hlen
  intro l hlen h1 hm
  have hn := h1
  refine fast_skip 34 (by kernel_rfl) ((wanted_of 30 33 true false (by kernel_rfl) (by kernel_rfl) hm).trans rfl) ?_
  refine fast_skip 35 (by kernel_rfl) ((wanted_of 30 33 true false (by kernel_rfl) (by kernel_rfl) (gn rfl hm)).trans rfl) ?_
  refine fast_skip 36 (by kernel_rfl) ((wanted_of 30 33 true false (by kernel_rfl) (by kernel_rfl) (gn rfl (gn rfl hm))).trans rfl) ?_
  refine fast_skip 37 (by kernel_rfl) ((wanted_of 30 33 true false (by kernel_rfl) (by kernel_rfl) (gn rfl (gn rfl (gn rfl hm)))).trans rfl) ?_
  refine limb_two (.pointer (some ⟨w.heap.size, 0, none⟩)) (.bool false) undef 33 37 (gn rfl (gn rfl (gn rfl (gn rfl h1)))) (gn rfl (gn rfl (gn rfl (gn rfl hm)))) (ge (ls (ls (ls hlen))) rfl) (ls (ls (ls (ls hlen)))) ?_
  clear h1 hm hn hlen
  intro l hlen h1 hm hn
  refine fast_skip 38 (by kernel_rfl) (wanted_undef 34 37 false (by kernel_rfl) (by kernel_rfl) hn) ?_
  refine fast_skip 39 (by kernel_rfl) (wanted_undef 34 37 false (by kernel_rfl) (by kernel_rfl) (gn rfl hn)) ?_
  refine fast_skip 40 (by kernel_rfl) (wanted_undef 34 37 false (by kernel_rfl) (by kernel_rfl) (gn rfl (gn rfl hn))) ?_
  refine fast_skip 41 (by kernel_rfl) ((wanted_of 30 33 true false (by kernel_rfl) (by kernel_rfl) (gn rfl (gn rfl (gn rfl hm)))).trans rfl) ?_
  refine fast_skip 42 (by kernel_rfl) ((wanted_of 30 33 true false (by kernel_rfl) (by kernel_rfl) (gn rfl (gn rfl (gn rfl (gn rfl hm))))).trans rfl) ?_
  refine limb_two (.pointer (some ⟨w.heap.size, 0, none⟩)) (.bool false) undef 33 42 (gn rfl (gn rfl (gn rfl (gn rfl (gn rfl h1))))) (gn rfl (gn rfl (gn rfl (gn rfl (gn rfl hm))))) (ge (ls (ls (ls (ls hlen)))) rfl) (ls (ls (ls (ls (ls hlen))))) ?_
  clear h1 hm hn hlen
  intro l hlen h1 hm hn
  refine fast_skip 43 (by kernel_rfl) (wanted_undef 39 42 false (by kernel_rfl) (by kernel_rfl) hn) ?_
  refine fast_skip 44 (by kernel_rfl) (wanted_undef 39 42 false (by kernel_rfl) (by kernel_rfl) (gn rfl hn)) ?_
  refine fast_skip 45 (by kernel_rfl) (wanted_undef 39 42 false (by kernel_rfl) (by kernel_rfl) (gn rfl (gn rfl hn))) ?_
  refine fast_skip 46 (by kernel_rfl) ((wanted_of 30 33 true false (by kernel_rfl) (by kernel_rfl) (gn rfl (gn rfl (gn rfl hm)))).trans rfl) ?_
  refine fast_skip 47 (by kernel_rfl) ((wanted_of 30 33 true false (by kernel_rfl) (by kernel_rfl) (gn rfl (gn rfl (gn rfl (gn rfl hm))))).trans rfl) ?_
  refine limb_two (.pointer (some ⟨w.heap.size, 0, none⟩)) (.bool false) undef 33 47 (gn rfl (gn rfl (gn rfl (gn rfl (gn rfl h1))))) (gn rfl (gn rfl (gn rfl (gn rfl (gn rfl hm))))) (ge (ls (ls (ls (ls hlen)))) rfl) (ls (ls (ls (ls (ls hlen))))) ?_
  clear h1 hm hn hlen
  intro l hlen h1 hm hn
  refine fast_skip 48 (by kernel_rfl) (wanted_undef 44 47 false (by kernel_rfl) (by kernel_rfl) hn) ?_
  refine fast_skip 49 (by kernel_rfl) (wanted_undef 44 47 false (by kernel_rfl) (by kernel_rfl) (gn rfl hn)) ?_
  refine fast_skip 50 (by kernel_rfl) (wanted_undef 44 47 false (by kernel_rfl) (by kernel_rfl) (gn rfl (gn rfl hn))) ?_
  refine fast_skip 51 (by kernel_rfl) ((wanted_of 30 33 true false (by kernel_rfl) (by kernel_rfl) (gn rfl (gn rfl (gn rfl hm)))).trans rfl) ?_
  refine fast_val 52 (.bool false) (by kernel_rfl) (by kernel_rfl) (fast_pick W _ _ (.tmp 33) (.tmp 51) (.const (.bool false)) false (.bool false) (by kernel_rfl) (eval_tmp 33 _ (gn rfl (gn rfl (gn rfl (gn rfl hm))))) (by kernel_rfl)) ?_
  refine fast_val 53 (.bool false) (by kernel_rfl) (by kernel_rfl) (fast_move W _ _ (.tmp 52) (.bool false) (by kernel_rfl) (eval_tmp 52 _ (ge (ls (ls (ls (ls hlen)))) rfl))) ?_
  refine limb_end (.pointer (some ⟨w.heap.size, 0, none⟩)) (.bool false) 53 (gn rfl (gn rfl (gn rfl (gn rfl (gn rfl (gn rfl h1)))))) (ge (ls (ls (ls (ls (ls hlen))))) rfl) (ls (ls (ls (ls (ls (ls hlen)))))) ?_
  clear h1 hm hn hlen
  intro l hlen h1 hm
  have hn := h1
  refine fast_skip 54 (by kernel_rfl) ((wanted_of 50 53 true false (by kernel_rfl) (by kernel_rfl) hm).trans rfl) ?_
  refine fast_skip 55 (by kernel_rfl) ((wanted_of 50 53 true false (by kernel_rfl) (by kernel_rfl) (gn rfl hm)).trans rfl) ?_
  refine fast_skip 56 (by kernel_rfl) ((wanted_of 50 53 true false (by kernel_rfl) (by kernel_rfl) (gn rfl (gn rfl hm))).trans rfl) ?_
  refine fast_val 57 (.bool false) (by kernel_rfl) (by kernel_rfl) (fast_pick W _ _ (.tmp 53) (.tmp 56) (.const (.bool false)) false (.bool false) (by kernel_rfl) (eval_tmp 53 _ (gn rfl (gn rfl (gn rfl hm)))) (by kernel_rfl)) ?_
  refine fast_val 58 (.bool false) (by kernel_rfl) (by kernel_rfl) (fast_move W _ _ (.tmp 57) (.bool false) (by kernel_rfl) (eval_tmp 57 _ (ge (ls (ls (ls hlen))) rfl))) ?_
  refine limb_end (.pointer (some ⟨w.heap.size, 0, none⟩)) (.bool false) 58 (gn rfl (gn rfl (gn rfl (gn rfl (gn rfl h1))))) (ge (ls (ls (ls (ls hlen)))) rfl) (ls (ls (ls (ls (ls hlen))))) ?_
  clear h1 hm hn hlen
  intro l hlen h1 hm
  have hn := h1
  refine fast_skip 59 (by kernel_rfl) ((wanted_of 55 58 true false (by kernel_rfl) (by kernel_rfl) hm).trans rfl) ?_
  refine fast_skip 60 (by kernel_rfl) ((wanted_of 55 58 true false (by kernel_rfl) (by kernel_rfl) (gn rfl hm)).trans rfl) ?_
  refine fast_skip 61 (by kernel_rfl) ((wanted_of 55 58 true false (by kernel_rfl) (by kernel_rfl) (gn rfl (gn rfl hm))).trans rfl) ?_
  refine fast_val 62 (.bool false) (by kernel_rfl) (by kernel_rfl) (fast_pick W _ _ (.tmp 58) (.tmp 61) (.const (.bool false)) false (.bool false) (by kernel_rfl) (eval_tmp 58 _ (gn rfl (gn rfl (gn rfl hm)))) (by kernel_rfl)) ?_
  refine fast_val 63 (.bool false) (by kernel_rfl) (by kernel_rfl) (fast_move W _ _ (.tmp 62) (.bool false) (by kernel_rfl) (eval_tmp 62 _ (ge (ls (ls (ls hlen))) rfl))) ?_
  refine limb_end (.pointer (some ⟨w.heap.size, 0, none⟩)) (.bool false) 63 (gn rfl (gn rfl (gn rfl (gn rfl (gn rfl h1))))) (ge (ls (ls (ls (ls hlen)))) rfl) (ls (ls (ls (ls (ls hlen))))) ?_
  clear h1 hm hn hlen
  intro l hlen h1 hm
  have hn := h1
  refine fast_skip 64 (by kernel_rfl) ((wanted_of 60 63 true false (by kernel_rfl) (by kernel_rfl) hm).trans rfl) ?_
  refine fast_skip 65 (by kernel_rfl) ((wanted_of 60 63 true false (by kernel_rfl) (by kernel_rfl) (gn rfl hm)).trans rfl) ?_
  refine fast_skip 66 (by kernel_rfl) ((wanted_of 60 63 true false (by kernel_rfl) (by kernel_rfl) (gn rfl (gn rfl hm))).trans rfl) ?_
  refine fast_val 67 (.bool false) (by kernel_rfl) (by kernel_rfl) (fast_pick W _ _ (.tmp 63) (.tmp 66) (.const (.bool false)) false (.bool false) (by kernel_rfl) (eval_tmp 63 _ (gn rfl (gn rfl (gn rfl hm)))) (by kernel_rfl)) ?_
  refine fast_val 68 (.bool false) (by kernel_rfl) (by kernel_rfl) (fast_move W _ _ (.tmp 67) (.bool false) (by kernel_rfl) (eval_tmp 67 _ (ge (ls (ls (ls hlen))) rfl))) ?_
  refine limb_end (.pointer (some ⟨w.heap.size, 0, none⟩)) (.bool false) 68 (gn rfl (gn rfl (gn rfl (gn rfl (gn rfl h1))))) (ge (ls (ls (ls (ls hlen)))) rfl) (ls (ls (ls (ls (ls hlen))))) ?_
  clear h1 hm hn hlen
  intro l hlen h1 hm
  have hn := h1
  refine fast_skip 69 (by kernel_rfl) ((wanted_of 65 68 true false (by kernel_rfl) (by kernel_rfl) hm).trans rfl) ?_
  refine fast_skip 70 (by kernel_rfl) ((wanted_of 65 68 true false (by kernel_rfl) (by kernel_rfl) (gn rfl hm)).trans rfl) ?_
  refine fast_skip 71 (by kernel_rfl) ((wanted_of 65 68 true false (by kernel_rfl) (by kernel_rfl) (gn rfl (gn rfl hm))).trans rfl) ?_
  refine fast_val 72 (.bool false) (by kernel_rfl) (by kernel_rfl) (fast_pick W _ _ (.tmp 68) (.tmp 71) (.const (.bool false)) false (.bool false) (by kernel_rfl) (eval_tmp 68 _ (gn rfl (gn rfl (gn rfl hm)))) (by kernel_rfl)) ?_
  refine fast_val 73 (.bool false) (by kernel_rfl) (by kernel_rfl) (fast_move W _ _ (.tmp 72) (.bool false) (by kernel_rfl) (eval_tmp 72 _ (ge (ls (ls (ls hlen))) rfl))) ?_
  refine limb_end (.pointer (some ⟨w.heap.size, 0, none⟩)) (.bool false) 73 (gn rfl (gn rfl (gn rfl (gn rfl (gn rfl h1))))) (ge (ls (ls (ls (ls hlen)))) rfl) (ls (ls (ls (ls (ls hlen))))) ?_
  clear h1 hm hn hlen
  intro l hlen h1 hm
  have hn := h1
  refine fast_skip 74 (by kernel_rfl) ((wanted_of 70 73 true false (by kernel_rfl) (by kernel_rfl) hm).trans rfl) ?_
  refine fast_skip 75 (by kernel_rfl) ((wanted_of 70 73 true false (by kernel_rfl) (by kernel_rfl) (gn rfl hm)).trans rfl) ?_
  refine fast_skip 76 (by kernel_rfl) ((wanted_of 70 73 true false (by kernel_rfl) (by kernel_rfl) (gn rfl (gn rfl hm))).trans rfl) ?_
  refine fast_val 77 (.bool false) (by kernel_rfl) (by kernel_rfl) (fast_pick W _ _ (.tmp 73) (.tmp 76) (.const (.bool false)) false (.bool false) (by kernel_rfl) (eval_tmp 73 _ (gn rfl (gn rfl (gn rfl hm)))) (by kernel_rfl)) ?_
  refine fast_val 78 (.bool false) (by kernel_rfl) (by kernel_rfl) (fast_move W _ _ (.tmp 77) (.bool false) (by kernel_rfl) (eval_tmp 77 _ (ge (ls (ls (ls hlen))) rfl))) ?_
  refine limb_end (.pointer (some ⟨w.heap.size, 0, none⟩)) (.bool false) 78 (gn rfl (gn rfl (gn rfl (gn rfl (gn rfl h1))))) (ge (ls (ls (ls (ls hlen)))) rfl) (ls (ls (ls (ls (ls hlen))))) ?_
  clear h1 hm hn hlen
  intro l hlen h1 hm
  have hn := h1
  refine fast_skip 79 (by kernel_rfl) ((wanted_of 75 78 true false (by kernel_rfl) (by kernel_rfl) hm).trans rfl) ?_
  refine fast_skip 80 (by kernel_rfl) ((wanted_of 75 78 true false (by kernel_rfl) (by kernel_rfl) (gn rfl hm)).trans rfl) ?_
  refine fast_skip 81 (by kernel_rfl) ((wanted_of 75 78 true false (by kernel_rfl) (by kernel_rfl) (gn rfl (gn rfl hm))).trans rfl) ?_
  refine fast_val 82 (.bool false) (by kernel_rfl) (by kernel_rfl) (fast_pick W _ _ (.tmp 78) (.tmp 81) (.const (.bool false)) false (.bool false) (by kernel_rfl) (eval_tmp 78 _ (gn rfl (gn rfl (gn rfl hm)))) (by kernel_rfl)) ?_
  refine fast_val 2 (.bool false) (by kernel_rfl) (by kernel_rfl) (fast_assign W _ _ (.tmp 82) (.bool false) (by kernel_rfl) (eval_tmp 82 _ (ge (ls (ls (ls hlen))) rfl))) ?_
  refine wpList_nil ?_
  refine hK _ _ (wp_ret (bodyPost_ret (v := .bool false) (by simp [results, Try.results30, go_sem, List.getElem?_set, hlen]) rfl ⟨rfl, HB.out⟩))
set_option linter.unusedSimpArgs false in
set_option maxRecDepth 10000 in
set_option maxHeartbeats 4000000 in
theorem goodr_n6 (a b c d e f g : Int) (w : World) (k0 : 1 ≤ a) (k1 : a ≤ 8) (k2 : 2 ≤ b) (k3 : b ≤ 64) (k4 : 1 ≤ c) (k5 : c < b) (d1 : ¬ d = 1) (d2 : ¬ d = 2) (d4 : ¬ d = 4) (d8 : ¬ d = 8) : Calls Try.prog 30 #[.agg #[.int .i64 a, .int .i64 b, .int .i64 c, .int .i64 d, .int .i64 e, .int .i64 f, .int .i64 g]] w fun E w' => E = .returned (.bool false) ∧ Below w.heap.size w w' := by
  go_enter Try.func30, Try.ntmps30
  go_upto_region 1 with fail
  rename_i hK
  obtain ⟨W, hW⟩ : ∃ W, w.alloc (.cells #[.int .i64 a, .int .i64 b, .int .i64 c, .int .i64 d, .int .i64 e, .int .i64 f, .int .i64 g] 23) = W := ⟨_, rfl⟩
  rw [hW]
  have hrow : W.heap[w.heap.size]? = some (.cells #[.int .i64 a, .int .i64 b, .int .i64 c, .int .i64 d, .int .i64 e, .int .i64 f, .int .i64 g] 23 (0, 0)) := by rw [← hW]; exact heap_alloc_new w _
  have q0 : W.cell? ⟨w.heap.size, 0, none⟩ = some (.int .i64 a) := by rw [cell_of_row _ _ _ _ 23 (0, 0) hrow]; rfl
  have q1 : W.cell? ⟨w.heap.size, 1, none⟩ = some (.int .i64 b) := by rw [cell_of_row _ _ _ _ 23 (0, 0) hrow]; rfl
  have q2 : W.cell? ⟨w.heap.size, 2, none⟩ = some (.int .i64 c) := by rw [cell_of_row _ _ _ _ 23 (0, 0) hrow]; rfl
  have q3 : W.cell? ⟨w.heap.size, 3, none⟩ = some (.int .i64 d) := by rw [cell_of_row _ _ _ _ 23 (0, 0) hrow]; rfl
  have q4 : W.cell? ⟨w.heap.size, 4, none⟩ = some (.int .i64 e) := by rw [cell_of_row _ _ _ _ 23 (0, 0) hrow]; rfl
  have q5 : W.cell? ⟨w.heap.size, 5, none⟩ = some (.int .i64 f) := by rw [cell_of_row _ _ _ _ 23 (0, 0) hrow]; rfl
  have q6 : W.cell? ⟨w.heap.size, 6, none⟩ = some (.int .i64 g) := by rw [cell_of_row _ _ _ _ 23 (0, 0) hrow]; rfl
  have hB : Below w.heap.size w W := by rw [← hW]; exact (Below.refl _ _).alloc (Nat.le_refl _) _
  have HB := Lib.hid hB
  clear hrow hW hB
  refine wp_region_lit ?_
  refine limb_end (.pointer (some ⟨w.heap.size, 0, none⟩)) (.pointer (some ⟨w.heap.size, 0, none⟩)) 1 rfl rfl rfl ?_
  intro l hlen h1 hm
  have hn := h1
  refine fast_val 3 (.pointer (some ⟨w.heap.size, 0, none⟩)) (by kernel_rfl) (by kernel_rfl) (fast_addr0 W _ _ (.tmp 1) w.heap.size (by kernel_rfl) (eval_tmp 1 _ h1)) ?_
  refine fast_val 4 (.int .i64 a) (by kernel_rfl) (by kernel_rfl) (fast_load W _ _ (.tmp 3) w.heap.size 0 a q0 (by kernel_rfl) (eval_tmp 3 _ (ge hlen rfl))) ?_
  refine fast_val 5 (.bool true) (by kernel_rfl) (by kernel_rfl) (fast_geq W _ _ (.tmp 4) (.const (.int .i64 1)) a 1 true (decide_eq_true (by omega)) (by kernel_rfl) (eval_tmp 4 _ (ge (ls hlen) rfl)) (by kernel_rfl)) ?_
  refine fast_val 6 (.bool true) (by kernel_rfl) (by kernel_rfl) (fast_move W _ _ (.tmp 5) (.bool true) (by kernel_rfl) (eval_tmp 5 _ (ge (ls (ls hlen)) rfl))) ?_
  refine limb_end (.pointer (some ⟨w.heap.size, 0, none⟩)) (.bool true) 6 (gn rfl (gn rfl (gn rfl (gn rfl h1)))) (ge (ls (ls (ls hlen))) rfl) (ls (ls (ls (ls hlen)))) ?_
  clear h1 hm hn hlen
  intro l hlen h1 hm
  have hn := h1
  refine fast_val 7 (.pointer (some ⟨w.heap.size, 0, none⟩)) (by kernel_rfl) ((wanted_of 3 6 true true (by kernel_rfl) (by kernel_rfl) hm).trans rfl) (fast_addr0 W _ _ (.tmp 1) w.heap.size (by kernel_rfl) (eval_tmp 1 _ h1)) ?_
  refine fast_val 8 (.int .i64 a) (by kernel_rfl) ((wanted_of 3 6 true true (by kernel_rfl) (by kernel_rfl) (gn rfl hm)).trans rfl) (fast_load W _ _ (.tmp 7) w.heap.size 0 a q0 (by kernel_rfl) (eval_tmp 7 _ (ge hlen rfl))) ?_
  refine fast_val 9 (.bool true) (by kernel_rfl) ((wanted_of 3 6 true true (by kernel_rfl) (by kernel_rfl) (gn rfl (gn rfl hm))).trans rfl) (fast_leq W _ _ (.tmp 8) (.const (.int .i64 8)) a 8 true (decide_eq_true (by omega)) (by kernel_rfl) (eval_tmp 8 _ (ge (ls hlen) rfl)) (by kernel_rfl)) ?_
  refine fast_val 10 (.bool true) (by kernel_rfl) (by kernel_rfl) (fast_pick W _ _ (.tmp 6) (.tmp 9) (.const (.bool false)) true (.bool true) (by kernel_rfl) (eval_tmp 6 _ (gn rfl (gn rfl (gn rfl hm)))) (eval_tmp 9 _ (ge (ls (ls hlen)) rfl))) ?_
  refine fast_val 11 (.bool true) (by kernel_rfl) (by kernel_rfl) (fast_move W _ _ (.tmp 10) (.bool true) (by kernel_rfl) (eval_tmp 10 _ (ge (ls (ls (ls hlen))) rfl))) ?_
  refine limb_end (.pointer (some ⟨w.heap.size, 0, none⟩)) (.bool true) 11 (gn rfl (gn rfl (gn rfl (gn rfl (gn rfl h1))))) (ge (ls (ls (ls (ls hlen)))) rfl) (ls (ls (ls (ls (ls hlen))))) ?_
  clear h1 hm hn hlen
  intro l hlen h1 hm
  have hn := h1
  refine fast_val 12 (.pointer (some ⟨w.heap.size, 1, none⟩)) (by kernel_rfl) ((wanted_of 8 11 true true (by kernel_rfl) (by kernel_rfl) hm).trans rfl) (fast_addr1 W _ _ (.tmp 1) w.heap.size (by kernel_rfl) (eval_tmp 1 _ h1)) ?_
  refine fast_val 13 (.int .i64 b) (by kernel_rfl) ((wanted_of 8 11 true true (by kernel_rfl) (by kernel_rfl) (gn rfl hm)).trans rfl) (fast_load W _ _ (.tmp 12) w.heap.size 1 b q1 (by kernel_rfl) (eval_tmp 12 _ (ge hlen rfl))) ?_
  refine fast_val 14 (.bool true) (by kernel_rfl) ((wanted_of 8 11 true true (by kernel_rfl) (by kernel_rfl) (gn rfl (gn rfl hm))).trans rfl) (fast_geq W _ _ (.tmp 13) (.const (.int .i64 2)) b 2 true (decide_eq_true (by omega)) (by kernel_rfl) (eval_tmp 13 _ (ge (ls hlen) rfl)) (by kernel_rfl)) ?_
  refine fast_val 15 (.bool true) (by kernel_rfl) (by kernel_rfl) (fast_pick W _ _ (.tmp 11) (.tmp 14) (.const (.bool false)) true (.bool true) (by kernel_rfl) (eval_tmp 11 _ (gn rfl (gn rfl (gn rfl hm)))) (eval_tmp 14 _ (ge (ls (ls hlen)) rfl))) ?_
  refine fast_val 16 (.bool true) (by kernel_rfl) (by kernel_rfl) (fast_move W _ _ (.tmp 15) (.bool true) (by kernel_rfl) (eval_tmp 15 _ (ge (ls (ls (ls hlen))) rfl))) ?_
  refine limb_end (.pointer (some ⟨w.heap.size, 0, none⟩)) (.bool true) 16 (gn rfl (gn rfl (gn rfl (gn rfl (gn rfl h1))))) (ge (ls (ls (ls (ls hlen)))) rfl) (ls (ls (ls (ls (ls hlen))))) ?_
  clear h1 hm hn hlen
  intro l hlen h1 hm
  have hn := h1
  refine fast_val 17 (.pointer (some ⟨w.heap.size, 1, none⟩)) (by kernel_rfl) ((wanted_of 13 16 true true (by kernel_rfl) (by kernel_rfl) hm).trans rfl) (fast_addr1 W _ _ (.tmp 1) w.heap.size (by kernel_rfl) (eval_tmp 1 _ h1)) ?_
  refine fast_val 18 (.int .i64 b) (by kernel_rfl) ((wanted_of 13 16 true true (by kernel_rfl) (by kernel_rfl) (gn rfl hm)).trans rfl) (fast_load W _ _ (.tmp 17) w.heap.size 1 b q1 (by kernel_rfl) (eval_tmp 17 _ (ge hlen rfl))) ?_
  refine fast_val 19 (.bool true) (by kernel_rfl) ((wanted_of 13 16 true true (by kernel_rfl) (by kernel_rfl) (gn rfl (gn rfl hm))).trans rfl) (fast_leq W _ _ (.tmp 18) (.const (.int .i64 64)) b 64 true (decide_eq_true (by omega)) (by kernel_rfl) (eval_tmp 18 _ (ge (ls hlen) rfl)) (by kernel_rfl)) ?_
  refine fast_val 20 (.bool true) (by kernel_rfl) (by kernel_rfl) (fast_pick W _ _ (.tmp 16) (.tmp 19) (.const (.bool false)) true (.bool true) (by kernel_rfl) (eval_tmp 16 _ (gn rfl (gn rfl (gn rfl hm)))) (eval_tmp 19 _ (ge (ls (ls hlen)) rfl))) ?_
  refine fast_val 21 (.bool true) (by kernel_rfl) (by kernel_rfl) (fast_move W _ _ (.tmp 20) (.bool true) (by kernel_rfl) (eval_tmp 20 _ (ge (ls (ls (ls hlen))) rfl))) ?_
  refine limb_end (.pointer (some ⟨w.heap.size, 0, none⟩)) (.bool true) 21 (gn rfl (gn rfl (gn rfl (gn rfl (gn rfl h1))))) (ge (ls (ls (ls (ls hlen)))) rfl) (ls (ls (ls (ls (ls hlen))))) ?_
  clear h1 hm hn hlen
  intro l hlen h1 hm
  have hn := h1
  refine fast_val 22 (.pointer (some ⟨w.heap.size, 2, none⟩)) (by kernel_rfl) ((wanted_of 18 21 true true (by kernel_rfl) (by kernel_rfl) hm).trans rfl) (fast_addr2 W _ _ (.tmp 1) w.heap.size (by kernel_rfl) (eval_tmp 1 _ h1)) ?_
  refine fast_val 23 (.int .i64 c) (by kernel_rfl) ((wanted_of 18 21 true true (by kernel_rfl) (by kernel_rfl) (gn rfl hm)).trans rfl) (fast_load W _ _ (.tmp 22) w.heap.size 2 c q2 (by kernel_rfl) (eval_tmp 22 _ (ge hlen rfl))) ?_
  refine fast_val 24 (.bool true) (by kernel_rfl) ((wanted_of 18 21 true true (by kernel_rfl) (by kernel_rfl) (gn rfl (gn rfl hm))).trans rfl) (fast_geq W _ _ (.tmp 23) (.const (.int .i64 1)) c 1 true (decide_eq_true (by omega)) (by kernel_rfl) (eval_tmp 23 _ (ge (ls hlen) rfl)) (by kernel_rfl)) ?_
  refine fast_val 25 (.bool true) (by kernel_rfl) (by kernel_rfl) (fast_pick W _ _ (.tmp 21) (.tmp 24) (.const (.bool false)) true (.bool true) (by kernel_rfl) (eval_tmp 21 _ (gn rfl (gn rfl (gn rfl hm)))) (eval_tmp 24 _ (ge (ls (ls hlen)) rfl))) ?_
  refine fast_val 26 (.bool true) (by kernel_rfl) (by kernel_rfl) (fast_move W _ _ (.tmp 25) (.bool true) (by kernel_rfl) (eval_tmp 25 _ (ge (ls (ls (ls hlen))) rfl))) ?_
  refine limb_end (.pointer (some ⟨w.heap.size, 0, none⟩)) (.bool true) 26 (gn rfl (gn rfl (gn rfl (gn rfl (gn rfl h1))))) (ge (ls (ls (ls (ls hlen)))) rfl) (ls (ls (ls (ls (ls hlen))))) ?_
  clear h1 hm hn hlen
  intro l hlen h1 hm
  have hn := h1
  refine fast_val 27 (.pointer (some ⟨w.heap.size, 2, none⟩)) (by kernel_rfl) ((wanted_of 23 26 true true (by kernel_rfl) (by kernel_rfl) hm).trans rfl) (fast_addr2 W _ _ (.tmp 1) w.heap.size (by kernel_rfl) (eval_tmp 1 _ h1)) ?_
  refine fast_val 28 (.int .i64 c) (by kernel_rfl) ((wanted_of 23 26 true true (by kernel_rfl) (by kernel_rfl) (gn rfl hm)).trans rfl) (fast_load W _ _ (.tmp 27) w.heap.size 2 c q2 (by kernel_rfl) (eval_tmp 27 _ (ge hlen rfl))) ?_
  refine fast_val 29 (.pointer (some ⟨w.heap.size, 1, none⟩)) (by kernel_rfl) ((wanted_of 23 26 true true (by kernel_rfl) (by kernel_rfl) (gn rfl (gn rfl hm))).trans rfl) (fast_addr1 W _ _ (.tmp 1) w.heap.size (by kernel_rfl) (eval_tmp 1 _ (gn rfl (gn rfl h1)))) ?_
  refine fast_val 30 (.int .i64 b) (by kernel_rfl) ((wanted_of 23 26 true true (by kernel_rfl) (by kernel_rfl) (gn rfl (gn rfl (gn rfl hm)))).trans rfl) (fast_load W _ _ (.tmp 29) w.heap.size 1 b q1 (by kernel_rfl) (eval_tmp 29 _ (ge (ls (ls hlen)) rfl))) ?_
  refine fast_val 31 (.bool true) (by kernel_rfl) ((wanted_of 23 26 true true (by kernel_rfl) (by kernel_rfl) (gn rfl (gn rfl (gn rfl (gn rfl hm))))).trans rfl) (fast_lss W _ _ (.tmp 28) (.tmp 30) c b true (decide_eq_true (by omega)) (by kernel_rfl) (eval_tmp 28 _ (gn rfl (gn rfl (ge (ls hlen) rfl)))) (eval_tmp 30 _ (ge (ls (ls (ls hlen))) rfl))) ?_
  refine fast_val 32 (.bool true) (by kernel_rfl) (by kernel_rfl) (fast_pick W _ _ (.tmp 26) (.tmp 31) (.const (.bool false)) true (.bool true) (by kernel_rfl) (eval_tmp 26 _ (gn rfl (gn rfl (gn rfl (gn rfl (gn rfl hm)))))) (eval_tmp 31 _ (ge (ls (ls (ls (ls hlen)))) rfl))) ?_
  refine fast_val 33 (.bool true) (by kernel_rfl) (by kernel_rfl) (fast_move W _ _ (.tmp 32) (.bool true) (by kernel_rfl) (eval_tmp 32 _ (ge (ls (ls (ls (ls (ls hlen))))) rfl))) ?_
  refine limb_end (.pointer (some ⟨w.heap.size, 0, none⟩)) (.bool true) 33 (gn rfl (gn rfl (gn rfl (gn rfl (gn rfl (gn rfl (gn rfl h1))))))) (ge (ls (ls (ls (ls (ls (ls hlen)))))) rfl) (ls (ls (ls (ls (ls (ls (ls hlen))))))) ?_
  clear h1 hm hn hlen
  intro l hlen h1 hm
  have hn := h1
  refine fast_val 34 (.pointer (some ⟨w.heap.size, 3, none⟩)) (by kernel_rfl) ((wanted_of 30 33 true true (by kernel_rfl) (by kernel_rfl) hm).trans rfl) (fast_addr3 W _ _ (.tmp 1) w.heap.size (by kernel_rfl) (eval_tmp 1 _ h1)) ?_
  refine fast_val 35 (.int .i64 d) (by kernel_rfl) ((wanted_of 30 33 true true (by kernel_rfl) (by kernel_rfl) (gn rfl hm)).trans rfl) (fast_load W _ _ (.tmp 34) w.heap.size 3 d q3 (by kernel_rfl) (eval_tmp 34 _ (ge hlen rfl))) ?_
  refine fast_val 36 (.bool false) (by kernel_rfl) ((wanted_of 30 33 true true (by kernel_rfl) (by kernel_rfl) (gn rfl (gn rfl hm))).trans rfl) (fast_eql W _ _ (.tmp 35) (.const (.int .i64 1)) d 1 false (beq_eq_false_iff_ne.2 (by omega)) (by kernel_rfl) (eval_tmp 35 _ (ge (ls hlen) rfl)) (by kernel_rfl)) ?_
  refine fast_val 37 (.bool false) (by kernel_rfl) ((wanted_of 30 33 true true (by kernel_rfl) (by kernel_rfl) (gn rfl (gn rfl (gn rfl hm)))).trans rfl) (fast_move W _ _ (.tmp 36) (.bool false) (by kernel_rfl) (eval_tmp 36 _ (ge (ls (ls hlen)) rfl))) ?_
  refine limb_two (.pointer (some ⟨w.heap.size, 0, none⟩)) (.bool true) (.bool false) 33 37 (gn rfl (gn rfl (gn rfl (gn rfl h1)))) (gn rfl (gn rfl (gn rfl (gn rfl hm)))) (ge (ls (ls (ls hlen))) rfl) (ls (ls (ls (ls hlen)))) ?_
  clear h1 hm hn hlen
  intro l hlen h1 hm hn
  refine fast_val 38 (.pointer (some ⟨w.heap.size, 3, none⟩)) (by kernel_rfl) ((wanted_of 34 37 false false (by kernel_rfl) (by kernel_rfl) hn).trans rfl) (fast_addr3 W _ _ (.tmp 1) w.heap.size (by kernel_rfl) (eval_tmp 1 _ h1)) ?_
  refine fast_val 39 (.int .i64 d) (by kernel_rfl) ((wanted_of 34 37 false false (by kernel_rfl) (by kernel_rfl) (gn rfl hn)).trans rfl) (fast_load W _ _ (.tmp 38) w.heap.size 3 d q3 (by kernel_rfl) (eval_tmp 38 _ (ge hlen rfl))) ?_
  refine fast_val 40 (.bool false) (by kernel_rfl) ((wanted_of 34 37 false false (by kernel_rfl) (by kernel_rfl) (gn rfl (gn rfl hn))).trans rfl) (fast_eql W _ _ (.tmp 39) (.const (.int .i64 2)) d 2 false (beq_eq_false_iff_ne.2 (by omega)) (by kernel_rfl) (eval_tmp 39 _ (ge (ls hlen) rfl)) (by kernel_rfl)) ?_
  refine fast_val 41 (.bool false) (by kernel_rfl) ((wanted_of 30 33 true true (by kernel_rfl) (by kernel_rfl) (gn rfl (gn rfl (gn rfl hm)))).trans rfl) (fast_pick W _ _ (.tmp 37) (.const (.bool true)) (.tmp 40) false (.bool false) (by kernel_rfl) (eval_tmp 37 _ (gn rfl (gn rfl (gn rfl hn)))) (eval_tmp 40 _ (ge (ls (ls hlen)) rfl))) ?_
  refine fast_val 42 (.bool false) (by kernel_rfl) ((wanted_of 30 33 true true (by kernel_rfl) (by kernel_rfl) (gn rfl (gn rfl (gn rfl (gn rfl hm))))).trans rfl) (fast_move W _ _ (.tmp 41) (.bool false) (by kernel_rfl) (eval_tmp 41 _ (ge (ls (ls (ls hlen))) rfl))) ?_
  refine limb_two (.pointer (some ⟨w.heap.size, 0, none⟩)) (.bool true) (.bool false) 33 42 (gn rfl (gn rfl (gn rfl (gn rfl (gn rfl h1))))) (gn rfl (gn rfl (gn rfl (gn rfl (gn rfl hm))))) (ge (ls (ls (ls (ls hlen)))) rfl) (ls (ls (ls (ls (ls hlen))))) ?_
  clear h1 hm hn hlen
  intro l hlen h1 hm hn
  refine fast_val 43 (.pointer (some ⟨w.heap.size, 3, none⟩)) (by kernel_rfl) ((wanted_of 39 42 false false (by kernel_rfl) (by kernel_rfl) hn).trans rfl) (fast_addr3 W _ _ (.tmp 1) w.heap.size (by kernel_rfl) (eval_tmp 1 _ h1)) ?_
  refine fast_val 44 (.int .i64 d) (by kernel_rfl) ((wanted_of 39 42 false false (by kernel_rfl) (by kernel_rfl) (gn rfl hn)).trans rfl) (fast_load W _ _ (.tmp 43) w.heap.size 3 d q3 (by kernel_rfl) (eval_tmp 43 _ (ge hlen rfl))) ?_
  refine fast_val 45 (.bool false) (by kernel_rfl) ((wanted_of 39 42 false false (by kernel_rfl) (by kernel_rfl) (gn rfl (gn rfl hn))).trans rfl) (fast_eql W _ _ (.tmp 44) (.const (.int .i64 4)) d 4 false (beq_eq_false_iff_ne.2 (by omega)) (by kernel_rfl) (eval_tmp 44 _ (ge (ls hlen) rfl)) (by kernel_rfl)) ?_
  refine fast_val 46 (.bool false) (by kernel_rfl) ((wanted_of 30 33 true true (by kernel_rfl) (by kernel_rfl) (gn rfl (gn rfl (gn rfl hm)))).trans rfl) (fast_pick W _ _ (.tmp 42) (.const (.bool true)) (.tmp 45) false (.bool false) (by kernel_rfl) (eval_tmp 42 _ (gn rfl (gn rfl (gn rfl hn)))) (eval_tmp 45 _ (ge (ls (ls hlen)) rfl))) ?_
  refine fast_val 47 (.bool false) (by kernel_rfl) ((wanted_of 30 33 true true (by kernel_rfl) (by kernel_rfl) (gn rfl (gn rfl (gn rfl (gn rfl hm))))).trans rfl) (fast_move W _ _ (.tmp 46) (.bool false) (by kernel_rfl) (eval_tmp 46 _ (ge (ls (ls (ls hlen))) rfl))) ?_
  refine limb_two (.pointer (some ⟨w.heap.size, 0, none⟩)) (.bool true) (.bool false) 33 47 (gn rfl (gn rfl (gn rfl (gn rfl (gn rfl h1))))) (gn rfl (gn rfl (gn rfl (gn rfl (gn rfl hm))))) (ge (ls (ls (ls (ls hlen)))) rfl) (ls (ls (ls (ls (ls hlen))))) ?_
  clear h1 hm hn hlen
  intro l hlen h1 hm hn
  refine fast_val 48 (.pointer (some ⟨w.heap.size, 3, none⟩)) (by kernel_rfl) ((wanted_of 44 47 false false (by kernel_rfl) (by kernel_rfl) hn).trans rfl) (fast_addr3 W _ _ (.tmp 1) w.heap.size (by kernel_rfl) (eval_tmp 1 _ h1)) ?_
  refine fast_val 49 (.int .i64 d) (by kernel_rfl) ((wanted_of 44 47 false false (by kernel_rfl) (by kernel_rfl) (gn rfl hn)).trans rfl) (fast_load W _ _ (.tmp 48) w.heap.size 3 d q3 (by kernel_rfl) (eval_tmp 48 _ (ge hlen rfl))) ?_
  refine fast_val 50 (.bool false) (by kernel_rfl) ((wanted_of 44 47 false false (by kernel_rfl) (by kernel_rfl) (gn rfl (gn rfl hn))).trans rfl) (fast_eql W _ _ (.tmp 49) (.const (.int .i64 8)) d 8 false (beq_eq_false_iff_ne.2 (by omega)) (by kernel_rfl) (eval_tmp 49 _ (ge (ls hlen) rfl)) (by kernel_rfl)) ?_
  refine fast_val 51 (.bool false) (by kernel_rfl) ((wanted_of 30 33 true true (by kernel_rfl) (by kernel_rfl) (gn rfl (gn rfl (gn rfl hm)))).trans rfl) (fast_pick W _ _ (.tmp 47) (.const (.bool true)) (.tmp 50) false (.bool false) (by kernel_rfl) (eval_tmp 47 _ (gn rfl (gn rfl (gn rfl hn)))) (eval_tmp 50 _ (ge (ls (ls hlen)) rfl))) ?_
  refine fast_val 52 (.bool false) (by kernel_rfl) (by kernel_rfl) (fast_pick W _ _ (.tmp 33) (.tmp 51) (.const (.bool false)) true (.bool false) (by kernel_rfl) (eval_tmp 33 _ (gn rfl (gn rfl (gn rfl (gn rfl hm))))) (eval_tmp 51 _ (ge (ls (ls (ls hlen))) rfl))) ?_
  refine fast_val 53 (.bool false) (by kernel_rfl) (by kernel_rfl) (fast_move W _ _ (.tmp 52) (.bool false) (by kernel_rfl) (eval_tmp 52 _ (ge (ls (ls (ls (ls hlen)))) rfl))) ?_
  refine limb_end (.pointer (some ⟨w.heap.size, 0, none⟩)) (.bool false) 53 (gn rfl (gn rfl (gn rfl (gn rfl (gn rfl (gn rfl h1)))))) (ge (ls (ls (ls (ls (ls hlen))))) rfl) (ls (ls (ls (ls (ls (ls hlen)))))) ?_
  clear h1 hm hn hlen
  intro l hlen h1 hm
  have hn := h1
  refine fast_skip 54 (by kernel_rfl) ((wanted_of 50 53 true false (by kernel_rfl) (by kernel_rfl) hm).trans rfl) ?_
  refine fast_skip 55 (by kernel_rfl) ((wanted_of 50 53 true false (by kernel_rfl) (by kernel_rfl) (gn rfl hm)).trans rfl) ?_
  refine fast_skip 56 (by kernel_rfl) ((wanted_of 50 53 true false (by kernel_rfl) (by kernel_rfl) (gn rfl (gn rfl hm))).trans rfl) ?_
  refine fast_val 57 (.bool false) (by kernel_rfl) (by kernel_rfl) (fast_pick W _ _ (.tmp 53) (.tmp 56) (.const (.bool false)) false (.bool false) (by kernel_rfl) (eval_tmp 53 _ (gn rfl (gn rfl (gn rfl hm)))) (by kernel_rfl)) ?_
  refine fast_val 58 (.bool false) (by kernel_rfl) (by kernel_rfl) (fast_move W _ _ (.tmp 57) (.bool false) (by kernel_rfl) (eval_tmp 57 _ (ge (ls (ls (ls hlen))) rfl))) ?_
  refine limb_end (.pointer (some ⟨w.heap.size, 0, none⟩)) (.bool false) 58 (gn rfl (gn rfl (gn rfl (gn rfl (gn rfl h1))))) (ge (ls (ls (ls (ls hlen)))) rfl) (ls (ls (ls (ls (ls hlen))))) ?_
  clear h1 hm hn hlen
  intro l hlen h1 hm
  have hn := h1
  refine fast_skip 59 (by kernel_rfl) ((wanted_of 55 58 true false (by kernel_rfl) (by kernel_rfl) hm).trans rfl) ?_
  refine fast_skip 60 (by kernel_rfl) ((wanted_of 55 58 true false (by kernel_rfl) (by kernel_rfl) (gn rfl hm)).trans rfl) ?_
  refine fast_skip 61 (by kernel_rfl) ((wanted_of 55 58 true false (by kernel_rfl) (by kernel_rfl) (gn rfl (gn rfl hm))).trans rfl) ?_
  refine fast_val 62 (.bool false) (by kernel_rfl) (by kernel_rfl) (fast_pick W _ _ (.tmp 58) (.tmp 61) (.const (.bool false)) false (.bool false) (by kernel_rfl) (eval_tmp 58 _ (gn rfl (gn rfl (gn rfl hm)))) (by kernel_rfl)) ?_
  refine fast_val 63 (.bool false) (by kernel_rfl) (by kernel_rfl) (fast_move W _ _ (.tmp 62) (.bool false) (by kernel_rfl) (eval_tmp 62 _ (ge (ls (ls (ls hlen))) rfl))) ?_
  refine limb_end (.pointer (some ⟨w.heap.size, 0, none⟩)) (.bool false) 63 (gn rfl (gn rfl (gn rfl (gn rfl (gn rfl h1))))) (ge (ls (ls (ls (ls hlen)))) rfl) (ls (ls (ls (ls (ls hlen))))) ?_
  clear h1 hm hn hlen
  intro l hlen h1 hm
  have hn := h1
  refine fast_skip 64 (by kernel_rfl) ((wanted_of 60 63 true false (by kernel_rfl) (by kernel_rfl) hm).trans rfl) ?_
  refine fast_skip 65 (by kernel_rfl) ((wanted_of 60 63 true false (by kernel_rfl) (by kernel_rfl) (gn rfl hm)).trans rfl) ?_
  refine fast_skip 66 (by kernel_rfl) ((wanted_of 60 63 true false (by kernel_rfl) (by kernel_rfl) (gn rfl (gn rfl hm))).trans rfl) ?_
  refine fast_val 67 (.bool false) (by kernel_rfl) (by kernel_rfl) (fast_pick W _ _ (.tmp 63) (.tmp 66) (.const (.bool false)) false (.bool false) (by kernel_rfl) (eval_tmp 63 _ (gn rfl (gn rfl (gn rfl hm)))) (by kernel_rfl)) ?_
  refine fast_val 68 (.bool false) (by kernel_rfl) (by kernel_rfl) (fast_move W _ _ (.tmp 67) (.bool false) (by kernel_rfl) (eval_tmp 67 _ (ge (ls (ls (ls hlen))) rfl))) ?_
  refine limb_end (.pointer (some ⟨w.heap.size, 0, none⟩)) (.bool false) 68 (gn rfl (gn rfl (gn rfl (gn rfl (gn rfl h1))))) (ge (ls (ls (ls (ls hlen)))) rfl) (ls (ls (ls (ls (ls hlen))))) ?_
  clear h1 hm hn hlen
  intro l hlen h1 hm
  have hn := h1
  refine fast_skip 69 (by kernel_rfl) ((wanted_of 65 68 true false (by kernel_rfl) (by kernel_rfl) hm).trans rfl) ?_
  refine fast_skip 70 (by kernel_rfl) ((wanted_of 65 68 true false (by kernel_rfl) (by kernel_rfl) (gn rfl hm)).trans rfl) ?_
  refine fast_skip 71 (by kernel_rfl) ((wanted_of 65 68 true false (by kernel_rfl) (by kernel_rfl) (gn rfl (gn rfl hm))).trans rfl) ?_
  refine fast_val 72 (.bool false) (by kernel_rfl) (by kernel_rfl) (fast_pick W _ _ (.tmp 68) (.tmp 71) (.const (.bool false)) false (.bool false) (by kernel_rfl) (eval_tmp 68 _ (gn rfl (gn rfl (gn rfl hm)))) (by kernel_rfl)) ?_
  refine fast_val 73 (.bool false) (by kernel_rfl) (by kernel_rfl) (fast_move W _ _ (.tmp 72) (.bool false) (by kernel_rfl) (eval_tmp 72 _ (ge (ls (ls (ls hlen))) rfl))) ?_
  refine limb_end (.pointer (some ⟨w.heap.size, 0, none⟩)) (.bool false) 73 (gn rfl (gn rfl (gn rfl (gn rfl (gn rfl h1))))) (ge (ls (ls (ls (ls hlen)))) rfl) (ls (ls (ls (ls (ls hlen))))) ?_
  clear h1 hm hn hlen
  intro l hlen h1 hm
  have hn := h1
  refine fast_skip 74 (by kernel_rfl) ((wanted_of 70 73 true false (by kernel_rfl) (by kernel_rfl) hm).trans rfl) ?_
  refine fast_skip 75 (by kernel_rfl) ((wanted_of 70 73 true false (by kernel_rfl) (by kernel_rfl) (gn rfl hm)).trans rfl) ?_
  refine fast_skip 76 (by kernel_rfl) ((wanted_of 70 73 true false (by kernel_rfl) (by kernel_rfl) (gn rfl (gn rfl hm))).trans rfl) ?_
  refine fast_val 77 (.bool false) (by kernel_rfl) (by kernel_rfl) (fast_pick W _ _ (.tmp 73) (.tmp 76) (.const (.bool false)) false (.bool false) (by kernel_rfl) (eval_tmp 73 _ (gn rfl (gn rfl (gn rfl hm)))) (by kernel_rfl)) ?_
  refine fast_val 78 (.bool false) (by kernel_rfl) (by kernel_rfl) (fast_move W _ _ (.tmp 77) (.bool false) (by kernel_rfl) (eval_tmp 77 _ (ge (ls (ls (ls hlen))) rfl))) ?_
  refine limb_end (.pointer (some ⟨w.heap.size, 0, none⟩)) (.bool false) 78 (gn rfl (gn rfl (gn rfl (gn rfl (gn rfl h1))))) (ge (ls (ls (ls (ls hlen)))) rfl) (ls (ls (ls (ls (ls hlen))))) ?_
  clear h1 hm hn hlen
  intro l hlen h1 hm
  have hn := h1
  refine fast_skip 79 (by kernel_rfl) ((wanted_of 75 78 true false (by kernel_rfl) (by kernel_rfl) hm).trans rfl) ?_
  refine fast_skip 80 (by kernel_rfl) ((wanted_of 75 78 true false (by kernel_rfl) (by kernel_rfl) (gn rfl hm)).trans rfl) ?_
  refine fast_skip 81 (by kernel_rfl) ((wanted_of 75 78 true false (by kernel_rfl) (by kernel_rfl) (gn rfl (gn rfl hm))).trans rfl) ?_
  refine fast_val 82 (.bool false) (by kernel_rfl) (by kernel_rfl) (fast_pick W _ _ (.tmp 78) (.tmp 81) (.const (.bool false)) false (.bool false) (by kernel_rfl) (eval_tmp 78 _ (gn rfl (gn rfl (gn rfl hm)))) (by kernel_rfl)) ?_
  refine fast_val 2 (.bool false) (by kernel_rfl) (by kernel_rfl) (fast_assign W _ _ (.tmp 82) (.bool false) (by kernel_rfl) (eval_tmp 82 _ (ge (ls (ls (ls hlen))) rfl))) ?_
  refine wpList_nil ?_
  refine hK _ _ (wp_ret (bodyPost_ret (v := .bool false) (by simp [results, Try.results30, go_sem, List.getElem?_set, hlen]) rfl ⟨rfl, HB.out⟩))
set_option linter.unusedSimpArgs false in
set_option maxRecDepth 10000 in
set_option maxHeartbeats 4000000 in
theorem goodr_d1n11 (a b c e f g : Int) (w : World) (k0 : 1 ≤ a) (k1 : a ≤ 8) (k2 : 2 ≤ b) (k3 : b ≤ 64) (k4 : 1 ≤ c) (k5 : c < b) (k7 : 1 ≤ e) (k8 : e ≤ 8) (k9 : 1 ≤ f) (k10 : f ≤ 16) (k11 : ¬ 1 ≤ g) : Calls Try.prog 30 #[.agg #[.int .i64 a, .int .i64 b, .int .i64 c, .int .i64 1, .int .i64 e, .int .i64 f, .int .i64 g]] w fun E w' => E = .returned (.bool false) ∧ Below w.heap.size w w' := by
  go_enter Try.func30, Try.ntmps30
  go_upto_region 1 with fail
  rename_i hK
  obtain ⟨W, hW⟩ : ∃ W, w.alloc (.cells #[.int .i64 a, .int .i64 b, .int .i64 c, .int .i64 1, .int .i64 e, .int .i64 f, .int .i64 g] 23) = W := ⟨_, rfl⟩
  rw [hW]
  have hrow : W.heap[w.heap.size]? = some (.cells #[.int .i64 a, .int .i64 b, .int .i64 c, .int .i64 1, .int .i64 e, .int .i64 f, .int .i64 g] 23 (0, 0)) := by rw [← hW]; exact heap_alloc_new w _
  have q0 : W.cell? ⟨w.heap.size, 0, none⟩ = some (.int .i64 a) := by rw [cell_of_row _ _ _ _ 23 (0, 0) hrow]; rfl
  have q1 : W.cell? ⟨w.heap.size, 1, none⟩ = some (.int .i64 b) := by rw [cell_of_row _ _ _ _ 23 (0, 0) hrow]; rfl
  have q2 : W.cell? ⟨w.heap.size, 2, none⟩ = some (.int .i64 c) := by rw [cell_of_row _ _ _ _ 23 (0, 0) hrow]; rfl
  have q3 : W.cell? ⟨w.heap.size, 3, none⟩ = some (.int .i64 1) := by rw [cell_of_row _ _ _ _ 23 (0, 0) hrow]; rfl
  have q4 : W.cell? ⟨w.heap.size, 4, none⟩ = some (.int .i64 e) := by rw [cell_of_row _ _ _ _ 23 (0, 0) hrow]; rfl
  have q5 : W.cell? ⟨w.heap.size, 5, none⟩ = some (.int .i64 f) := by rw [cell_of_row _ _ _ _ 23 (0, 0) hrow]; rfl
  have q6 : W.cell? ⟨w.heap.size, 6, none⟩ = some (.int .i64 g) := by rw [cell_of_row _ _ _ _ 23 (0, 0) hrow]; rfl
  have hB : Below w.heap.size w W := by rw [← hW]; exact (Below.refl _ _).alloc (Nat.le_refl _) _
  have HB := Lib.hid hB
  clear hrow hW hB
  refine wp_region_lit ?_
  refine limb_end (.pointer (some ⟨w.heap.size, 0, none⟩)) (.pointer (some ⟨w.heap.size, 0, none⟩)) 1 rfl rfl rfl ?_
  intro l hlen h1 hm
  have hn := h1
  refine fast_val 3 (.pointer (some ⟨w.heap.size, 0, none⟩)) (by kernel_rfl) (by kernel_rfl) (fast_addr0 W _ _ (.tmp 1) w.heap.size (by kernel_rfl) (eval_tmp 1 _ h1)) ?_
  refine fast_val 4 (.int .i64 a) (by kernel_rfl) (by kernel_rfl) (fast_load W _ _ (.tmp 3) w.heap.size 0 a q0 (by kernel_rfl) (eval_tmp 3 _ (ge hlen rfl))) ?_
  refine fast_val 5 (.bool true) (by kernel_rfl) (by kernel_rfl) (fast_geq W _ _ (.tmp 4) (.const (.int .i64 1)) a 1 true (decide_eq_true (by omega)) (by kernel_rfl) (eval_tmp 4 _ (ge (ls hlen) rfl)) (by kernel_rfl)) ?_
  refine fast_val 6 (.bool true) (by kernel_rfl) (by kernel_rfl) (fast_move W _ _ (.tmp 5) (.bool true) (by kernel_rfl) (eval_tmp 5 _ (ge (ls (ls hlen)) rfl))) ?_
  refine limb_end (.pointer (some ⟨w.heap.size, 0, none⟩)) (.bool true) 6 (gn rfl (gn rfl (gn rfl (gn rfl h1)))) (ge (ls (ls (ls hlen))) rfl) (ls (ls (ls (ls hlen)))) ?_
  clear h1 hm hn hlen
  intro l hlen h1 hm
  have hn := h1
  refine fast_val 7 (.pointer (some ⟨w.heap.size, 0, none⟩)) (by kernel_rfl) ((wanted_of 3 6 true true (by kernel_rfl) (by kernel_rfl) hm).trans rfl) (fast_addr0 W _ _ (.tmp 1) w.heap.size (by kernel_rfl) (eval_tmp 1 _ h1)) ?_
  refine fast_val 8 (.int .i64 a) (by kernel_rfl) ((wanted_of 3 6 true true (by kernel_rfl) (by kernel_rfl) (gn rfl hm)).trans rfl) (fast_load W _ _ (.tmp 7) w.heap.size 0 a q0 (by kernel_rfl) (eval_tmp 7 _ (ge hlen rfl))) ?_
  refine fast_val 9 (.bool true) (by kernel_rfl) ((wanted_of 3 6 true true (by kernel_rfl) (by kernel_rfl) (gn rfl (gn rfl hm))).trans rfl) (fast_leq W _ _ (.tmp 8) (.const (.int .i64 8)) a 8 true (decide_eq_true (by omega)) (by kernel_rfl) (eval_tmp 8 _ (ge (ls hlen) rfl)) (by kernel_rfl)) ?_
  refine fast_val 10 (.bool true) (by kernel_rfl) (by kernel_rfl) (fast_pick W _ _ (.tmp 6) (.tmp 9) (.const (.bool false)) true (.bool true) (by kernel_rfl) (eval_tmp 6 _ (gn rfl (gn rfl (gn rfl hm)))) (eval_tmp 9 _ (ge (ls (ls hlen)) rfl))) ?_
  refine fast_val 11 (.bool true) (by kernel_rfl) (by kernel_rfl) (fast_move W _ _ (.tmp 10) (.bool true) (by kernel_rfl) (eval_tmp 10 _ (ge (ls (ls (ls hlen))) rfl))) ?_
  refine limb_end (.pointer (some ⟨w.heap.size, 0, none⟩)) (.bool true) 11 (gn rfl (gn rfl (gn rfl (gn rfl (gn rfl h1))))) (ge (ls (ls (ls (ls hlen)))) rfl) (ls (ls (ls (ls (ls hlen))))) ?_
  clear h1 hm hn hlen
  intro l hlen h1 hm
  have hn := h1
  refine fast_val 12 (.pointer (some ⟨w.heap.size, 1, none⟩)) (by kernel_rfl) ((wanted_of 8 11 true true (by kernel_rfl) (by kernel_rfl) hm).trans rfl) (fast_addr1 W _ _ (.tmp 1) w.heap.size (by kernel_rfl) (eval_tmp 1 _ h1)) ?_
  refine fast_val 13 (.int .i64 b) (by kernel_rfl) ((wanted_of 8 11 true true (by kernel_rfl) (by kernel_rfl) (gn rfl hm)).trans rfl) (fast_load W _ _ (.tmp 12) w.heap.size 1 b q1 (by kernel_rfl) (eval_tmp 12 _ (ge hlen rfl))) ?_
  refine fast_val 14 (.bool true) (by kernel_rfl) ((wanted_of 8 11 true true (by kernel_rfl) (by kernel_rfl) (gn rfl (gn rfl hm))).trans rfl) (fast_geq W _ _ (.tmp 13) (.const (.int .i64 2)) b 2 true (decide_eq_true (by omega)) (by kernel_rfl) (eval_tmp 13 _ (ge (ls hlen) rfl)) (by kernel_rfl)) ?_
  refine fast_val 15 (.bool true) (by kernel_rfl) (by kernel_rfl) (fast_pick W _ _ (.tmp 11) (.tmp 14) (.const (.bool false)) true (.bool true) (by kernel_rfl) (eval_tmp 11 _ (gn rfl (gn rfl (gn rfl hm)))) (eval_tmp 14 _ (ge (ls (ls hlen)) rfl))) ?_
  refine fast_val 16 (.bool true) (by kernel_rfl) (by kernel_rfl) (fast_move W _ _ (.tmp 15) (.bool true) (by kernel_rfl) (eval_tmp 15 _ (ge (ls (ls (ls hlen))) rfl))) ?_
  refine limb_end (.pointer (some ⟨w.heap.size, 0, none⟩)) (.bool true) 16 (gn rfl (gn rfl (gn rfl (gn rfl (gn rfl h1))))) (ge (ls (ls (ls (ls hlen)))) rfl) (ls (ls (ls (ls (ls hlen))))) ?_
  clear h1 hm hn hlen
  intro l hlen h1 hm
  have hn := h1
  refine fast_val 17 (.pointer (some ⟨w.heap.size, 1, none⟩)) (by kernel_rfl) ((wanted_of 13 16 true true (by kernel_rfl) (by kernel_rfl) hm).trans rfl) (fast_addr1 W _ _ (.tmp 1) w.heap.size (by kernel_rfl) (eval_tmp 1 _ h1)) ?_
  refine fast_val 18 (.int .i64 b) (by kernel_rfl) ((wanted_of 13 16 true true (by kernel_rfl) (by kernel_rfl) (gn rfl hm)).trans rfl) (fast_load W _ _ (.tmp 17) w.heap.size 1 b q1 (by kernel_rfl) (eval_tmp 17 _ (ge hlen rfl))) ?_
  refine fast_val 19 (.bool true) (by kernel_rfl) ((wanted_of 13 16 true true (by kernel_rfl) (by kernel_rfl) (gn rfl (gn rfl hm))).trans rfl) (fast_leq W _ _ (.tmp 18) (.const (.int .i64 64)) b 64 true (decide_eq_true (by omega)) (by kernel_rfl) (eval_tmp 18 _ (ge (ls hlen) rfl)) (by kernel_rfl)) ?_
  refine fast_val 20 (.bool true) (by kernel_rfl) (by kernel_rfl) (fast_pick W _ _ (.tmp 16) (.tmp 19) (.const (.bool false)) true (.bool true) (by kernel_rfl) (eval_tmp 16 _ (gn rfl (gn rfl (gn rfl hm)))) (eval_tmp 19 _ (ge (ls (ls hlen)) rfl))) ?_
  refine fast_val 21 (.bool true) (by kernel_rfl) (by kernel_rfl) (fast_move W _ _ (.tmp 20) (.bool true) (by kernel_rfl) (eval_tmp 20 _ (ge (ls (ls (ls hlen))) rfl))) ?_
  refine limb_end (.pointer (some ⟨w.heap.size, 0, none⟩)) (.bool true) 21 (gn rfl (gn rfl (gn rfl (gn rfl (gn rfl h1))))) (ge (ls (ls (ls (ls hlen)))) rfl) (ls (ls (ls (ls (ls hlen))))) ?_
  clear h1 hm hn hlen
  intro l hlen h1 hm
  have hn := h1
  refine fast_val 22 (.pointer (some ⟨w.heap.size, 2, none⟩)) (by kernel_rfl) ((wanted_of 18 21 true true (by kernel_rfl) (by kernel_rfl) hm).trans rfl) (fast_addr2 W _ _ (.tmp 1) w.heap.size (by kernel_rfl) (eval_tmp 1 _ h1)) ?_
  refine fast_val 23 (.int .i64 c) (by kernel_rfl) ((wanted_of 18 21 true true (by kernel_rfl) (by kernel_rfl) (gn rfl hm)).trans rfl) (fast_load W _ _ (.tmp 22) w.heap.size 2 c q2 (by kernel_rfl) (eval_tmp 22 _ (ge hlen rfl))) ?_
  refine fast_val 24 (.bool true) (by kernel_rfl) ((wanted_of 18 21 true true (by kernel_rfl) (by kernel_rfl) (gn rfl (gn rfl hm))).trans rfl) (fast_geq W _ _ (.tmp 23) (.const (.int .i64 1)) c 1 true (decide_eq_true (by omega)) (by kernel_rfl) (eval_tmp 23 _ (ge (ls hlen) rfl)) (by kernel_rfl)) ?_
  refine fast_val 25 (.bool true) (by kernel_rfl) (by kernel_rfl) (fast_pick W _ _ (.tmp 21) (.tmp 24) (.const (.bool false)) true (.bool true) (by kernel_rfl) (eval_tmp 21 _ (gn rfl (gn rfl (gn rfl hm)))) (eval_tmp 24 _ (ge (ls (ls hlen)) rfl))) ?_
  refine fast_val 26 (.bool true) (by kernel_rfl) (by kernel_rfl) (fast_move W _ _ (.tmp 25) (.bool true) (by kernel_rfl) (eval_tmp 25 _ (ge (ls (ls (ls hlen))) rfl))) ?_
  refine limb_end (.pointer (some ⟨w.heap.size, 0, none⟩)) (.bool true) 26 (gn rfl (gn rfl (gn rfl (gn rfl (gn rfl h1))))) (ge (ls (ls (ls (ls hlen)))) rfl) (ls (ls (ls (ls (ls hlen))))) ?_
  clear h1 hm hn hlen
  intro l hlen h1 hm
  have hn := h1
  refine fast_val 27 (.pointer (some ⟨w.heap.size, 2, none⟩)) (by kernel_rfl) ((wanted_of 23 26 true true (by kernel_rfl) (by kernel_rfl) hm).trans rfl) (fast_addr2 W _ _ (.tmp 1) w.heap.size (by kernel_rfl) (eval_tmp 1 _ h1)) ?_
  refine fast_val 28 (.int .i64 c) (by kernel_rfl) ((wanted_of 23 26 true true (by kernel_rfl) (by kernel_rfl) (gn rfl hm)).trans rfl) (fast_load W _ _ (.tmp 27) w.heap.size 2 c q2 (by kernel_rfl) (eval_tmp 27 _ (ge hlen rfl))) ?_
  refine fast_val 29 (.pointer (some ⟨w.heap.size, 1, none⟩)) (by kernel_rfl) ((wanted_of 23 26 true true (by kernel_rfl) (by kernel_rfl) (gn rfl (gn rfl hm))).trans rfl) (fast_addr1 W _ _ (.tmp 1) w.heap.size (by kernel_rfl) (eval_tmp 1 _ (gn rfl (gn rfl h1)))) ?_
  refine fast_val 30 (.int .i64 b) (by kernel_rfl) ((wanted_of 23 26 true true (by kernel_rfl) (by kernel_rfl) (gn rfl (gn rfl (gn rfl hm)))).trans rfl) (fast_load W _ _ (.tmp 29) w.heap.size 1 b q1 (by kernel_rfl) (eval_tmp 29 _ (ge (ls (ls hlen)) rfl))) ?_
  refine fast_val 31 (.bool true) (by kernel_rfl) ((wanted_of 23 26 true true (by kernel_rfl) (by kernel_rfl) (gn rfl (gn rfl (gn rfl (gn rfl hm))))).trans rfl) (fast_lss W _ _ (.tmp 28) (.tmp 30) c b true (decide_eq_true (by omega)) (by kernel_rfl) (eval_tmp 28 _ (gn rfl (gn rfl (ge (ls hlen) rfl)))) (eval_tmp 30 _ (ge (ls (ls (ls hlen))) rfl))) ?_
  refine fast_val 32 (.bool true) (by kernel_rfl) (by kernel_rfl) (fast_pick W _ _ (.tmp 26) (.tmp 31) (.const (.bool false)) true (.bool true) (by kernel_rfl) (eval_tmp 26 _ (gn rfl (gn rfl (gn rfl (gn rfl (gn rfl hm)))))) (eval_tmp 31 _ (ge (ls (ls (ls (ls hlen)))) rfl))) ?_
  refine fast_val 33 (.bool true) (by kernel_rfl) (by kernel_rfl) (fast_move W _ _ (.tmp 32) (.bool true) (by kernel_rfl) (eval_tmp 32 _ (ge (ls (ls (ls (ls (ls hlen))))) rfl))) ?_
  refine limb_end (.pointer (some ⟨w.heap.size, 0, none⟩)) (.bool true) 33 (gn rfl (gn rfl (gn rfl (gn rfl (gn rfl (gn rfl (gn rfl h1))))))) (ge (ls (ls (ls (ls (ls (ls hlen)))))) rfl) (ls (ls (ls (ls (ls (ls (ls hlen))))))) ?_
  clear h1 hm hn hlen
  intro l hlen h1 hm
  have hn := h1
  refine fast_val 34 (.pointer (some ⟨w.heap.size, 3, none⟩)) (by kernel_rfl) ((wanted_of 30 33 true true (by kernel_rfl) (by kernel_rfl) hm).trans rfl) (fast_addr3 W _ _ (.tmp 1) w.heap.size (by kernel_rfl) (eval_tmp 1 _ h1)) ?_
  refine fast_val 35 (.int .i64 1) (by kernel_rfl) ((wanted_of 30 33 true true (by kernel_rfl) (by kernel_rfl) (gn rfl hm)).trans rfl) (fast_load W _ _ (.tmp 34) w.heap.size 3 1 q3 (by kernel_rfl) (eval_tmp 34 _ (ge hlen rfl))) ?_
  refine fast_val 36 (.bool true) (by kernel_rfl) ((wanted_of 30 33 true true (by kernel_rfl) (by kernel_rfl) (gn rfl (gn rfl hm))).trans rfl) (fast_eql W _ _ (.tmp 35) (.const (.int .i64 1)) 1 1 true (beq_iff_eq.2 (by omega)) (by kernel_rfl) (eval_tmp 35 _ (ge (ls hlen) rfl)) (by kernel_rfl)) ?_
  refine fast_val 37 (.bool true) (by kernel_rfl) ((wanted_of 30 33 true true (by kernel_rfl) (by kernel_rfl) (gn rfl (gn rfl (gn rfl hm)))).trans rfl) (fast_move W _ _ (.tmp 36) (.bool true) (by kernel_rfl) (eval_tmp 36 _ (ge (ls (ls hlen)) rfl))) ?_
  refine limb_two (.pointer (some ⟨w.heap.size, 0, none⟩)) (.bool true) (.bool true) 33 37 (gn rfl (gn rfl (gn rfl (gn rfl h1)))) (gn rfl (gn rfl (gn rfl (gn rfl hm)))) (ge (ls (ls (ls hlen))) rfl) (ls (ls (ls (ls hlen)))) ?_
  clear h1 hm hn hlen
  intro l hlen h1 hm hn
  refine fast_skip 38 (by kernel_rfl) ((wanted_of 34 37 false true (by kernel_rfl) (by kernel_rfl) hn).trans rfl) ?_
  refine fast_skip 39 (by kernel_rfl) ((wanted_of 34 37 false true (by kernel_rfl) (by kernel_rfl) (gn rfl hn)).trans rfl) ?_
  refine fast_skip 40 (by kernel_rfl) ((wanted_of 34 37 false true (by kernel_rfl) (by kernel_rfl) (gn rfl (gn rfl hn))).trans rfl) ?_
  refine fast_val 41 (.bool true) (by kernel_rfl) ((wanted_of 30 33 true true (by kernel_rfl) (by kernel_rfl) (gn rfl (gn rfl (gn rfl hm)))).trans rfl) (fast_pick W _ _ (.tmp 37) (.const (.bool true)) (.tmp 40) true (.bool true) (by kernel_rfl) (eval_tmp 37 _ (gn rfl (gn rfl (gn rfl hn)))) (by kernel_rfl)) ?_
  refine fast_val 42 (.bool true) (by kernel_rfl) ((wanted_of 30 33 true true (by kernel_rfl) (by kernel_rfl) (gn rfl (gn rfl (gn rfl (gn rfl hm))))).trans rfl) (fast_move W _ _ (.tmp 41) (.bool true) (by kernel_rfl) (eval_tmp 41 _ (ge (ls (ls (ls hlen))) rfl))) ?_
  refine limb_two (.pointer (some ⟨w.heap.size, 0, none⟩)) (.bool true) (.bool true) 33 42 (gn rfl (gn rfl (gn rfl (gn rfl (gn rfl h1))))) (gn rfl (gn rfl (gn rfl (gn rfl (gn rfl hm))))) (ge (ls (ls (ls (ls hlen)))) rfl) (ls (ls (ls (ls (ls hlen))))) ?_
  clear h1 hm hn hlen
  intro l hlen h1 hm hn
  refine fast_skip 43 (by kernel_rfl) ((wanted_of 39 42 false true (by kernel_rfl) (by kernel_rfl) hn).trans rfl) ?_
  refine fast_skip 44 (by kernel_rfl) ((wanted_of 39 42 false true (by kernel_rfl) (by kernel_rfl) (gn rfl hn)).trans rfl) ?_
  refine fast_skip 45 (by kernel_rfl) ((wanted_of 39 42 false true (by kernel_rfl) (by kernel_rfl) (gn rfl (gn rfl hn))).trans rfl) ?_
  refine fast_val 46 (.bool true) (by kernel_rfl) ((wanted_of 30 33 true true (by kernel_rfl) (by kernel_rfl) (gn rfl (gn rfl (gn rfl hm)))).trans rfl) (fast_pick W _ _ (.tmp 42) (.const (.bool true)) (.tmp 45) true (.bool true) (by kernel_rfl) (eval_tmp 42 _ (gn rfl (gn rfl (gn rfl hn)))) (by kernel_rfl)) ?_
  refine fast_val 47 (.bool true) (by kernel_rfl) ((wanted_of 30 33 true true (by kernel_rfl) (by kernel_rfl) (gn rfl (gn rfl (gn rfl (gn rfl hm))))).trans rfl) (fast_move W _ _ (.tmp 46) (.bool true) (by kernel_rfl) (eval_tmp 46 _ (ge (ls (ls (ls hlen))) rfl))) ?_
  refine limb_two (.pointer (some ⟨w.heap.size, 0, none⟩)) (.bool true) (.bool true) 33 47 (gn rfl (gn rfl (gn rfl (gn rfl (gn rfl h1))))) (gn rfl (gn rfl (gn rfl (gn rfl (gn rfl hm))))) (ge (ls (ls (ls (ls hlen)))) rfl) (ls (ls (ls (ls (ls hlen))))) ?_
  clear h1 hm hn hlen
  intro l hlen h1 hm hn
  refine fast_skip 48 (by kernel_rfl) ((wanted_of 44 47 false true (by kernel_rfl) (by kernel_rfl) hn).trans rfl) ?_
  refine fast_skip 49 (by kernel_rfl) ((wanted_of 44 47 false true (by kernel_rfl) (by kernel_rfl) (gn rfl hn)).trans rfl) ?_
  refine fast_skip 50 (by kernel_rfl) ((wanted_of 44 47 false true (by kernel_rfl) (by kernel_rfl) (gn rfl (gn rfl hn))).trans rfl) ?_
  refine fast_val 51 (.bool true) (by kernel_rfl) ((wanted_of 30 33 true true (by kernel_rfl) (by kernel_rfl) (gn rfl (gn rfl (gn rfl hm)))).trans rfl) (fast_pick W _ _ (.tmp 47) (.const (.bool true)) (.tmp 50) true (.bool true) (by kernel_rfl) (eval_tmp 47 _ (gn rfl (gn rfl (gn rfl hn)))) (by kernel_rfl)) ?_
  refine fast_val 52 (.bool true) (by kernel_rfl) (by kernel_rfl) (fast_pick W _ _ (.tmp 33) (.tmp 51) (.const (.bool false)) true (.bool true) (by kernel_rfl) (eval_tmp 33 _ (gn rfl (gn rfl (gn rfl (gn rfl hm))))) (eval_tmp 51 _ (ge (ls (ls (ls hlen))) rfl))) ?_
  refine fast_val 53 (.bool true) (by kernel_rfl) (by kernel_rfl) (fast_move W _ _ (.tmp 52) (.bool true) (by kernel_rfl) (eval_tmp 52 _ (ge (ls (ls (ls (ls hlen)))) rfl))) ?_
  refine limb_end (.pointer (some ⟨w.heap.size, 0, none⟩)) (.bool true) 53 (gn rfl (gn rfl (gn rfl (gn rfl (gn rfl (gn rfl h1)))))) (ge (ls (ls (ls (ls (ls hlen))))) rfl) (ls (ls (ls (ls (ls (ls hlen)))))) ?_
  clear h1 hm hn hlen
  intro l hlen h1 hm
  have hn := h1
  refine fast_val 54 (.pointer (some ⟨w.heap.size, 4, none⟩)) (by kernel_rfl) ((wanted_of 50 53 true true (by kernel_rfl) (by kernel_rfl) hm).trans rfl) (fast_addr4 W _ _ (.tmp 1) w.heap.size (by kernel_rfl) (eval_tmp 1 _ h1)) ?_
  refine fast_val 55 (.int .i64 e) (by kernel_rfl) ((wanted_of 50 53 true true (by kernel_rfl) (by kernel_rfl) (gn rfl hm)).trans rfl) (fast_load W _ _ (.tmp 54) w.heap.size 4 e q4 (by kernel_rfl) (eval_tmp 54 _ (ge hlen rfl))) ?_
  refine fast_val 56 (.bool true) (by kernel_rfl) ((wanted_of 50 53 true true (by kernel_rfl) (by kernel_rfl) (gn rfl (gn rfl hm))).trans rfl) (fast_geq W _ _ (.tmp 55) (.const (.int .i64 1)) e 1 true (decide_eq_true (by omega)) (by kernel_rfl) (eval_tmp 55 _ (ge (ls hlen) rfl)) (by kernel_rfl)) ?_
  refine fast_val 57 (.bool true) (by kernel_rfl) (by kernel_rfl) (fast_pick W _ _ (.tmp 53) (.tmp 56) (.const (.bool false)) true (.bool true) (by kernel_rfl) (eval_tmp 53 _ (gn rfl (gn rfl (gn rfl hm)))) (eval_tmp 56 _ (ge (ls (ls hlen)) rfl))) ?_
  refine fast_val 58 (.bool true) (by kernel_rfl) (by kernel_rfl) (fast_move W _ _ (.tmp 57) (.bool true) (by kernel_rfl) (eval_tmp 57 _ (ge (ls (ls (ls hlen))) rfl))) ?_
  refine limb_end (.pointer (some ⟨w.heap.size, 0, none⟩)) (.bool true) 58 (gn rfl (gn rfl (gn rfl (gn rfl (gn rfl h1))))) (ge (ls (ls (ls (ls hlen)))) rfl) (ls (ls (ls (ls (ls hlen))))) ?_
  clear h1 hm hn hlen
  intro l hlen h1 hm
  have hn := h1
  refine fast_val 59 (.pointer (some ⟨w.heap.size, 4, none⟩)) (by kernel_rfl) ((wanted_of 55 58 true true (by kernel_rfl) (by kernel_rfl) hm).trans rfl) (fast_addr4 W _ _ (.tmp 1) w.heap.size (by kernel_rfl) (eval_tmp 1 _ h1)) ?_
  refine fast_val 60 (.int .i64 e) (by kernel_rfl) ((wanted_of 55 58 true true (by kernel_rfl) (by kernel_rfl) (gn rfl hm)).trans rfl) (fast_load W _ _ (.tmp 59) w.heap.size 4 e q4 (by kernel_rfl) (eval_tmp 59 _ (ge hlen rfl))) ?_
  refine fast_val 61 (.bool true) (by kernel_rfl) ((wanted_of 55 58 true true (by kernel_rfl) (by kernel_rfl) (gn rfl (gn rfl hm))).trans rfl) (fast_leq W _ _ (.tmp 60) (.const (.int .i64 8)) e 8 true (decide_eq_true (by omega)) (by kernel_rfl) (eval_tmp 60 _ (ge (ls hlen) rfl)) (by kernel_rfl)) ?_
  refine fast_val 62 (.bool true) (by kernel_rfl) (by kernel_rfl) (fast_pick W _ _ (.tmp 58) (.tmp 61) (.const (.bool false)) true (.bool true) (by kernel_rfl) (eval_tmp 58 _ (gn rfl (gn rfl (gn rfl hm)))) (eval_tmp 61 _ (ge (ls (ls hlen)) rfl))) ?_
  refine fast_val 63 (.bool true) (by kernel_rfl) (by kernel_rfl) (fast_move W _ _ (.tmp 62) (.bool true) (by kernel_rfl) (eval_tmp 62 _ (ge (ls (ls (ls hlen))) rfl))) ?_
  refine limb_end (.pointer (some ⟨w.heap.size, 0, none⟩)) (.bool true) 63 (gn rfl (gn rfl (gn rfl (gn rfl (gn rfl h1))))) (ge (ls (ls (ls (ls hlen)))) rfl) (ls (ls (ls (ls (ls hlen))))) ?_
  clear h1 hm hn hlen
  intro l hlen h1 hm
  have hn := h1
  refine fast_val 64 (.pointer (some ⟨w.heap.size, 5, none⟩)) (by kernel_rfl) ((wanted_of 60 63 true true (by kernel_rfl) (by kernel_rfl) hm).trans rfl) (fast_addr5 W _ _ (.tmp 1) w.heap.size (by kernel_rfl) (eval_tmp 1 _ h1)) ?_
  refine fast_val 65 (.int .i64 f) (by kernel_rfl) ((wanted_of 60 63 true true (by kernel_rfl) (by kernel_rfl) (gn rfl hm)).trans rfl) (fast_load W _ _ (.tmp 64) w.heap.size 5 f q5 (by kernel_rfl) (eval_tmp 64 _ (ge hlen rfl))) ?_
  refine fast_val 66 (.bool true) (by kernel_rfl) ((wanted_of 60 63 true true (by kernel_rfl) (by kernel_rfl) (gn rfl (gn rfl hm))).trans rfl) (fast_geq W _ _ (.tmp 65) (.const (.int .i64 1)) f 1 true (decide_eq_true (by omega)) (by kernel_rfl) (eval_tmp 65 _ (ge (ls hlen) rfl)) (by kernel_rfl)) ?_
  refine fast_val 67 (.bool true) (by kernel_rfl) (by kernel_rfl) (fast_pick W _ _ (.tmp 63) (.tmp 66) (.const (.bool false)) true (.bool true) (by kernel_rfl) (eval_tmp 63 _ (gn rfl (gn rfl (gn rfl hm)))) (eval_tmp 66 _ (ge (ls (ls hlen)) rfl))) ?_
  refine fast_val 68 (.bool true) (by kernel_rfl) (by kernel_rfl) (fast_move W _ _ (.tmp 67) (.bool true) (by kernel_rfl) (eval_tmp 67 _ (ge (ls (ls (ls hlen))) rfl))) ?_
  refine limb_end (.pointer (some ⟨w.heap.size, 0, none⟩)) (.bool true) 68 (gn rfl (gn rfl (gn rfl (gn rfl (gn rfl h1))))) (ge (ls (ls (ls (ls hlen)))) rfl) (ls (ls (ls (ls (ls hlen))))) ?_
  clear h1 hm hn hlen
  intro l hlen h1 hm
  have hn := h1
  refine fast_val 69 (.pointer (some ⟨w.heap.size, 5, none⟩)) (by kernel_rfl) ((wanted_of 65 68 true true (by kernel_rfl) (by kernel_rfl) hm).trans rfl) (fast_addr5 W _ _ (.tmp 1) w.heap.size (by kernel_rfl) (eval_tmp 1 _ h1)) ?_
  refine fast_val 70 (.int .i64 f) (by kernel_rfl) ((wanted_of 65 68 true true (by kernel_rfl) (by kernel_rfl) (gn rfl hm)).trans rfl) (fast_load W _ _ (.tmp 69) w.heap.size 5 f q5 (by kernel_rfl) (eval_tmp 69 _ (ge hlen rfl))) ?_
  refine fast_val 71 (.bool true) (by kernel_rfl) ((wanted_of 65 68 true true (by kernel_rfl) (by kernel_rfl) (gn rfl (gn rfl hm))).trans rfl) (fast_leq W _ _ (.tmp 70) (.const (.int .i64 16)) f 16 true (decide_eq_true (by omega)) (by kernel_rfl) (eval_tmp 70 _ (ge (ls hlen) rfl)) (by kernel_rfl)) ?_
  refine fast_val 72 (.bool true) (by kernel_rfl) (by kernel_rfl) (fast_pick W _ _ (.tmp 68) (.tmp 71) (.const (.bool false)) true (.bool true) (by kernel_rfl) (eval_tmp 68 _ (gn rfl (gn rfl (gn rfl hm)))) (eval_tmp 71 _ (ge (ls (ls hlen)) rfl))) ?_
  refine fast_val 73 (.bool true) (by kernel_rfl) (by kernel_rfl) (fast_move W _ _ (.tmp 72) (.bool true) (by kernel_rfl) (eval_tmp 72 _ (ge (ls (ls (ls hlen))) rfl))) ?_
  refine limb_end (.pointer (some ⟨w.heap.size, 0, none⟩)) (.bool true) 73 (gn rfl (gn rfl (gn rfl (gn rfl (gn rfl h1))))) (ge (ls (ls (ls (ls hlen)))) rfl) (ls (ls (ls (ls (ls hlen))))) ?_
  clear h1 hm hn hlen
  intro l hlen h1 hm
  have hn := h1
  refine fast_val 74 (.pointer (some ⟨w.heap.size, 6, none⟩)) (by kernel_rfl) ((wanted_of 70 73 true true (by kernel_rfl) (by kernel_rfl) hm).trans rfl) (fast_addr6 W _ _ (.tmp 1) w.heap.size (by kernel_rfl) (eval_tmp 1 _ h1)) ?_
  refine fast_val 75 (.int .i64 g) (by kernel_rfl) ((wanted_of 70 73 true true (by kernel_rfl) (by kernel_rfl) (gn rfl hm)).trans rfl) (fast_load W _ _ (.tmp 74) w.heap.size 6 g q6 (by kernel_rfl) (eval_tmp 74 _ (ge hlen rfl))) ?_
  refine fast_val 76 (.bool false) (by kernel_rfl) ((wanted_of 70 73 true true (by kernel_rfl) (by kernel_rfl) (gn rfl (gn rfl hm))).trans rfl) (fast_geq W _ _ (.tmp 75) (.const (.int .i64 1)) g 1 false (decide_eq_false (by omega)) (by kernel_rfl) (eval_tmp 75 _ (ge (ls hlen) rfl)) (by kernel_rfl)) ?_
  refine fast_val 77 (.bool false) (by kernel_rfl) (by kernel_rfl) (fast_pick W _ _ (.tmp 73) (.tmp 76) (.const (.bool false)) true (.bool false) (by kernel_rfl) (eval_tmp 73 _ (gn rfl (gn rfl (gn rfl hm)))) (eval_tmp 76 _ (ge (ls (ls hlen)) rfl))) ?_
  refine fast_val 78 (.bool false) (by kernel_rfl) (by kernel_rfl) (fast_move W _ _ (.tmp 77) (.bool false) (by kernel_rfl) (eval_tmp 77 _ (ge (ls (ls (ls hlen))) rfl))) ?_
  refine limb_end (.pointer (some ⟨w.heap.size, 0, none⟩)) (.bool false) 78 (gn rfl (gn rfl (gn rfl (gn rfl (gn rfl h1))))) (ge (ls (ls (ls (ls hlen)))) rfl) (ls (ls (ls (ls (ls hlen))))) ?_
  clear h1 hm hn hlen
  intro l hlen h1 hm
  have hn := h1
  refine fast_skip 79 (by kernel_rfl) ((wanted_of 75 78 true false (by kernel_rfl) (by kernel_rfl) hm).trans rfl) ?_
  refine fast_skip 80 (by kernel_rfl) ((wanted_of 75 78 true false (by kernel_rfl) (by kernel_rfl) (gn rfl hm)).trans rfl) ?_
  refine fast_skip 81 (by kernel_rfl) ((wanted_of 75 78 true false (by kernel_rfl) (by kernel_rfl) (gn rfl (gn rfl hm))).trans rfl) ?_
  refine fast_val 82 (.bool false) (by kernel_rfl) (by kernel_rfl) (fast_pick W _ _ (.tmp 78) (.tmp 81) (.const (.bool false)) false (.bool false) (by kernel_rfl) (eval_tmp 78 _ (gn rfl (gn rfl (gn rfl hm)))) (by kernel_rfl)) ?_
  refine fast_val 2 (.bool false) (by kernel_rfl) (by kernel_rfl) (fast_assign W _ _ (.tmp 82) (.bool false) (by kernel_rfl) (eval_tmp 82 _ (ge (ls (ls (ls hlen))) rfl))) ?_
  refine wpList_nil ?_
  refine hK _ _ (wp_ret (bodyPost_ret (v := .bool false) (by simp [results, Try.results30, go_sem, List.getElem?_set, hlen]) rfl ⟨rfl, HB.out⟩))
set_option linter.unusedSimpArgs false in
set_option maxRecDepth 10000 in
set_option maxHeartbeats 4000000 in
theorem goodr_d2n9 (a b c e f g : Int) (w : World) (k0 : 1 ≤ a) (k1 : a ≤ 8) (k2 : 2 ≤ b) (k3 : b ≤ 64) (k4 : 1 ≤ c) (k5 : c < b) (k7 : 1 ≤ e) (k8 : e ≤ 8) (k9 : ¬ 1 ≤ f) : Calls Try.prog 30 #[.agg #[.int .i64 a, .int .i64 b, .int .i64 c, .int .i64 2, .int .i64 e, .int .i64 f, .int .i64 g]] w fun E w' => E = .returned (.bool false) ∧ Below w.heap.size w w' := by
  go_enter Try.func30, Try.ntmps30
  go_upto_region 1 with fail
  rename_i hK
  obtain ⟨W, hW⟩ : ∃ W, w.alloc (.cells #[.int .i64 a, .int .i64 b, .int .i64 c, .int .i64 2, .int .i64 e, .int .i64 f, .int .i64 g] 23) = W := ⟨_, rfl⟩
  rw [hW]
  have hrow : W.heap[w.heap.size]? = some (.cells #[.int .i64 a, .int .i64 b, .int .i64 c, .int .i64 2, .int .i64 e, .int .i64 f, .int .i64 g] 23 (0, 0)) := by rw [← hW]; exact heap_alloc_new w _
  have q0 : W.cell? ⟨w.heap.size, 0, none⟩ = some (.int .i64 a) := by rw [cell_of_row _ _ _ _ 23 (0, 0) hrow]; rfl
  have q1 : W.cell? ⟨w.heap.size, 1, none⟩ = some (.int .i64 b) := by rw [cell_of_row _ _ _ _ 23 (0, 0) hrow]; rfl
  have q2 : W.cell? ⟨w.heap.size, 2, none⟩ = some (.int .i64 c) := by rw [cell_of_row _ _ _ _ 23 (0, 0) hrow]; rfl
  have q3 : W.cell? ⟨w.heap.size, 3, none⟩ = some (.int .i64 2) := by rw [cell_of_row _ _ _ _ 23 (0, 0) hrow]; rfl
  have q4 : W.cell? ⟨w.heap.size, 4, none⟩ = some (.int .i64 e) := by rw [cell_of_row _ _ _ _ 23 (0, 0) hrow]; rfl
  have q5 : W.cell? ⟨w.heap.size, 5, none⟩ = some (.int .i64 f) := by rw [cell_of_row _ _ _ _ 23 (0, 0) hrow]; rfl
  have q6 : W.cell? ⟨w.heap.size, 6, none⟩ = some (.int .i64 g) := by rw [cell_of_row _ _ _ _ 23 (0, 0) hrow]; rfl
  have hB : Below w.heap.size w W := by rw [← hW]; exact (Below.refl _ _).alloc (Nat.le_refl _) _
  have HB := Lib.hid hB
  clear hrow hW hB
  refine wp_region_lit ?_
  refine limb_end (.pointer (some ⟨w.heap.size, 0, none⟩)) (.pointer (some ⟨w.heap.size, 0, none⟩)) 1 rfl rfl rfl ?_
  intro l hlen h1 hm
  have hn := h1
  refine fast_val 3 (.pointer (some ⟨w.heap.size, 0, none⟩)) (by kernel_rfl) (by kernel_rfl) (fast_addr0 W _ _ (.tmp 1) w.heap.size (by kernel_rfl) (eval_tmp 1 _ h1)) ?_
  refine fast_val 4 (.int .i64 a) (by kernel_rfl) (by kernel_rfl) (fast_load W _ _ (.tmp 3) w.heap.size 0 a q0 (by kernel_rfl) (eval_tmp 3 _ (ge hlen rfl))) ?_
  refine fast_val 5 (.bool true) (by kernel_rfl) (by kernel_rfl) (fast_geq W _ _ (.tmp 4) (.const (.int .i64 1)) a 1 true (decide_eq_true (by omega)) (by kernel_rfl) (eval_tmp 4 _ (ge (ls hlen) rfl)) (by kernel_rfl)) ?_
  refine fast_val 6 (.bool true) (by kernel_rfl) (by kernel_rfl) (fast_move W _ _ (.tmp 5) (.bool true) (by kernel_rfl) (eval_tmp 5 _ (ge (ls (ls hlen)) rfl))) ?_
  refine limb_end (.pointer (some ⟨w.heap.size, 0, none⟩)) (.bool true) 6 (gn rfl (gn rfl (gn rfl (gn rfl h1)))) (ge (ls (ls (ls hlen))) rfl) (ls (ls (ls (ls hlen)))) ?_
  clear h1 hm hn hlen
  intro l hlen h1 hm
  have hn := h1
  refine fast_val 7 (.pointer (some ⟨w.heap.size, 0, none⟩)) (by kernel_rfl) ((wanted_of 3 6 true true (by kernel_rfl) (by kernel_rfl) hm).trans rfl) (fast_addr0 W _ _ (.tmp 1) w.heap.size (by kernel_rfl) (eval_tmp 1 _ h1)) ?_
  refine fast_val 8 (.int .i64 a) (by kernel_rfl) ((wanted_of 3 6 true true (by kernel_rfl) (by kernel_rfl) (gn rfl hm)).trans rfl) (fast_load W _ _ (.tmp 7) w.heap.size 0 a q0 (by kernel_rfl) (eval_tmp 7 _ (ge hlen rfl))) ?_
  refine fast_val 9 (.bool true) (by kernel_rfl) ((wanted_of 3 6 true true (by kernel_rfl) (by kernel_rfl) (gn rfl (gn rfl hm))).trans rfl) (fast_leq W _ _ (.tmp 8) (.const (.int .i64 8)) a 8 true (decide_eq_true (by omega)) (by kernel_rfl) (eval_tmp 8 _ (ge (ls hlen) rfl)) (by kernel_rfl)) ?_
  refine fast_val 10 (.bool true) (by kernel_rfl) (by kernel_rfl) (fast_pick W _ _ (.tmp 6) (.tmp 9) (.const (.bool false)) true (.bool true) (by kernel_rfl) (eval_tmp 6 _ (gn rfl (gn rfl (gn rfl hm)))) (eval_tmp 9 _ (ge (ls (ls hlen)) rfl))) ?_
  refine fast_val 11 (.bool true) (by kernel_rfl) (by kernel_rfl) (fast_move W _ _ (.tmp 10) (.bool true) (by kernel_rfl) (eval_tmp 10 _ (ge (ls (ls (ls hlen))) rfl))) ?_
  refine limb_end (.pointer (some ⟨w.heap.size, 0, none⟩)) (.bool true) 11 (gn rfl (gn rfl (gn rfl (gn rfl (gn rfl h1))))) (ge (ls (ls (ls (ls hlen)))) rfl) (ls (ls (ls (ls (ls hlen))))) ?_
  clear h1 hm hn hlen
  intro l hlen h1 hm
  have hn := h1
  refine fast_val 12 (.pointer (some ⟨w.heap.size, 1, none⟩)) (by kernel_rfl) ((wanted_of 8 11 true true (by kernel_rfl) (by kernel_rfl) hm).trans rfl) (fast_addr1 W _ _ (.tmp 1) w.heap.size (by kernel_rfl) (eval_tmp 1 _ h1)) ?_
  refine fast_val 13 (.int .i64 b) (by kernel_rfl) ((wanted_of 8 11 true true (by kernel_rfl) (by kernel_rfl) (gn rfl hm)).trans rfl) (fast_load W _ _ (.tmp 12) w.heap.size 1 b q1 (by kernel_rfl) (eval_tmp 12 _ (ge hlen rfl))) ?_
  refine fast_val 14 (.bool true) (by kernel_rfl) ((wanted_of 8 11 true true (by kernel_rfl) (by kernel_rfl) (gn rfl (gn rfl hm))).trans rfl) (fast_geq W _ _ (.tmp 13) (.const (.int .i64 2)) b 2 true (decide_eq_true (by omega)) (by kernel_rfl) (eval_tmp 13 _ (ge (ls hlen) rfl)) (by kernel_rfl)) ?_
  refine fast_val 15 (.bool true) (by kernel_rfl) (by kernel_rfl) (fast_pick W _ _ (.tmp 11) (.tmp 14) (.const (.bool false)) true (.bool true) (by kernel_rfl) (eval_tmp 11 _ (gn rfl (gn rfl (gn rfl hm)))) (eval_tmp 14 _ (ge (ls (ls hlen)) rfl))) ?_
  refine fast_val 16 (.bool true) (by kernel_rfl) (by kernel_rfl) (fast_move W _ _ (.tmp 15) (.bool true) (by kernel_rfl) (eval_tmp 15 _ (ge (ls (ls (ls hlen))) rfl))) ?_
  refine limb_end (.pointer (some ⟨w.heap.size, 0, none⟩)) (.bool true) 16 (gn rfl (gn rfl (gn rfl (gn rfl (gn rfl h1))))) (ge (ls (ls (ls (ls hlen)))) rfl) (ls (ls (ls (ls (ls hlen))))) ?_
  clear h1 hm hn hlen
  intro l hlen h1 hm
  have hn := h1
  refine fast_val 17 (.pointer (some ⟨w.heap.size, 1, none⟩)) (by kernel_rfl) ((wanted_of 13 16 true true (by kernel_rfl) (by kernel_rfl) hm).trans rfl) (fast_addr1 W _ _ (.tmp 1) w.heap.size (by kernel_rfl) (eval_tmp 1 _ h1)) ?_
  refine fast_val 18 (.int .i64 b) (by kernel_rfl) ((wanted_of 13 16 true true (by kernel_rfl) (by kernel_rfl) (gn rfl hm)).trans rfl) (fast_load W _ _ (.tmp 17) w.heap.size 1 b q1 (by kernel_rfl) (eval_tmp 17 _ (ge hlen rfl))) ?_
  refine fast_val 19 (.bool true) (by kernel_rfl) ((wanted_of 13 16 true true (by kernel_rfl) (by kernel_rfl) (gn rfl (gn rfl hm))).trans rfl) (fast_leq W _ _ (.tmp 18) (.const (.int .i64 64)) b 64 true (decide_eq_true (by omega)) (by kernel_rfl) (eval_tmp 18 _ (ge (ls hlen) rfl)) (by kernel_rfl)) ?_
  refine fast_val 20 (.bool true) (by kernel_rfl) (by kernel_rfl) (fast_pick W _ _ (.tmp 16) (.tmp 19) (.const (.bool false)) true (.bool true) (by kernel_rfl) (eval_tmp 16 _ (gn rfl (gn rfl (gn rfl hm)))) (eval_tmp 19 _ (ge (ls (ls hlen)) rfl))) ?_
  refine fast_val 21 (.bool true) (by kernel_rfl) (by kernel_rfl) (fast_move W _ _ (.tmp 20) (.bool true) (by kernel_rfl) (eval_tmp 20 _ (ge (ls (ls (ls hlen))) rfl))) ?_
  refine limb_end (.pointer (some ⟨w.heap.size, 0, none⟩)) (.bool true) 21 (gn rfl (gn rfl (gn rfl (gn rfl (gn rfl h1))))) (ge (ls (ls (ls (ls hlen)))) rfl) (ls (ls (ls (ls (ls hlen))))) ?_
  clear h1 hm hn hlen
  intro l hlen h1 hm
  have hn := h1
  refine fast_val 22 (.pointer (some ⟨w.heap.size, 2, none⟩)) (by kernel_rfl) ((wanted_of 18 21 true true (by kernel_rfl) (by kernel_rfl) hm).trans rfl) (fast_addr2 W _ _ (.tmp 1) w.heap.size (by kernel_rfl) (eval_tmp 1 _ h1)) ?_
  refine fast_val 23 (.int .i64 c) (by kernel_rfl) ((wanted_of 18 21 true true (by kernel_rfl) (by kernel_rfl) (gn rfl hm)).trans rfl) (fast_load W _ _ (.tmp 22) w.heap.size 2 c q2 (by kernel_rfl) (eval_tmp 22 _ (ge hlen rfl))) ?_
  refine fast_val 24 (.bool true) (by kernel_rfl) ((wanted_of 18 21 true true (by kernel_rfl) (by kernel_rfl) (gn rfl (gn rfl hm))).trans rfl) (fast_geq W _ _ (.tmp 23) (.const (.int .i64 1)) c 1 true (decide_eq_true (by omega)) (by kernel_rfl) (eval_tmp 23 _ (ge (ls hlen) rfl)) (by kernel_rfl)) ?_
  refine fast_val 25 (.bool true) (by kernel_rfl) (by kernel_rfl) (fast_pick W _ _ (.tmp 21) (.tmp 24) (.const (.bool false)) true (.bool true) (by kernel_rfl) (eval_tmp 21 _ (gn rfl (gn rfl (gn rfl hm)))) (eval_tmp 24 _ (ge (ls (ls hlen)) rfl))) ?_
  refine fast_val 26 (.bool true) (by kernel_rfl) (by kernel_rfl) (fast_move W _ _ (.tmp 25) (.bool true) (by kernel_rfl) (eval_tmp 25 _ (ge (ls (ls (ls hlen))) rfl))) ?_
  refine limb_end (.pointer (some ⟨w.heap.size, 0, none⟩)) (.bool true) 26 (gn rfl (gn rfl (gn rfl (gn rfl (gn rfl h1))))) (ge (ls (ls (ls (ls hlen)))) rfl) (ls (ls (ls (ls (ls hlen))))) ?_
  clear h1 hm hn hlen
  intro l hlen h1 hm
  have hn := h1
  refine fast_val 27 (.pointer (some ⟨w.heap.size, 2, none⟩)) (by kernel_rfl) ((wanted_of 23 26 true true (by kernel_rfl) (by kernel_rfl) hm).trans rfl) (fast_addr2 W _ _ (.tmp 1) w.heap.size (by kernel_rfl) (eval_tmp 1 _ h1)) ?_
  refine fast_val 28 (.int .i64 c) (by kernel_rfl) ((wanted_of 23 26 true true (by kernel_rfl) (by kernel_rfl) (gn rfl hm)).trans rfl) (fast_load W _ _ (.tmp 27) w.heap.size 2 c q2 (by kernel_rfl) (eval_tmp 27 _ (ge hlen rfl))) ?_
  refine fast_val 29 (.pointer (some ⟨w.heap.size, 1, none⟩)) (by kernel_rfl) ((wanted_of 23 26 true true (by kernel_rfl) (by kernel_rfl) (gn rfl (gn rfl hm))).trans rfl) (fast_addr1 W _ _ (.tmp 1) w.heap.size (by kernel_rfl) (eval_tmp 1 _ (gn rfl (gn rfl h1)))) ?_
  refine fast_val 30 (.int .i64 b) (by kernel_rfl) ((wanted_of 23 26 true true (by kernel_rfl) (by kernel_rfl) (gn rfl (gn rfl (gn rfl hm)))).trans rfl) (fast_load W _ _ (.tmp 29) w.heap.size 1 b q1 (by kernel_rfl) (eval_tmp 29 _ (ge (ls (ls hlen)) rfl))) ?_
  refine fast_val 31 (.bool true) (by kernel_rfl) ((wanted_of 23 26 true true (by kernel_rfl) (by kernel_rfl) (gn rfl (gn rfl (gn rfl (gn rfl hm))))).trans rfl) (fast_lss W _ _ (.tmp 28) (.tmp 30) c b true (decide_eq_true (by omega)) (by kernel_rfl) (eval_tmp 28 _ (gn rfl (gn rfl (ge (ls hlen) rfl)))) (eval_tmp 30 _ (ge (ls (ls (ls hlen))) rfl))) ?_
  refine fast_val 32 (.bool true) (by kernel_rfl) (by kernel_rfl) (fast_pick W _ _ (.tmp 26) (.tmp 31) (.const (.bool false)) true (.bool true) (by kernel_rfl) (eval_tmp 26 _ (gn rfl (gn rfl (gn rfl (gn rfl (gn rfl hm)))))) (eval_tmp 31 _ (ge (ls (ls (ls (ls hlen)))) rfl))) ?_
  refine fast_val 33 (.bool true) (by kernel_rfl) (by kernel_rfl) (fast_move W _ _ (.tmp 32) (.bool true) (by kernel_rfl) (eval_tmp 32 _ (ge (ls (ls (ls (ls (ls hlen))))) rfl))) ?_
  refine limb_end (.pointer (some ⟨w.heap.size, 0, none⟩)) (.bool true) 33 (gn rfl (gn rfl (gn rfl (gn rfl (gn rfl (gn rfl (gn rfl h1))))))) (ge (ls (ls (ls (ls (ls (ls hlen)))))) rfl) (ls (ls (ls (ls (ls (ls (ls hlen))))))) ?_
  clear h1 hm hn hlen
  intro l hlen h1 hm
  have hn := h1
  refine fast_val 34 (.pointer (some ⟨w.heap.size, 3, none⟩)) (by kernel_rfl) ((wanted_of 30 33 true true (by kernel_rfl) (by kernel_rfl) hm).trans rfl) (fast_addr3 W _ _ (.tmp 1) w.heap.size (by kernel_rfl) (eval_tmp 1 _ h1)) ?_
  refine fast_val 35 (.int .i64 2) (by kernel_rfl) ((wanted_of 30 33 true true (by kernel_rfl) (by kernel_rfl) (gn rfl hm)).trans rfl) (fast_load W _ _ (.tmp 34) w.heap.size 3 2 q3 (by kernel_rfl) (eval_tmp 34 _ (ge hlen rfl))) ?_
  refine fast_val 36 (.bool false) (by kernel_rfl) ((wanted_of 30 33 true true (by kernel_rfl) (by kernel_rfl) (gn rfl (gn rfl hm))).trans rfl) (fast_eql W _ _ (.tmp 35) (.const (.int .i64 1)) 2 1 false (beq_eq_false_iff_ne.2 (by omega)) (by kernel_rfl) (eval_tmp 35 _ (ge (ls hlen) rfl)) (by kernel_rfl)) ?_
  refine fast_val 37 (.bool false) (by kernel_rfl) ((wanted_of 30 33 true true (by kernel_rfl) (by kernel_rfl) (gn rfl (gn rfl (gn rfl hm)))).trans rfl) (fast_move W _ _ (.tmp 36) (.bool false) (by kernel_rfl) (eval_tmp 36 _ (ge (ls (ls hlen)) rfl))) ?_
  refine limb_two (.pointer (some ⟨w.heap.size, 0, none⟩)) (.bool true) (.bool false) 33 37 (gn rfl (gn rfl (gn rfl (gn rfl h1)))) (gn rfl (gn rfl (gn rfl (gn rfl hm)))) (ge (ls (ls (ls hlen))) rfl) (ls (ls (ls (ls hlen)))) ?_
  clear h1 hm hn hlen
  intro l hlen h1 hm hn
  refine fast_val 38 (.pointer (some ⟨w.heap.size, 3, none⟩)) (by kernel_rfl) ((wanted_of 34 37 false false (by kernel_rfl) (by kernel_rfl) hn).trans rfl) (fast_addr3 W _ _ (.tmp 1) w.heap.size (by kernel_rfl) (eval_tmp 1 _ h1)) ?_
  refine fast_val 39 (.int .i64 2) (by kernel_rfl) ((wanted_of 34 37 false false (by kernel_rfl) (by kernel_rfl) (gn rfl hn)).trans rfl) (fast_load W _ _ (.tmp 38) w.heap.size 3 2 q3 (by kernel_rfl) (eval_tmp 38 _ (ge hlen rfl))) ?_
  refine fast_val 40 (.bool true) (by kernel_rfl) ((wanted_of 34 37 false false (by kernel_rfl) (by kernel_rfl) (gn rfl (gn rfl hn))).trans rfl) (fast_eql W _ _ (.tmp 39) (.const (.int .i64 2)) 2 2 true (beq_iff_eq.2 (by omega)) (by kernel_rfl) (eval_tmp 39 _ (ge (ls hlen) rfl)) (by kernel_rfl)) ?_
  refine fast_val 41 (.bool true) (by kernel_rfl) ((wanted_of 30 33 true true (by kernel_rfl) (by kernel_rfl) (gn rfl (gn rfl (gn rfl hm)))).trans rfl) (fast_pick W _ _ (.tmp 37) (.const (.bool true)) (.tmp 40) false (.bool true) (by kernel_rfl) (eval_tmp 37 _ (gn rfl (gn rfl (gn rfl hn)))) (eval_tmp 40 _ (ge (ls (ls hlen)) rfl))) ?_
  refine fast_val 42 (.bool true) (by kernel_rfl) ((wanted_of 30 33 true true (by kernel_rfl) (by kernel_rfl) (gn rfl (gn rfl (gn rfl (gn rfl hm))))).trans rfl) (fast_move W _ _ (.tmp 41) (.bool true) (by kernel_rfl) (eval_tmp 41 _ (ge (ls (ls (ls hlen))) rfl))) ?_
  refine limb_two (.pointer (some ⟨w.heap.size, 0, none⟩)) (.bool true) (.bool true) 33 42 (gn rfl (gn rfl (gn rfl (gn rfl (gn rfl h1))))) (gn rfl (gn rfl (gn rfl (gn rfl (gn rfl hm))))) (ge (ls (ls (ls (ls hlen)))) rfl) (ls (ls (ls (ls (ls hlen))))) ?_
  clear h1 hm hn hlen
  intro l hlen h1 hm hn
  refine fast_skip 43 (by kernel_rfl) ((wanted_of 39 42 false true (by kernel_rfl) (by kernel_rfl) hn).trans rfl) ?_
  refine fast_skip 44 (by kernel_rfl) ((wanted_of 39 42 false true (by kernel_rfl) (by kernel_rfl) (gn rfl hn)).trans rfl) ?_
  refine fast_skip 45 (by kernel_rfl) ((wanted_of 39 42 false true (by kernel_rfl) (by kernel_rfl) (gn rfl (gn rfl hn))).trans rfl) ?_
  refine fast_val 46 (.bool true) (by kernel_rfl) ((wanted_of 30 33 true true (by kernel_rfl) (by kernel_rfl) (gn rfl (gn rfl (gn rfl hm)))).trans rfl) (fast_pick W _ _ (.tmp 42) (.const (.bool true)) (.tmp 45) true (.bool true) (by kernel_rfl) (eval_tmp 42 _ (gn rfl (gn rfl (gn rfl hn)))) (by kernel_rfl)) ?_
  refine fast_val 47 (.bool true) (by kernel_rfl) ((wanted_of 30 33 true true (by kernel_rfl) (by kernel_rfl) (gn rfl (gn rfl (gn rfl (gn rfl hm))))).trans rfl) (fast_move W _ _ (.tmp 46) (.bool true) (by kernel_rfl) (eval_tmp 46 _ (ge (ls (ls (ls hlen))) rfl))) ?_
  refine limb_two (.pointer (some ⟨w.heap.size, 0, none⟩)) (.bool true) (.bool true) 33 47 (gn rfl (gn rfl (gn rfl (gn rfl (gn rfl h1))))) (gn rfl (gn rfl (gn rfl (gn rfl (gn rfl hm))))) (ge (ls (ls (ls (ls hlen)))) rfl) (ls (ls (ls (ls (ls hlen))))) ?_
  clear h1 hm hn hlen
  intro l hlen h1 hm hn
  refine fast_skip 48 (by kernel_rfl) ((wanted_of 44 47 false true (by kernel_rfl) (by kernel_rfl) hn).trans rfl) ?_
  refine fast_skip 49 (by kernel_rfl) ((wanted_of 44 47 false true (by kernel_rfl) (by kernel_rfl) (gn rfl hn)).trans rfl) ?_
  refine fast_skip 50 (by kernel_rfl) ((wanted_of 44 47 false true (by kernel_rfl) (by kernel_rfl) (gn rfl (gn rfl hn))).trans rfl) ?_
  refine fast_val 51 (.bool true) (by kernel_rfl) ((wanted_of 30 33 true true (by kernel_rfl) (by kernel_rfl) (gn rfl (gn rfl (gn rfl hm)))).trans rfl) (fast_pick W _ _ (.tmp 47) (.const (.bool true)) (.tmp 50) true (.bool true) (by kernel_rfl) (eval_tmp 47 _ (gn rfl (gn rfl (gn rfl hn)))) (by kernel_rfl)) ?_
  refine fast_val 52 (.bool true) (by kernel_rfl) (by kernel_rfl) (fast_pick W _ _ (.tmp 33) (.tmp 51) (.const (.bool false)) true (.bool true) (by kernel_rfl) (eval_tmp 33 _ (gn rfl (gn rfl (gn rfl (gn rfl hm))))) (eval_tmp 51 _ (ge (ls (ls (ls hlen))) rfl))) ?_
  refine fast_val 53 (.bool true) (by kernel_rfl) (by kernel_rfl) (fast_move W _ _ (.tmp 52) (.bool true) (by kernel_rfl) (eval_tmp 52 _ (ge (ls (ls (ls (ls hlen)))) rfl))) ?_
  refine limb_end (.pointer (some ⟨w.heap.size, 0, none⟩)) (.bool true) 53 (gn rfl (gn rfl (gn rfl (gn rfl (gn rfl (gn rfl h1)))))) (ge (ls (ls (ls (ls (ls hlen))))) rfl) (ls (ls (ls (ls (ls (ls hlen)))))) ?_
  clear h1 hm hn hlen
  intro l hlen h1 hm
  have hn := h1
  refine fast_val 54 (.pointer (some ⟨w.heap.size, 4, none⟩)) (by kernel_rfl) ((wanted_of 50 53 true true (by kernel_rfl) (by kernel_rfl) hm).trans rfl) (fast_addr4 W _ _ (.tmp 1) w.heap.size (by kernel_rfl) (eval_tmp 1 _ h1)) ?_
  refine fast_val 55 (.int .i64 e) (by kernel_rfl) ((wanted_of 50 53 true true (by kernel_rfl) (by kernel_rfl) (gn rfl hm)).trans rfl) (fast_load W _ _ (.tmp 54) w.heap.size 4 e q4 (by kernel_rfl) (eval_tmp 54 _ (ge hlen rfl))) ?_
  refine fast_val 56 (.bool true) (by kernel_rfl) ((wanted_of 50 53 true true (by kernel_rfl) (by kernel_rfl) (gn rfl (gn rfl hm))).trans rfl) (fast_geq W _ _ (.tmp 55) (.const (.int .i64 1)) e 1 true (decide_eq_true (by omega)) (by kernel_rfl) (eval_tmp 55 _ (ge (ls hlen) rfl)) (by kernel_rfl)) ?_
  refine fast_val 57 (.bool true) (by kernel_rfl) (by kernel_rfl) (fast_pick W _ _ (.tmp 53) (.tmp 56) (.const (.bool false)) true (.bool true) (by kernel_rfl) (eval_tmp 53 _ (gn rfl (gn rfl (gn rfl hm)))) (eval_tmp 56 _ (ge (ls (ls hlen)) rfl))) ?_
  refine fast_val 58 (.bool true) (by kernel_rfl) (by kernel_rfl) (fast_move W _ _ (.tmp 57) (.bool true) (by kernel_rfl) (eval_tmp 57 _ (ge (ls (ls (ls hlen))) rfl))) ?_
  refine limb_end (.pointer (some ⟨w.heap.size, 0, none⟩)) (.bool true) 58 (gn rfl (gn rfl (gn rfl (gn rfl (gn rfl h1))))) (ge (ls (ls (ls (ls hlen)))) rfl) (ls (ls (ls (ls (ls hlen))))) ?_
  clear h1 hm hn hlen
  intro l hlen h1 hm
  have hn := h1
  refine fast_val 59 (.pointer (some ⟨w.heap.size, 4, none⟩)) (by kernel_rfl) ((wanted_of 55 58 true true (by kernel_rfl) (by kernel_rfl) hm).trans rfl) (fast_addr4 W _ _ (.tmp 1) w.heap.size (by kernel_rfl) (eval_tmp 1 _ h1)) ?_
  refine fast_val 60 (.int .i64 e) (by kernel_rfl) ((wanted_of 55 58 true true (by kernel_rfl) (by kernel_rfl) (gn rfl hm)).trans rfl) (fast_load W _ _ (.tmp 59) w.heap.size 4 e q4 (by kernel_rfl) (eval_tmp 59 _ (ge hlen rfl))) ?_
  refine fast_val 61 (.bool true) (by kernel_rfl) ((wanted_of 55 58 true true (by kernel_rfl) (by kernel_rfl) (gn rfl (gn rfl hm))).trans rfl) (fast_leq W _ _ (.tmp 60) (.const (.int .i64 8)) e 8 true (decide_eq_true (by omega)) (by kernel_rfl) (eval_tmp 60 _ (ge (ls hlen) rfl)) (by kernel_rfl)) ?_
  refine fast_val 62 (.bool true) (by kernel_rfl) (by kernel_rfl) (fast_pick W _ _ (.tmp 58) (.tmp 61) (.const (.bool false)) true (.bool true) (by kernel_rfl) (eval_tmp 58 _ (gn rfl (gn rfl (gn rfl hm)))) (eval_tmp 61 _ (ge (ls (ls hlen)) rfl))) ?_
  refine fast_val 63 (.bool true) (by kernel_rfl) (by kernel_rfl) (fast_move W _ _ (.tmp 62) (.bool true) (by kernel_rfl) (eval_tmp 62 _ (ge (ls (ls (ls hlen))) rfl))) ?_
  refine limb_end (.pointer (some ⟨w.heap.size, 0, none⟩)) (.bool true) 63 (gn rfl (gn rfl (gn rfl (gn rfl (gn rfl h1))))) (ge (ls (ls (ls (ls hlen)))) rfl) (ls (ls (ls (ls (ls hlen))))) ?_
  clear h1 hm hn hlen
  intro l hlen h1 hm
  have hn := h1
  refine fast_val 64 (.pointer (some ⟨w.heap.size, 5, none⟩)) (by kernel_rfl) ((wanted_of 60 63 true true (by kernel_rfl) (by kernel_rfl) hm).trans rfl) (fast_addr5 W _ _ (.tmp 1) w.heap.size (by kernel_rfl) (eval_tmp 1 _ h1)) ?_
  refine fast_val 65 (.int .i64 f) (by kernel_rfl) ((wanted_of 60 63 true true (by kernel_rfl) (by kernel_rfl) (gn rfl hm)).trans rfl) (fast_load W _ _ (.tmp 64) w.heap.size 5 f q5 (by kernel_rfl) (eval_tmp 64 _ (ge hlen rfl))) ?_
  refine fast_val 66 (.bool false) (by kernel_rfl) ((wanted_of 60 63 true true (by kernel_rfl) (by kernel_rfl) (gn rfl (gn rfl hm))).trans rfl) (fast_geq W _ _ (.tmp 65) (.const (.int .i64 1)) f 1 false (decide_eq_false (by omega)) (by kernel_rfl) (eval_tmp 65 _ (ge (ls hlen) rfl)) (by kernel_rfl)) ?_
  refine fast_val 67 (.bool false) (by kernel_rfl) (by kernel_rfl) (fast_pick W _ _ (.tmp 63) (.tmp 66) (.const (.bool false)) true (.bool false) (by kernel_rfl) (eval_tmp 63 _ (gn rfl (gn rfl (gn rfl hm)))) (eval_tmp 66 _ (ge (ls (ls hlen)) rfl))) ?_
  refine fast_val 68 (.bool false) (by kernel_rfl) (by kernel_rfl) (fast_move W _ _ (.tmp 67) (.bool false) (by kernel_rfl) (eval_tmp 67 _ (ge (ls (ls (ls hlen))) rfl))) ?_
  refine limb_end (.pointer (some ⟨w.heap.size, 0, none⟩)) (.bool false) 68 (gn rfl (gn rfl (gn rfl (gn rfl (gn rfl h1))))) (ge (ls (ls (ls (ls hlen)))) rfl) (ls (ls (ls (ls (ls hlen))))) ?_
  clear h1 hm hn hlen
  intro l hlen h1 hm
  have hn := h1
  refine fast_skip 69 (by kernel_rfl) ((wanted_of 65 68 true false (by kernel_rfl) (by kernel_rfl) hm).trans rfl) ?_
  refine fast_skip 70 (by kernel_rfl) ((wanted_of 65 68 true false (by kernel_rfl) (by kernel_rfl) (gn rfl hm)).trans rfl) ?_
  refine fast_skip 71 (by kernel_rfl) ((wanted_of 65 68 true false (by kernel_rfl) (by kernel_rfl) (gn rfl (gn rfl hm))).trans rfl) ?_
  refine fast_val 72 (.bool false) (by kernel_rfl) (by kernel_rfl) (fast_pick W _ _ (.tmp 68) (.tmp 71) (.const (.bool false)) false (.bool false) (by kernel_rfl) (eval_tmp 68 _ (gn rfl (gn rfl (gn rfl hm)))) (by kernel_rfl)) ?_
  refine fast_val 73 (.bool false) (by kernel_rfl) (by kernel_rfl) (fast_move W _ _ (.tmp 72) (.bool false) (by kernel_rfl) (eval_tmp 72 _ (ge (ls (ls (ls hlen))) rfl))) ?_
  refine limb_end (.pointer (some ⟨w.heap.size, 0, none⟩)) (.bool false) 73 (gn rfl (gn rfl (gn rfl (gn rfl (gn rfl h1))))) (ge (ls (ls (ls (ls hlen)))) rfl) (ls (ls (ls (ls (ls hlen))))) ?_
  clear h1 hm hn hlen
  intro l hlen h1 hm
  have hn := h1
  refine fast_skip 74 (by kernel_rfl) ((wanted_of 70 73 true false (by kernel_rfl) (by kernel_rfl) hm).trans rfl) ?_
  refine fast_skip 75 (by kernel_rfl) ((wanted_of 70 73 true false (by kernel_rfl) (by kernel_rfl) (gn rfl hm)).trans rfl) ?_
  refine fast_skip 76 (by kernel_rfl) ((wanted_of 70 73 true false (by kernel_rfl) (by kernel_rfl) (gn rfl (gn rfl hm))).trans rfl) ?_
  refine fast_val 77 (.bool false) (by kernel_rfl) (by kernel_rfl) (fast_pick W _ _ (.tmp 73) (.tmp 76) (.const (.bool false)) false (.bool false) (by kernel_rfl) (eval_tmp 73 _ (gn rfl (gn rfl (gn rfl hm)))) (by kernel_rfl)) ?_
  refine fast_val 78 (.bool false) (by kernel_rfl) (by kernel_rfl) (fast_move W _ _ (.tmp 77) (.bool false) (by kernel_rfl) (eval_tmp 77 _ (ge (ls (ls (ls hlen))) rfl))) ?_
  refine limb_end (.pointer (some ⟨w.heap.size, 0, none⟩)) (.bool false) 78 (gn rfl (gn rfl (gn rfl (gn rfl (gn rfl h1))))) (ge (ls (ls (ls (ls hlen)))) rfl) (ls (ls (ls (ls (ls hlen))))) ?_
  clear h1 hm hn hlen
  intro l hlen h1 hm
  have hn := h1
  refine fast_skip 79 (by kernel_rfl) ((wanted_of 75 78 true false (by kernel_rfl) (by kernel_rfl) hm).trans rfl) ?_
  refine fast_skip 80 (by kernel_rfl) ((wanted_of 75 78 true false (by kernel_rfl) (by kernel_rfl) (gn rfl hm)).trans rfl) ?_
  refine fast_skip 81 (by kernel_rfl) ((wanted_of 75 78 true false (by kernel_rfl) (by kernel_rfl) (gn rfl (gn rfl hm))).trans rfl) ?_
  refine fast_val 82 (.bool false) (by kernel_rfl) (by kernel_rfl) (fast_pick W _ _ (.tmp 78) (.tmp 81) (.const (.bool false)) false (.bool false) (by kernel_rfl) (eval_tmp 78 _ (gn rfl (gn rfl (gn rfl hm)))) (by kernel_rfl)) ?_
  refine fast_val 2 (.bool false) (by kernel_rfl) (by kernel_rfl) (fast_assign W _ _ (.tmp 82) (.bool false) (by kernel_rfl) (eval_tmp 82 _ (ge (ls (ls (ls hlen))) rfl))) ?_
  refine wpList_nil ?_
  refine hK _ _ (wp_ret (bodyPost_ret (v := .bool false) (by simp [results, Try.results30, go_sem, List.getElem?_set, hlen]) rfl ⟨rfl, HB.out⟩))
set_option linter.unusedSimpArgs false in
set_option maxRecDepth 10000 in
set_option maxHeartbeats 4000000 in
theorem goodr_d4n7 (a b c e f g : Int) (w : World) (k0 : 1 ≤ a) (k1 : a ≤ 8) (k2 : 2 ≤ b) (k3 : b ≤ 64) (k4 : 1 ≤ c) (k5 : c < b) (k7 : ¬ 1 ≤ e) : Calls Try.prog 30 #[.agg #[.int .i64 a, .int .i64 b, .int .i64 c, .int .i64 4, .int .i64 e, .int .i64 f, .int .i64 g]] w fun E w' => E = .returned (.bool false) ∧ Below w.heap.size w w' := by
  go_enter Try.func30, Try.ntmps30
  go_upto_region 1 with fail
  rename_i hK
  obtain ⟨W, hW⟩ : ∃ W, w.alloc (.cells #[.int .i64 a, .int .i64 b, .int .i64 c, .int .i64 4, .int .i64 e, .int .i64 f, .int .i64 g] 23) = W := ⟨_, rfl⟩
  rw [hW]
  have hrow : W.heap[w.heap.size]? = some (.cells #[.int .i64 a, .int .i64 b, .int .i64 c, .int .i64 4, .int .i64 e, .int .i64 f, .int .i64 g] 23 (0, 0)) := by rw [← hW]; exact heap_alloc_new w _
  have q0 : W.cell? ⟨w.heap.size, 0, none⟩ = some (.int .i64 a) := by rw [cell_of_row _ _ _ _ 23 (0, 0) hrow]; rfl
  have q1 : W.cell? ⟨w.heap.size, 1, none⟩ = some (.int .i64 b) := by rw [cell_of_row _ _ _ _ 23 (0, 0) hrow]; rfl
  have q2 : W.cell? ⟨w.heap.size, 2, none⟩ = some (.int .i64 c) := by rw [cell_of_row _ _ _ _ 23 (0, 0) hrow]; rfl
  have q3 : W.cell? ⟨w.heap.size, 3, none⟩ = some (.int .i64 4) := by rw [cell_of_row _ _ _ _ 23 (0, 0) hrow]; rfl
  have q4 : W.cell? ⟨w.heap.size, 4, none⟩ = some (.int .i64 e) := by rw [cell_of_row _ _ _ _ 23 (0, 0) hrow]; rfl
  have q5 : W.cell? ⟨w.heap.size, 5, none⟩ = some (.int .i64 f) := by rw [cell_of_row _ _ _ _ 23 (0, 0) hrow]; rfl
  have q6 : W.cell? ⟨w.heap.size, 6, none⟩ = some (.int .i64 g) := by rw [cell_of_row _ _ _ _ 23 (0, 0) hrow]; rfl
  have hB : Below w.heap.size w W := by rw [← hW]; exact (Below.refl _ _).alloc (Nat.le_refl _) _
  have HB := Lib.hid hB
  clear hrow hW hB
  refine wp_region_lit ?_
  refine limb_end (.pointer (some ⟨w.heap.size, 0, none⟩)) (.pointer (some ⟨w.heap.size, 0, none⟩)) 1 rfl rfl rfl ?_
  intro l hlen h1 hm
  have hn := h1
  refine fast_val 3 (.pointer (some ⟨w.heap.size, 0, none⟩)) (by kernel_rfl) (by kernel_rfl) (fast_addr0 W _ _ (.tmp 1) w.heap.size (by kernel_rfl) (eval_tmp 1 _ h1)) ?_
  refine fast_val 4 (.int .i64 a) (by kernel_rfl) (by kernel_rfl) (fast_load W _ _ (.tmp 3) w.heap.size 0 a q0 (by kernel_rfl) (eval_tmp 3 _ (ge hlen rfl))) ?_
  refine fast_val 5 (.bool true) (by kernel_rfl) (by kernel_rfl) (fast_geq W _ _ (.tmp 4) (.const (.int .i64 1)) a 1 true (decide_eq_true (by omega)) (by kernel_rfl) (eval_tmp 4 _ (ge (ls hlen) rfl)) (by kernel_rfl)) ?_
  refine fast_val 6 (.bool true) (by kernel_rfl) (by kernel_rfl) (fast_move W _ _ (.tmp 5) (.bool true) (by kernel_rfl) (eval_tmp 5 _ (ge (ls (ls hlen)) rfl))) ?_
  refine limb_end (.pointer (some ⟨w.heap.size, 0, none⟩)) (.bool true) 6 (gn rfl (gn rfl (gn rfl (gn rfl h1)))) (ge (ls (ls (ls hlen))) rfl) (ls (ls (ls (ls hlen)))) ?_
  clear h1 hm hn hlen
  intro l hlen h1 hm
  have hn := h1
  refine fast_val 7 (.pointer (some ⟨w.heap.size, 0, none⟩)) (by kernel_rfl) ((wanted_of 3 6 true true (by kernel_rfl) (by kernel_rfl) hm).trans rfl) (fast_addr0 W _ _ (.tmp 1) w.heap.size (by kernel_rfl) (eval_tmp 1 _ h1)) ?_
  refine fast_val 8 (.int .i64 a) (by kernel_rfl) ((wanted_of 3 6 true true (by kernel_rfl) (by kernel_rfl) (gn rfl hm)).trans rfl) (fast_load W _ _ (.tmp 7) w.heap.size 0 a q0 (by kernel_rfl) (eval_tmp 7 _ (ge hlen rfl))) ?_
  refine fast_val 9 (.bool true) (by kernel_rfl) ((wanted_of 3 6 true true (by kernel_rfl) (by kernel_rfl) (gn rfl (gn rfl hm))).trans rfl) (fast_leq W _ _ (.tmp 8) (.const (.int .i64 8)) a 8 true (decide_eq_true (by omega)) (by kernel_rfl) (eval_tmp 8 _ (ge (ls hlen) rfl)) (by kernel_rfl)) ?_
  refine fast_val 10 (.bool true) (by kernel_rfl) (by kernel_rfl) (fast_pick W _ _ (.tmp 6) (.tmp 9) (.const (.bool false)) true (.bool true) (by kernel_rfl) (eval_tmp 6 _ (gn rfl (gn rfl (gn rfl hm)))) (eval_tmp 9 _ (ge (ls (ls hlen)) rfl))) ?_
  refine fast_val 11 (.bool true) (by kernel_rfl) (by kernel_rfl) (fast_move W _ _ (.tmp 10) (.bool true) (by kernel_rfl) (eval_tmp 10 _ (ge (ls (ls (ls hlen))) rfl))) ?_
  refine limb_end (.pointer (some ⟨w.heap.size, 0, none⟩)) (.bool true) 11 (gn rfl (gn rfl (gn rfl (gn rfl (gn rfl h1))))) (ge (ls (ls (ls (ls hlen)))) rfl) (ls (ls (ls (ls (ls hlen))))) ?_
  clear h1 hm hn hlen
  intro l hlen h1 hm
  have hn := h1
  refine fast_val 12 (.pointer (some ⟨w.heap.size, 1, none⟩)) (by kernel_rfl) ((wanted_of 8 11 true true (by kernel_rfl) (by kernel_rfl) hm).trans rfl) (fast_addr1 W _ _ (.tmp 1) w.heap.size (by kernel_rfl) (eval_tmp 1 _ h1)) ?_
  refine fast_val 13 (.int .i64 b) (by kernel_rfl) ((wanted_of 8 11 true true (by kernel_rfl) (by kernel_rfl) (gn rfl hm)).trans rfl) (fast_load W _ _ (.tmp 12) w.heap.size 1 b q1 (by kernel_rfl) (eval_tmp 12 _ (ge hlen rfl))) ?_
  refine fast_val 14 (.bool true) (by kernel_rfl) ((wanted_of 8 11 true true (by kernel_rfl) (by kernel_rfl) (gn rfl (gn rfl hm))).trans rfl) (fast_geq W _ _ (.tmp 13) (.const (.int .i64 2)) b 2 true (decide_eq_true (by omega)) (by kernel_rfl) (eval_tmp 13 _ (ge (ls hlen) rfl)) (by kernel_rfl)) ?_
  refine fast_val 15 (.bool true) (by kernel_rfl) (by kernel_rfl) (fast_pick W _ _ (.tmp 11) (.tmp 14) (.const (.bool false)) true (.bool true) (by kernel_rfl) (eval_tmp 11 _ (gn rfl (gn rfl (gn rfl hm)))) (eval_tmp 14 _ (ge (ls (ls hlen)) rfl))) ?_
  refine fast_val 16 (.bool true) (by kernel_rfl) (by kernel_rfl) (fast_move W _ _ (.tmp 15) (.bool true) (by kernel_rfl) (eval_tmp 15 _ (ge (ls (ls (ls hlen))) rfl))) ?_
  refine limb_end (.pointer (some ⟨w.heap.size, 0, none⟩)) (.bool true) 16 (gn rfl (gn rfl (gn rfl (gn rfl (gn rfl h1))))) (ge (ls (ls (ls (ls hlen)))) rfl) (ls (ls (ls (ls (ls hlen))))) ?_
  clear h1 hm hn hlen
  intro l hlen h1 hm
  have hn := h1
  refine fast_val 17 (.pointer (some ⟨w.heap.size, 1, none⟩)) (by kernel_rfl) ((wanted_of 13 16 true true (by kernel_rfl) (by kernel_rfl) hm).trans rfl) (fast_addr1 W _ _ (.tmp 1) w.heap.size (by kernel_rfl) (eval_tmp 1 _ h1)) ?_
  refine fast_val 18 (.int .i64 b) (by kernel_rfl) ((wanted_of 13 16 true true (by kernel_rfl) (by kernel_rfl) (gn rfl hm)).trans rfl) (fast_load W _ _ (.tmp 17) w.heap.size 1 b q1 (by kernel_rfl) (eval_tmp 17 _ (ge hlen rfl))) ?_
  refine fast_val 19 (.bool true) (by kernel_rfl) ((wanted_of 13 16 true true (by kernel_rfl) (by kernel_rfl) (gn rfl (gn rfl hm))).trans rfl) (fast_leq W _ _ (.tmp 18) (.const (.int .i64 64)) b 64 true (decide_eq_true (by omega)) (by kernel_rfl) (eval_tmp 18 _ (ge (ls hlen) rfl)) (by kernel_rfl)) ?_
  refine fast_val 20 (.bool true) (by kernel_rfl) (by kernel_rfl) (fast_pick W _ _ (.tmp 16) (.tmp 19) (.const (.bool false)) true (.bool true) (by kernel_rfl) (eval_tmp 16 _ (gn rfl (gn rfl (gn rfl hm)))) (eval_tmp 19 _ (ge (ls (ls hlen)) rfl))) ?_
  refine fast_val 21 (.bool true) (by kernel_rfl) (by kernel_rfl) (fast_move W _ _ (.tmp 20) (.bool true) (by kernel_rfl) (eval_tmp 20 _ (ge (ls (ls (ls hlen))) rfl))) ?_
  refine limb_end (.pointer (some ⟨w.heap.size, 0, none⟩)) (.bool true) 21 (gn rfl (gn rfl (gn rfl (gn rfl (gn rfl h1))))) (ge (ls (ls (ls (ls hlen)))) rfl) (ls (ls (ls (ls (ls hlen))))) ?_
  clear h1 hm hn hlen
  intro l hlen h1 hm
  have hn := h1
  refine fast_val 22 (.pointer (some ⟨w.heap.size, 2, none⟩)) (by kernel_rfl) ((wanted_of 18 21 true true (by kernel_rfl) (by kernel_rfl) hm).trans rfl) (fast_addr2 W _ _ (.tmp 1) w.heap.size (by kernel_rfl) (eval_tmp 1 _ h1)) ?_
  refine fast_val 23 (.int .i64 c) (by kernel_rfl) ((wanted_of 18 21 true true (by kernel_rfl) (by kernel_rfl) (gn rfl hm)).trans rfl) (fast_load W _ _ (.tmp 22) w.heap.size 2 c q2 (by kernel_rfl) (eval_tmp 22 _ (ge hlen rfl))) ?_
  refine fast_val 24 (.bool true) (by kernel_rfl) ((wanted_of 18 21 true true (by kernel_rfl) (by kernel_rfl) (gn rfl (gn rfl hm))).trans rfl) (fast_geq W _ _ (.tmp 23) (.const (.int .i64 1)) c 1 true (decide_eq_true (by omega)) (by kernel_rfl) (eval_tmp 23 _ (ge (ls hlen) rfl)) (by kernel_rfl)) ?_
  refine fast_val 25 (.bool true) (by kernel_rfl) (by kernel_rfl) (fast_pick W _ _ (.tmp 21) (.tmp 24) (.const (.bool false)) true (.bool true) (by kernel_rfl) (eval_tmp 21 _ (gn rfl (gn rfl (gn rfl hm)))) (eval_tmp 24 _ (ge (ls (ls hlen)) rfl))) ?_
  refine fast_val 26 (.bool true) (by kernel_rfl) (by kernel_rfl) (fast_move W _ _ (.tmp 25) (.bool true) (by kernel_rfl) (eval_tmp 25 _ (ge (ls (ls (ls hlen))) rfl))) ?_
  refine limb_end (.pointer (some ⟨w.heap.size, 0, none⟩)) (.bool true) 26 (gn rfl (gn rfl (gn rfl (gn rfl (gn rfl h1))))) (ge (ls (ls (ls (ls hlen)))) rfl) (ls (ls (ls (ls (ls hlen))))) ?_
  clear h1 hm hn hlen
  intro l hlen h1 hm
  have hn := h1
  refine fast_val 27 (.pointer (some ⟨w.heap.size, 2, none⟩)) (by kernel_rfl) ((wanted_of 23 26 true true (by kernel_rfl) (by kernel_rfl) hm).trans rfl) (fast_addr2 W _ _ (.tmp 1) w.heap.size (by kernel_rfl) (eval_tmp 1 _ h1)) ?_
  refine fast_val 28 (.int .i64 c) (by kernel_rfl) ((wanted_of 23 26 true true (by kernel_rfl) (by kernel_rfl) (gn rfl hm)).trans rfl) (fast_load W _ _ (.tmp 27) w.heap.size 2 c q2 (by kernel_rfl) (eval_tmp 27 _ (ge hlen rfl))) ?_
  refine fast_val 29 (.pointer (some ⟨w.heap.size, 1, none⟩)) (by kernel_rfl) ((wanted_of 23 26 true true (by kernel_rfl) (by kernel_rfl) (gn rfl (gn rfl hm))).trans rfl) (fast_addr1 W _ _ (.tmp 1) w.heap.size (by kernel_rfl) (eval_tmp 1 _ (gn rfl (gn rfl h1)))) ?_
  refine fast_val 30 (.int .i64 b) (by kernel_rfl) ((wanted_of 23 26 true true (by kernel_rfl) (by kernel_rfl) (gn rfl (gn rfl (gn rfl hm)))).trans rfl) (fast_load W _ _ (.tmp 29) w.heap.size 1 b q1 (by kernel_rfl) (eval_tmp 29 _ (ge (ls (ls hlen)) rfl))) ?_
  refine fast_val 31 (.bool true) (by kernel_rfl) ((wanted_of 23 26 true true (by kernel_rfl) (by kernel_rfl) (gn rfl (gn rfl (gn rfl (gn rfl hm))))).trans rfl) (fast_lss W _ _ (.tmp 28) (.tmp 30) c b true (decide_eq_true (by omega)) (by kernel_rfl) (eval_tmp 28 _ (gn rfl (gn rfl (ge (ls hlen) rfl)))) (eval_tmp 30 _ (ge (ls (ls (ls hlen))) rfl))) ?_
  refine fast_val 32 (.bool true) (by kernel_rfl) (by kernel_rfl) (fast_pick W _ _ (.tmp 26) (.tmp 31) (.const (.bool false)) true (.bool true) (by kernel_rfl) (eval_tmp 26 _ (gn rfl (gn rfl (gn rfl (gn rfl (gn rfl hm)))))) (eval_tmp 31 _ (ge (ls (ls (ls (ls hlen)))) rfl))) ?_
  refine fast_val 33 (.bool true) (by kernel_rfl) (by kernel_rfl) (fast_move W _ _ (.tmp 32) (.bool true) (by kernel_rfl) (eval_tmp 32 _ (ge (ls (ls (ls (ls (ls hlen))))) rfl))) ?_
  refine limb_end (.pointer (some ⟨w.heap.size, 0, none⟩)) (.bool true) 33 (gn rfl (gn rfl (gn rfl (gn rfl (gn rfl (gn rfl (gn rfl h1))))))) (ge (ls (ls (ls (ls (ls (ls hlen)))))) rfl) (ls (ls (ls (ls (ls (ls (ls hlen))))))) ?_
  clear h1 hm hn hlen
  intro l hlen h1 hm
  have hn := h1
  refine fast_val 34 (.pointer (some ⟨w.heap.size, 3, none⟩)) (by kernel_rfl) ((wanted_of 30 33 true true (by kernel_rfl) (by kernel_rfl) hm).trans rfl) (fast_addr3 W _ _ (.tmp 1) w.heap.size (by kernel_rfl) (eval_tmp 1 _ h1)) ?_
  refine fast_val 35 (.int .i64 4) (by kernel_rfl) ((wanted_of 30 33 true true (by kernel_rfl) (by kernel_rfl) (gn rfl hm)).trans rfl) (fast_load W _ _ (.tmp 34) w.heap.size 3 4 q3 (by kernel_rfl) (eval_tmp 34 _ (ge hlen rfl))) ?_
  refine fast_val 36 (.bool false) (by kernel_rfl) ((wanted_of 30 33 true true (by kernel_rfl) (by kernel_rfl) (gn rfl (gn rfl hm))).trans rfl) (fast_eql W _ _ (.tmp 35) (.const (.int .i64 1)) 4 1 false (beq_eq_false_iff_ne.2 (by omega)) (by kernel_rfl) (eval_tmp 35 _ (ge (ls hlen) rfl)) (by kernel_rfl)) ?_
  refine fast_val 37 (.bool false) (by kernel_rfl) ((wanted_of 30 33 true true (by kernel_rfl) (by kernel_rfl) (gn rfl (gn rfl (gn rfl hm)))).trans rfl) (fast_move W _ _ (.tmp 36) (.bool false) (by kernel_rfl) (eval_tmp 36 _ (ge (ls (ls hlen)) rfl))) ?_
  refine limb_two (.pointer (some ⟨w.heap.size, 0, none⟩)) (.bool true) (.bool false) 33 37 (gn rfl (gn rfl (gn rfl (gn rfl h1)))) (gn rfl (gn rfl (gn rfl (gn rfl hm)))) (ge (ls (ls (ls hlen))) rfl) (ls (ls (ls (ls hlen)))) ?_
  clear h1 hm hn hlen
  intro l hlen h1 hm hn
  refine fast_val 38 (.pointer (some ⟨w.heap.size, 3, none⟩)) (by kernel_rfl) ((wanted_of 34 37 false false (by kernel_rfl) (by kernel_rfl) hn).trans rfl) (fast_addr3 W _ _ (.tmp 1) w.heap.size (by kernel_rfl) (eval_tmp 1 _ h1)) ?_
  refine fast_val 39 (.int .i64 4) (by kernel_rfl) ((wanted_of 34 37 false false (by kernel_rfl) (by kernel_rfl) (gn rfl hn)).trans rfl) (fast_load W _ _ (.tmp 38) w.heap.size 3 4 q3 (by kernel_rfl) (eval_tmp 38 _ (ge hlen rfl))) ?_
  refine fast_val 40 (.bool false) (by kernel_rfl) ((wanted_of 34 37 false false (by kernel_rfl) (by kernel_rfl) (gn rfl (gn rfl hn))).trans rfl) (fast_eql W _ _ (.tmp 39) (.const (.int .i64 2)) 4 2 false (beq_eq_false_iff_ne.2 (by omega)) (by kernel_rfl) (eval_tmp 39 _ (ge (ls hlen) rfl)) (by kernel_rfl)) ?_
  refine fast_val 41 (.bool false) (by kernel_rfl) ((wanted_of 30 33 true true (by kernel_rfl) (by kernel_rfl) (gn rfl (gn rfl (gn rfl hm)))).trans rfl) (fast_pick W _ _ (.tmp 37) (.const (.bool true)) (.tmp 40) false (.bool false) (by kernel_rfl) (eval_tmp 37 _ (gn rfl (gn rfl (gn rfl hn)))) (eval_tmp 40 _ (ge (ls (ls hlen)) rfl))) ?_
  refine fast_val 42 (.bool false) (by kernel_rfl) ((wanted_of 30 33 true true (by kernel_rfl) (by kernel_rfl) (gn rfl (gn rfl (gn rfl (gn rfl hm))))).trans rfl) (fast_move W _ _ (.tmp 41) (.bool false) (by kernel_rfl) (eval_tmp 41 _ (ge (ls (ls (ls hlen))) rfl))) ?_
  refine limb_two (.pointer (some ⟨w.heap.size, 0, none⟩)) (.bool true) (.bool false) 33 42 (gn rfl (gn rfl (gn rfl (gn rfl (gn rfl h1))))) (gn rfl (gn rfl (gn rfl (gn rfl (gn rfl hm))))) (ge (ls (ls (ls (ls hlen)))) rfl) (ls (ls (ls (ls (ls hlen))))) ?_
  clear h1 hm hn hlen
  intro l hlen h1 hm hn
  refine fast_val 43 (.pointer (some ⟨w.heap.size, 3, none⟩)) (by kernel_rfl) ((wanted_of 39 42 false false (by kernel_rfl) (by kernel_rfl) hn).trans rfl) (fast_addr3 W _ _ (.tmp 1) w.heap.size (by kernel_rfl) (eval_tmp 1 _ h1)) ?_
  refine fast_val 44 (.int .i64 4) (by kernel_rfl) ((wanted_of 39 42 false false (by kernel_rfl) (by kernel_rfl) (gn rfl hn)).trans rfl) (fast_load W _ _ (.tmp 43) w.heap.size 3 4 q3 (by kernel_rfl) (eval_tmp 43 _ (ge hlen rfl))) ?_
  refine fast_val 45 (.bool true) (by kernel_rfl) ((wanted_of 39 42 false false (by kernel_rfl) (by kernel_rfl) (gn rfl (gn rfl hn))).trans rfl) (fast_eql W _ _ (.tmp 44) (.const (.int .i64 4)) 4 4 true (beq_iff_eq.2 (by omega)) (by kernel_rfl) (eval_tmp 44 _ (ge (ls hlen) rfl)) (by kernel_rfl)) ?_
  refine fast_val 46 (.bool true) (by kernel_rfl) ((wanted_of 30 33 true true (by kernel_rfl) (by kernel_rfl) (gn rfl (gn rfl (gn rfl hm)))).trans rfl) (fast_pick W _ _ (.tmp 42) (.const (.bool true)) (.tmp 45) false (.bool true) (by kernel_rfl) (eval_tmp 42 _ (gn rfl (gn rfl (gn rfl hn)))) (eval_tmp 45 _ (ge (ls (ls hlen)) rfl))) ?_
  refine fast_val 47 (.bool true) (by kernel_rfl) ((wanted_of 30 33 true true (by kernel_rfl) (by kernel_rfl) (gn rfl (gn rfl (gn rfl (gn rfl hm))))).trans rfl) (fast_move W _ _ (.tmp 46) (.bool true) (by kernel_rfl) (eval_tmp 46 _ (ge (ls (ls (ls hlen))) rfl))) ?_
  refine limb_two (.pointer (some ⟨w.heap.size, 0, none⟩)) (.bool true) (.bool true) 33 47 (gn rfl (gn rfl (gn rfl (gn rfl (gn rfl h1))))) (gn rfl (gn rfl (gn rfl (gn rfl (gn rfl hm))))) (ge (ls (ls (ls (ls hlen)))) rfl) (ls (ls (ls (ls (ls hlen))))) ?_
  clear h1 hm hn hlen
  intro l hlen h1 hm hn
  refine fast_skip 48 (by kernel_rfl) ((wanted_of 44 47 false true (by kernel_rfl) (by kernel_rfl) hn).trans rfl) ?_
  refine fast_skip 49 (by kernel_rfl) ((wanted_of 44 47 false true (by kernel_rfl) (by kernel_rfl) (gn rfl hn)).trans rfl) ?_
  refine fast_skip 50 (by kernel_rfl) ((wanted_of 44 47 false true (by kernel_rfl) (by kernel_rfl) (gn rfl (gn rfl hn))).trans rfl) ?_
  refine fast_val 51 (.bool true) (by kernel_rfl) ((wanted_of 30 33 true true (by kernel_rfl) (by kernel_rfl) (gn rfl (gn rfl (gn rfl hm)))).trans rfl) (fast_pick W _ _ (.tmp 47) (.const (.bool true)) (.tmp 50) true (.bool true) (by kernel_rfl) (eval_tmp 47 _ (gn rfl (gn rfl (gn rfl hn)))) (by kernel_rfl)) ?_
  refine fast_val 52 (.bool true) (by kernel_rfl) (by kernel_rfl) (fast_pick W _ _ (.tmp 33) (.tmp 51) (.const (.bool false)) true (.bool true) (by kernel_rfl) (eval_tmp 33 _ (gn rfl (gn rfl (gn rfl (gn rfl hm))))) (eval_tmp 51 _ (ge (ls (ls (ls hlen))) rfl))) ?_
  refine fast_val 53 (.bool true) (by kernel_rfl) (by kernel_rfl) (fast_move W _ _ (.tmp 52) (.bool true) (by kernel_rfl) (eval_tmp 52 _ (ge (ls (ls (ls (ls hlen)))) rfl))) ?_
  refine limb_end (.pointer (some ⟨w.heap.size, 0, none⟩)) (.bool true) 53 (gn rfl (gn rfl (gn rfl (gn rfl (gn rfl (gn rfl h1)))))) (ge (ls (ls (ls (ls (ls hlen))))) rfl) (ls (ls (ls (ls (ls (ls hlen)))))) ?_
  clear h1 hm hn hlen
  intro l hlen h1 hm
  have hn := h1
  refine fast_val 54 (.pointer (some ⟨w.heap.size, 4, none⟩)) (by kernel_rfl) ((wanted_of 50 53 true true (by kernel_rfl) (by kernel_rfl) hm).trans rfl) (fast_addr4 W _ _ (.tmp 1) w.heap.size (by kernel_rfl) (eval_tmp 1 _ h1)) ?_
  refine fast_val 55 (.int .i64 e) (by kernel_rfl) ((wanted_of 50 53 true true (by kernel_rfl) (by kernel_rfl) (gn rfl hm)).trans rfl) (fast_load W _ _ (.tmp 54) w.heap.size 4 e q4 (by kernel_rfl) (eval_tmp 54 _ (ge hlen rfl))) ?_
  refine fast_val 56 (.bool false) (by kernel_rfl) ((wanted_of 50 53 true true (by kernel_rfl) (by kernel_rfl) (gn rfl (gn rfl hm))).trans rfl) (fast_geq W _ _ (.tmp 55) (.const (.int .i64 1)) e 1 false (decide_eq_false (by omega)) (by kernel_rfl) (eval_tmp 55 _ (ge (ls hlen) rfl)) (by kernel_rfl)) ?_
  refine fast_val 57 (.bool false) (by kernel_rfl) (by kernel_rfl) (fast_pick W _ _ (.tmp 53) (.tmp 56) (.const (.bool false)) true (.bool false) (by kernel_rfl) (eval_tmp 53 _ (gn rfl (gn rfl (gn rfl hm)))) (eval_tmp 56 _ (ge (ls (ls hlen)) rfl))) ?_
  refine fast_val 58 (.bool false) (by kernel_rfl) (by kernel_rfl) (fast_move W _ _ (.tmp 57) (.bool false) (by kernel_rfl) (eval_tmp 57 _ (ge (ls (ls (ls hlen))) rfl))) ?_
  refine limb_end (.pointer (some ⟨w.heap.size, 0, none⟩)) (.bool false) 58 (gn rfl (gn rfl (gn rfl (gn rfl (gn rfl h1))))) (ge (ls (ls (ls (ls hlen)))) rfl) (ls (ls (ls (ls (ls hlen))))) ?_
  clear h1 hm hn hlen
  intro l hlen h1 hm
  have hn := h1
  refine fast_skip 59 (by kernel_rfl) ((wanted_of 55 58 true false (by kernel_rfl) (by kernel_rfl) hm).trans rfl) ?_
  refine fast_skip 60 (by kernel_rfl) ((wanted_of 55 58 true false (by kernel_rfl) (by kernel_rfl) (gn rfl hm)).trans rfl) ?_
  refine fast_skip 61 (by kernel_rfl) ((wanted_of 55 58 true false (by kernel_rfl) (by kernel_rfl) (gn rfl (gn rfl hm))).trans rfl) ?_
  refine fast_val 62 (.bool false) (by kernel_rfl) (by kernel_rfl) (fast_pick W _ _ (.tmp 58) (.tmp 61) (.const (.bool false)) false (.bool false) (by kernel_rfl) (eval_tmp 58 _ (gn rfl (gn rfl (gn rfl hm)))) (by kernel_rfl)) ?_
  refine fast_val 63 (.bool false) (by kernel_rfl) (by kernel_rfl) (fast_move W _ _ (.tmp 62) (.bool false) (by kernel_rfl) (eval_tmp 62 _ (ge (ls (ls (ls hlen))) rfl))) ?_
  refine limb_end (.pointer (some ⟨w.heap.size, 0, none⟩)) (.bool false) 63 (gn rfl (gn rfl (gn rfl (gn rfl (gn rfl h1))))) (ge (ls (ls (ls (ls hlen)))) rfl) (ls (ls (ls (ls (ls hlen))))) ?_
  clear h1 hm hn hlen
  intro l hlen h1 hm
  have hn := h1
  refine fast_skip 64 (by kernel_rfl) ((wanted_of 60 63 true false (by kernel_rfl) (by kernel_rfl) hm).trans rfl) ?_
  refine fast_skip 65 (by kernel_rfl) ((wanted_of 60 63 true false (by kernel_rfl) (by kernel_rfl) (gn rfl hm)).trans rfl) ?_
  refine fast_skip 66 (by kernel_rfl) ((wanted_of 60 63 true false (by kernel_rfl) (by kernel_rfl) (gn rfl (gn rfl hm))).trans rfl) ?_
  refine fast_val 67 (.bool false) (by kernel_rfl) (by kernel_rfl) (fast_pick W _ _ (.tmp 63) (.tmp 66) (.const (.bool false)) false (.bool false) (by kernel_rfl) (eval_tmp 63 _ (gn rfl (gn rfl (gn rfl hm)))) (by kernel_rfl)) ?_
  refine fast_val 68 (.bool false) (by kernel_rfl) (by kernel_rfl) (fast_move W _ _ (.tmp 67) (.bool false) (by kernel_rfl) (eval_tmp 67 _ (ge (ls (ls (ls hlen))) rfl))) ?_
  refine limb_end (.pointer (some ⟨w.heap.size, 0, none⟩)) (.bool false) 68 (gn rfl (gn rfl (gn rfl (gn rfl (gn rfl h1))))) (ge (ls (ls (ls (ls hlen)))) rfl) (ls (ls (ls (ls (ls hlen))))) ?_
  clear h1 hm hn hlen
  intro l hlen h1 hm
  have hn := h1
  refine fast_skip 69 (by kernel_rfl) ((wanted_of 65 68 true false (by kernel_rfl) (by kernel_rfl) hm).trans rfl) ?_
  refine fast_skip 70 (by kernel_rfl) ((wanted_of 65 68 true false (by kernel_rfl) (by kernel_rfl) (gn rfl hm)).trans rfl) ?_
  refine fast_skip 71 (by kernel_rfl) ((wanted_of 65 68 true false (by kernel_rfl) (by kernel_rfl) (gn rfl (gn rfl hm))).trans rfl) ?_
  refine fast_val 72 (.bool false) (by kernel_rfl) (by kernel_rfl) (fast_pick W _ _ (.tmp 68) (.tmp 71) (.const (.bool false)) false (.bool false) (by kernel_rfl) (eval_tmp 68 _ (gn rfl (gn rfl (gn rfl hm)))) (by kernel_rfl)) ?_
  refine fast_val 73 (.bool false) (by kernel_rfl) (by kernel_rfl) (fast_move W _ _ (.tmp 72) (.bool false) (by kernel_rfl) (eval_tmp 72 _ (ge (ls (ls (ls hlen))) rfl))) ?_
  refine limb_end (.pointer (some ⟨w.heap.size, 0, none⟩)) (.bool false) 73 (gn rfl (gn rfl (gn rfl (gn rfl (gn rfl h1))))) (ge (ls (ls (ls (ls hlen)))) rfl) (ls (ls (ls (ls (ls hlen))))) ?_
  clear h1 hm hn hlen
  intro l hlen h1 hm
  have hn := h1
  refine fast_skip 74 (by kernel_rfl) ((wanted_of 70 73 true false (by kernel_rfl) (by kernel_rfl) hm).trans rfl) ?_
  refine fast_skip 75 (by kernel_rfl) ((wanted_of 70 73 true false (by kernel_rfl) (by kernel_rfl) (gn rfl hm)).trans rfl) ?_
  refine fast_skip 76 (by kernel_rfl) ((wanted_of 70 73 true false (by kernel_rfl) (by kernel_rfl) (gn rfl (gn rfl hm))).trans rfl) ?_
  refine fast_val 77 (.bool false) (by kernel_rfl) (by kernel_rfl) (fast_pick W _ _ (.tmp 73) (.tmp 76) (.const (.bool false)) false (.bool false) (by kernel_rfl) (eval_tmp 73 _ (gn rfl (gn rfl (gn rfl hm)))) (by kernel_rfl)) ?_
  refine fast_val 78 (.bool false) (by kernel_rfl) (by kernel_rfl) (fast_move W _ _ (.tmp 77) (.bool false) (by kernel_rfl) (eval_tmp 77 _ (ge (ls (ls (ls hlen))) rfl))) ?_
  refine limb_end (.pointer (some ⟨w.heap.size, 0, none⟩)) (.bool false) 78 (gn rfl (gn rfl (gn rfl (gn rfl (gn rfl h1))))) (ge (ls (ls (ls (ls hlen)))) rfl) (ls (ls (ls (ls (ls hlen))))) ?_
  clear h1 hm hn hlen
  intro l hlen h1 hm
  have hn := h1
  refine fast_skip 79 (by kernel_rfl) ((wanted_of 75 78 true false (by kernel_rfl) (by kernel_rfl) hm).trans rfl) ?_
  refine fast_skip 80 (by kernel_rfl) ((wanted_of 75 78 true false (by kernel_rfl) (by kernel_rfl) (gn rfl hm)).trans rfl) ?_
  refine fast_skip 81 (by kernel_rfl) ((wanted_of 75 78 true false (by kernel_rfl) (by kernel_rfl) (gn rfl (gn rfl hm))).trans rfl) ?_
  refine fast_val 82 (.bool false) (by kernel_rfl) (by kernel_rfl) (fast_pick W _ _ (.tmp 78) (.tmp 81) (.const (.bool false)) false (.bool false) (by kernel_rfl) (eval_tmp 78 _ (gn rfl (gn rfl (gn rfl hm)))) (by kernel_rfl)) ?_
  refine fast_val 2 (.bool false) (by kernel_rfl) (by kernel_rfl) (fast_assign W _ _ (.tmp 82) (.bool false) (by kernel_rfl) (eval_tmp 82 _ (ge (ls (ls (ls hlen))) rfl))) ?_
  refine wpList_nil ?_
  refine hK _ _ (wp_ret (bodyPost_ret (v := .bool false) (by simp [results, Try.results30, go_sem, List.getElem?_set, hlen]) rfl ⟨rfl, HB.out⟩))
set_option linter.unusedSimpArgs false in
set_option maxRecDepth 10000 in
set_option maxHeartbeats 4000000 in
theorem goodr_d4n12 (a b c e f g : Int) (w : World) (k0 : 1 ≤ a) (k1 : a ≤ 8) (k2 : 2 ≤ b) (k3 : b ≤ 64) (k4 : 1 ≤ c) (k5 : c < b) (k7 : 1 ≤ e) (k8 : e ≤ 8) (k9 : 1 ≤ f) (k10 : f ≤ 16) (k11 : 1 ≤ g) (k12 : ¬ g ≤ 16) : Calls Try.prog 30 #[.agg #[.int .i64 a, .int .i64 b, .int .i64 c, .int .i64 4, .int .i64 e, .int .i64 f, .int .i64 g]] w fun E w' => E = .returned (.bool false) ∧ Below w.heap.size w w' := by
  go_enter Try.func30, Try.ntmps30
  go_upto_region 1 with fail
  rename_i hK
  obtain ⟨W, hW⟩ : ∃ W, w.alloc (.cells #[.int .i64 a, .int .i64 b, .int .i64 c, .int .i64 4, .int .i64 e, .int .i64 f, .int .i64 g] 23) = W := ⟨_, rfl⟩
  rw [hW]
  have hrow : W.heap[w.heap.size]? = some (.cells #[.int .i64 a, .int .i64 b, .int .i64 c, .int .i64 4, .int .i64 e, .int .i64 f, .int .i64 g] 23 (0, 0)) := by rw [← hW]; exact heap_alloc_new w _
  have q0 : W.cell? ⟨w.heap.size, 0, none⟩ = some (.int .i64 a) := by rw [cell_of_row _ _ _ _ 23 (0, 0) hrow]; rfl
  have q1 : W.cell? ⟨w.heap.size, 1, none⟩ = some (.int .i64 b) := by rw [cell_of_row _ _ _ _ 23 (0, 0) hrow]; rfl
  have q2 : W.cell? ⟨w.heap.size, 2, none⟩ = some (.int .i64 c) := by rw [cell_of_row _ _ _ _ 23 (0, 0) hrow]; rfl
  have q3 : W.cell? ⟨w.heap.size, 3, none⟩ = some (.int .i64 4) := by rw [cell_of_row _ _ _ _ 23 (0, 0) hrow]; rfl
  have q4 : W.cell? ⟨w.heap.size, 4, none⟩ = some (.int .i64 e) := by rw [cell_of_row _ _ _ _ 23 (0, 0) hrow]; rfl
  have q5 : W.cell? ⟨w.heap.size, 5, none⟩ = some (.int .i64 f) := by rw [cell_of_row _ _ _ _ 23 (0, 0) hrow]; rfl
  have q6 : W.cell? ⟨w.heap.size, 6, none⟩ = some (.int .i64 g) := by rw [cell_of_row _ _ _ _ 23 (0, 0) hrow]; rfl
  have hB : Below w.heap.size w W := by rw [← hW]; exact (Below.refl _ _).alloc (Nat.le_refl _) _
  have HB := Lib.hid hB
  clear hrow hW hB
  refine wp_region_lit ?_
  refine limb_end (.pointer (some ⟨w.heap.size, 0, none⟩)) (.pointer (some ⟨w.heap.size, 0, none⟩)) 1 rfl rfl rfl ?_
  intro l hlen h1 hm
  have hn := h1
  refine fast_val 3 (.pointer (some ⟨w.heap.size, 0, none⟩)) (by kernel_rfl) (by kernel_rfl) (fast_addr0 W _ _ (.tmp 1) w.heap.size (by kernel_rfl) (eval_tmp 1 _ h1)) ?_
  refine fast_val 4 (.int .i64 a) (by kernel_rfl) (by kernel_rfl) (fast_load W _ _ (.tmp 3) w.heap.size 0 a q0 (by kernel_rfl) (eval_tmp 3 _ (ge hlen rfl))) ?_
  refine fast_val 5 (.bool true) (by kernel_rfl) (by kernel_rfl) (fast_geq W _ _ (.tmp 4) (.const (.int .i64 1)) a 1 true (decide_eq_true (by omega)) (by kernel_rfl) (eval_tmp 4 _ (ge (ls hlen) rfl)) (by kernel_rfl)) ?_
  refine fast_val 6 (.bool true) (by kernel_rfl) (by kernel_rfl) (fast_move W _ _ (.tmp 5) (.bool true) (by kernel_rfl) (eval_tmp 5 _ (ge (ls (ls hlen)) rfl))) ?_
  refine limb_end (.pointer (some ⟨w.heap.size, 0, none⟩)) (.bool true) 6 (gn rfl (gn rfl (gn rfl (gn rfl h1)))) (ge (ls (ls (ls hlen))) rfl) (ls (ls (ls (ls hlen)))) ?_
  clear h1 hm hn hlen
  intro l hlen h1 hm
  have hn := h1
  refine fast_val 7 (.pointer (some ⟨w.heap.size, 0, none⟩)) (by kernel_rfl) ((wanted_of 3 6 true true (by kernel_rfl) (by kernel_rfl) hm).trans rfl) (fast_addr0 W _ _ (.tmp 1) w.heap.size (by kernel_rfl) (eval_tmp 1 _ h1)) ?_
  refine fast_val 8 (.int .i64 a) (by kernel_rfl) ((wanted_of 3 6 true true (by kernel_rfl) (by kernel_rfl) (gn rfl hm)).trans rfl) (fast_load W _ _ (.tmp 7) w.heap.size 0 a q0 (by kernel_rfl) (eval_tmp 7 _ (ge hlen rfl))) ?_
  refine fast_val 9 (.bool true) (by kernel_rfl) ((wanted_of 3 6 true true (by kernel_rfl) (by kernel_rfl) (gn rfl (gn rfl hm))).trans rfl) (fast_leq W _ _ (.tmp 8) (.const (.int .i64 8)) a 8 true (decide_eq_true (by omega)) (by kernel_rfl) (eval_tmp 8 _ (ge (ls hlen) rfl)) (by kernel_rfl)) ?_
  refine fast_val 10 (.bool true) (by kernel_rfl) (by kernel_rfl) (fast_pick W _ _ (.tmp 6) (.tmp 9) (.const (.bool false)) true (.bool true) (by kernel_rfl) (eval_tmp 6 _ (gn rfl (gn rfl (gn rfl hm)))) (eval_tmp 9 _ (ge (ls (ls hlen)) rfl))) ?_
  refine fast_val 11 (.bool true) (by kernel_rfl) (by kernel_rfl) (fast_move W _ _ (.tmp 10) (.bool true) (by kernel_rfl) (eval_tmp 10 _ (ge (ls (ls (ls hlen))) rfl))) ?_
  refine limb_end (.pointer (some ⟨w.heap.size, 0, none⟩)) (.bool true) 11 (gn rfl (gn rfl (gn rfl (gn rfl (gn rfl h1))))) (ge (ls (ls (ls (ls hlen)))) rfl) (ls (ls (ls (ls (ls hlen))))) ?_
  clear h1 hm hn hlen
  intro l hlen h1 hm
  have hn := h1
  refine fast_val 12 (.pointer (some ⟨w.heap.size, 1, none⟩)) (by kernel_rfl) ((wanted_of 8 11 true true (by kernel_rfl) (by kernel_rfl) hm).trans rfl) (fast_addr1 W _ _ (.tmp 1) w.heap.size (by kernel_rfl) (eval_tmp 1 _ h1)) ?_
  refine fast_val 13 (.int .i64 b) (by kernel_rfl) ((wanted_of 8 11 true true (by kernel_rfl) (by kernel_rfl) (gn rfl hm)).trans rfl) (fast_load W _ _ (.tmp 12) w.heap.size 1 b q1 (by kernel_rfl) (eval_tmp 12 _ (ge hlen rfl))) ?_
  refine fast_val 14 (.bool true) (by kernel_rfl) ((wanted_of 8 11 true true (by kernel_rfl) (by kernel_rfl) (gn rfl (gn rfl hm))).trans rfl) (fast_geq W _ _ (.tmp 13) (.const (.int .i64 2)) b 2 true (decide_eq_true (by omega)) (by kernel_rfl) (eval_tmp 13 _ (ge (ls hlen) rfl)) (by kernel_rfl)) ?_
  refine fast_val 15 (.bool true) (by kernel_rfl) (by kernel_rfl) (fast_pick W _ _ (.tmp 11) (.tmp 14) (.const (.bool false)) true (.bool true) (by kernel_rfl) (eval_tmp 11 _ (gn rfl (gn rfl (gn rfl hm)))) (eval_tmp 14 _ (ge (ls (ls hlen)) rfl))) ?_
  refine fast_val 16 (.bool true) (by kernel_rfl) (by kernel_rfl) (fast_move W _ _ (.tmp 15) (.bool true) (by kernel_rfl) (eval_tmp 15 _ (ge (ls (ls (ls hlen))) rfl))) ?_
  refine limb_end (.pointer (some ⟨w.heap.size, 0, none⟩)) (.bool true) 16 (gn rfl (gn rfl (gn rfl (gn rfl (gn rfl h1))))) (ge (ls (ls (ls (ls hlen)))) rfl) (ls (ls (ls (ls (ls hlen))))) ?_
  clear h1 hm hn hlen
  intro l hlen h1 hm
  have hn := h1
  refine fast_val 17 (.pointer (some ⟨w.heap.size, 1, none⟩)) (by kernel_rfl) ((wanted_of 13 16 true true (by kernel_rfl) (by kernel_rfl) hm).trans rfl) (fast_addr1 W _ _ (.tmp 1) w.heap.size (by kernel_rfl) (eval_tmp 1 _ h1)) ?_
  refine fast_val 18 (.int .i64 b) (by kernel_rfl) ((wanted_of 13 16 true true (by kernel_rfl) (by kernel_rfl) (gn rfl hm)).trans rfl) (fast_load W _ _ (.tmp 17) w.heap.size 1 b q1 (by kernel_rfl) (eval_tmp 17 _ (ge hlen rfl))) ?_
  refine fast_val 19 (.bool true) (by kernel_rfl) ((wanted_of 13 16 true true (by kernel_rfl) (by kernel_rfl) (gn rfl (gn rfl hm))).trans rfl) (fast_leq W _ _ (.tmp 18) (.const (.int .i64 64)) b 64 true (decide_eq_true (by omega)) (by kernel_rfl) (eval_tmp 18 _ (ge (ls hlen) rfl)) (by kernel_rfl)) ?_
  refine fast_val 20 (.bool true) (by kernel_rfl) (by kernel_rfl) (fast_pick W _ _ (.tmp 16) (.tmp 19) (.const (.bool false)) true (.bool true) (by kernel_rfl) (eval_tmp 16 _ (gn rfl (gn rfl (gn rfl hm)))) (eval_tmp 19 _ (ge (ls (ls hlen)) rfl))) ?_
  refine fast_val 21 (.bool true) (by kernel_rfl) (by kernel_rfl) (fast_move W _ _ (.tmp 20) (.bool true) (by kernel_rfl) (eval_tmp 20 _ (ge (ls (ls (ls hlen))) rfl))) ?_
  refine limb_end (.pointer (some ⟨w.heap.size, 0, none⟩)) (.bool true) 21 (gn rfl (gn rfl (gn rfl (gn rfl (gn rfl h1))))) (ge (ls (ls (ls (ls hlen)))) rfl) (ls (ls (ls (ls (ls hlen))))) ?_
  clear h1 hm hn hlen
  intro l hlen h1 hm
  have hn := h1
  refine fast_val 22 (.pointer (some ⟨w.heap.size, 2, none⟩)) (by kernel_rfl) ((wanted_of 18 21 true true (by kernel_rfl) (by kernel_rfl) hm).trans rfl) (fast_addr2 W _ _ (.tmp 1) w.heap.size (by kernel_rfl) (eval_tmp 1 _ h1)) ?_
  refine fast_val 23 (.int .i64 c) (by kernel_rfl) ((wanted_of 18 21 true true (by kernel_rfl) (by kernel_rfl) (gn rfl hm)).trans rfl) (fast_load W _ _ (.tmp 22) w.heap.size 2 c q2 (by kernel_rfl) (eval_tmp 22 _ (ge hlen rfl))) ?_
  refine fast_val 24 (.bool true) (by kernel_rfl) ((wanted_of 18 21 true true (by kernel_rfl) (by kernel_rfl) (gn rfl (gn rfl hm))).trans rfl) (fast_geq W _ _ (.tmp 23) (.const (.int .i64 1)) c 1 true (decide_eq_true (by omega)) (by kernel_rfl) (eval_tmp 23 _ (ge (ls hlen) rfl)) (by kernel_rfl)) ?_
  refine fast_val 25 (.bool true) (by kernel_rfl) (by kernel_rfl) (fast_pick W _ _ (.tmp 21) (.tmp 24) (.const (.bool false)) true (.bool true) (by kernel_rfl) (eval_tmp 21 _ (gn rfl (gn rfl (gn rfl hm)))) (eval_tmp 24 _ (ge (ls (ls hlen)) rfl))) ?_
  refine fast_val 26 (.bool true) (by kernel_rfl) (by kernel_rfl) (fast_move W _ _ (.tmp 25) (.bool true) (by kernel_rfl) (eval_tmp 25 _ (ge (ls (ls (ls hlen))) rfl))) ?_
  refine limb_end (.pointer (some ⟨w.heap.size, 0, none⟩)) (.bool true) 26 (gn rfl (gn rfl (gn rfl (gn rfl (gn rfl h1))))) (ge (ls (ls (ls (ls hlen)))) rfl) (ls (ls (ls (ls (ls hlen))))) ?_
  clear h1 hm hn hlen
  intro l hlen h1 hm
  have hn := h1
  refine fast_val 27 (.pointer (some ⟨w.heap.size, 2, none⟩)) (by kernel_rfl) ((wanted_of 23 26 true true (by kernel_rfl) (by kernel_rfl) hm).trans rfl) (fast_addr2 W _ _ (.tmp 1) w.heap.size (by kernel_rfl) (eval_tmp 1 _ h1)) ?_
  refine fast_val 28 (.int .i64 c) (by kernel_rfl) ((wanted_of 23 26 true true (by kernel_rfl) (by kernel_rfl) (gn rfl hm)).trans rfl) (fast_load W _ _ (.tmp 27) w.heap.size 2 c q2 (by kernel_rfl) (eval_tmp 27 _ (ge hlen rfl))) ?_
  refine fast_val 29 (.pointer (some ⟨w.heap.size, 1, none⟩)) (by kernel_rfl) ((wanted_of 23 26 true true (by kernel_rfl) (by kernel_rfl) (gn rfl (gn rfl hm))).trans rfl) (fast_addr1 W _ _ (.tmp 1) w.heap.size (by kernel_rfl) (eval_tmp 1 _ (gn rfl (gn rfl h1)))) ?_
  refine fast_val 30 (.int .i64 b) (by kernel_rfl) ((wanted_of 23 26 true true (by kernel_rfl) (by kernel_rfl) (gn rfl (gn rfl (gn rfl hm)))).trans rfl) (fast_load W _ _ (.tmp 29) w.heap.size 1 b q1 (by kernel_rfl) (eval_tmp 29 _ (ge (ls (ls hlen)) rfl))) ?_
  refine fast_val 31 (.bool true) (by kernel_rfl) ((wanted_of 23 26 true true (by kernel_rfl) (by kernel_rfl) (gn rfl (gn rfl (gn rfl (gn rfl hm))))).trans rfl) (fast_lss W _ _ (.tmp 28) (.tmp 30) c b true (decide_eq_true (by omega)) (by kernel_rfl) (eval_tmp 28 _ (gn rfl (gn rfl (ge (ls hlen) rfl)))) (eval_tmp 30 _ (ge (ls (ls (ls hlen))) rfl))) ?_
  refine fast_val 32 (.bool true) (by kernel_rfl) (by kernel_rfl) (fast_pick W _ _ (.tmp 26) (.tmp 31) (.const (.bool false)) true (.bool true) (by kernel_rfl) (eval_tmp 26 _ (gn rfl (gn rfl (gn rfl (gn rfl (gn rfl hm)))))) (eval_tmp 31 _ (ge (ls (ls (ls (ls hlen)))) rfl))) ?_
  refine fast_val 33 (.bool true) (by kernel_rfl) (by kernel_rfl) (fast_move W _ _ (.tmp 32) (.bool true) (by kernel_rfl) (eval_tmp 32 _ (ge (ls (ls (ls (ls (ls hlen))))) rfl))) ?_
  refine limb_end (.pointer (some ⟨w.heap.size, 0, none⟩)) (.bool true) 33 (gn rfl (gn rfl (gn rfl (gn rfl (gn rfl (gn rfl (gn rfl h1))))))) (ge (ls (ls (ls (ls (ls (ls hlen)))))) rfl) (ls (ls (ls (ls (ls (ls (ls hlen))))))) ?_
  clear h1 hm hn hlen
  intro l hlen h1 hm
  have hn := h1
  refine fast_val 34 (.pointer (some ⟨w.heap.size, 3, none⟩)) (by kernel_rfl) ((wanted_of 30 33 true true (by kernel_rfl) (by kernel_rfl) hm).trans rfl) (fast_addr3 W _ _ (.tmp 1) w.heap.size (by kernel_rfl) (eval_tmp 1 _ h1)) ?_
  refine fast_val 35 (.int .i64 4) (by kernel_rfl) ((wanted_of 30 33 true true (by kernel_rfl) (by kernel_rfl) (gn rfl hm)).trans rfl) (fast_load W _ _ (.tmp 34) w.heap.size 3 4 q3 (by kernel_rfl) (eval_tmp 34 _ (ge hlen rfl))) ?_
  refine fast_val 36 (.bool false) (by kernel_rfl) ((wanted_of 30 33 true true (by kernel_rfl) (by kernel_rfl) (gn rfl (gn rfl hm))).trans rfl) (fast_eql W _ _ (.tmp 35) (.const (.int .i64 1)) 4 1 false (beq_eq_false_iff_ne.2 (by omega)) (by kernel_rfl) (eval_tmp 35 _ (ge (ls hlen) rfl)) (by kernel_rfl)) ?_
  refine fast_val 37 (.bool false) (by kernel_rfl) ((wanted_of 30 33 true true (by kernel_rfl) (by kernel_rfl) (gn rfl (gn rfl (gn rfl hm)))).trans rfl) (fast_move W _ _ (.tmp 36) (.bool false) (by kernel_rfl) (eval_tmp 36 _ (ge (ls (ls hlen)) rfl))) ?_
  refine limb_two (.pointer (some ⟨w.heap.size, 0, none⟩)) (.bool true) (.bool false) 33 37 (gn rfl (gn rfl (gn rfl (gn rfl h1)))) (gn rfl (gn rfl (gn rfl (gn rfl hm)))) (ge (ls (ls (ls hlen))) rfl) (ls (ls (ls (ls hlen)))) ?_
  clear h1 hm hn hlen
  intro l hlen h1 hm hn
  refine fast_val 38 (.pointer (some ⟨w.heap.size, 3, none⟩)) (by kernel_rfl) ((wanted_of 34 37 false false (by kernel_rfl) (by kernel_rfl) hn).trans rfl) (fast_addr3 W _ _ (.tmp 1) w.heap.size (by kernel_rfl) (eval_tmp 1 _ h1)) ?_
  refine fast_val 39 (.int .i64 4) (by kernel_rfl) ((wanted_of 34 37 false false (by kernel_rfl) (by kernel_rfl) (gn rfl hn)).trans rfl) (fast_load W _ _ (.tmp 38) w.heap.size 3 4 q3 (by kernel_rfl) (eval_tmp 38 _ (ge hlen rfl))) ?_
  refine fast_val 40 (.bool false) (by kernel_rfl) ((wanted_of 34 37 false false (by kernel_rfl) (by kernel_rfl) (gn rfl (gn rfl hn))).trans rfl) (fast_eql W _ _ (.tmp 39) (.const (.int .i64 2)) 4 2 false (beq_eq_false_iff_ne.2 (by omega)) (by kernel_rfl) (eval_tmp 39 _ (ge (ls hlen) rfl)) (by kernel_rfl)) ?_
  refine fast_val 41 (.bool false) (by kernel_rfl) ((wanted_of 30 33 true true (by kernel_rfl) (by kernel_rfl) (gn rfl (gn rfl (gn rfl hm)))).trans rfl) (fast_pick W _ _ (.tmp 37) (.const (.bool true)) (.tmp 40) false (.bool false) (by kernel_rfl) (eval_tmp 37 _ (gn rfl (gn rfl (gn rfl hn)))) (eval_tmp 40 _ (ge (ls (ls hlen)) rfl))) ?_
  refine fast_val 42 (.bool false) (by kernel_rfl) ((wanted_of 30 33 true true (by kernel_rfl) (by kernel_rfl) (gn rfl (gn rfl (gn rfl (gn rfl hm))))).trans rfl) (fast_move W _ _ (.tmp 41) (.bool false) (by kernel_rfl) (eval_tmp 41 _ (ge (ls (ls (ls hlen))) rfl))) ?_
  refine limb_two (.pointer (some ⟨w.heap.size, 0, none⟩)) (.bool true) (.bool false) 33 42 (gn rfl (gn rfl (gn rfl (gn rfl (gn rfl h1))))) (gn rfl (gn rfl (gn rfl (gn rfl (gn rfl hm))))) (ge (ls (ls (ls (ls hlen)))) rfl) (ls (ls (ls (ls (ls hlen))))) ?_
  clear h1 hm hn hlen
  intro l hlen h1 hm hn
  refine fast_val 43 (.pointer (some ⟨w.heap.size, 3, none⟩)) (by kernel_rfl) ((wanted_of 39 42 false false (by kernel_rfl) (by kernel_rfl) hn).trans rfl) (fast_addr3 W _ _ (.tmp 1) w.heap.size (by kernel_rfl) (eval_tmp 1 _ h1)) ?_
  refine fast_val 44 (.int .i64 4) (by kernel_rfl) ((wanted_of 39 42 false false (by kernel_rfl) (by kernel_rfl) (gn rfl hn)).trans rfl) (fast_load W _ _ (.tmp 43) w.heap.size 3 4 q3 (by kernel_rfl) (eval_tmp 43 _ (ge hlen rfl))) ?_
  refine fast_val 45 (.bool true) (by kernel_rfl) ((wanted_of 39 42 false false (by kernel_rfl) (by kernel_rfl) (gn rfl (gn rfl hn))).trans rfl) (fast_eql W _ _ (.tmp 44) (.const (.int .i64 4)) 4 4 true (beq_iff_eq.2 (by omega)) (by kernel_rfl) (eval_tmp 44 _ (ge (ls hlen) rfl)) (by kernel_rfl)) ?_
  refine fast_val 46 (.bool true) (by kernel_rfl) ((wanted_of 30 33 true true (by kernel_rfl) (by kernel_rfl) (gn rfl (gn rfl (gn rfl hm)))).trans rfl) (fast_pick W _ _ (.tmp 42) (.const (.bool true)) (.tmp 45) false (.bool true) (by kernel_rfl) (eval_tmp 42 _ (gn rfl (gn rfl (gn rfl hn)))) (eval_tmp 45 _ (ge (ls (ls hlen)) rfl))) ?_
  refine fast_val 47 (.bool true) (by kernel_rfl) ((wanted_of 30 33 true true (by kernel_rfl) (by kernel_rfl) (gn rfl (gn rfl (gn rfl (gn rfl hm))))).trans rfl) (fast_move W _ _ (.tmp 46) (.bool true) (by kernel_rfl) (eval_tmp 46 _ (ge (ls (ls (ls hlen))) rfl))) ?_
  refine limb_two (.pointer (some ⟨w.heap.size, 0, none⟩)) (.bool true) (.bool true) 33 47 (gn rfl (gn rfl (gn rfl (gn rfl (gn rfl h1))))) (gn rfl (gn rfl (gn rfl (gn rfl (gn rfl hm))))) (ge (ls (ls (ls (ls hlen)))) rfl) (ls (ls (ls (ls (ls hlen))))) ?_
  clear h1 hm hn hlen
  intro l hlen h1 hm hn
  refine fast_skip 48 (by kernel_rfl) ((wanted_of 44 47 false true (by kernel_rfl) (by kernel_rfl) hn).trans rfl) ?_
  refine fast_skip 49 (by kernel_rfl) ((wanted_of 44 47 false true (by kernel_rfl) (by kernel_rfl) (gn rfl hn)).trans rfl) ?_
  refine fast_skip 50 (by kernel_rfl) ((wanted_of 44 47 false true (by kernel_rfl) (by kernel_rfl) (gn rfl (gn rfl hn))).trans rfl) ?_
  refine fast_val 51 (.bool true) (by kernel_rfl) ((wanted_of 30 33 true true (by kernel_rfl) (by kernel_rfl) (gn rfl (gn rfl (gn rfl hm)))).trans rfl) (fast_pick W _ _ (.tmp 47) (.const (.bool true)) (.tmp 50) true (.bool true) (by kernel_rfl) (eval_tmp 47 _ (gn rfl (gn rfl (gn rfl hn)))) (by kernel_rfl)) ?_
  refine fast_val 52 (.bool true) (by kernel_rfl) (by kernel_rfl) (fast_pick W _ _ (.tmp 33) (.tmp 51) (.const (.bool false)) true (.bool true) (by kernel_rfl) (eval_tmp 33 _ (gn rfl (gn rfl (gn rfl (gn rfl hm))))) (eval_tmp 51 _ (ge (ls (ls (ls hlen))) rfl))) ?_
  refine fast_val 53 (.bool true) (by kernel_rfl) (by kernel_rfl) (fast_move W _ _ (.tmp 52) (.bool true) (by kernel_rfl) (eval_tmp 52 _ (ge (ls (ls (ls (ls hlen)))) rfl))) ?_
  refine limb_end (.pointer (some ⟨w.heap.size, 0, none⟩)) (.bool true) 53 (gn rfl (gn rfl (gn rfl (gn rfl (gn rfl (gn rfl h1)))))) (ge (ls (ls (ls (ls (ls hlen))))) rfl) (ls (ls (ls (ls (ls (ls hlen)))))) ?_
  clear h1 hm hn hlen
  intro l hlen h1 hm
  have hn := h1
  refine fast_val 54 (.pointer (some ⟨w.heap.size, 4, none⟩)) (by kernel_rfl) ((wanted_of 50 53 true true (by kernel_rfl) (by kernel_rfl) hm).trans rfl) (fast_addr4 W _ _ (.tmp 1) w.heap.size (by kernel_rfl) (eval_tmp 1 _ h1)) ?_
  refine fast_val 55 (.int .i64 e) (by kernel_rfl) ((wanted_of 50 53 true true (by kernel_rfl) (by kernel_rfl) (gn rfl hm)).trans rfl) (fast_load W _ _ (.tmp 54) w.heap.size 4 e q4 (by kernel_rfl) (eval_tmp 54 _ (ge hlen rfl))) ?_
  refine fast_val 56 (.bool true) (by kernel_rfl) ((wanted_of 50 53 true true (by kernel_rfl) (by kernel_rfl) (gn rfl (gn rfl hm))).trans rfl) (fast_geq W _ _ (.tmp 55) (.const (.int .i64 1)) e 1 true (decide_eq_true (by omega)) (by kernel_rfl) (eval_tmp 55 _ (ge (ls hlen) rfl)) (by kernel_rfl)) ?_
  refine fast_val 57 (.bool true) (by kernel_rfl) (by kernel_rfl) (fast_pick W _ _ (.tmp 53) (.tmp 56) (.const (.bool false)) true (.bool true) (by kernel_rfl) (eval_tmp 53 _ (gn rfl (gn rfl (gn rfl hm)))) (eval_tmp 56 _ (ge (ls (ls hlen)) rfl))) ?_
  refine fast_val 58 (.bool true) (by kernel_rfl) (by kernel_rfl) (fast_move W _ _ (.tmp 57) (.bool true) (by kernel_rfl) (eval_tmp 57 _ (ge (ls (ls (ls hlen))) rfl))) ?_
  refine limb_end (.pointer (some ⟨w.heap.size, 0, none⟩)) (.bool true) 58 (gn rfl (gn rfl (gn rfl (gn rfl (gn rfl h1))))) (ge (ls (ls (ls (ls hlen)))) rfl) (ls (ls (ls (ls (ls hlen))))) ?_
  clear h1 hm hn hlen
  intro l hlen h1 hm
  have hn := h1
  refine fast_val 59 (.pointer (some ⟨w.heap.size, 4, none⟩)) (by kernel_rfl) ((wanted_of 55 58 true true (by kernel_rfl) (by kernel_rfl) hm).trans rfl) (fast_addr4 W _ _ (.tmp 1) w.heap.size (by kernel_rfl) (eval_tmp 1 _ h1)) ?_
  refine fast_val 60 (.int .i64 e) (by kernel_rfl) ((wanted_of 55 58 true true (by kernel_rfl) (by kernel_rfl) (gn rfl hm)).trans rfl) (fast_load W _ _ (.tmp 59) w.heap.size 4 e q4 (by kernel_rfl) (eval_tmp 59 _ (ge hlen rfl))) ?_
  refine fast_val 61 (.bool true) (by kernel_rfl) ((wanted_of 55 58 true true (by kernel_rfl) (by kernel_rfl) (gn rfl (gn rfl hm))).trans rfl) (fast_leq W _ _ (.tmp 60) (.const (.int .i64 8)) e 8 true (decide_eq_true (by omega)) (by kernel_rfl) (eval_tmp 60 _ (ge (ls hlen) rfl)) (by kernel_rfl)) ?_
  refine fast_val 62 (.bool true) (by kernel_rfl) (by kernel_rfl) (fast_pick W _ _ (.tmp 58) (.tmp 61) (.const (.bool false)) true (.bool true) (by kernel_rfl) (eval_tmp 58 _ (gn rfl (gn rfl (gn rfl hm)))) (eval_tmp 61 _ (ge (ls (ls hlen)) rfl))) ?_
  refine fast_val 63 (.bool true) (by kernel_rfl) (by kernel_rfl) (fast_move W _ _ (.tmp 62) (.bool true) (by kernel_rfl) (eval_tmp 62 _ (ge (ls (ls (ls hlen))) rfl))) ?_
  refine limb_end (.pointer (some ⟨w.heap.size, 0, none⟩)) (.bool true) 63 (gn rfl (gn rfl (gn rfl (gn rfl (gn rfl h1))))) (ge (ls (ls (ls (ls hlen)))) rfl) (ls (ls (ls (ls (ls hlen))))) ?_
  clear h1 hm hn hlen
  intro l hlen h1 hm
  have hn := h1
  refine fast_val 64 (.pointer (some ⟨w.heap.size, 5, none⟩)) (by kernel_rfl) ((wanted_of 60 63 true true (by kernel_rfl) (by kernel_rfl) hm).trans rfl) (fast_addr5 W _ _ (.tmp 1) w.heap.size (by kernel_rfl) (eval_tmp 1 _ h1)) ?_
  refine fast_val 65 (.int .i64 f) (by kernel_rfl) ((wanted_of 60 63 true true (by kernel_rfl) (by kernel_rfl) (gn rfl hm)).trans rfl) (fast_load W _ _ (.tmp 64) w.heap.size 5 f q5 (by kernel_rfl) (eval_tmp 64 _ (ge hlen rfl))) ?_
  refine fast_val 66 (.bool true) (by kernel_rfl) ((wanted_of 60 63 true true (by kernel_rfl) (by kernel_rfl) (gn rfl (gn rfl hm))).trans rfl) (fast_geq W _ _ (.tmp 65) (.const (.int .i64 1)) f 1 true (decide_eq_true (by omega)) (by kernel_rfl) (eval_tmp 65 _ (ge (ls hlen) rfl)) (by kernel_rfl)) ?_
  refine fast_val 67 (.bool true) (by kernel_rfl) (by kernel_rfl) (fast_pick W _ _ (.tmp 63) (.tmp 66) (.const (.bool false)) true (.bool true) (by kernel_rfl) (eval_tmp 63 _ (gn rfl (gn rfl (gn rfl hm)))) (eval_tmp 66 _ (ge (ls (ls hlen)) rfl))) ?_
  refine fast_val 68 (.bool true) (by kernel_rfl) (by kernel_rfl) (fast_move W _ _ (.tmp 67) (.bool true) (by kernel_rfl) (eval_tmp 67 _ (ge (ls (ls (ls hlen))) rfl))) ?_
  refine limb_end (.pointer (some ⟨w.heap.size, 0, none⟩)) (.bool true) 68 (gn rfl (gn rfl (gn rfl (gn rfl (gn rfl h1))))) (ge (ls (ls (ls (ls hlen)))) rfl) (ls (ls (ls (ls (ls hlen))))) ?_
  clear h1 hm hn hlen
  intro l hlen h1 hm
  have hn := h1
  refine fast_val 69 (.pointer (some ⟨w.heap.size, 5, none⟩)) (by kernel_rfl) ((wanted_of 65 68 true true (by kernel_rfl) (by kernel_rfl) hm).trans rfl) (fast_addr5 W _ _ (.tmp 1) w.heap.size (by kernel_rfl) (eval_tmp 1 _ h1)) ?_
  refine fast_val 70 (.int .i64 f) (by kernel_rfl) ((wanted_of 65 68 true true (by kernel_rfl) (by kernel_rfl) (gn rfl hm)).trans rfl) (fast_load W _ _ (.tmp 69) w.heap.size 5 f q5 (by kernel_rfl) (eval_tmp 69 _ (ge hlen rfl))) ?_
  refine fast_val 71 (.bool true) (by kernel_rfl) ((wanted_of 65 68 true true (by kernel_rfl) (by kernel_rfl) (gn rfl (gn rfl hm))).trans rfl) (fast_leq W _ _ (.tmp 70) (.const (.int .i64 16)) f 16 true (decide_eq_true (by omega)) (by kernel_rfl) (eval_tmp 70 _ (ge (ls hlen) rfl)) (by kernel_rfl)) ?_
  refine fast_val 72 (.bool true) (by kernel_rfl) (by kernel_rfl) (fast_pick W _ _ (.tmp 68) (.tmp 71) (.const (.bool false)) true (.bool true) (by kernel_rfl) (eval_tmp 68 _ (gn rfl (gn rfl (gn rfl hm)))) (eval_tmp 71 _ (ge (ls (ls hlen)) rfl))) ?_
  refine fast_val 73 (.bool true) (by kernel_rfl) (by kernel_rfl) (fast_move W _ _ (.tmp 72) (.bool true) (by kernel_rfl) (eval_tmp 72 _ (ge (ls (ls (ls hlen))) rfl))) ?_
  refine limb_end (.pointer (some ⟨w.heap.size, 0, none⟩)) (.bool true) 73 (gn rfl (gn rfl (gn rfl (gn rfl (gn rfl h1))))) (ge (ls (ls (ls (ls hlen)))) rfl) (ls (ls (ls (ls (ls hlen))))) ?_
  clear h1 hm hn hlen
  intro l hlen h1 hm
  have hn := h1
  refine fast_val 74 (.pointer (some ⟨w.heap.size, 6, none⟩)) (by kernel_rfl) ((wanted_of 70 73 true true (by kernel_rfl) (by kernel_rfl) hm).trans rfl) (fast_addr6 W _ _ (.tmp 1) w.heap.size (by kernel_rfl) (eval_tmp 1 _ h1)) ?_
  refine fast_val 75 (.int .i64 g) (by kernel_rfl) ((wanted_of 70 73 true true (by kernel_rfl) (by kernel_rfl) (gn rfl hm)).trans rfl) (fast_load W _ _ (.tmp 74) w.heap.size 6 g q6 (by kernel_rfl) (eval_tmp 74 _ (ge hlen rfl))) ?_
  refine fast_val 76 (.bool true) (by kernel_rfl) ((wanted_of 70 73 true true (by kernel_rfl) (by kernel_rfl) (gn rfl (gn rfl hm))).trans rfl) (fast_geq W _ _ (.tmp 75) (.const (.int .i64 1)) g 1 true (decide_eq_true (by omega)) (by kernel_rfl) (eval_tmp 75 _ (ge (ls hlen) rfl)) (by kernel_rfl)) ?_
  refine fast_val 77 (.bool true) (by kernel_rfl) (by kernel_rfl) (fast_pick W _ _ (.tmp 73) (.tmp 76) (.const (.bool false)) true (.bool true) (by kernel_rfl) (eval_tmp 73 _ (gn rfl (gn rfl (gn rfl hm)))) (eval_tmp 76 _ (ge (ls (ls hlen)) rfl))) ?_
  refine fast_val 78 (.bool true) (by kernel_rfl) (by kernel_rfl) (fast_move W _ _ (.tmp 77) (.bool true) (by kernel_rfl) (eval_tmp 77 _ (ge (ls (ls (ls hlen))) rfl))) ?_
  refine limb_end (.pointer (some ⟨w.heap.size, 0, none⟩)) (.bool true) 78 (gn rfl (gn rfl (gn rfl (gn rfl (gn rfl h1))))) (ge (ls (ls (ls (ls hlen)))) rfl) (ls (ls (ls (ls (ls hlen))))) ?_
  clear h1 hm hn hlen
  intro l hlen h1 hm
  have hn := h1
  refine fast_val 79 (.pointer (some ⟨w.heap.size, 6, none⟩)) (by kernel_rfl) ((wanted_of 75 78 true true (by kernel_rfl) (by kernel_rfl) hm).trans rfl) (fast_addr6 W _ _ (.tmp 1) w.heap.size (by kernel_rfl) (eval_tmp 1 _ h1)) ?_
  refine fast_val 80 (.int .i64 g) (by kernel_rfl) ((wanted_of 75 78 true true (by kernel_rfl) (by kernel_rfl) (gn rfl hm)).trans rfl) (fast_load W _ _ (.tmp 79) w.heap.size 6 g q6 (by kernel_rfl) (eval_tmp 79 _ (ge hlen rfl))) ?_
  refine fast_val 81 (.bool false) (by kernel_rfl) ((wanted_of 75 78 true true (by kernel_rfl) (by kernel_rfl) (gn rfl (gn rfl hm))).trans rfl) (fast_leq W _ _ (.tmp 80) (.const (.int .i64 16)) g 16 false (decide_eq_false (by omega)) (by kernel_rfl) (eval_tmp 80 _ (ge (ls hlen) rfl)) (by kernel_rfl)) ?_
  refine fast_val 82 (.bool false) (by kernel_rfl) (by kernel_rfl) (fast_pick W _ _ (.tmp 78) (.tmp 81) (.const (.bool false)) true (.bool false) (by kernel_rfl) (eval_tmp 78 _ (gn rfl (gn rfl (gn rfl hm)))) (eval_tmp 81 _ (ge (ls (ls hlen)) rfl))) ?_
  refine fast_val 2 (.bool false) (by kernel_rfl) (by kernel_rfl) (fast_assign W _ _ (.tmp 82) (.bool false) (by kernel_rfl) (eval_tmp 82 _ (ge (ls (ls (ls hlen))) rfl))) ?_
  refine wpList_nil ?_
  refine hK _ _ (wp_ret (bodyPost_ret (v := .bool false) (by simp [results, Try.results30, go_sem, List.getElem?_set, hlen]) rfl ⟨rfl, HB.out⟩))
set_option linter.unusedSimpArgs false in
set_option maxRecDepth 10000 in
set_option maxHeartbeats 4000000 in
theorem goodr_d8n10 (a b c e f g : Int) (w : World) (k0 : 1 ≤ a) (k1 : a ≤ 8) (k2 : 2 ≤ b) (k3 : b ≤ 64) (k4 : 1 ≤ c) (k5 : c < b) (k7 : 1 ≤ e) (k8 : e ≤ 8) (k9 : 1 ≤ f) (k10 : ¬ f ≤ 16) : Calls Try.prog 30 #[.agg #[.int .i64 a, .int .i64 b, .int .i64 c, .int .i64 8, .int .i64 e, .int .i64 f, .int .i64 g]] w fun E w' => E = .returned (.bool false) ∧ Below w.heap.size w w' := by
  go_enter Try.func30, Try.ntmps30
  go_upto_region 1 with fail
  rename_i hK
  obtain ⟨W, hW⟩ : ∃ W, w.alloc (.cells #[.int .i64 a, .int .i64 b, .int .i64 c, .int .i64 8, .int .i64 e, .int .i64 f, .int .i64 g] 23) = W := ⟨_, rfl⟩
  rw [hW]
  have hrow : W.heap[w.heap.size]? = some (.cells #[.int .i64 a, .int .i64 b, .int .i64 c, .int .i64 8, .int .i64 e, .int .i64 f, .int .i64 g] 23 (0, 0)) := by rw [← hW]; exact heap_alloc_new w _
  have q0 : W.cell? ⟨w.heap.size, 0, none⟩ = some (.int .i64 a) := by rw [cell_of_row _ _ _ _ 23 (0, 0) hrow]; rfl
  have q1 : W.cell? ⟨w.heap.size, 1, none⟩ = some (.int .i64 b) := by rw [cell_of_row _ _ _ _ 23 (0, 0) hrow]; rfl
  have q2 : W.cell? ⟨w.heap.size, 2, none⟩ = some (.int .i64 c) := by rw [cell_of_row _ _ _ _ 23 (0, 0) hrow]; rfl
  have q3 : W.cell? ⟨w.heap.size, 3, none⟩ = some (.int .i64 8) := by rw [cell_of_row _ _ _ _ 23 (0, 0) hrow]; rfl
  have q4 : W.cell? ⟨w.heap.size, 4, none⟩ = some (.int .i64 e) := by rw [cell_of_row _ _ _ _ 23 (0, 0) hrow]; rfl
  have q5 : W.cell? ⟨w.heap.size, 5, none⟩ = some (.int .i64 f) := by rw [cell_of_row _ _ _ _ 23 (0, 0) hrow]; rfl
  have q6 : W.cell? ⟨w.heap.size, 6, none⟩ = some (.int .i64 g) := by rw [cell_of_row _ _ _ _ 23 (0, 0) hrow]; rfl
  have hB : Below w.heap.size w W := by rw [← hW]; exact (Below.refl _ _).alloc (Nat.le_refl _) _
  have HB := Lib.hid hB
  clear hrow hW hB
  refine wp_region_lit ?_
  refine limb_end (.pointer (some ⟨w.heap.size, 0, none⟩)) (.pointer (some ⟨w.heap.size, 0, none⟩)) 1 rfl rfl rfl ?_
  intro l hlen h1 hm
  have hn := h1
  refine fast_val 3 (.pointer (some ⟨w.heap.size, 0, none⟩)) (by kernel_rfl) (by kernel_rfl) (fast_addr0 W _ _ (.tmp 1) w.heap.size (by kernel_rfl) (eval_tmp 1 _ h1)) ?_
  refine fast_val 4 (.int .i64 a) (by kernel_rfl) (by kernel_rfl) (fast_load W _ _ (.tmp 3) w.heap.size 0 a q0 (by kernel_rfl) (eval_tmp 3 _ (ge hlen rfl))) ?_
  refine fast_val 5 (.bool true) (by kernel_rfl) (by kernel_rfl) (fast_geq W _ _ (.tmp 4) (.const (.int .i64 1)) a 1 true (decide_eq_true (by omega)) (by kernel_rfl) (eval_tmp 4 _ (ge (ls hlen) rfl)) (by kernel_rfl)) ?_
  refine fast_val 6 (.bool true) (by kernel_rfl) (by kernel_rfl) (fast_move W _ _ (.tmp 5) (.bool true) (by kernel_rfl) (eval_tmp 5 _ (ge (ls (ls hlen)) rfl))) ?_
  refine limb_end (.pointer (some ⟨w.heap.size, 0, none⟩)) (.bool true) 6 (gn rfl (gn rfl (gn rfl (gn rfl h1)))) (ge (ls (ls (ls hlen))) rfl) (ls (ls (ls (ls hlen)))) ?_
  clear h1 hm hn hlen
  intro l hlen h1 hm
  have hn := h1
  refine fast_val 7 (.pointer (some ⟨w.heap.size, 0, none⟩)) (by kernel_rfl) ((wanted_of 3 6 true true (by kernel_rfl) (by kernel_rfl) hm).trans rfl) (fast_addr0 W _ _ (.tmp 1) w.heap.size (by kernel_rfl) (eval_tmp 1 _ h1)) ?_
  refine fast_val 8 (.int .i64 a) (by kernel_rfl) ((wanted_of 3 6 true true (by kernel_rfl) (by kernel_rfl) (gn rfl hm)).trans rfl) (fast_load W _ _ (.tmp 7) w.heap.size 0 a q0 (by kernel_rfl) (eval_tmp 7 _ (ge hlen rfl))) ?_
  refine fast_val 9 (.bool true) (by kernel_rfl) ((wanted_of 3 6 true true (by kernel_rfl) (by kernel_rfl) (gn rfl (gn rfl hm))).trans rfl) (fast_leq W _ _ (.tmp 8) (.const (.int .i64 8)) a 8 true (decide_eq_true (by omega)) (by kernel_rfl) (eval_tmp 8 _ (ge (ls hlen) rfl)) (by kernel_rfl)) ?_
  refine fast_val 10 (.bool true) (by kernel_rfl) (by kernel_rfl) (fast_pick W _ _ (.tmp 6) (.tmp 9) (.const (.bool false)) true (.bool true) (by kernel_rfl) (eval_tmp 6 _ (gn rfl (gn rfl (gn rfl hm)))) (eval_tmp 9 _ (ge (ls (ls hlen)) rfl))) ?_
  refine fast_val 11 (.bool true) (by kernel_rfl) (by kernel_rfl) (fast_move W _ _ (.tmp 10) (.bool true) (by kernel_rfl) (eval_tmp 10 _ (ge (ls (ls (ls hlen))) rfl))) ?_
  refine limb_end (.pointer (some ⟨w.heap.size, 0, none⟩)) (.bool true) 11 (gn rfl (gn rfl (gn rfl (gn rfl (gn rfl h1))))) (ge (ls (ls (ls (ls hlen)))) rfl) (ls (ls (ls (ls (ls hlen))))) ?_
  clear h1 hm hn hlen
  intro l hlen h1 hm
  have hn := h1
  refine fast_val 12 (.pointer (some ⟨w.heap.size, 1, none⟩)) (by kernel_rfl) ((wanted_of 8 11 true true (by kernel_rfl) (by kernel_rfl) hm).trans rfl) (fast_addr1 W _ _ (.tmp 1) w.heap.size (by kernel_rfl) (eval_tmp 1 _ h1)) ?_
  refine fast_val 13 (.int .i64 b) (by kernel_rfl) ((wanted_of 8 11 true true (by kernel_rfl) (by kernel_rfl) (gn rfl hm)).trans rfl) (fast_load W _ _ (.tmp 12) w.heap.size 1 b q1 (by kernel_rfl) (eval_tmp 12 _ (ge hlen rfl))) ?_
  refine fast_val 14 (.bool true) (by kernel_rfl) ((wanted_of 8 11 true true (by kernel_rfl) (by kernel_rfl) (gn rfl (gn rfl hm))).trans rfl) (fast_geq W _ _ (.tmp 13) (.const (.int .i64 2)) b 2 true (decide_eq_true (by omega)) (by kernel_rfl) (eval_tmp 13 _ (ge (ls hlen) rfl)) (by kernel_rfl)) ?_
  refine fast_val 15 (.bool true) (by kernel_rfl) (by kernel_rfl) (fast_pick W _ _ (.tmp 11) (.tmp 14) (.const (.bool false)) true (.bool true) (by kernel_rfl) (eval_tmp 11 _ (gn rfl (gn rfl (gn rfl hm)))) (eval_tmp 14 _ (ge (ls (ls hlen)) rfl))) ?_
  refine fast_val 16 (.bool true) (by kernel_rfl) (by kernel_rfl) (fast_move W _ _ (.tmp 15) (.bool true) (by kernel_rfl) (eval_tmp 15 _ (ge (ls (ls (ls hlen))) rfl))) ?_
  refine limb_end (.pointer (some ⟨w.heap.size, 0, none⟩)) (.bool true) 16 (gn rfl (gn rfl (gn rfl (gn rfl (gn rfl h1))))) (ge (ls (ls (ls (ls hlen)))) rfl) (ls (ls (ls (ls (ls hlen))))) ?_
  clear h1 hm hn hlen
  intro l hlen h1 hm
  have hn := h1
  refine fast_val 17 (.pointer (some ⟨w.heap.size, 1, none⟩)) (by kernel_rfl) ((wanted_of 13 16 true true (by kernel_rfl) (by kernel_rfl) hm).trans rfl) (fast_addr1 W _ _ (.tmp 1) w.heap.size (by kernel_rfl) (eval_tmp 1 _ h1)) ?_
  refine fast_val 18 (.int .i64 b) (by kernel_rfl) ((wanted_of 13 16 true true (by kernel_rfl) (by kernel_rfl) (gn rfl hm)).trans rfl) (fast_load W _ _ (.tmp 17) w.heap.size 1 b q1 (by kernel_rfl) (eval_tmp 17 _ (ge hlen rfl))) ?_
  refine fast_val 19 (.bool true) (by kernel_rfl) ((wanted_of 13 16 true true (by kernel_rfl) (by kernel_rfl) (gn rfl (gn rfl hm))).trans rfl) (fast_leq W _ _ (.tmp 18) (.const (.int .i64 64)) b 64 true (decide_eq_true (by omega)) (by kernel_rfl) (eval_tmp 18 _ (ge (ls hlen) rfl)) (by kernel_rfl)) ?_
  refine fast_val 20 (.bool true) (by kernel_rfl) (by kernel_rfl) (fast_pick W _ _ (.tmp 16) (.tmp 19) (.const (.bool false)) true (.bool true) (by kernel_rfl) (eval_tmp 16 _ (gn rfl (gn rfl (gn rfl hm)))) (eval_tmp 19 _ (ge (ls (ls hlen)) rfl))) ?_
  refine fast_val 21 (.bool true) (by kernel_rfl) (by kernel_rfl) (fast_move W _ _ (.tmp 20) (.bool true) (by kernel_rfl) (eval_tmp 20 _ (ge (ls (ls (ls hlen))) rfl))) ?_
  refine limb_end (.pointer (some ⟨w.heap.size, 0, none⟩)) (.bool true) 21 (gn rfl (gn rfl (gn rfl (gn rfl (gn rfl h1))))) (ge (ls (ls (ls (ls hlen)))) rfl) (ls (ls (ls (ls (ls hlen))))) ?_
  clear h1 hm hn hlen
  intro l hlen h1 hm
  have hn := h1
  refine fast_val 22 (.pointer (some ⟨w.heap.size, 2, none⟩)) (by kernel_rfl) ((wanted_of 18 21 true true (by kernel_rfl) (by kernel_rfl) hm).trans rfl) (fast_addr2 W _ _ (.tmp 1) w.heap.size (by kernel_rfl) (eval_tmp 1 _ h1)) ?_
  refine fast_val 23 (.int .i64 c) (by kernel_rfl) ((wanted_of 18 21 true true (by kernel_rfl) (by kernel_rfl) (gn rfl hm)).trans rfl) (fast_load W _ _ (.tmp 22) w.heap.size 2 c q2 (by kernel_rfl) (eval_tmp 22 _ (ge hlen rfl))) ?_
  refine fast_val 24 (.bool true) (by kernel_rfl) ((wanted_of 18 21 true true (by kernel_rfl) (by kernel_rfl) (gn rfl (gn rfl hm))).trans rfl) (fast_geq W _ _ (.tmp 23) (.const (.int .i64 1)) c 1 true (decide_eq_true (by omega)) (by kernel_rfl) (eval_tmp 23 _ (ge (ls hlen) rfl)) (by kernel_rfl)) ?_
  refine fast_val 25 (.bool true) (by kernel_rfl) (by kernel_rfl) (fast_pick W _ _ (.tmp 21) (.tmp 24) (.const (.bool false)) true (.bool true) (by kernel_rfl) (eval_tmp 21 _ (gn rfl (gn rfl (gn rfl hm)))) (eval_tmp 24 _ (ge (ls (ls hlen)) rfl))) ?_
  refine fast_val 26 (.bool true) (by kernel_rfl) (by kernel_rfl) (fast_move W _ _ (.tmp 25) (.bool true) (by kernel_rfl) (eval_tmp 25 _ (ge (ls (ls (ls hlen))) rfl))) ?_
  refine limb_end (.pointer (some ⟨w.heap.size, 0, none⟩)) (.bool true) 26 (gn rfl (gn rfl (gn rfl (gn rfl (gn rfl h1))))) (ge (ls (ls (ls (ls hlen)))) rfl) (ls (ls (ls (ls (ls hlen))))) ?_
  clear h1 hm hn hlen
  intro l hlen h1 hm
  have hn := h1
  refine fast_val 27 (.pointer (some ⟨w.heap.size, 2, none⟩)) (by kernel_rfl) ((wanted_of 23 26 true true (by kernel_rfl) (by kernel_rfl) hm).trans rfl) (fast_addr2 W _ _ (.tmp 1) w.heap.size (by kernel_rfl) (eval_tmp 1 _ h1)) ?_
  refine fast_val 28 (.int .i64 c) (by kernel_rfl) ((wanted_of 23 26 true true (by kernel_rfl) (by kernel_rfl) (gn rfl hm)).trans rfl) (fast_load W _ _ (.tmp 27) w.heap.size 2 c q2 (by kernel_rfl) (eval_tmp 27 _ (ge hlen rfl))) ?_
  refine fast_val 29 (.pointer (some ⟨w.heap.size, 1, none⟩)) (by kernel_rfl) ((wanted_of 23 26 true true (by kernel_rfl) (by kernel_rfl) (gn rfl (gn rfl hm))).trans rfl) (fast_addr1 W _ _ (.tmp 1) w.heap.size (by kernel_rfl) (eval_tmp 1 _ (gn rfl (gn rfl h1)))) ?_
  refine fast_val 30 (.int .i64 b) (by kernel_rfl) ((wanted_of 23 26 true true (by kernel_rfl) (by kernel_rfl) (gn rfl (gn rfl (gn rfl hm)))).trans rfl) (fast_load W _ _ (.tmp 29) w.heap.size 1 b q1 (by kernel_rfl) (eval_tmp 29 _ (ge (ls (ls hlen)) rfl))) ?_
  refine fast_val 31 (.bool true) (by kernel_rfl) ((wanted_of 23 26 true true (by kernel_rfl) (by kernel_rfl) (gn rfl (gn rfl (gn rfl (gn rfl hm))))).trans rfl) (fast_lss W _ _ (.tmp 28) (.tmp 30) c b true (decide_eq_true (by omega)) (by kernel_rfl) (eval_tmp 28 _ (gn rfl (gn rfl (ge (ls hlen) rfl)))) (eval_tmp 30 _ (ge (ls (ls (ls hlen))) rfl))) ?_
  refine fast_val 32 (.bool true) (by kernel_rfl) (by kernel_rfl) (fast_pick W _ _ (.tmp 26) (.tmp 31) (.const (.bool false)) true (.bool true) (by kernel_rfl) (eval_tmp 26 _ (gn rfl (gn rfl (gn rfl (gn rfl (gn rfl hm)))))) (eval_tmp 31 _ (ge (ls (ls (ls (ls hlen)))) rfl))) ?_
  refine fast_val 33 (.bool true) (by kernel_rfl) (by kernel_rfl) (fast_move W _ _ (.tmp 32) (.bool true) (by kernel_rfl) (eval_tmp 32 _ (ge (ls (ls (ls (ls (ls hlen))))) rfl))) ?_
  refine limb_end (.pointer (some ⟨w.heap.size, 0, none⟩)) (.bool true) 33 (gn rfl (gn rfl (gn rfl (gn rfl (gn rfl (gn rfl (gn rfl h1))))))) (ge (ls (ls (ls (ls (ls (ls hlen)))))) rfl) (ls (ls (ls (ls (ls (ls (ls hlen))))))) ?_
  clear h1 hm hn hlen
  intro l hlen h1 hm
  have hn := h1
  refine fast_val 34 (.pointer (some ⟨w.heap.size, 3, none⟩)) (by kernel_rfl) ((wanted_of 30 33 true true (by kernel_rfl) (by kernel_rfl) hm).trans rfl) (fast_addr3 W _ _ (.tmp 1) w.heap.size (by kernel_rfl) (eval_tmp 1 _ h1)) ?_
  refine fast_val 35 (.int .i64 8) (by kernel_rfl) ((wanted_of 30 33 true true (by kernel_rfl) (by kernel_rfl) (gn rfl hm)).trans rfl) (fast_load W _ _ (.tmp 34) w.heap.size 3 8 q3 (by kernel_rfl) (eval_tmp 34 _ (ge hlen rfl))) ?_
  refine fast_val 36 (.bool false) (by kernel_rfl) ((wanted_of 30 33 true true (by kernel_rfl) (by kernel_rfl) (gn rfl (gn rfl hm))).trans rfl) (fast_eql W _ _ (.tmp 35) (.const (.int .i64 1)) 8 1 false (beq_eq_false_iff_ne.2 (by omega)) (by kernel_rfl) (eval_tmp 35 _ (ge (ls hlen) rfl)) (by kernel_rfl)) ?_
  refine fast_val 37 (.bool false) (by kernel_rfl) ((wanted_of 30 33 true true (by kernel_rfl) (by kernel_rfl) (gn rfl (gn rfl (gn rfl hm)))).trans rfl) (fast_move W _ _ (.tmp 36) (.bool false) (by kernel_rfl) (eval_tmp 36 _ (ge (ls (ls hlen)) rfl))) ?_
  refine limb_two (.pointer (some ⟨w.heap.size, 0, none⟩)) (.bool true) (.bool false) 33 37 (gn rfl (gn rfl (gn rfl (gn rfl h1)))) (gn rfl (gn rfl (gn rfl (gn rfl hm)))) (ge (ls (ls (ls hlen))) rfl) (ls (ls (ls (ls hlen)))) ?_
  clear h1 hm hn hlen
  intro l hlen h1 hm hn
  refine fast_val 38 (.pointer (some ⟨w.heap.size, 3, none⟩)) (by kernel_rfl) ((wanted_of 34 37 false false (by kernel_rfl) (by kernel_rfl) hn).trans rfl) (fast_addr3 W _ _ (.tmp 1) w.heap.size (by kernel_rfl) (eval_tmp 1 _ h1)) ?_
  refine fast_val 39 (.int .i64 8) (by kernel_rfl) ((wanted_of 34 37 false false (by kernel_rfl) (by kernel_rfl) (gn rfl hn)).trans rfl) (fast_load W _ _ (.tmp 38) w.heap.size 3 8 q3 (by kernel_rfl) (eval_tmp 38 _ (ge hlen rfl))) ?_
  refine fast_val 40 (.bool false) (by kernel_rfl) ((wanted_of 34 37 false false (by kernel_rfl) (by kernel_rfl) (gn rfl (gn rfl hn))).trans rfl) (fast_eql W _ _ (.tmp 39) (.const (.int .i64 2)) 8 2 false (beq_eq_false_iff_ne.2 (by omega)) (by kernel_rfl) (eval_tmp 39 _ (ge (ls hlen) rfl)) (by kernel_rfl)) ?_
  refine fast_val 41 (.bool false) (by kernel_rfl) ((wanted_of 30 33 true true (by kernel_rfl) (by kernel_rfl) (gn rfl (gn rfl (gn rfl hm)))).trans rfl) (fast_pick W _ _ (.tmp 37) (.const (.bool true)) (.tmp 40) false (.bool false) (by kernel_rfl) (eval_tmp 37 _ (gn rfl (gn rfl (gn rfl hn)))) (eval_tmp 40 _ (ge (ls (ls hlen)) rfl))) ?_
  refine fast_val 42 (.bool false) (by kernel_rfl) ((wanted_of 30 33 true true (by kernel_rfl) (by kernel_rfl) (gn rfl (gn rfl (gn rfl (gn rfl hm))))).trans rfl) (fast_move W _ _ (.tmp 41) (.bool false) (by kernel_rfl) (eval_tmp 41 _ (ge (ls (ls (ls hlen))) rfl))) ?_
  refine limb_two (.pointer (some ⟨w.heap.size, 0, none⟩)) (.bool true) (.bool false) 33 42 (gn rfl (gn rfl (gn rfl (gn rfl (gn rfl h1))))) (gn rfl (gn rfl (gn rfl (gn rfl (gn rfl hm))))) (ge (ls (ls (ls (ls hlen)))) rfl) (ls (ls (ls (ls (ls hlen))))) ?_
  clear h1 hm hn hlen
  intro l hlen h1 hm hn
  refine fast_val 43 (.pointer (some ⟨w.heap.size, 3, none⟩)) (by kernel_rfl) ((wanted_of 39 42 false false (by kernel_rfl) (by kernel_rfl) hn).trans rfl) (fast_addr3 W _ _ (.tmp 1) w.heap.size (by kernel_rfl) (eval_tmp 1 _ h1)) ?_
  refine fast_val 44 (.int .i64 8) (by kernel_rfl) ((wanted_of 39 42 false false (by kernel_rfl) (by kernel_rfl) (gn rfl hn)).trans rfl) (fast_load W _ _ (.tmp 43) w.heap.size 3 8 q3 (by kernel_rfl) (eval_tmp 43 _ (ge hlen rfl))) ?_
  refine fast_val 45 (.bool false) (by kernel_rfl) ((wanted_of 39 42 false false (by kernel_rfl) (by kernel_rfl) (gn rfl (gn rfl hn))).trans rfl) (fast_eql W _ _ (.tmp 44) (.const (.int .i64 4)) 8 4 false (beq_eq_false_iff_ne.2 (by omega)) (by kernel_rfl) (eval_tmp 44 _ (ge (ls hlen) rfl)) (by kernel_rfl)) ?_
  refine fast_val 46 (.bool false) (by kernel_rfl) ((wanted_of 30 33 true true (by kernel_rfl) (by kernel_rfl) (gn rfl (gn rfl (gn rfl hm)))).trans rfl) (fast_pick W _ _ (.tmp 42) (.const (.bool true)) (.tmp 45) false (.bool false) (by kernel_rfl) (eval_tmp 42 _ (gn rfl (gn rfl (gn rfl hn)))) (eval_tmp 45 _ (ge (ls (ls hlen)) rfl))) ?_
  refine fast_val 47 (.bool false) (by kernel_rfl) ((wanted_of 30 33 true true (by kernel_rfl) (by kernel_rfl) (gn rfl (gn rfl (gn rfl (gn rfl hm))))).trans rfl) (fast_move W _ _ (.tmp 46) (.bool false) (by kernel_rfl) (eval_tmp 46 _ (ge (ls (ls (ls hlen))) rfl))) ?_
  refine limb_two (.pointer (some ⟨w.heap.size, 0, none⟩)) (.bool true) (.bool false) 33 47 (gn rfl (gn rfl (gn rfl (gn rfl (gn rfl h1))))) (gn rfl (gn rfl (gn rfl (gn rfl (gn rfl hm))))) (ge (ls (ls (ls (ls hlen)))) rfl) (ls (ls (ls (ls (ls hlen))))) ?_
  clear h1 hm hn hlen
  intro l hlen h1 hm hn
  refine fast_val 48 (.pointer (some ⟨w.heap.size, 3, none⟩)) (by kernel_rfl) ((wanted_of 44 47 false false (by kernel_rfl) (by kernel_rfl) hn).trans rfl) (fast_addr3 W _ _ (.tmp 1) w.heap.size (by kernel_rfl) (eval_tmp 1 _ h1)) ?_
  refine fast_val 49 (.int .i64 8) (by kernel_rfl) ((wanted_of 44 47 false false (by kernel_rfl) (by kernel_rfl) (gn rfl hn)).trans rfl) (fast_load W _ _ (.tmp 48) w.heap.size 3 8 q3 (by kernel_rfl) (eval_tmp 48 _ (ge hlen rfl))) ?_
  refine fast_val 50 (.bool true) (by kernel_rfl) ((wanted_of 44 47 false false (by kernel_rfl) (by kernel_rfl) (gn rfl (gn rfl hn))).trans rfl) (fast_eql W _ _ (.tmp 49) (.const (.int .i64 8)) 8 8 true (beq_iff_eq.2 (by omega)) (by kernel_rfl) (eval_tmp 49 _ (ge (ls hlen) rfl)) (by kernel_rfl)) ?_
  refine fast_val 51 (.bool true) (by kernel_rfl) ((wanted_of 30 33 true true (by kernel_rfl) (by kernel_rfl) (gn rfl (gn rfl (gn rfl hm)))).trans rfl) (fast_pick W _ _ (.tmp 47) (.const (.bool true)) (.tmp 50) false (.bool true) (by kernel_rfl) (eval_tmp 47 _ (gn rfl (gn rfl (gn rfl hn)))) (eval_tmp 50 _ (ge (ls (ls hlen)) rfl))) ?_
  refine fast_val 52 (.bool true) (by kernel_rfl) (by kernel_rfl) (fast_pick W _ _ (.tmp 33) (.tmp 51) (.const (.bool false)) true (.bool true) (by kernel_rfl) (eval_tmp 33 _ (gn rfl (gn rfl (gn rfl (gn rfl hm))))) (eval_tmp 51 _ (ge (ls (ls (ls hlen))) rfl))) ?_
  refine fast_val 53 (.bool true) (by kernel_rfl) (by kernel_rfl) (fast_move W _ _ (.tmp 52) (.bool true) (by kernel_rfl) (eval_tmp 52 _ (ge (ls (ls (ls (ls hlen)))) rfl))) ?_
  refine limb_end (.pointer (some ⟨w.heap.size, 0, none⟩)) (.bool true) 53 (gn rfl (gn rfl (gn rfl (gn rfl (gn rfl (gn rfl h1)))))) (ge (ls (ls (ls (ls (ls hlen))))) rfl) (ls (ls (ls (ls (ls (ls hlen)))))) ?_
  clear h1 hm hn hlen
  intro l hlen h1 hm
  have hn := h1
  refine fast_val 54 (.pointer (some ⟨w.heap.size, 4, none⟩)) (by kernel_rfl) ((wanted_of 50 53 true true (by kernel_rfl) (by kernel_rfl) hm).trans rfl) (fast_addr4 W _ _ (.tmp 1) w.heap.size (by kernel_rfl) (eval_tmp 1 _ h1)) ?_
  refine fast_val 55 (.int .i64 e) (by kernel_rfl) ((wanted_of 50 53 true true (by kernel_rfl) (by kernel_rfl) (gn rfl hm)).trans rfl) (fast_load W _ _ (.tmp 54) w.heap.size 4 e q4 (by kernel_rfl) (eval_tmp 54 _ (ge hlen rfl))) ?_
  refine fast_val 56 (.bool true) (by kernel_rfl) ((wanted_of 50 53 true true (by kernel_rfl) (by kernel_rfl) (gn rfl (gn rfl hm))).trans rfl) (fast_geq W _ _ (.tmp 55) (.const (.int .i64 1)) e 1 true (decide_eq_true (by omega)) (by kernel_rfl) (eval_tmp 55 _ (ge (ls hlen) rfl)) (by kernel_rfl)) ?_
  refine fast_val 57 (.bool true) (by kernel_rfl) (by kernel_rfl) (fast_pick W _ _ (.tmp 53) (.tmp 56) (.const (.bool false)) true (.bool true) (by kernel_rfl) (eval_tmp 53 _ (gn rfl (gn rfl (gn rfl hm)))) (eval_tmp 56 _ (ge (ls (ls hlen)) rfl))) ?_
  refine fast_val 58 (.bool true) (by kernel_rfl) (by kernel_rfl) (fast_move W _ _ (.tmp 57) (.bool true) (by kernel_rfl) (eval_tmp 57 _ (ge (ls (ls (ls hlen))) rfl))) ?_
  refine limb_end (.pointer (some ⟨w.heap.size, 0, none⟩)) (.bool true) 58 (gn rfl (gn rfl (gn rfl (gn rfl (gn rfl h1))))) (ge (ls (ls (ls (ls hlen)))) rfl) (ls (ls (ls (ls (ls hlen))))) ?_
  clear h1 hm hn hlen
  intro l hlen h1 hm
  have hn := h1
  refine fast_val 59 (.pointer (some ⟨w.heap.size, 4, none⟩)) (by kernel_rfl) ((wanted_of 55 58 true true (by kernel_rfl) (by kernel_rfl) hm).trans rfl) (fast_addr4 W _ _ (.tmp 1) w.heap.size (by kernel_rfl) (eval_tmp 1 _ h1)) ?_
  refine fast_val 60 (.int .i64 e) (by kernel_rfl) ((wanted_of 55 58 true true (by kernel_rfl) (by kernel_rfl) (gn rfl hm)).trans rfl) (fast_load W _ _ (.tmp 59) w.heap.size 4 e q4 (by kernel_rfl) (eval_tmp 59 _ (ge hlen rfl))) ?_
  refine fast_val 61 (.bool true) (by kernel_rfl) ((wanted_of 55 58 true true (by kernel_rfl) (by kernel_rfl) (gn rfl (gn rfl hm))).trans rfl) (fast_leq W _ _ (.tmp 60) (.const (.int .i64 8)) e 8 true (decide_eq_true (by omega)) (by kernel_rfl) (eval_tmp 60 _ (ge (ls hlen) rfl)) (by kernel_rfl)) ?_
  refine fast_val 62 (.bool true) (by kernel_rfl) (by kernel_rfl) (fast_pick W _ _ (.tmp 58) (.tmp 61) (.const (.bool false)) true (.bool true) (by kernel_rfl) (eval_tmp 58 _ (gn rfl (gn rfl (gn rfl hm)))) (eval_tmp 61 _ (ge (ls (ls hlen)) rfl))) ?_
  refine fast_val 63 (.bool true) (by kernel_rfl) (by kernel_rfl) (fast_move W _ _ (.tmp 62) (.bool true) (by kernel_rfl) (eval_tmp 62 _ (ge (ls (ls (ls hlen))) rfl))) ?_
  refine limb_end (.pointer (some ⟨w.heap.size, 0, none⟩)) (.bool true) 63 (gn rfl (gn rfl (gn rfl (gn rfl (gn rfl h1))))) (ge (ls (ls (ls (ls hlen)))) rfl) (ls (ls (ls (ls (ls hlen))))) ?_
  clear h1 hm hn hlen
  intro l hlen h1 hm
  have hn := h1
  refine fast_val 64 (.pointer (some ⟨w.heap.size, 5, none⟩)) (by kernel_rfl) ((wanted_of 60 63 true true (by kernel_rfl) (by kernel_rfl) hm).trans rfl) (fast_addr5 W _ _ (.tmp 1) w.heap.size (by kernel_rfl) (eval_tmp 1 _ h1)) ?_
  refine fast_val 65 (.int .i64 f) (by kernel_rfl) ((wanted_of 60 63 true true (by kernel_rfl) (by kernel_rfl) (gn rfl hm)).trans rfl) (fast_load W _ _ (.tmp 64) w.heap.size 5 f q5 (by kernel_rfl) (eval_tmp 64 _ (ge hlen rfl))) ?_
  refine fast_val 66 (.bool true) (by kernel_rfl) ((wanted_of 60 63 true true (by kernel_rfl) (by kernel_rfl) (gn rfl (gn rfl hm))).trans rfl) (fast_geq W _ _ (.tmp 65) (.const (.int .i64 1)) f 1 true (decide_eq_true (by omega)) (by kernel_rfl) (eval_tmp 65 _ (ge (ls hlen) rfl)) (by kernel_rfl)) ?_
  refine fast_val 67 (.bool true) (by kernel_rfl) (by kernel_rfl) (fast_pick W _ _ (.tmp 63) (.tmp 66) (.const (.bool false)) true (.bool true) (by kernel_rfl) (eval_tmp 63 _ (gn rfl (gn rfl (gn rfl hm)))) (eval_tmp 66 _ (ge (ls (ls hlen)) rfl))) ?_
  refine fast_val 68 (.bool true) (by kernel_rfl) (by kernel_rfl) (fast_move W _ _ (.tmp 67) (.bool true) (by kernel_rfl) (eval_tmp 67 _ (ge (ls (ls (ls hlen))) rfl))) ?_
  refine limb_end (.pointer (some ⟨w.heap.size, 0, none⟩)) (.bool true) 68 (gn rfl (gn rfl (gn rfl (gn rfl (gn rfl h1))))) (ge (ls (ls (ls (ls hlen)))) rfl) (ls (ls (ls (ls (ls hlen))))) ?_
  clear h1 hm hn hlen
  intro l hlen h1 hm
  have hn := h1
  refine fast_val 69 (.pointer (some ⟨w.heap.size, 5, none⟩)) (by kernel_rfl) ((wanted_of 65 68 true true (by kernel_rfl) (by kernel_rfl) hm).trans rfl) (fast_addr5 W _ _ (.tmp 1) w.heap.size (by kernel_rfl) (eval_tmp 1 _ h1)) ?_
  refine fast_val 70 (.int .i64 f) (by kernel_rfl) ((wanted_of 65 68 true true (by kernel_rfl) (by kernel_rfl) (gn rfl hm)).trans rfl) (fast_load W _ _ (.tmp 69) w.heap.size 5 f q5 (by kernel_rfl) (eval_tmp 69 _ (ge hlen rfl))) ?_
  refine fast_val 71 (.bool false) (by kernel_rfl) ((wanted_of 65 68 true true (by kernel_rfl) (by kernel_rfl) (gn rfl (gn rfl hm))).trans rfl) (fast_leq W _ _ (.tmp 70) (.const (.int .i64 16)) f 16 false (decide_eq_false (by omega)) (by kernel_rfl) (eval_tmp 70 _ (ge (ls hlen) rfl)) (by kernel_rfl)) ?_
  refine fast_val 72 (.bool false) (by kernel_rfl) (by kernel_rfl) (fast_pick W _ _ (.tmp 68) (.tmp 71) (.const (.bool false)) true (.bool false) (by kernel_rfl) (eval_tmp 68 _ (gn rfl (gn rfl (gn rfl hm)))) (eval_tmp 71 _ (ge (ls (ls hlen)) rfl))) ?_
  refine fast_val 73 (.bool false) (by kernel_rfl) (by kernel_rfl) (fast_move W _ _ (.tmp 72) (.bool false) (by kernel_rfl) (eval_tmp 72 _ (ge (ls (ls (ls hlen))) rfl))) ?_
  refine limb_end (.pointer (some ⟨w.heap.size, 0, none⟩)) (.bool false) 73 (gn rfl (gn rfl (gn rfl (gn rfl (gn rfl h1))))) (ge (ls (ls (ls (ls hlen)))) rfl) (ls (ls (ls (ls (ls hlen))))) ?_
  clear h1 hm hn hlen
  intro l hlen h1 hm
  have hn := h1
  refine fast_skip 74 (by kernel_rfl) ((wanted_of 70 73 true false (by kernel_rfl) (by kernel_rfl) hm).trans rfl) ?_
  refine fast_skip 75 (by kernel_rfl) ((wanted_of 70 73 true false (by kernel_rfl) (by kernel_rfl) (gn rfl hm)).trans rfl) ?_
  refine fast_skip 76 (by kernel_rfl) ((wanted_of 70 73 true false (by kernel_rfl) (by kernel_rfl) (gn rfl (gn rfl hm))).trans rfl) ?_
  refine fast_val 77 (.bool false) (by kernel_rfl) (by kernel_rfl) (fast_pick W _ _ (.tmp 73) (.tmp 76) (.const (.bool false)) false (.bool false) (by kernel_rfl) (eval_tmp 73 _ (gn rfl (gn rfl (gn rfl hm)))) (by kernel_rfl)) ?_
  refine fast_val 78 (.bool false) (by kernel_rfl) (by kernel_rfl) (fast_move W _ _ (.tmp 77) (.bool false) (by kernel_rfl) (eval_tmp 77 _ (ge (ls (ls (ls hlen))) rfl))) ?_
  refine limb_end (.pointer (some ⟨w.heap.size, 0, none⟩)) (.bool false) 78 (gn rfl (gn rfl (gn rfl (gn rfl (gn rfl h1))))) (ge (ls (ls (ls (ls hlen)))) rfl) (ls (ls (ls (ls (ls hlen))))) ?_
  clear h1 hm hn hlen
  intro l hlen h1 hm
  have hn := h1
  refine fast_skip 79 (by kernel_rfl) ((wanted_of 75 78 true false (by kernel_rfl) (by kernel_rfl) hm).trans rfl) ?_
  refine fast_skip 80 (by kernel_rfl) ((wanted_of 75 78 true false (by kernel_rfl) (by kernel_rfl) (gn rfl hm)).trans rfl) ?_
  refine fast_skip 81 (by kernel_rfl) ((wanted_of 75 78 true false (by kernel_rfl) (by kernel_rfl) (gn rfl (gn rfl hm))).trans rfl) ?_
  refine fast_val 82 (.bool false) (by kernel_rfl) (by kernel_rfl) (fast_pick W _ _ (.tmp 78) (.tmp 81) (.const (.bool false)) false (.bool false) (by kernel_rfl) (eval_tmp 78 _ (gn rfl (gn rfl (gn rfl hm)))) (by kernel_rfl)) ?_
  refine fast_val 2 (.bool false) (by kernel_rfl) (by kernel_rfl) (fast_assign W _ _ (.tmp 82) (.bool false) (by kernel_rfl) (eval_tmp 82 _ (ge (ls (ls (ls hlen))) rfl))) ?_
  refine wpList_nil ?_
  refine hK _ _ (wp_ret (bodyPost_ret (v := .bool false) (by simp [results, Try.results30, go_sem, List.getElem?_set, hlen]) rfl ⟨rfl, HB.out⟩))
end Go.Proofs.Ytejeghfddnbhaaa
