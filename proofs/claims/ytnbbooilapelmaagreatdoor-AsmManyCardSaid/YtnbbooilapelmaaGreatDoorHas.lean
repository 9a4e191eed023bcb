import Derived.Test.YtnbbooilapelmaaGreatDoorFill
import Derived.Test.YtnbbooilapelmaaGreatDoorKitO
namespace Go.Proofs.YtnbbooilapelmaaGreatDoor
open Go.RowKit Go.Maps
/-- What an operation has. -/
def hasS (op : Int) : ByteArray := if 0 ≤ op ∧ op ≤ 22 then tabS (fun _ => ⟨#[]⟩) op.toNat else ⟨#[]⟩
abbrev tab0 : List Value := [.int .u32 0, .int .i32 0, .int .u32 0] ++ List.replicate 23 (.string ⟨#[]⟩)
theorem new_fz (w : World) (l : Array Value) (t : TypeId) (o : Nat) : (w.alloc (.cells l t)).frozen? ⟨w.heap.size, o, none⟩ = false := by
  have h := heap_alloc_new w (.cells l t)
  simp only [World.frozen?, h]
  simp
theorem new_cell (w : World) (l : List Value) (t : TypeId) (o : Nat) {v : Value} (h : l[o]? = some v) : (w.alloc (.cells l.toArray t)).cell? ⟨w.heap.size, o, none⟩ = some v := by
  rw [cell_of_row _ _ _ _ t (0, 0) (heap_alloc_new w (.cells l.toArray t))]
  simpa using h
theorem tab0_at (i : Nat) (h : i < 23) : tab0[3 + i]? = some (.string ⟨#[]⟩) := by
  rw [List.getElem?_append_right (by simp)]
  show (List.replicate 23 (Value.string ⟨#[]⟩))[3 + i - 3]? = _
  rw [Nat.add_sub_cancel_left, List.getElem?_replicate, if_pos h]
theorem once_out {b : Nat} {W w0 w2 w' : World} {S : Nat → ByteArray} (h0 : Below b W w0) (hR : TabAt (w0.setCell ⟨b, 1, none⟩ (.int .i32 1)) w2 b S) (hO : OnceDone b w2 w') : (∀ k, k < 23 → w'.cell? ⟨b, 3 + k, none⟩ = some (.string (S k))) ∧ Below b W w' := by
  subst hO
  refine ⟨fun k hk => ?_, ?_⟩
  · rw [World.cell?_setCell_other _ ⟨b, 1, none⟩ ⟨b, 3 + k, none⟩ _ (fun e => by injection e with _ e; omega), World.cell?_setCell_other _ ⟨b, 0, none⟩ ⟨b, 3 + k, none⟩ _ (fun e => by injection e with _ e; omega)]
    exact hR.at_ k hk
  · exact ((((h0.setCell (p := ⟨b, 1, none⟩) (Nat.le_refl _) _).trans hR.bel).drew).setCell (p := ⟨b, 0, none⟩) (Nat.le_refl _) _).setCell (p := ⟨b, 1, none⟩) (Nat.le_refl _) _
set_option maxHeartbeats 4000000 in
theorem has_any (op : Int) (W : World) (ho : (Lit.int .i64 op).wf = true) :
    Calls Tryz.prog 28 #[.int .i64 op] W fun e w' => e = .returned (.string (hasS op)) ∧ Below W.heap.size W w' := by
  by_cases h : 0 ≤ op ∧ op ≤ 22
  · obtain ⟨k, rfl⟩ : ∃ k : Nat, op = (k : Int) := ⟨op.toNat, by omega⟩
    have hk0 := h.1
    have hk1 : (k : Int) ≤ 22 := h.2
    have hk2 : (k : Int) < 23 := by omega
    have hS : hasS (k : Int) = tabS (fun _ => ⟨#[]⟩) k := by unfold hasS; rw [if_pos h]; rfl
    rw [hS]
    clear hS
    obtain ⟨b, hb⟩ : ∃ b, W.heap.size = b := ⟨_, rfl⟩
    obtain ⟨w0, hw0⟩ : ∃ w0, W.alloc (.cells tab0.toArray 102) = w0 := ⟨_, rfl⟩
    have B0 : Below b W w0 := by rw [← hw0]; exact (Below.refl _ _).alloc (by omega) _
    have a0 : w0.cell? ⟨b, 0, none⟩ = some (.int .u32 0) := by rw [← hw0, ← hb]; exact new_cell _ _ _ _ rfl
    have a1 : w0.cell? ⟨b, 1, none⟩ = some (.int .i32 0) := by rw [← hw0, ← hb]; exact new_cell _ _ _ _ rfl
    have a3 : ∀ i, i < 23 → w0.cell? ⟨b, 3 + i, none⟩ = some (.string ⟨#[]⟩) := fun i hi => by rw [← hw0, ← hb]; exact new_cell _ _ _ _ (tab0_at i hi)
    have fz : ∀ o, w0.frozen? ⟨b, o, none⟩ = false := fun o => by rw [← hw0, ← hb]; exact new_fz _ _ _ _
    have hT : TabAt (w0.setCell ⟨b, 1, none⟩ (.int .i32 1)) (w0.setCell ⟨b, 1, none⟩ (.int .i32 1)) b (fun _ => ⟨#[]⟩) := by
      have ne : ∀ o, o ≠ 1 → (w0.setCell ⟨b, 1, none⟩ (.int .i32 1)).cell? ⟨b, o, none⟩ = w0.cell? ⟨b, o, none⟩ := fun o ho => World.cell?_setCell_other w0 ⟨b, 1, none⟩ ⟨b, o, none⟩ _ (fun e => ho (by injection e with _ e; exact e.symm))
      exact ⟨(ne 0 (by omega)).trans a0, World.cell?_setCell_same' _ _ _ (by rw [a1]; rfl), fun i hi => (ne _ (by omega)).trans (a3 i hi), fun o => by rw [World.frozen?_setCell]; exact fz o, Below.refl _ _⟩
    have HD := Lib.hid (do_first b #[.pointer (some ⟨b, 0, none⟩)] #[] (fun x y => TabAt x y b (tabS fun _ => ⟨#[]⟩)) w0 a0 a1 fz (fun x hx => by
      subst hx
      refine (fill_any b _ _ hT).mono ?_
      rintro e w2 ⟨rfl, h2⟩
      exact ⟨rfl, h2, h2.c0, h2.c1, h2.fz⟩))
    have HB0 := Lib.hid B0
    have hw1 : W.alloc (.cells #[.int .u32 0, .int .i32 0, .int .u32 0, .string ⟨#[]⟩, .string ⟨#[]⟩, .string ⟨#[]⟩, .string ⟨#[]⟩, .string ⟨#[]⟩, .string ⟨#[]⟩, .string ⟨#[]⟩, .string ⟨#[]⟩, .string ⟨#[]⟩, .string ⟨#[]⟩, .string ⟨#[]⟩, .string ⟨#[]⟩, .string ⟨#[]⟩, .string ⟨#[]⟩, .string ⟨#[]⟩, .string ⟨#[]⟩, .string ⟨#[]⟩, .string ⟨#[]⟩, .string ⟨#[]⟩, .string ⟨#[]⟩, .string ⟨#[]⟩, .string ⟨#[]⟩, .string ⟨#[]⟩] 102) = w0 := hw0
    clear hT a0 a1 a3 fz B0 h hw0
    go_enter Tryz.func28, Tryz.ntmps28
    go_wp2_with (first | (go_at_call 47; refine HD.out.mono ?_; rintro e w' ⟨rfl, w2, hR, hO⟩; obtain ⟨q1, q2⟩ := once_out HB0.out hR hO; have c26 := q1 k (by omega); have HQ := Lib.hid q2; clear hR hO q1 q2) | go_in)
    go_ret
    exact ⟨rfl, by rw [hb]; exact HQ.out⟩
  · have hS : hasS op = ⟨#[]⟩ := if_neg h
    rw [hS]
    clear hS
    by_cases h0 : 0 ≤ op
    · have h1 : (22 : Int) < op := by omega
      have h2 : ¬ op ≤ 22 := by omega
      clear h
      go_enter Tryz.func28, Tryz.ntmps28
      go_wp2
      go_ret
      exact ⟨rfl, Below.refl _ _⟩
    · clear h
      go_enter Tryz.func28, Tryz.ntmps28
      go_wp2
      go_ret
      exact ⟨rfl, Below.refl _ _⟩
end Go.Proofs.YtnbbooilapelmaaGreatDoor
