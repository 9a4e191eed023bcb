/-
  MsgQueues: the argument, opened.
-/
import Derived.Test.YtjkckcmogpipmaaQueues
namespace Go.Proofs.Ytjkckcmogpipmaa
open Go.RowKit
section
variable {H : Type} {enc : TypeId × Value → H}
theorem open_step {W : World} {cs : List Value} (h' : All2 (Rd enc Try.prog W 0 (fun _ => true) true) [3, 3, 3, 4, 4, 22, 22, 22, 22, 22, 22, 22, 22] cs) : ∃ s : St, cs = encSt s ∧ True := by
  obtain ⟨x, _, rfl, r, h'⟩ := h'.cons
  obtain ⟨x0, _, rfl, r0, h'⟩ := h'.cons
  obtain ⟨x1, _, rfl, r1, h'⟩ := h'.cons
  obtain ⟨x2, _, rfl, r2, h'⟩ := h'.cons
  obtain ⟨x3, _, rfl, r3, h'⟩ := h'.cons
  obtain ⟨x4, _, rfl, r4, h'⟩ := h'.cons
  obtain ⟨x5, _, rfl, r5, h'⟩ := h'.cons
  obtain ⟨x6, _, rfl, r6, h'⟩ := h'.cons
  obtain ⟨x7, _, rfl, r7, h'⟩ := h'.cons
  obtain ⟨x8, _, rfl, r8, h'⟩ := h'.cons
  obtain ⟨x9, _, rfl, r9, h'⟩ := h'.cons
  obtain ⟨x10, _, rfl, r10, h'⟩ := h'.cons
  obtain ⟨x11, _, rfl, r11, h'⟩ := h'.cons
  obtain rfl := h'.nil
  obtain ⟨kd, rfl, _⟩ := r.int Try.underlying3
  obtain ⟨k, rfl, _⟩ := r0.int Try.underlying3
  obtain ⟨l, rfl, _⟩ := r1.int Try.underlying3
  obtain ⟨a, rfl⟩ := r2.bool Try.underlying4
  obtain ⟨b, rfl⟩ := r3.bool Try.underlying4
  obtain ⟨d0, rfl, _⟩ := r4.int Try.underlying22
  obtain ⟨d1, rfl, _⟩ := r5.int Try.underlying22
  obtain ⟨d2, rfl, _⟩ := r6.int Try.underlying22
  obtain ⟨d3, rfl, _⟩ := r7.int Try.underlying22
  obtain ⟨d4, rfl, _⟩ := r8.int Try.underlying22
  obtain ⟨d5, rfl, _⟩ := r9.int Try.underlying22
  obtain ⟨d6, rfl, _⟩ := r10.int Try.underlying22
  obtain ⟨d7, rfl, _⟩ := r11.int Try.underlying22
  exact ⟨⟨kd, ⟨k, l, a, b, d0, d1, d2, d3, d4, d5, d6, d7⟩⟩, rfl, trivial⟩
theorem queues_walk {base : Nat} (W : World) (v0 : Value) (a0 : Arg enc Try.prog W base 41 v0) :
    Calls Try.prog 6 #[v0] W fun e w' => e = .returned (.bool true) ∧ Below W.heap.size W w' := by
  obtain ⟨l, _, hr⟩ := Arg.list (m := 10) (ts := [3, 3, 3, 4, 4, 22, 22, 22, 22, 22, 22, 22, 22]) (en := encSt) (ok := fun _ => True) Try.underlying41 (by kernel_rfl) (by kernel_rfl : Try.prog.cellsOf 43 = 13) (by omega) encSt_len (fun cs h => open_step h) a0
  exact queues_law v0 l W hr
end
end Go.Proofs.Ytjkckcmogpipmaa
