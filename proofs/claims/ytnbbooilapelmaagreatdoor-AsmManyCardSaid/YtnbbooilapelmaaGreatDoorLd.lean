import Derived.Test.YtnbbooilapelmaaGreatDoorRows
import Derived.Test.YtnbbooilapelmaaGreatDoorM2
import Derived.WalkKit
import Derived.ProofKit
import Derived.LaidMore
import Derived.Lay
import Derived.OpenShut
import Derived.Stop.Joined
import Derived.Stop.LaidErr
import Derived.Lib.LaidTab
/-
  What the listed variables give: the facts that the symbolic run leans on.
-/
namespace Go.Proofs.YtnbbooilapelmaaGreatDoor
open Go.ChangeShapes Go.WideShapes Go.ChangeAt Go.RowKit
abbrev laid6 : List (String × DataW Unit) := [("math/bits.deBruijn32tab", Rows.laid_math_bits_deBruijn32tab), ("math/bits.deBruijn64tab", Rows.laid_math_bits_deBruijn64tab), ("internal/strconv.uint64pow10", Rows.laid_internal_strconv_uint64pow10), ("unicode/utf8.acceptRanges", Rows.laid_unicode_utf8_acceptRanges), ("strconv.ErrRange", Rows.laid_strconv_ErrRange), ("strconv.ErrSyntax", Rows.laid_strconv_ErrSyntax), ("unicode/utf8.first", Rows.laid_unicode_utf8_first)]
theorem gPow : Tryz.prog.globalNamed "internal/strconv.uint64pow10" = some 0 := by kernel_rfl
theorem gSyn : Tryz.prog.globalNamed "strconv.ErrSyntax" = some 4 := by kernel_rfl
theorem gRng : Tryz.prog.globalNamed "strconv.ErrRange" = some 5 := by kernel_rfl
theorem star : "*" ++ "errors.errorString" = "*errors.errorString" := by decide
theorem row181 (u : TypeId) (h : Tryz.prog.typeName? 3 u = some "*errors.errorString") : u = 181 :=
  typeName_ptr_named (nm := "errors.errorString") (by rw [star]; kernel_rfl) (by kernel_rfl) (by decide) u (by rw [star]; exact h)
theorem blk_of_var {W : World} {n : String} {g : Nat} {cs : Array Value} (hg : Tryz.prog.globalNamed n = some g) (h : W.var? Tryz.prog n = some cs) : g < W.heap.size ∧ ∃ ty fz, W.heap[g]? = some (.cells cs ty fz) := by
  unfold World.var? at h
  rw [hg, Option.bind_some] at h
  split at h
  · rename_i c t f hc
    cases h
    exact ⟨(Array.getElem?_eq_some_iff.1 hc).1, t, f, hc⟩
  · cases h
theorem of_laid {W : World} (h : laidMetH Tryz.prog laid6 W) : V.GlOk (fun k => k < W.heap.size) W := by
  rw [MakeChecks.laidMetH_plain _ _ _ (by kernel_rfl)] at h
  have h2 := h.tail.tail
  have h3 : Lib.TabIs Tryz.prog W "internal/strconv.uint64pow10" .u64 [1, 10, 100, 1000, 10000, 100000, 1000000, 10000000, 100000000, 1000000000, 10000000000, 100000000000, 1000000000000, 10000000000000, 100000000000000, 1000000000000000, 10000000000000000, 100000000000000000, 1000000000000000000, 10000000000000000000] := Lib.tabIs_of_head gPow (by kernel_rfl) Tryz.underlying138 Tryz.underlying67 (by kernel_rfl) (by kernel_rfl) h2
  obtain ⟨a0, s0, h5, _⟩ := laid_sentinel h2.tail.tail gRng (by kernel_rfl) Tryz.underlying110 row181 Tryz.underlying181 Tryz.underlying183 rfl rfl Tryz.underlying9 (by kernel_rfl) (by kernel_rfl)
  obtain ⟨a1, s1, h6, _⟩ := laid_sentinel h2.tail.tail.tail gSyn (by kernel_rfl) Tryz.underlying110 row181 Tryz.underlying181 Tryz.underlying183 rfl rfl Tryz.underlying9 (by kernel_rfl) (by kernel_rfl)
  refine ⟨fun g n k l e => ?_, fun p hp => ?_⟩
  · unfold V.Gr at e
    split at e
    · cases e
      obtain ⟨b1, ty, fz, b2⟩ := blk_of_var gPow h3
      exact ⟨b1, rfl, by decide, ty, fz, b2⟩
    · cases e
  · simp only [V.Gl, List.mem_cons, List.not_mem_nil, or_false] at hp
    rcases hp with rfl | rfl
    · obtain ⟨b1, ty, fz, b2⟩ := blk_of_var gSyn h6
      exact ⟨b1, _, ty, fz, b2, _, _, rfl⟩
    · obtain ⟨b1, ty, fz, b2⟩ := blk_of_var gRng h5
      exact ⟨b1, _, ty, fz, b2, _, _, rfl⟩
/-- The door's own heap meets the condition. -/
theorem door_met (os : Os) (args : Array Value) : laidMetH Tryz.prog laid6 ((World.laidAll Tryz.prog os laid6).forCall (fun _ _ => 0) ⟨#[], args, []⟩).memory :=
  by rw [MakeChecks.laidMetH_plain _ _ _ (by kernel_rfl)]; exact laidMet_laidAll _ (by kernel_rfl) (by kernel_rfl)
end Go.Proofs.YtnbbooilapelmaaGreatDoor
