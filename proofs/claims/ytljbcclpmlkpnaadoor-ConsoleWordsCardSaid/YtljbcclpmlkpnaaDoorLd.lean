import Derived.Test.YtljbcclpmlkpnaaDoorRows
import Derived.Test.YtljbcclpmlkpnaaDoorCl
import Derived.WalkKit
import Derived.ProofKit
import Derived.LaidMore
import Derived.OpenShut
import Derived.Stop.Joined
import Derived.Stop.LaidErr
import Derived.Lib.LaidTab
/-
  What the listed variables give: the facts that the symbolic run leans on.
-/
namespace Go.Proofs.YtljbcclpmlkpnaaDoor
open Go.ChangeShapes Go.WideShapes Go.ChangeAt Go.RowKit
abbrev laid6 : List (String × DataW Unit) := [("bellows/script.has", Rows.laid_bellows_script_has), ("math/bits.deBruijn32tab", Rows.laid_math_bits_deBruijn32tab), ("math/bits.deBruijn64tab", Rows.laid_math_bits_deBruijn64tab), ("internal/strconv.uint64pow10", Rows.laid_internal_strconv_uint64pow10), ("strconv.ErrRange", Rows.laid_strconv_ErrRange), ("strconv.ErrSyntax", Rows.laid_strconv_ErrSyntax)]
theorem gHas : Tryd.prog.globalNamed "bellows/script.has" = some 0 := by kernel_rfl
theorem gPow : Tryd.prog.globalNamed "internal/strconv.uint64pow10" = some 1 := by kernel_rfl
theorem gSyn : Tryd.prog.globalNamed "strconv.ErrSyntax" = some 5 := by kernel_rfl
theorem gRng : Tryd.prog.globalNamed "strconv.ErrRange" = some 6 := by kernel_rfl
theorem star : "*" ++ "errors.errorString" = "*errors.errorString" := by decide
theorem row125 (u : TypeId) (h : Tryd.prog.typeName? 3 u = some "*errors.errorString") : u = 125 :=
  typeName_ptr_named (nm := "errors.errorString") (by rw [star]; kernel_rfl) (by kernel_rfl) (by decide) u (by rw [star]; exact h)
theorem blk_of_var {W : World} {n : String} {g : Nat} {cs : Array Value} (hg : Tryd.prog.globalNamed n = some g) (h : W.var? Tryd.prog n = some cs) : g < W.heap.size ∧ ∃ ty fz, W.heap[g]? = some (.cells cs ty fz) := by
  unfold World.var? at h
  rw [hg, Option.bind_some] at h
  split at h
  · rename_i c t f hc
    cases h
    exact ⟨(Array.getElem?_eq_some_iff.1 hc).1, t, f, hc⟩
  · cases h
theorem of_laid {W : World} (h : laidMetH Tryd.prog laid6 W) : V.GlOk (fun k => k < W.heap.size) W := by
  rw [MakeChecks.laidMetH_plain _ _ _ (by kernel_rfl)] at h
  have h1 : Lib.TabIs Tryd.prog W "bellows/script.has" .u8 [0, 1, 1, 1, 1, 1, 2, 3, 2, 2, 0] := Lib.tabIs_of_head gHas (by kernel_rfl) Tryd.underlying76 Tryd.underlying5 (by kernel_rfl) (by kernel_rfl) h
  have h2 := h.tail.tail.tail
  have h3 : Lib.TabIs Tryd.prog W "internal/strconv.uint64pow10" .u64 [1, 10, 100, 1000, 10000, 100000, 1000000, 10000000, 100000000, 1000000000, 10000000000, 100000000000, 1000000000000, 10000000000000, 100000000000000, 1000000000000000, 10000000000000000, 100000000000000000, 1000000000000000000, 10000000000000000000] := Lib.tabIs_of_head gPow (by kernel_rfl) Tryd.underlying105 Tryd.underlying49 (by kernel_rfl) (by kernel_rfl) h2
  obtain ⟨a0, s0, h5, _⟩ := laid_sentinel h2.tail gRng (by kernel_rfl) Tryd.underlying85 row125 Tryd.underlying125 Tryd.underlying127 rfl rfl Tryd.underlying9 (by kernel_rfl) (by kernel_rfl)
  obtain ⟨a1, s1, h6, _⟩ := laid_sentinel h2.tail.tail gSyn (by kernel_rfl) Tryd.underlying85 row125 Tryd.underlying125 Tryd.underlying127 rfl rfl Tryd.underlying9 (by kernel_rfl) (by kernel_rfl)
  refine ⟨fun g n k l e => ?_, fun p hp => ?_⟩
  · unfold V.Gr at e
    split at e
    · cases e
      obtain ⟨b1, ty, fz, b2⟩ := blk_of_var gHas h1
      exact ⟨b1, rfl, by decide, ty, fz, b2⟩
    · cases e
      obtain ⟨b1, ty, fz, b2⟩ := blk_of_var gPow h3
      exact ⟨b1, rfl, by decide, ty, fz, b2⟩
    · cases e
  · simp only [V.Gl, List.mem_cons, List.not_mem_nil, or_false] at hp
    rcases hp with rfl | rfl
    · obtain ⟨b1, ty, fz, b2⟩ := blk_of_var gSyn h6
      exact ⟨b1, _, ty, fz, b2, _, _, rfl⟩
    · obtain ⟨b1, ty, fz, b2⟩ := blk_of_var gRng h5
      exact ⟨b1, _, ty, fz, b2, _, _, rfl⟩
/-- The door's own heap meets the condition. -/
theorem door_met (os : Os) (args : Array Value) : laidMetH Tryd.prog laid6 ((World.doorLaid Tryd.prog 4000 os).forCall (fun _ _ => 0) ⟨#[], args, []⟩).memory :=
  laidMetH_of_parts3 (fuel := 8) (laidMet_of_run' 8 (by kernel_rfl) (by kernel_rfl)) (by kernel_rfl) (by kernel_rfl)
end Go.Proofs.YtljbcclpmlkpnaaDoor
