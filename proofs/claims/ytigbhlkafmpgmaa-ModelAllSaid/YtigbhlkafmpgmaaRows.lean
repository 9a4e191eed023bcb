/-
  No cell of these rows narrows 'for every input' (looked for: loops, veiled, ifaces, maps, wideKeys, modest, calm, conditions, laid).
  DERIVED. THE GIVEN ROWS OF THIS SEAT. 5 by the template 'for every input the law returns true; each argument reads behind the call as it read before'; 0 by the template 'total and deterministic' (their statements: YtigbhlkafmpgmaaTotals.lean).
  GIVEN WITH THE SEED: the statements are not yours to turn. If you find one false, say at which input.
  Laid BY PROGRAM, IN A SANDBOX (cutbox-rows.mjs): the forced cells as the released guide's own fill.sh prints them over the translation 01a22b86db6d9d92… (all of the seat's roots in one cut). By AI agents, Wed Nov 11 2026. No macro, syntax, notation, axiom, sorry.
-/
import Derived.Test.YtigbhlkafmpgmaaChecked
import GoSem.Claim
import GoSem.ClaimJoined
import GoSem.ClaimMapViews
import Derived.JoinedTies
import Derived.KernelRfl
namespace Go.Proofs.Ytigbhlkafmpgmaa
/- THE CELL 'sum', in the pinned program and in every row, IS THE sha256 OF THE DUMP (.gsa) THAT YtigbhlkafmpgmaaProg.lean LOADS. Nothing in Lean hashes anything: it is a label: what it is worth is what the hold of that sum in a sandbox is worth. -/
noncomputable def Try.pinned : Pinned := { name := "ytigbhlkafmpgmaa", sum := "01a22b86db6d9d92635dfd788260ba7c632713ca086bbdd72790428ac84f2ba1", checked := Try.checked }
namespace Rows
def none {H : Type} : Left H := { results := [], args := [] }

/-- 'bellowslaw26.ModelRuns': WHATEVER THE INPUT: true; the input reads as it did. -/
def modelRunsSpec : ChangeSpec := { name := "modelRuns", fn := fun _ => fun
  | [d1, d2, d3] => { results := [.lit (.bool true)], args := [d1, d2, d3] }
  | _ => none }
def modelRunsRow : OpenClaim := { program := "ytigbhlkafmpgmaa", sum := "01a22b86db6d9d92635dfd788260ba7c632713ca086bbdd72790428ac84f2ba1", func := "bellows/bellowslaw26.ModelRuns", spec := "modelRuns", apart := false }
def ModelRunsSaid : Prop := modelRunsRow.holds Try.pinned (OpenSpec.ofChange modelRunsSpec)

/-- ITS FALSE NEIGHBOUR: 'it returns false'. Refute it at one input. -/
def modelRunsWrong : ChangeSpec := { name := "modelRuns", fn := fun _ => fun
  | [d1, d2, d3] => { results := [.lit (.bool false)], args := [d1, d2, d3] }
  | _ => none }
def ModelRunsWrongFalsely : Prop := modelRunsRow.holds Try.pinned (OpenSpec.ofChange modelRunsWrong)

/-- 'bellowslaw26.ModelBack': WHATEVER THE INPUT: true; the input reads as it did. -/
def modelBackSpec : ChangeSpec := { name := "modelBack", fn := fun _ => fun
  | [d1, d2, d3] => { results := [.lit (.bool true)], args := [d1, d2, d3] }
  | _ => none }
def modelBackRow : OpenClaim := { program := "ytigbhlkafmpgmaa", sum := "01a22b86db6d9d92635dfd788260ba7c632713ca086bbdd72790428ac84f2ba1", func := "bellows/bellowslaw26.ModelBack", spec := "modelBack", apart := false }
def ModelBackSaid : Prop := modelBackRow.holds Try.pinned (OpenSpec.ofChange modelBackSpec)

/-- ITS FALSE NEIGHBOUR: 'it returns false'. Refute it at one input. -/
def modelBackWrong : ChangeSpec := { name := "modelBack", fn := fun _ => fun
  | [d1, d2, d3] => { results := [.lit (.bool false)], args := [d1, d2, d3] }
  | _ => none }
def ModelBackWrongFalsely : Prop := modelBackRow.holds Try.pinned (OpenSpec.ofChange modelBackWrong)

/-- 'bellowslaw26.ModelCommutes': WHATEVER THE INPUT: true; the input reads as it did. -/
def modelCommutesSpec : ChangeSpec := { name := "modelCommutes", fn := fun _ => fun
  | [d1, d2, d3] => { results := [.lit (.bool true)], args := [d1, d2, d3] }
  | _ => none }
def modelCommutesRow : OpenClaim := { program := "ytigbhlkafmpgmaa", sum := "01a22b86db6d9d92635dfd788260ba7c632713ca086bbdd72790428ac84f2ba1", func := "bellows/bellowslaw26.ModelCommutes", spec := "modelCommutes", apart := false }
def ModelCommutesSaid : Prop := modelCommutesRow.holds Try.pinned (OpenSpec.ofChange modelCommutesSpec)

/-- ITS FALSE NEIGHBOUR: 'it returns false'. Refute it at one input. -/
def modelCommutesWrong : ChangeSpec := { name := "modelCommutes", fn := fun _ => fun
  | [d1, d2, d3] => { results := [.lit (.bool false)], args := [d1, d2, d3] }
  | _ => none }
def ModelCommutesWrongFalsely : Prop := modelCommutesRow.holds Try.pinned (OpenSpec.ofChange modelCommutesWrong)

/-- 'bellowslaw26.ModelSums': WHATEVER THE INPUT: true; the input reads as it did. -/
def modelSumsSpec : ChangeSpec := { name := "modelSums", fn := fun _ => fun
  | [d1, d2] => { results := [.lit (.bool true)], args := [d1, d2] }
  | _ => none }
def modelSumsRow : OpenClaim := { program := "ytigbhlkafmpgmaa", sum := "01a22b86db6d9d92635dfd788260ba7c632713ca086bbdd72790428ac84f2ba1", func := "bellows/bellowslaw26.ModelSums", spec := "modelSums", apart := false }
def ModelSumsSaid : Prop := modelSumsRow.holds Try.pinned (OpenSpec.ofChange modelSumsSpec)

/-- ITS FALSE NEIGHBOUR: 'it returns false'. Refute it at one input. -/
def modelSumsWrong : ChangeSpec := { name := "modelSums", fn := fun _ => fun
  | [d1, d2] => { results := [.lit (.bool false)], args := [d1, d2] }
  | _ => none }
def ModelSumsWrongFalsely : Prop := modelSumsRow.holds Try.pinned (OpenSpec.ofChange modelSumsWrong)

/-- 'bellowslaw26.ModelAll': WHATEVER THE INPUT: true; the input reads as it did. -/
def modelAllSpec : ChangeSpec := { name := "modelAll", fn := fun _ => fun
  | [d1, d2, d3] => { results := [.lit (.bool true)], args := [d1, d2, d3] }
  | _ => none }
def modelAllRow : OpenClaim := { program := "ytigbhlkafmpgmaa", sum := "01a22b86db6d9d92635dfd788260ba7c632713ca086bbdd72790428ac84f2ba1", func := "bellows/bellowslaw26.ModelAll", spec := "modelAll", apart := false }
def ModelAllSaid : Prop := modelAllRow.holds Try.pinned (OpenSpec.ofChange modelAllSpec)

/-- ITS FALSE NEIGHBOUR: 'it returns false'. Refute it at one input. -/
def modelAllWrong : ChangeSpec := { name := "modelAll", fn := fun _ => fun
  | [d1, d2, d3] => { results := [.lit (.bool false)], args := [d1, d2, d3] }
  | _ => none }
def ModelAllWrongFalsely : Prop := modelAllRow.holds Try.pinned (OpenSpec.ofChange modelAllWrong)

/- THE SECOND FORM. 'bulk': how many values and letters a reading holds, each counted each time it is reached (what is shared counts as often as it is met; a slice's spare places count too). A statement '..UptoSaid' is the law's where the arguments, and the package variables that the reading takes, are together of bulk at most 1048576: NARROWER than '..Said'. Prove '..Said' where nothing that the law and all that it calls make is longer than what came in: it says more and counts as full. Else prove '..UptoSaid'. A law counts once. -/
mutual
def uptoBulk {H : Type} : DataW H → Nat
  | .lit (.string bytes) => bytes.length + 1
  | .lit _ => 1
  | .nil => 1
  | .ptr d => uptoBulk d + 1
  | .slice elems spare => uptoBulkAll elems + uptoBulkAll spare + 1
  | .agg parts => uptoBulkAll parts + 1
  | .iface _ d => uptoBulk d + 1
  | .map entries => uptoBulkEntries entries + 1
  | .held _ => 1
def uptoBulkAll {H : Type} : List (DataW H) → Nat
  | [] => 0
  | d :: r => uptoBulk d + uptoBulkAll r
def uptoBulkEntries {H : Type} : List (Lit × DataW H) → Nat
  | [] => 0
  | x :: r => uptoBulkEntry x + uptoBulkEntries r
def uptoBulkEntry {H : Type} : Lit × DataW H → Nat
  | (.string bytes, d) => bytes.length + uptoBulk d + 1
  | (_, d) => uptoBulk d + 1
 end
def uptoSmall : (H : Type) → List (DataW H) → Bool := fun _ ds => decide (uptoBulkAll ds ≤ 1048576)
def OpenSpec.upto (s : _root_.Go.ChangeSpec) : _root_.Go.OpenSpec := { _root_.Go.OpenSpec.ofChange s with cond := some uptoSmall }

/-- 'bellowslaw26.ModelRuns', WHERE WHAT IT READS IS OF BULK AT MOST 1048576: true; the input reads as it did. -/
def modelRunsUptoRow : OpenClaim := { program := "ytigbhlkafmpgmaa", sum := "01a22b86db6d9d92635dfd788260ba7c632713ca086bbdd72790428ac84f2ba1", func := "bellows/bellowslaw26.ModelRuns", spec := "modelRuns", apart := false, narrowed := true }
def ModelRunsUptoSaid : Prop := modelRunsUptoRow.holds Try.pinned (OpenSpec.upto modelRunsSpec)

/-- 'bellowslaw26.ModelBack', WHERE WHAT IT READS IS OF BULK AT MOST 1048576: true; the input reads as it did. -/
def modelBackUptoRow : OpenClaim := { program := "ytigbhlkafmpgmaa", sum := "01a22b86db6d9d92635dfd788260ba7c632713ca086bbdd72790428ac84f2ba1", func := "bellows/bellowslaw26.ModelBack", spec := "modelBack", apart := false, narrowed := true }
def ModelBackUptoSaid : Prop := modelBackUptoRow.holds Try.pinned (OpenSpec.upto modelBackSpec)

/-- 'bellowslaw26.ModelCommutes', WHERE WHAT IT READS IS OF BULK AT MOST 1048576: true; the input reads as it did. -/
def modelCommutesUptoRow : OpenClaim := { program := "ytigbhlkafmpgmaa", sum := "01a22b86db6d9d92635dfd788260ba7c632713ca086bbdd72790428ac84f2ba1", func := "bellows/bellowslaw26.ModelCommutes", spec := "modelCommutes", apart := false, narrowed := true }
def ModelCommutesUptoSaid : Prop := modelCommutesUptoRow.holds Try.pinned (OpenSpec.upto modelCommutesSpec)

/-- 'bellowslaw26.ModelSums', WHERE WHAT IT READS IS OF BULK AT MOST 1048576: true; the input reads as it did. -/
def modelSumsUptoRow : OpenClaim := { program := "ytigbhlkafmpgmaa", sum := "01a22b86db6d9d92635dfd788260ba7c632713ca086bbdd72790428ac84f2ba1", func := "bellows/bellowslaw26.ModelSums", spec := "modelSums", apart := false, narrowed := true }
def ModelSumsUptoSaid : Prop := modelSumsUptoRow.holds Try.pinned (OpenSpec.upto modelSumsSpec)

/-- 'bellowslaw26.ModelAll', WHERE WHAT IT READS IS OF BULK AT MOST 1048576: true; the input reads as it did. -/
def modelAllUptoRow : OpenClaim := { program := "ytigbhlkafmpgmaa", sum := "01a22b86db6d9d92635dfd788260ba7c632713ca086bbdd72790428ac84f2ba1", func := "bellows/bellowslaw26.ModelAll", spec := "modelAll", apart := false, narrowed := true }
def ModelAllUptoSaid : Prop := modelAllUptoRow.holds Try.pinned (OpenSpec.upto modelAllSpec)

end Rows
end Go.Proofs.Ytigbhlkafmpgmaa
