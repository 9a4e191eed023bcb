/-
  No cell of these rows narrows 'for every input' (looked for: loops, veiled, ifaces, maps, wideKeys, modest, calm, conditions, laid).
  DERIVED. THE GIVEN ROWS OF THIS SEAT. 5 by the template 'for every input the law returns true; each argument reads behind the call as it read before'; 0 by the template 'total and deterministic' (their statements: YtjkckcmogpipmaaTotals.lean).
  GIVEN WITH THE SEED: the statements are not yours to turn. If you find one false, say at which input.
  Laid BY PROGRAM, IN A SANDBOX (cutbox-rows.mjs): the forced cells as the released guide's own fill.sh prints them over the translation d9700e625339acb4… (all of the seat's roots in one cut). By AI agents, Wed Nov 11 2026. No macro, syntax, notation, axiom, sorry.
-/
import Derived.Test.YtjkckcmogpipmaaChecked
import GoSem.Claim
import GoSem.ClaimJoined
import GoSem.ClaimMapViews
import Derived.JoinedTies
import Derived.KernelRfl
namespace Go.Proofs.Ytjkckcmogpipmaa
/- THE CELL 'sum', in the pinned program and in every row, IS THE sha256 OF THE DUMP (.gsa) THAT YtjkckcmogpipmaaProg.lean LOADS. Nothing in Lean hashes anything: it is a label: what it is worth is what the hold of that sum in a sandbox is worth. -/
noncomputable def Try.pinned : Pinned := { name := "ytjkckcmogpipmaa", sum := "d9700e625339acb4c270a5f1c761dafcddbbc842eb1e046980ae1f6ce7e9fda4", checked := Try.checked }
namespace Rows
def none {H : Type} : Left H := { results := [], args := [] }

/-- 'bellowslaw06.MsgForms': WHATEVER THE INPUT: true; the input reads as it did. -/
def msgFormsSpec : ChangeSpec := { name := "msgForms", fn := fun _ => fun
  | [d] => { results := [.lit (.bool true)], args := [d] }
  | _ => none }
def msgFormsRow : OpenClaim := { program := "ytjkckcmogpipmaa", sum := "d9700e625339acb4c270a5f1c761dafcddbbc842eb1e046980ae1f6ce7e9fda4", func := "bellows/bellowslaw06.MsgForms", spec := "msgForms", apart := false }
def MsgFormsSaid : Prop := msgFormsRow.holds Try.pinned (OpenSpec.ofChange msgFormsSpec)

/-- ITS FALSE NEIGHBOUR: 'it returns false'. Refute it at one input. -/
def msgFormsWrong : ChangeSpec := { name := "msgForms", fn := fun _ => fun
  | [d] => { results := [.lit (.bool false)], args := [d] }
  | _ => none }
def MsgFormsWrongFalsely : Prop := msgFormsRow.holds Try.pinned (OpenSpec.ofChange msgFormsWrong)

/-- 'bellowslaw06.MsgFull': WHATEVER THE INPUT: true; the input reads as it did. -/
def msgFullSpec : ChangeSpec := { name := "msgFull", fn := fun _ => fun
  | [d] => { results := [.lit (.bool true)], args := [d] }
  | _ => none }
def msgFullRow : OpenClaim := { program := "ytjkckcmogpipmaa", sum := "d9700e625339acb4c270a5f1c761dafcddbbc842eb1e046980ae1f6ce7e9fda4", func := "bellows/bellowslaw06.MsgFull", spec := "msgFull", apart := false }
def MsgFullSaid : Prop := msgFullRow.holds Try.pinned (OpenSpec.ofChange msgFullSpec)

/-- ITS FALSE NEIGHBOUR: 'it returns false'. Refute it at one input. -/
def msgFullWrong : ChangeSpec := { name := "msgFull", fn := fun _ => fun
  | [d] => { results := [.lit (.bool false)], args := [d] }
  | _ => none }
def MsgFullWrongFalsely : Prop := msgFullRow.holds Try.pinned (OpenSpec.ofChange msgFullWrong)

/-- 'bellowslaw06.MsgKinds': WHATEVER THE INPUT: true; the input reads as it did. -/
def msgKindsSpec : ChangeSpec := { name := "msgKinds", fn := fun _ => fun
  | [d1, d2] => { results := [.lit (.bool true)], args := [d1, d2] }
  | _ => none }
def msgKindsRow : OpenClaim := { program := "ytjkckcmogpipmaa", sum := "d9700e625339acb4c270a5f1c761dafcddbbc842eb1e046980ae1f6ce7e9fda4", func := "bellows/bellowslaw06.MsgKinds", spec := "msgKinds", apart := false }
def MsgKindsSaid : Prop := msgKindsRow.holds Try.pinned (OpenSpec.ofChange msgKindsSpec)

/-- ITS FALSE NEIGHBOUR: 'it returns false'. Refute it at one input. -/
def msgKindsWrong : ChangeSpec := { name := "msgKinds", fn := fun _ => fun
  | [d1, d2] => { results := [.lit (.bool false)], args := [d1, d2] }
  | _ => none }
def MsgKindsWrongFalsely : Prop := msgKindsRow.holds Try.pinned (OpenSpec.ofChange msgKindsWrong)

/-- 'bellowslaw06.MsgQueues': WHATEVER THE INPUT: true; the input reads as it did. -/
def msgQueuesSpec : ChangeSpec := { name := "msgQueues", fn := fun _ => fun
  | [d] => { results := [.lit (.bool true)], args := [d] }
  | _ => none }
def msgQueuesRow : OpenClaim := { program := "ytjkckcmogpipmaa", sum := "d9700e625339acb4c270a5f1c761dafcddbbc842eb1e046980ae1f6ce7e9fda4", func := "bellows/bellowslaw06.MsgQueues", spec := "msgQueues", apart := false }
def MsgQueuesSaid : Prop := msgQueuesRow.holds Try.pinned (OpenSpec.ofChange msgQueuesSpec)

/-- ITS FALSE NEIGHBOUR: 'it returns false'. Refute it at one input. -/
def msgQueuesWrong : ChangeSpec := { name := "msgQueues", fn := fun _ => fun
  | [d] => { results := [.lit (.bool false)], args := [d] }
  | _ => none }
def MsgQueuesWrongFalsely : Prop := msgQueuesRow.holds Try.pinned (OpenSpec.ofChange msgQueuesWrong)

/-- 'bellowslaw06.MsgNone': WHATEVER THE INPUT: true; the input reads as it did. -/
def msgNoneSpec : ChangeSpec := { name := "msgNone", fn := fun _ => fun
  | [d] => { results := [.lit (.bool true)], args := [d] }
  | _ => none }
def msgNoneRow : OpenClaim := { program := "ytjkckcmogpipmaa", sum := "d9700e625339acb4c270a5f1c761dafcddbbc842eb1e046980ae1f6ce7e9fda4", func := "bellows/bellowslaw06.MsgNone", spec := "msgNone", apart := false }
def MsgNoneSaid : Prop := msgNoneRow.holds Try.pinned (OpenSpec.ofChange msgNoneSpec)

/-- ITS FALSE NEIGHBOUR: 'it returns false'. Refute it at one input. -/
def msgNoneWrong : ChangeSpec := { name := "msgNone", fn := fun _ => fun
  | [d] => { results := [.lit (.bool false)], args := [d] }
  | _ => none }
def MsgNoneWrongFalsely : Prop := msgNoneRow.holds Try.pinned (OpenSpec.ofChange msgNoneWrong)

/- THE SECOND FORM. 'bulk': how many values and letters a reading holds, each counted each time it is reached (what is shared counts as often as it is met; a slice's spare places count too). A statement '..UptoSaid' is the law's where the arguments, and the package variables that the reading takes, are together of bulk at most 1048576: NARROWER than '..Said'. Prove '..Said' where nothing that the law and all that it calls make is longer than what came in: it says more and counts as full. Else prove '..UptoSaid'. A law counts once. -/
mutual
def uptoBulk {H : Type} : DataW H → Nat
  | .lit (.string bytes) => bytes.length + 1
  | .lit _ => 1
  | .nil => 1
  | .ptr d => uptoBulk d + 1
  | .slice elems spare => uptoBulkAll elems + uptoBulkAll spare + 1
  | .agg parts => uptoBulkAll parts + 1
  | .iface _ d => uptoBulk d + 1
  | .map entries => uptoBulkEntries entries + 1
  | .held _ => 1
def uptoBulkAll {H : Type} : List (DataW H) → Nat
  | [] => 0
  | d :: r => uptoBulk d + uptoBulkAll r
def uptoBulkEntries {H : Type} : List (Lit × DataW H) → Nat
  | [] => 0
  | x :: r => uptoBulkEntry x + uptoBulkEntries r
def uptoBulkEntry {H : Type} : Lit × DataW H → Nat
  | (.string bytes, d) => bytes.length + uptoBulk d + 1
  | (_, d) => uptoBulk d + 1
 end
def uptoSmall : (H : Type) → List (DataW H) → Bool := fun _ ds => decide (uptoBulkAll ds ≤ 1048576)
def OpenSpec.upto (s : _root_.Go.ChangeSpec) : _root_.Go.OpenSpec := { _root_.Go.OpenSpec.ofChange s with cond := some uptoSmall }

/-- 'bellowslaw06.MsgForms', WHERE WHAT IT READS IS OF BULK AT MOST 1048576: true; the input reads as it did. -/
def msgFormsUptoRow : OpenClaim := { program := "ytjkckcmogpipmaa", sum := "d9700e625339acb4c270a5f1c761dafcddbbc842eb1e046980ae1f6ce7e9fda4", func := "bellows/bellowslaw06.MsgForms", spec := "msgForms", apart := false, narrowed := true }
def MsgFormsUptoSaid : Prop := msgFormsUptoRow.holds Try.pinned (OpenSpec.upto msgFormsSpec)

/-- 'bellowslaw06.MsgFull', WHERE WHAT IT READS IS OF BULK AT MOST 1048576: true; the input reads as it did. -/
def msgFullUptoRow : OpenClaim := { program := "ytjkckcmogpipmaa", sum := "d9700e625339acb4c270a5f1c761dafcddbbc842eb1e046980ae1f6ce7e9fda4", func := "bellows/bellowslaw06.MsgFull", spec := "msgFull", apart := false, narrowed := true }
def MsgFullUptoSaid : Prop := msgFullUptoRow.holds Try.pinned (OpenSpec.upto msgFullSpec)

/-- 'bellowslaw06.MsgKinds', WHERE WHAT IT READS IS OF BULK AT MOST 1048576: true; the input reads as it did. -/
def msgKindsUptoRow : OpenClaim := { program := "ytjkckcmogpipmaa", sum := "d9700e625339acb4c270a5f1c761dafcddbbc842eb1e046980ae1f6ce7e9fda4", func := "bellows/bellowslaw06.MsgKinds", spec := "msgKinds", apart := false, narrowed := true }
def MsgKindsUptoSaid : Prop := msgKindsUptoRow.holds Try.pinned (OpenSpec.upto msgKindsSpec)

/-- 'bellowslaw06.MsgQueues', WHERE WHAT IT READS IS OF BULK AT MOST 1048576: true; the input reads as it did. -/
def msgQueuesUptoRow : OpenClaim := { program := "ytjkckcmogpipmaa", sum := "d9700e625339acb4c270a5f1c761dafcddbbc842eb1e046980ae1f6ce7e9fda4", func := "bellows/bellowslaw06.MsgQueues", spec := "msgQueues", apart := false, narrowed := true }
def MsgQueuesUptoSaid : Prop := msgQueuesUptoRow.holds Try.pinned (OpenSpec.upto msgQueuesSpec)

/-- 'bellowslaw06.MsgNone', WHERE WHAT IT READS IS OF BULK AT MOST 1048576: true; the input reads as it did. -/
def msgNoneUptoRow : OpenClaim := { program := "ytjkckcmogpipmaa", sum := "d9700e625339acb4c270a5f1c761dafcddbbc842eb1e046980ae1f6ce7e9fda4", func := "bellows/bellowslaw06.MsgNone", spec := "msgNone", apart := false, narrowed := true }
def MsgNoneUptoSaid : Prop := msgNoneUptoRow.holds Try.pinned (OpenSpec.upto msgNoneSpec)

end Rows
end Go.Proofs.Ytjkckcmogpipmaa
