/-
  No cell of these rows narrows 'for every input' (looked for: loops, veiled, ifaces, maps, wideKeys, modest, calm, conditions, laid).
  DERIVED. THE GIVEN ROWS OF THIS SEAT. 4 by the template 'for every input the law returns true; each argument reads behind the call as it read before'; 0 by the template 'total and deterministic' (their statements: YtkkeilbaieflmaaTotals.lean).
  GIVEN WITH THE SEED: the statements are not yours to turn. If you find one false, say at which input.
  Laid BY PROGRAM, IN A SANDBOX (cutbox-rows.mjs): the forced cells as the released guide's own fill.sh prints them over the translation d8979f24ee617399… (all of the seat's roots in one cut). By AI agents, Wed Nov 11 2026. No macro, syntax, notation, axiom, sorry.
-/
import Derived.Test.YtkkeilbaieflmaaChecked
import GoSem.Claim
import GoSem.ClaimJoined
import GoSem.ClaimMapViews
import Derived.JoinedTies
import Derived.KernelRfl
namespace Go.Proofs.Ytkkeilbaieflmaa
/- THE CELL 'sum', in the pinned program and in every row, IS THE sha256 OF THE DUMP (.gsa) THAT YtkkeilbaieflmaaProg.lean LOADS. Nothing in Lean hashes anything: it is a label: what it is worth is what the hold of that sum in a sandbox is worth. -/
noncomputable def Try.pinned : Pinned := { name := "ytkkeilbaieflmaa", sum := "d8979f24ee61739956293fa8e827752b56fc54ea845a3a0b666394c760531150", checked := Try.checked }
namespace Rows
def none {H : Type} : Left H := { results := [], args := [] }

/-- 'bellowslaw02.NvmPlays': WHATEVER THE INPUT: true; the input reads as it did. -/
def nvmPlaysSpec : ChangeSpec := { name := "nvmPlays", fn := fun _ => fun
  | [d1, d2, d3] => { results := [.lit (.bool true)], args := [d1, d2, d3] }
  | _ => none }
def nvmPlaysRow : OpenClaim := { program := "ytkkeilbaieflmaa", sum := "d8979f24ee61739956293fa8e827752b56fc54ea845a3a0b666394c760531150", func := "bellows/bellowslaw02.NvmPlays", spec := "nvmPlays", inPlace := ["sync/atomic.AddInt64"], apart := false }
def NvmPlaysSaid : Prop := nvmPlaysRow.holds Try.pinned (OpenSpec.ofChange nvmPlaysSpec)

/-- ITS FALSE NEIGHBOUR: 'it returns false'. Refute it at one input. -/
def nvmPlaysWrong : ChangeSpec := { name := "nvmPlays", fn := fun _ => fun
  | [d1, d2, d3] => { results := [.lit (.bool false)], args := [d1, d2, d3] }
  | _ => none }
def NvmPlaysWrongFalsely : Prop := nvmPlaysRow.holds Try.pinned (OpenSpec.ofChange nvmPlaysWrong)

/-- 'bellowslaw02.NvmFails': WHATEVER THE INPUT: true; the input reads as it did. -/
def nvmFailsSpec : ChangeSpec := { name := "nvmFails", fn := fun _ => fun
  | [d1, d2, d3] => { results := [.lit (.bool true)], args := [d1, d2, d3] }
  | _ => none }
def nvmFailsRow : OpenClaim := { program := "ytkkeilbaieflmaa", sum := "d8979f24ee61739956293fa8e827752b56fc54ea845a3a0b666394c760531150", func := "bellows/bellowslaw02.NvmFails", spec := "nvmFails", inPlace := ["sync/atomic.AddInt64"], apart := false }
def NvmFailsSaid : Prop := nvmFailsRow.holds Try.pinned (OpenSpec.ofChange nvmFailsSpec)

/-- ITS FALSE NEIGHBOUR: 'it returns false'. Refute it at one input. -/
def nvmFailsWrong : ChangeSpec := { name := "nvmFails", fn := fun _ => fun
  | [d1, d2, d3] => { results := [.lit (.bool false)], args := [d1, d2, d3] }
  | _ => none }
def NvmFailsWrongFalsely : Prop := nvmFailsRow.holds Try.pinned (OpenSpec.ofChange nvmFailsWrong)

/-- 'bellowslaw02.NvmNone': WHATEVER THE INPUT: true; the input reads as it did. -/
def nvmNoneSpec : ChangeSpec := { name := "nvmNone", fn := fun _ => fun
  | [d] => { results := [.lit (.bool true)], args := [d] }
  | _ => none }
def nvmNoneRow : OpenClaim := { program := "ytkkeilbaieflmaa", sum := "d8979f24ee61739956293fa8e827752b56fc54ea845a3a0b666394c760531150", func := "bellows/bellowslaw02.NvmNone", spec := "nvmNone", inPlace := ["sync/atomic.AddInt64"], apart := false }
def NvmNoneSaid : Prop := nvmNoneRow.holds Try.pinned (OpenSpec.ofChange nvmNoneSpec)

/-- ITS FALSE NEIGHBOUR: 'it returns false'. Refute it at one input. -/
def nvmNoneWrong : ChangeSpec := { name := "nvmNone", fn := fun _ => fun
  | [d] => { results := [.lit (.bool false)], args := [d] }
  | _ => none }
def NvmNoneWrongFalsely : Prop := nvmNoneRow.holds Try.pinned (OpenSpec.ofChange nvmNoneWrong)

/-- 'bellowslaw02.NvmOwn': WHATEVER THE INPUT: true; the input reads as it did. -/
def nvmOwnSpec : ChangeSpec := { name := "nvmOwn", fn := fun _ => fun
  | [d1, d2, d3] => { results := [.lit (.bool true)], args := [d1, d2, d3] }
  | _ => none }
def nvmOwnRow : OpenClaim := { program := "ytkkeilbaieflmaa", sum := "d8979f24ee61739956293fa8e827752b56fc54ea845a3a0b666394c760531150", func := "bellows/bellowslaw02.NvmOwn", spec := "nvmOwn", inPlace := ["sync/atomic.AddInt64"], apart := false }
def NvmOwnSaid : Prop := nvmOwnRow.holds Try.pinned (OpenSpec.ofChange nvmOwnSpec)

/-- ITS FALSE NEIGHBOUR: 'it returns false'. Refute it at one input. -/
def nvmOwnWrong : ChangeSpec := { name := "nvmOwn", fn := fun _ => fun
  | [d1, d2, d3] => { results := [.lit (.bool false)], args := [d1, d2, d3] }
  | _ => none }
def NvmOwnWrongFalsely : Prop := nvmOwnRow.holds Try.pinned (OpenSpec.ofChange nvmOwnWrong)

/- THE SECOND FORM. 'bulk': how many values and letters a reading holds, each counted each time it is reached (what is shared counts as often as it is met; a slice's spare places count too). A statement '..UptoSaid' is the law's where the arguments, and the package variables that the reading takes, are together of bulk at most 1048576: NARROWER than '..Said'. Prove '..Said' where nothing that the law and all that it calls make is longer than what came in: it says more and counts as full. Else prove '..UptoSaid'. A law counts once. -/
mutual
def uptoBulk {H : Type} : DataW H → Nat
  | .lit (.string bytes) => bytes.length + 1
  | .lit _ => 1
  | .nil => 1
  | .ptr d => uptoBulk d + 1
  | .slice elems spare => uptoBulkAll elems + uptoBulkAll spare + 1
  | .agg parts => uptoBulkAll parts + 1
  | .iface _ d => uptoBulk d + 1
  | .map entries => uptoBulkEntries entries + 1
  | .held _ => 1
def uptoBulkAll {H : Type} : List (DataW H) → Nat
  | [] => 0
  | d :: r => uptoBulk d + uptoBulkAll r
def uptoBulkEntries {H : Type} : List (Lit × DataW H) → Nat
  | [] => 0
  | x :: r => uptoBulkEntry x + uptoBulkEntries r
def uptoBulkEntry {H : Type} : Lit × DataW H → Nat
  | (.string bytes, d) => bytes.length + uptoBulk d + 1
  | (_, d) => uptoBulk d + 1
 end
def uptoSmall : (H : Type) → List (DataW H) → Bool := fun _ ds => decide (uptoBulkAll ds ≤ 1048576)
def OpenSpec.upto (s : _root_.Go.ChangeSpec) : _root_.Go.OpenSpec := { _root_.Go.OpenSpec.ofChange s with cond := some uptoSmall }

/-- 'bellowslaw02.NvmPlays', WHERE WHAT IT READS IS OF BULK AT MOST 1048576: true; the input reads as it did. -/
def nvmPlaysUptoRow : OpenClaim := { program := "ytkkeilbaieflmaa", sum := "d8979f24ee61739956293fa8e827752b56fc54ea845a3a0b666394c760531150", func := "bellows/bellowslaw02.NvmPlays", spec := "nvmPlays", inPlace := ["sync/atomic.AddInt64"], apart := false, narrowed := true }
def NvmPlaysUptoSaid : Prop := nvmPlaysUptoRow.holds Try.pinned (OpenSpec.upto nvmPlaysSpec)

/-- 'bellowslaw02.NvmFails', WHERE WHAT IT READS IS OF BULK AT MOST 1048576: true; the input reads as it did. -/
def nvmFailsUptoRow : OpenClaim := { program := "ytkkeilbaieflmaa", sum := "d8979f24ee61739956293fa8e827752b56fc54ea845a3a0b666394c760531150", func := "bellows/bellowslaw02.NvmFails", spec := "nvmFails", inPlace := ["sync/atomic.AddInt64"], apart := false, narrowed := true }
def NvmFailsUptoSaid : Prop := nvmFailsUptoRow.holds Try.pinned (OpenSpec.upto nvmFailsSpec)

/-- 'bellowslaw02.NvmNone', WHERE WHAT IT READS IS OF BULK AT MOST 1048576: true; the input reads as it did. -/
def nvmNoneUptoRow : OpenClaim := { program := "ytkkeilbaieflmaa", sum := "d8979f24ee61739956293fa8e827752b56fc54ea845a3a0b666394c760531150", func := "bellows/bellowslaw02.NvmNone", spec := "nvmNone", inPlace := ["sync/atomic.AddInt64"], apart := false, narrowed := true }
def NvmNoneUptoSaid : Prop := nvmNoneUptoRow.holds Try.pinned (OpenSpec.upto nvmNoneSpec)

/-- 'bellowslaw02.NvmOwn', WHERE WHAT IT READS IS OF BULK AT MOST 1048576: true; the input reads as it did. -/
def nvmOwnUptoRow : OpenClaim := { program := "ytkkeilbaieflmaa", sum := "d8979f24ee61739956293fa8e827752b56fc54ea845a3a0b666394c760531150", func := "bellows/bellowslaw02.NvmOwn", spec := "nvmOwn", inPlace := ["sync/atomic.AddInt64"], apart := false, narrowed := true }
def NvmOwnUptoSaid : Prop := nvmOwnUptoRow.holds Try.pinned (OpenSpec.upto nvmOwnSpec)

end Rows
end Go.Proofs.Ytkkeilbaieflmaa
