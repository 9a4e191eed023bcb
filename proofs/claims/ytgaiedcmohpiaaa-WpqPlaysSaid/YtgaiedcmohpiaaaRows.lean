/-
  No cell of these rows narrows 'for every input' (looked for: loops, veiled, ifaces, maps, wideKeys, modest, calm, conditions, laid).
  DERIVED. THE GIVEN ROWS OF THIS SEAT. 5 by the template 'for every input the law returns true; each argument reads behind the call as it read before'; 0 by the template 'total and deterministic' (their statements: YtgaiedcmohpiaaaTotals.lean).
  GIVEN WITH THE SEED: the statements are not yours to turn. If you find one false, say at which input.
  Laid BY PROGRAM, IN A SANDBOX (cutbox-rows.mjs): the forced cells as the released guide's own fill.sh prints them over the translation e2dd73ac47420786… (all of the seat's roots in one cut). By AI agents, Wed Nov 11 2026. No macro, syntax, notation, axiom, sorry.
-/
import Derived.Test.YtgaiedcmohpiaaaChecked
import GoSem.Claim
import GoSem.ClaimJoined
import GoSem.ClaimMapViews
import Derived.JoinedTies
import Derived.KernelRfl
namespace Go.Proofs.Ytgaiedcmohpiaaa
/- THE CELL 'sum', in the pinned program and in every row, IS THE sha256 OF THE DUMP (.gsa) THAT YtgaiedcmohpiaaaProg.lean LOADS. Nothing in Lean hashes anything: it is a label: what it is worth is what the hold of that sum in a sandbox is worth. -/
noncomputable def Try.pinned : Pinned := { name := "ytgaiedcmohpiaaa", sum := "e2dd73ac4742078608dbb2a6a701ea52861bdff99720847b844446111470aa30", checked := Try.checked }
namespace Rows
def none {H : Type} : Left H := { results := [], args := [] }

/-- 'bellowslaw03.WpqOrder': WHATEVER THE INPUT: true; the input reads as it did. -/
def wpqOrderSpec : ChangeSpec := { name := "wpqOrder", fn := fun _ => fun
  | [d1, d2] => { results := [.lit (.bool true)], args := [d1, d2] }
  | _ => none }
def wpqOrderRow : OpenClaim := { program := "ytgaiedcmohpiaaa", sum := "e2dd73ac4742078608dbb2a6a701ea52861bdff99720847b844446111470aa30", func := "bellows/bellowslaw03.WpqOrder", spec := "wpqOrder", inPlace := ["sync/atomic.AddInt64"], unfollowed := true, recurses := true, apart := false }
def WpqOrderSaid : Prop := wpqOrderRow.holds Try.pinned (OpenSpec.ofChange wpqOrderSpec)

/-- ITS FALSE NEIGHBOUR: 'it returns false'. Refute it at one input. -/
def wpqOrderWrong : ChangeSpec := { name := "wpqOrder", fn := fun _ => fun
  | [d1, d2] => { results := [.lit (.bool false)], args := [d1, d2] }
  | _ => none }
def WpqOrderWrongFalsely : Prop := wpqOrderRow.holds Try.pinned (OpenSpec.ofChange wpqOrderWrong)

/-- 'bellowslaw03.WpqRoom': WHATEVER THE INPUT: true; the input reads as it did. -/
def wpqRoomSpec : ChangeSpec := { name := "wpqRoom", fn := fun _ => fun
  | [d1, d2] => { results := [.lit (.bool true)], args := [d1, d2] }
  | _ => none }
def wpqRoomRow : OpenClaim := { program := "ytgaiedcmohpiaaa", sum := "e2dd73ac4742078608dbb2a6a701ea52861bdff99720847b844446111470aa30", func := "bellows/bellowslaw03.WpqRoom", spec := "wpqRoom", inPlace := ["sync/atomic.AddInt64"], unfollowed := true, recurses := true, apart := false }
def WpqRoomSaid : Prop := wpqRoomRow.holds Try.pinned (OpenSpec.ofChange wpqRoomSpec)

/-- ITS FALSE NEIGHBOUR: 'it returns false'. Refute it at one input. -/
def wpqRoomWrong : ChangeSpec := { name := "wpqRoom", fn := fun _ => fun
  | [d1, d2] => { results := [.lit (.bool false)], args := [d1, d2] }
  | _ => none }
def WpqRoomWrongFalsely : Prop := wpqRoomRow.holds Try.pinned (OpenSpec.ofChange wpqRoomWrong)

/-- 'bellowslaw03.WpqDrains': WHATEVER THE INPUT: true; the input reads as it did. -/
def wpqDrainsSpec : ChangeSpec := { name := "wpqDrains", fn := fun _ => fun
  | [d1, d2] => { results := [.lit (.bool true)], args := [d1, d2] }
  | _ => none }
def wpqDrainsRow : OpenClaim := { program := "ytgaiedcmohpiaaa", sum := "e2dd73ac4742078608dbb2a6a701ea52861bdff99720847b844446111470aa30", func := "bellows/bellowslaw03.WpqDrains", spec := "wpqDrains", inPlace := ["sync/atomic.AddInt64"], unfollowed := true, recurses := true, apart := false }
def WpqDrainsSaid : Prop := wpqDrainsRow.holds Try.pinned (OpenSpec.ofChange wpqDrainsSpec)

/-- ITS FALSE NEIGHBOUR: 'it returns false'. Refute it at one input. -/
def wpqDrainsWrong : ChangeSpec := { name := "wpqDrains", fn := fun _ => fun
  | [d1, d2] => { results := [.lit (.bool false)], args := [d1, d2] }
  | _ => none }
def WpqDrainsWrongFalsely : Prop := wpqDrainsRow.holds Try.pinned (OpenSpec.ofChange wpqDrainsWrong)

/-- 'bellowslaw03.WpqPlays': WHATEVER THE INPUT: true; the input reads as it did. -/
def wpqPlaysSpec : ChangeSpec := { name := "wpqPlays", fn := fun _ => fun
  | [d1, d2] => { results := [.lit (.bool true)], args := [d1, d2] }
  | _ => none }
def wpqPlaysRow : OpenClaim := { program := "ytgaiedcmohpiaaa", sum := "e2dd73ac4742078608dbb2a6a701ea52861bdff99720847b844446111470aa30", func := "bellows/bellowslaw03.WpqPlays", spec := "wpqPlays", inPlace := ["sync/atomic.AddInt64"], unfollowed := true, recurses := true, apart := false }
def WpqPlaysSaid : Prop := wpqPlaysRow.holds Try.pinned (OpenSpec.ofChange wpqPlaysSpec)

/-- ITS FALSE NEIGHBOUR: 'it returns false'. Refute it at one input. -/
def wpqPlaysWrong : ChangeSpec := { name := "wpqPlays", fn := fun _ => fun
  | [d1, d2] => { results := [.lit (.bool false)], args := [d1, d2] }
  | _ => none }
def WpqPlaysWrongFalsely : Prop := wpqPlaysRow.holds Try.pinned (OpenSpec.ofChange wpqPlaysWrong)

/-- 'bellowslaw03.WpqNone': WHATEVER THE INPUT: true; the input reads as it did. -/
def wpqNoneSpec : ChangeSpec := { name := "wpqNone", fn := fun _ => fun
  | [d1, d2] => { results := [.lit (.bool true)], args := [d1, d2] }
  | _ => none }
def wpqNoneRow : OpenClaim := { program := "ytgaiedcmohpiaaa", sum := "e2dd73ac4742078608dbb2a6a701ea52861bdff99720847b844446111470aa30", func := "bellows/bellowslaw03.WpqNone", spec := "wpqNone", inPlace := ["sync/atomic.AddInt64"], unfollowed := true, recurses := true, apart := false }
def WpqNoneSaid : Prop := wpqNoneRow.holds Try.pinned (OpenSpec.ofChange wpqNoneSpec)

/-- ITS FALSE NEIGHBOUR: 'it returns false'. Refute it at one input. -/
def wpqNoneWrong : ChangeSpec := { name := "wpqNone", fn := fun _ => fun
  | [d1, d2] => { results := [.lit (.bool false)], args := [d1, d2] }
  | _ => none }
def WpqNoneWrongFalsely : Prop := wpqNoneRow.holds Try.pinned (OpenSpec.ofChange wpqNoneWrong)

/- THE SECOND FORM. 'bulk': how many values and letters a reading holds, each counted each time it is reached (what is shared counts as often as it is met; a slice's spare places count too). A statement '..UptoSaid' is the law's where the arguments, and the package variables that the reading takes, are together of bulk at most 1048576: NARROWER than '..Said'. Prove '..Said' where nothing that the law and all that it calls make is longer than what came in: it says more and counts as full. Else prove '..UptoSaid'. A law counts once. -/
mutual
def uptoBulk {H : Type} : DataW H → Nat
  | .lit (.string bytes) => bytes.length + 1
  | .lit _ => 1
  | .nil => 1
  | .ptr d => uptoBulk d + 1
  | .slice elems spare => uptoBulkAll elems + uptoBulkAll spare + 1
  | .agg parts => uptoBulkAll parts + 1
  | .iface _ d => uptoBulk d + 1
  | .map entries => uptoBulkEntries entries + 1
  | .held _ => 1
def uptoBulkAll {H : Type} : List (DataW H) → Nat
  | [] => 0
  | d :: r => uptoBulk d + uptoBulkAll r
def uptoBulkEntries {H : Type} : List (Lit × DataW H) → Nat
  | [] => 0
  | x :: r => uptoBulkEntry x + uptoBulkEntries r
def uptoBulkEntry {H : Type} : Lit × DataW H → Nat
  | (.string bytes, d) => bytes.length + uptoBulk d + 1
  | (_, d) => uptoBulk d + 1
 end
def uptoSmall : (H : Type) → List (DataW H) → Bool := fun _ ds => decide (uptoBulkAll ds ≤ 1048576)
def OpenSpec.upto (s : _root_.Go.ChangeSpec) : _root_.Go.OpenSpec := { _root_.Go.OpenSpec.ofChange s with cond := some uptoSmall }

/-- 'bellowslaw03.WpqOrder', WHERE WHAT IT READS IS OF BULK AT MOST 1048576: true; the input reads as it did. -/
def wpqOrderUptoRow : OpenClaim := { program := "ytgaiedcmohpiaaa", sum := "e2dd73ac4742078608dbb2a6a701ea52861bdff99720847b844446111470aa30", func := "bellows/bellowslaw03.WpqOrder", spec := "wpqOrder", inPlace := ["sync/atomic.AddInt64"], unfollowed := true, recurses := true, apart := false, narrowed := true }
def WpqOrderUptoSaid : Prop := wpqOrderUptoRow.holds Try.pinned (OpenSpec.upto wpqOrderSpec)

/-- 'bellowslaw03.WpqRoom', WHERE WHAT IT READS IS OF BULK AT MOST 1048576: true; the input reads as it did. -/
def wpqRoomUptoRow : OpenClaim := { program := "ytgaiedcmohpiaaa", sum := "e2dd73ac4742078608dbb2a6a701ea52861bdff99720847b844446111470aa30", func := "bellows/bellowslaw03.WpqRoom", spec := "wpqRoom", inPlace := ["sync/atomic.AddInt64"], unfollowed := true, recurses := true, apart := false, narrowed := true }
def WpqRoomUptoSaid : Prop := wpqRoomUptoRow.holds Try.pinned (OpenSpec.upto wpqRoomSpec)

/-- 'bellowslaw03.WpqDrains', WHERE WHAT IT READS IS OF BULK AT MOST 1048576: true; the input reads as it did. -/
def wpqDrainsUptoRow : OpenClaim := { program := "ytgaiedcmohpiaaa", sum := "e2dd73ac4742078608dbb2a6a701ea52861bdff99720847b844446111470aa30", func := "bellows/bellowslaw03.WpqDrains", spec := "wpqDrains", inPlace := ["sync/atomic.AddInt64"], unfollowed := true, recurses := true, apart := false, narrowed := true }
def WpqDrainsUptoSaid : Prop := wpqDrainsUptoRow.holds Try.pinned (OpenSpec.upto wpqDrainsSpec)

/-- 'bellowslaw03.WpqPlays', WHERE WHAT IT READS IS OF BULK AT MOST 1048576: true; the input reads as it did. -/
def wpqPlaysUptoRow : OpenClaim := { program := "ytgaiedcmohpiaaa", sum := "e2dd73ac4742078608dbb2a6a701ea52861bdff99720847b844446111470aa30", func := "bellows/bellowslaw03.WpqPlays", spec := "wpqPlays", inPlace := ["sync/atomic.AddInt64"], unfollowed := true, recurses := true, apart := false, narrowed := true }
def WpqPlaysUptoSaid : Prop := wpqPlaysUptoRow.holds Try.pinned (OpenSpec.upto wpqPlaysSpec)

/-- 'bellowslaw03.WpqNone', WHERE WHAT IT READS IS OF BULK AT MOST 1048576: true; the input reads as it did. -/
def wpqNoneUptoRow : OpenClaim := { program := "ytgaiedcmohpiaaa", sum := "e2dd73ac4742078608dbb2a6a701ea52861bdff99720847b844446111470aa30", func := "bellows/bellowslaw03.WpqNone", spec := "wpqNone", inPlace := ["sync/atomic.AddInt64"], unfollowed := true, recurses := true, apart := false, narrowed := true }
def WpqNoneUptoSaid : Prop := wpqNoneUptoRow.holds Try.pinned (OpenSpec.upto wpqNoneSpec)

end Rows
end Go.Proofs.Ytgaiedcmohpiaaa
