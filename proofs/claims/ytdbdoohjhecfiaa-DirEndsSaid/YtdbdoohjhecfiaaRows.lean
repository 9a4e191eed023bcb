/-
  No cell of these rows narrows 'for every input' (looked for: loops, veiled, ifaces, maps, wideKeys, modest, calm, conditions, laid).
  DERIVED. THE GIVEN ROWS OF THIS SEAT. 6 by the template 'for every input the law returns true; each argument reads behind the call as it read before'; 0 by the template 'total and deterministic' (their statements: YtdbdoohjhecfiaaTotals.lean).
  GIVEN WITH THE SEED: the statements are not yours to turn. If you find one false, say at which input.
  Laid BY PROGRAM, IN A SANDBOX (cutbox-rows.mjs): the forced cells as the released guide's own fill.sh prints them over the translation d42bfb8fe2461d4d… (all of the seat's roots in one cut). By AI agents, Wed Nov 11 2026. No macro, syntax, notation, axiom, sorry.
-/
import Derived.Test.YtdbdoohjhecfiaaChecked
import GoSem.Claim
import GoSem.ClaimJoined
import GoSem.ClaimMapViews
import Derived.JoinedTies
import Derived.KernelRfl
namespace Go.Proofs.Ytdbdoohjhecfiaa
/- THE CELL 'sum', in the pinned program and in every row, IS THE sha256 OF THE DUMP (.gsa) THAT YtdbdoohjhecfiaaProg.lean LOADS. Nothing in Lean hashes anything: it is a label: what it is worth is what the hold of that sum in a sandbox is worth. -/
noncomputable def Try.pinned : Pinned := { name := "ytdbdoohjhecfiaa", sum := "d42bfb8fe2461d4d3fa022051a950cdcad887d3a73aa2445162f330a8a57f1de", checked := Try.checked }
namespace Rows
def none {H : Type} : Left H := { results := [], args := [] }

/-- 'bellowslaw07.DirPuts': WHATEVER THE INPUT: true; the input reads as it did. -/
def dirPutsSpec : ChangeSpec := { name := "dirPuts", fn := fun _ => fun
  | [d1, d2, d3] => { results := [.lit (.bool true)], args := [d1, d2, d3] }
  | _ => none }
def dirPutsRow : OpenClaim := { program := "ytdbdoohjhecfiaa", sum := "d42bfb8fe2461d4d3fa022051a950cdcad887d3a73aa2445162f330a8a57f1de", func := "bellows/bellowslaw07.DirPuts", spec := "dirPuts", unfollowed := true, recurses := true, apart := false }
def DirPutsSaid : Prop := dirPutsRow.holds Try.pinned (OpenSpec.ofChange dirPutsSpec)

/-- ITS FALSE NEIGHBOUR: 'it returns false'. Refute it at one input. -/
def dirPutsWrong : ChangeSpec := { name := "dirPuts", fn := fun _ => fun
  | [d1, d2, d3] => { results := [.lit (.bool false)], args := [d1, d2, d3] }
  | _ => none }
def DirPutsWrongFalsely : Prop := dirPutsRow.holds Try.pinned (OpenSpec.ofChange dirPutsWrong)

/-- 'bellowslaw07.DirAsks': WHATEVER THE INPUT: true; the input reads as it did. -/
def dirAsksSpec : ChangeSpec := { name := "dirAsks", fn := fun _ => fun
  | [d1, d2, d3] => { results := [.lit (.bool true)], args := [d1, d2, d3] }
  | _ => none }
def dirAsksRow : OpenClaim := { program := "ytdbdoohjhecfiaa", sum := "d42bfb8fe2461d4d3fa022051a950cdcad887d3a73aa2445162f330a8a57f1de", func := "bellows/bellowslaw07.DirAsks", spec := "dirAsks", unfollowed := true, recurses := true, apart := false }
def DirAsksSaid : Prop := dirAsksRow.holds Try.pinned (OpenSpec.ofChange dirAsksSpec)

/-- ITS FALSE NEIGHBOUR: 'it returns false'. Refute it at one input. -/
def dirAsksWrong : ChangeSpec := { name := "dirAsks", fn := fun _ => fun
  | [d1, d2, d3] => { results := [.lit (.bool false)], args := [d1, d2, d3] }
  | _ => none }
def DirAsksWrongFalsely : Prop := dirAsksRow.holds Try.pinned (OpenSpec.ofChange dirAsksWrong)

/-- 'bellowslaw07.DirEnds': WHATEVER THE INPUT: true; the input reads as it did. -/
def dirEndsSpec : ChangeSpec := { name := "dirEnds", fn := fun _ => fun
  | [d1, d2, d3] => { results := [.lit (.bool true)], args := [d1, d2, d3] }
  | _ => none }
def dirEndsRow : OpenClaim := { program := "ytdbdoohjhecfiaa", sum := "d42bfb8fe2461d4d3fa022051a950cdcad887d3a73aa2445162f330a8a57f1de", func := "bellows/bellowslaw07.DirEnds", spec := "dirEnds", unfollowed := true, recurses := true, apart := false }
def DirEndsSaid : Prop := dirEndsRow.holds Try.pinned (OpenSpec.ofChange dirEndsSpec)

/-- ITS FALSE NEIGHBOUR: 'it returns false'. Refute it at one input. -/
def dirEndsWrong : ChangeSpec := { name := "dirEnds", fn := fun _ => fun
  | [d1, d2, d3] => { results := [.lit (.bool false)], args := [d1, d2, d3] }
  | _ => none }
def DirEndsWrongFalsely : Prop := dirEndsRow.holds Try.pinned (OpenSpec.ofChange dirEndsWrong)

/-- 'bellowslaw07.DirAnswers': WHATEVER THE INPUT: true; the input reads as it did. -/
def dirAnswersSpec : ChangeSpec := { name := "dirAnswers", fn := fun _ => fun
  | [d1, d2, d3] => { results := [.lit (.bool true)], args := [d1, d2, d3] }
  | _ => none }
def dirAnswersRow : OpenClaim := { program := "ytdbdoohjhecfiaa", sum := "d42bfb8fe2461d4d3fa022051a950cdcad887d3a73aa2445162f330a8a57f1de", func := "bellows/bellowslaw07.DirAnswers", spec := "dirAnswers", unfollowed := true, recurses := true, apart := false }
def DirAnswersSaid : Prop := dirAnswersRow.holds Try.pinned (OpenSpec.ofChange dirAnswersSpec)

/-- ITS FALSE NEIGHBOUR: 'it returns false'. Refute it at one input. -/
def dirAnswersWrong : ChangeSpec := { name := "dirAnswers", fn := fun _ => fun
  | [d1, d2, d3] => { results := [.lit (.bool false)], args := [d1, d2, d3] }
  | _ => none }
def DirAnswersWrongFalsely : Prop := dirAnswersRow.holds Try.pinned (OpenSpec.ofChange dirAnswersWrong)

/-- 'bellowslaw07.DirGood': WHATEVER THE INPUT: true; the input reads as it did. -/
def dirGoodSpec : ChangeSpec := { name := "dirGood", fn := fun _ => fun
  | [d1, d2, d3] => { results := [.lit (.bool true)], args := [d1, d2, d3] }
  | _ => none }
def dirGoodRow : OpenClaim := { program := "ytdbdoohjhecfiaa", sum := "d42bfb8fe2461d4d3fa022051a950cdcad887d3a73aa2445162f330a8a57f1de", func := "bellows/bellowslaw07.DirGood", spec := "dirGood", unfollowed := true, recurses := true, apart := false }
def DirGoodSaid : Prop := dirGoodRow.holds Try.pinned (OpenSpec.ofChange dirGoodSpec)

/-- ITS FALSE NEIGHBOUR: 'it returns false'. Refute it at one input. -/
def dirGoodWrong : ChangeSpec := { name := "dirGood", fn := fun _ => fun
  | [d1, d2, d3] => { results := [.lit (.bool false)], args := [d1, d2, d3] }
  | _ => none }
def DirGoodWrongFalsely : Prop := dirGoodRow.holds Try.pinned (OpenSpec.ofChange dirGoodWrong)

/-- 'bellowslaw07.DirFlushes': WHATEVER THE INPUT: true; the input reads as it did. -/
def dirFlushesSpec : ChangeSpec := { name := "dirFlushes", fn := fun _ => fun
  | [d1, d2, d3] => { results := [.lit (.bool true)], args := [d1, d2, d3] }
  | _ => none }
def dirFlushesRow : OpenClaim := { program := "ytdbdoohjhecfiaa", sum := "d42bfb8fe2461d4d3fa022051a950cdcad887d3a73aa2445162f330a8a57f1de", func := "bellows/bellowslaw07.DirFlushes", spec := "dirFlushes", unfollowed := true, recurses := true, apart := false }
def DirFlushesSaid : Prop := dirFlushesRow.holds Try.pinned (OpenSpec.ofChange dirFlushesSpec)

/-- ITS FALSE NEIGHBOUR: 'it returns false'. Refute it at one input. -/
def dirFlushesWrong : ChangeSpec := { name := "dirFlushes", fn := fun _ => fun
  | [d1, d2, d3] => { results := [.lit (.bool false)], args := [d1, d2, d3] }
  | _ => none }
def DirFlushesWrongFalsely : Prop := dirFlushesRow.holds Try.pinned (OpenSpec.ofChange dirFlushesWrong)

/- THE SECOND FORM. 'bulk': how many values and letters a reading holds, each counted each time it is reached (what is shared counts as often as it is met; a slice's spare places count too). A statement '..UptoSaid' is the law's where the arguments, and the package variables that the reading takes, are together of bulk at most 1048576: NARROWER than '..Said'. Prove '..Said' where nothing that the law and all that it calls make is longer than what came in: it says more and counts as full. Else prove '..UptoSaid'. A law counts once. -/
mutual
def uptoBulk {H : Type} : DataW H → Nat
  | .lit (.string bytes) => bytes.length + 1
  | .lit _ => 1
  | .nil => 1
  | .ptr d => uptoBulk d + 1
  | .slice elems spare => uptoBulkAll elems + uptoBulkAll spare + 1
  | .agg parts => uptoBulkAll parts + 1
  | .iface _ d => uptoBulk d + 1
  | .map entries => uptoBulkEntries entries + 1
  | .held _ => 1
def uptoBulkAll {H : Type} : List (DataW H) → Nat
  | [] => 0
  | d :: r => uptoBulk d + uptoBulkAll r
def uptoBulkEntries {H : Type} : List (Lit × DataW H) → Nat
  | [] => 0
  | x :: r => uptoBulkEntry x + uptoBulkEntries r
def uptoBulkEntry {H : Type} : Lit × DataW H → Nat
  | (.string bytes, d) => bytes.length + uptoBulk d + 1
  | (_, d) => uptoBulk d + 1
 end
def uptoSmall : (H : Type) → List (DataW H) → Bool := fun _ ds => decide (uptoBulkAll ds ≤ 1048576)
def OpenSpec.upto (s : _root_.Go.ChangeSpec) : _root_.Go.OpenSpec := { _root_.Go.OpenSpec.ofChange s with cond := some uptoSmall }

/-- 'bellowslaw07.DirPuts', WHERE WHAT IT READS IS OF BULK AT MOST 1048576: true; the input reads as it did. -/
def dirPutsUptoRow : OpenClaim := { program := "ytdbdoohjhecfiaa", sum := "d42bfb8fe2461d4d3fa022051a950cdcad887d3a73aa2445162f330a8a57f1de", func := "bellows/bellowslaw07.DirPuts", spec := "dirPuts", unfollowed := true, recurses := true, apart := false, narrowed := true }
def DirPutsUptoSaid : Prop := dirPutsUptoRow.holds Try.pinned (OpenSpec.upto dirPutsSpec)

/-- 'bellowslaw07.DirAsks', WHERE WHAT IT READS IS OF BULK AT MOST 1048576: true; the input reads as it did. -/
def dirAsksUptoRow : OpenClaim := { program := "ytdbdoohjhecfiaa", sum := "d42bfb8fe2461d4d3fa022051a950cdcad887d3a73aa2445162f330a8a57f1de", func := "bellows/bellowslaw07.DirAsks", spec := "dirAsks", unfollowed := true, recurses := true, apart := false, narrowed := true }
def DirAsksUptoSaid : Prop := dirAsksUptoRow.holds Try.pinned (OpenSpec.upto dirAsksSpec)

/-- 'bellowslaw07.DirEnds', WHERE WHAT IT READS IS OF BULK AT MOST 1048576: true; the input reads as it did. -/
def dirEndsUptoRow : OpenClaim := { program := "ytdbdoohjhecfiaa", sum := "d42bfb8fe2461d4d3fa022051a950cdcad887d3a73aa2445162f330a8a57f1de", func := "bellows/bellowslaw07.DirEnds", spec := "dirEnds", unfollowed := true, recurses := true, apart := false, narrowed := true }
def DirEndsUptoSaid : Prop := dirEndsUptoRow.holds Try.pinned (OpenSpec.upto dirEndsSpec)

/-- 'bellowslaw07.DirAnswers', WHERE WHAT IT READS IS OF BULK AT MOST 1048576: true; the input reads as it did. -/
def dirAnswersUptoRow : OpenClaim := { program := "ytdbdoohjhecfiaa", sum := "d42bfb8fe2461d4d3fa022051a950cdcad887d3a73aa2445162f330a8a57f1de", func := "bellows/bellowslaw07.DirAnswers", spec := "dirAnswers", unfollowed := true, recurses := true, apart := false, narrowed := true }
def DirAnswersUptoSaid : Prop := dirAnswersUptoRow.holds Try.pinned (OpenSpec.upto dirAnswersSpec)

/-- 'bellowslaw07.DirGood', WHERE WHAT IT READS IS OF BULK AT MOST 1048576: true; the input reads as it did. -/
def dirGoodUptoRow : OpenClaim := { program := "ytdbdoohjhecfiaa", sum := "d42bfb8fe2461d4d3fa022051a950cdcad887d3a73aa2445162f330a8a57f1de", func := "bellows/bellowslaw07.DirGood", spec := "dirGood", unfollowed := true, recurses := true, apart := false, narrowed := true }
def DirGoodUptoSaid : Prop := dirGoodUptoRow.holds Try.pinned (OpenSpec.upto dirGoodSpec)

/-- 'bellowslaw07.DirFlushes', WHERE WHAT IT READS IS OF BULK AT MOST 1048576: true; the input reads as it did. -/
def dirFlushesUptoRow : OpenClaim := { program := "ytdbdoohjhecfiaa", sum := "d42bfb8fe2461d4d3fa022051a950cdcad887d3a73aa2445162f330a8a57f1de", func := "bellows/bellowslaw07.DirFlushes", spec := "dirFlushes", unfollowed := true, recurses := true, apart := false, narrowed := true }
def DirFlushesUptoSaid : Prop := dirFlushesUptoRow.holds Try.pinned (OpenSpec.upto dirFlushesSpec)

end Rows
end Go.Proofs.Ytdbdoohjhecfiaa
