/-
  DERIVED. GIVEN WITH THE SEED: THE CARDS: each row of YtljbcclpmlkpnaaDoorRows.lean that lists a variable, with what it lists TIED to the program's text (the seventh form; the later family's looks); each row that meets fmt, with fmt's text TOLD by the authors' own Lean function (tested against real Go, not proved from fmt's source: count such statements apart). THE CARD IS WHAT COUNTS. Prove the row's statement (the work); the ties are given (YtljbcclpmlkpnaaDoorTie.lean); close each card by the builder's one call (the guide's Derived/Test/ToyasCard.lean, 'card_holds'). Laid BY PROGRAM, IN A SANDBOX (cutbox-door.mjs). By AI agents, Wed Nov 11 2026. No macro, syntax, notation, axiom, sorry.
-/
import Derived.Test.YtljbcclpmlkpnaaDoorRows
import GoSem.ClaimSeven
namespace Go.Proofs.YtljbcclpmlkpnaaDoor
namespace Rows

/-- THE TIED CARD OF 'bellowslaw30.ConsoleReads'. -/
def consoleReadsCard : Claim7 := { stood := { row := consoleReadsRow, standIns := [], harness := (true, "aab5be83fc2f424bcdfec3998f520e91df511f34f994e8c1e44b7bd4a2842abc"), looks := true }, kinds := [], alts := [], laidByText := true, laidKinds := [.data, .data, .data, .data, .sentinel, .sentinel], laidTests := true, laidLooks := .later }
def ConsoleReadsCardSaid : Prop := Claim7.holds Tryd.pinned (.plain (OpenSpec.ofChange consoleReadsSpec)) consoleReadsCard

/-- THE TIED CARD OF 'bellowslaw30.ConsoleLines'. -/
def consoleLinesCard : Claim7 := { stood := { row := consoleLinesRow, standIns := [], harness := (true, "aab5be83fc2f424bcdfec3998f520e91df511f34f994e8c1e44b7bd4a2842abc"), looks := true }, kinds := [], alts := [], laidByText := true, laidKinds := [.data, .data, .data, .data, .sentinel, .sentinel], laidTests := true, laidLooks := .later }
def ConsoleLinesCardSaid : Prop := Claim7.holds Tryd.pinned (.plain (OpenSpec.ofChange consoleLinesSpec)) consoleLinesCard

/-- THE TIED CARD OF 'bellowslaw30.ConsoleBack'. -/
def consoleBackCard : Claim7 := { stood := { row := consoleBackRow, standIns := [], harness := (true, "aab5be83fc2f424bcdfec3998f520e91df511f34f994e8c1e44b7bd4a2842abc"), looks := true }, kinds := [], alts := [], laidByText := true, laidKinds := [.data, .data, .data, .data, .sentinel, .sentinel], laidTests := true, laidLooks := .later }
def ConsoleBackCardSaid : Prop := Claim7.holds Tryd.pinned (.plain (OpenSpec.ofChange consoleBackSpec)) consoleBackCard

/-- THE TIED CARD OF 'bellowslaw30.ConsoleWords'. -/
def consoleWordsCard : Claim7 := { stood := { row := consoleWordsRow, standIns := [], harness := (true, "aab5be83fc2f424bcdfec3998f520e91df511f34f994e8c1e44b7bd4a2842abc"), looks := true }, kinds := [], alts := [], laidByText := true, laidKinds := [.data, .data, .data, .data, .sentinel, .sentinel], laidTests := true, laidLooks := .later }
def ConsoleWordsCardSaid : Prop := Claim7.holds Tryd.pinned (.plain (OpenSpec.ofChange consoleWordsSpec)) consoleWordsCard

/-- THE SECOND FORM's CARD OF 'bellowslaw30.ConsoleReads'. -/
def consoleReadsUptoCard : Claim7 := { stood := { row := consoleReadsUptoRow, standIns := [], harness := (true, "aab5be83fc2f424bcdfec3998f520e91df511f34f994e8c1e44b7bd4a2842abc"), looks := true }, kinds := [], alts := [], laidByText := true, laidKinds := [.data, .data, .data, .data, .sentinel, .sentinel], laidTests := true, laidLooks := .later }
def ConsoleReadsUptoCardSaid : Prop := Claim7.holds Tryd.pinned (.plain (OpenSpec.upto consoleReadsSpec)) consoleReadsUptoCard

/-- THE SECOND FORM's CARD OF 'bellowslaw30.ConsoleLines'. -/
def consoleLinesUptoCard : Claim7 := { stood := { row := consoleLinesUptoRow, standIns := [], harness := (true, "aab5be83fc2f424bcdfec3998f520e91df511f34f994e8c1e44b7bd4a2842abc"), looks := true }, kinds := [], alts := [], laidByText := true, laidKinds := [.data, .data, .data, .data, .sentinel, .sentinel], laidTests := true, laidLooks := .later }
def ConsoleLinesUptoCardSaid : Prop := Claim7.holds Tryd.pinned (.plain (OpenSpec.upto consoleLinesSpec)) consoleLinesUptoCard

/-- THE SECOND FORM's CARD OF 'bellowslaw30.ConsoleBack'. -/
def consoleBackUptoCard : Claim7 := { stood := { row := consoleBackUptoRow, standIns := [], harness := (true, "aab5be83fc2f424bcdfec3998f520e91df511f34f994e8c1e44b7bd4a2842abc"), looks := true }, kinds := [], alts := [], laidByText := true, laidKinds := [.data, .data, .data, .data, .sentinel, .sentinel], laidTests := true, laidLooks := .later }
def ConsoleBackUptoCardSaid : Prop := Claim7.holds Tryd.pinned (.plain (OpenSpec.upto consoleBackSpec)) consoleBackUptoCard

/-- THE SECOND FORM's CARD OF 'bellowslaw30.ConsoleWords'. -/
def consoleWordsUptoCard : Claim7 := { stood := { row := consoleWordsUptoRow, standIns := [], harness := (true, "aab5be83fc2f424bcdfec3998f520e91df511f34f994e8c1e44b7bd4a2842abc"), looks := true }, kinds := [], alts := [], laidByText := true, laidKinds := [.data, .data, .data, .data, .sentinel, .sentinel], laidTests := true, laidLooks := .later }
def ConsoleWordsUptoCardSaid : Prop := Claim7.holds Tryd.pinned (.plain (OpenSpec.upto consoleWordsSpec)) consoleWordsUptoCard
end Rows
end Go.Proofs.YtljbcclpmlkpnaaDoor
