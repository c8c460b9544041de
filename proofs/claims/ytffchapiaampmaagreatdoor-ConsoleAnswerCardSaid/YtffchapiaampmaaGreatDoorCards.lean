/-
  DERIVED. GIVEN WITH THE SEED: THE CARDS: each row of YtffchapiaampmaaGreatDoorRows.lean that lists a variable, with what it lists TIED to the program's text (the seventh form; the later family's looks); each row that meets fmt, with fmt's text TOLD by the authors' own Lean function (tested against real Go, not proved from fmt's source: count such statements apart). THE CARD IS WHAT COUNTS. Prove the row's statement (the work); the ties are given (YtffchapiaampmaaGreatDoorTie.lean); close each card by the builder's one call (the guide's Derived/Test/ToyasCard.lean, 'card_holds'). Laid BY PROGRAM, IN A SANDBOX (cutbox-door.mjs). By AI agents, Wed Nov 11 2026. No macro, syntax, notation, axiom, sorry.
-/
import Derived.Test.YtffchapiaampmaaGreatDoorRows
import GoSem.ClaimSeven
namespace Go.Proofs.YtffchapiaampmaaGreatDoor
namespace Rows

/-- THE TIED CARD OF 'logtidelaw45.ConsoleAnswer'. -/
def consoleAnswerCard : Claim7 := { stood := { row := consoleAnswerRow, standIns := [], harness := (true, "8343c2e37cbde9bf108e2e271db1478bc6fdd7d16433eae4a43d486b83684fd3"), looks := true }, kinds := [], alts := [], laidByText := true, laidKinds := [.data, .data, .data], laidTests := true, laidLooks := .later }
def ConsoleAnswerCardSaid : Prop := Claim7.holds Tryz.pinned (.plain (OpenSpec.ofChange consoleAnswerSpec)) consoleAnswerCard

/-- THE SECOND FORM's CARD OF 'logtidelaw45.ConsoleAnswer'. -/
def consoleAnswerUptoCard : Claim7 := { stood := { row := consoleAnswerUptoRow, standIns := [], harness := (true, "8343c2e37cbde9bf108e2e271db1478bc6fdd7d16433eae4a43d486b83684fd3"), looks := true }, kinds := [], alts := [], laidByText := true, laidKinds := [.data, .data, .data], laidTests := true, laidLooks := .later }
def ConsoleAnswerUptoCardSaid : Prop := Claim7.holds Tryz.pinned (.plain (OpenSpec.upto consoleAnswerSpec)) consoleAnswerUptoCard
end Rows
end Go.Proofs.YtffchapiaampmaaGreatDoor
