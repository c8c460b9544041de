/-
  DERIVED. GIVEN WITH THE SEED: THE CARDS: each row of YtpkhodjlnodagaaGreatDoorRows.lean that lists a variable, with what it lists TIED to the program's text (the seventh form; the later family's looks); each row that meets fmt, with fmt's text TOLD by the authors' own Lean function (tested against real Go, not proved from fmt's source: count such statements apart). THE CARD IS WHAT COUNTS. Prove the row's statement (the work); the ties are given (YtpkhodjlnodagaaGreatDoorTie.lean); close each card by the builder's one call (the guide's Derived/Test/ToyasCard.lean, 'card_holds'). Laid BY PROGRAM, IN A SANDBOX (cutbox-door.mjs). By AI agents, Wed Nov 11 2026. No macro, syntax, notation, axiom, sorry.
-/
import Derived.Test.YtpkhodjlnodagaaGreatDoorRows
import GoSem.ClaimSeven
namespace Go.Proofs.YtpkhodjlnodagaaGreatDoor
namespace Rows

/-- THE TIED CARD OF 'logtidelaw41.PlanCandidates'. -/
def planCandidatesCard : Claim7 := { stood := { row := planCandidatesRow, standIns := [], harness := (true, "e3e0a8c238eb144b3e8ad73de3f8bcc729694d3dde97986b0e5d363ef2f67737"), looks := false }, kinds := [], alts := [], laidByText := true, laidKinds := [.data], laidTests := true, laidLooks := .later }
def PlanCandidatesCardSaid : Prop := Claim7.holds Tryz.pinned (.plain (OpenSpec.ofChange planCandidatesSpec)) planCandidatesCard

/-- THE TIED CARD OF 'logtidelaw41.PlanSkipsOnlyWhatCannotMatch'. -/
def planSkipsOnlyWhatCannotMatchCard : Claim7 := { stood := { row := planSkipsOnlyWhatCannotMatchRow, standIns := [], harness := (true, "e3e0a8c238eb144b3e8ad73de3f8bcc729694d3dde97986b0e5d363ef2f67737"), looks := false }, kinds := [], alts := [], laidByText := true, laidKinds := [.data], laidTests := true, laidLooks := .later }
def PlanSkipsOnlyWhatCannotMatchCardSaid : Prop := Claim7.holds Tryz.pinned (.plain (OpenSpec.ofChange planSkipsOnlyWhatCannotMatchSpec)) planSkipsOnlyWhatCannotMatchCard

/-- THE SECOND FORM's CARD OF 'logtidelaw41.PlanCandidates'. -/
def planCandidatesUptoCard : Claim7 := { stood := { row := planCandidatesUptoRow, standIns := [], harness := (true, "e3e0a8c238eb144b3e8ad73de3f8bcc729694d3dde97986b0e5d363ef2f67737"), looks := false }, kinds := [], alts := [], laidByText := true, laidKinds := [.data], laidTests := true, laidLooks := .later }
def PlanCandidatesUptoCardSaid : Prop := Claim7.holds Tryz.pinned (.plain (OpenSpec.upto planCandidatesSpec)) planCandidatesUptoCard

/-- THE SECOND FORM's CARD OF 'logtidelaw41.PlanSkipsOnlyWhatCannotMatch'. -/
def planSkipsOnlyWhatCannotMatchUptoCard : Claim7 := { stood := { row := planSkipsOnlyWhatCannotMatchUptoRow, standIns := [], harness := (true, "e3e0a8c238eb144b3e8ad73de3f8bcc729694d3dde97986b0e5d363ef2f67737"), looks := false }, kinds := [], alts := [], laidByText := true, laidKinds := [.data], laidTests := true, laidLooks := .later }
def PlanSkipsOnlyWhatCannotMatchUptoCardSaid : Prop := Claim7.holds Tryz.pinned (.plain (OpenSpec.upto planSkipsOnlyWhatCannotMatchSpec)) planSkipsOnlyWhatCannotMatchUptoCard
end Rows
end Go.Proofs.YtpkhodjlnodagaaGreatDoor
