/-
  NARROWER THAN 'FOR EVERY INPUT', by the rows' own cells (each row's printed sentence says how): PlanCandidates: laid · PlanSkipsOnlyWhatCannotMatch: laid.
  DERIVED. THE GIVEN ROWS OF THIS SEAT. 2 by the template 'for every input the law returns true; each argument reads behind the call as it read before'; 0 by the template 'total and deterministic' (their statements: YtpkhodjlnodagaaGreatDoorTotals.lean).
  GIVEN WITH THE SEED: the statements are not yours to turn. If you find one false, say at which input.
  Laid BY PROGRAM, IN A SANDBOX (cutbox-rows.mjs): the forced cells as the released guide's own fill.sh prints them over the translation d655d43a582ab783… (all of the seat's roots in one cut). By AI agents, Wed Nov 11 2026. No macro, syntax, notation, axiom, sorry.
-/
import Derived.Test.YtpkhodjlnodagaaGreatDoorChecked
import GoSem.Claim
import GoSem.ClaimJoined
import GoSem.ClaimMapViews
import Derived.JoinedTies
import Derived.KernelRfl
namespace Go.Proofs.YtpkhodjlnodagaaGreatDoor
/- THE CELL 'sum', in the pinned program and in every row, IS THE sha256 OF THE DUMP (.gsa) THAT YtpkhodjlnodagaaGreatDoorProg.lean LOADS. Nothing in Lean hashes anything: it is a label: what it is worth is what the hold of that sum in a sandbox is worth. -/
noncomputable def Tryz.pinned : Pinned := { name := "ytpkhodjlnodagaagreatdoor", sum := "d655d43a582ab783a28f80fe9ade1920e19c6ae2920c2506dc0245a10201582d", checked := Tryz.checked }
namespace Rows
def none {H : Type} : Left H := { results := [], args := [] }

/- WHAT THE LISTED PACKAGE-LEVEL VARIABLES READ AS WHEN THE CALL BEGINS. Each datum BY PROGRAM (the guide's laid-datum.mjs) off the statement by which the dump's own 'gosem.cut.vars' lays the variable. In a bare row this is a premise. The card (YtpkhodjlnodagaaGreatDoorCards.lean) ties it to the program's text. -/
def laid_logtide_match_whole {H : Type} : DataW H := .agg [.lit (.int .i64 0), .lit (.int .i64 253402300799999)]

/-- 'logtidelaw41.PlanCandidates': WHATEVER THE INPUT: true; the input reads as it did. -/
def planCandidatesSpec : ChangeSpec := { name := "planCandidates", fn := fun _ => fun
  | [d] => { results := [.lit (.bool true)], args := [d] }
  | _ => none }
def planCandidatesRow : OpenClaim := { program := "ytpkhodjlnodagaagreatdoor", sum := "d655d43a582ab783a28f80fe9ade1920e19c6ae2920c2506dc0245a10201582d", func := "logtide/logtidelaw41.PlanCandidates", spec := "planCandidates", unfollowed := true, recurses := true, named := ["logtide/match.whole"], apart := false, laid := [("logtide/match.whole", laid_logtide_match_whole)] }
def PlanCandidatesSaid : Prop := planCandidatesRow.holds Tryz.pinned (OpenSpec.ofChange planCandidatesSpec)

/-- ITS FALSE NEIGHBOUR: 'it returns false'. Refute it at one input. -/
def planCandidatesWrong : ChangeSpec := { name := "planCandidates", fn := fun _ => fun
  | [d] => { results := [.lit (.bool false)], args := [d] }
  | _ => none }
def PlanCandidatesWrongFalsely : Prop := planCandidatesRow.holds Tryz.pinned (OpenSpec.ofChange planCandidatesWrong)

/-- 'logtidelaw41.PlanSkipsOnlyWhatCannotMatch': WHATEVER THE INPUT: true; the input reads as it did. -/
def planSkipsOnlyWhatCannotMatchSpec : ChangeSpec := { name := "planSkipsOnlyWhatCannotMatch", fn := fun _ => fun
  | [d] => { results := [.lit (.bool true)], args := [d] }
  | _ => none }
def planSkipsOnlyWhatCannotMatchRow : OpenClaim := { program := "ytpkhodjlnodagaagreatdoor", sum := "d655d43a582ab783a28f80fe9ade1920e19c6ae2920c2506dc0245a10201582d", func := "logtide/logtidelaw41.PlanSkipsOnlyWhatCannotMatch", spec := "planSkipsOnlyWhatCannotMatch", unfollowed := true, recurses := true, named := ["logtide/match.whole"], apart := false, laid := [("logtide/match.whole", laid_logtide_match_whole)] }
def PlanSkipsOnlyWhatCannotMatchSaid : Prop := planSkipsOnlyWhatCannotMatchRow.holds Tryz.pinned (OpenSpec.ofChange planSkipsOnlyWhatCannotMatchSpec)

/-- ITS FALSE NEIGHBOUR: 'it returns false'. Refute it at one input. -/
def planSkipsOnlyWhatCannotMatchWrong : ChangeSpec := { name := "planSkipsOnlyWhatCannotMatch", fn := fun _ => fun
  | [d] => { results := [.lit (.bool false)], args := [d] }
  | _ => none }
def PlanSkipsOnlyWhatCannotMatchWrongFalsely : Prop := planSkipsOnlyWhatCannotMatchRow.holds Tryz.pinned (OpenSpec.ofChange planSkipsOnlyWhatCannotMatchWrong)

/- THE SECOND FORM. 'bulk': how many values and letters a reading holds, each counted each time it is reached (what is shared counts as often as it is met; a slice's spare places count too). A statement '..UptoSaid' is the law's where the arguments, and the package variables that the reading takes, are together of bulk at most 1048576: NARROWER than '..Said'. Prove '..Said' where nothing that the law and all that it calls make is longer than what came in: it says more and counts as full. Else prove '..UptoSaid'. A law counts once. -/
mutual
def uptoBulk {H : Type} : DataW H → Nat
  | .lit (.string bytes) => bytes.length + 1
  | .lit _ => 1
  | .nil => 1
  | .ptr d => uptoBulk d + 1
  | .slice elems spare => uptoBulkAll elems + uptoBulkAll spare + 1
  | .agg parts => uptoBulkAll parts + 1
  | .iface _ d => uptoBulk d + 1
  | .map entries => uptoBulkEntries entries + 1
  | .held _ => 1
def uptoBulkAll {H : Type} : List (DataW H) → Nat
  | [] => 0
  | d :: r => uptoBulk d + uptoBulkAll r
def uptoBulkEntries {H : Type} : List (Lit × DataW H) → Nat
  | [] => 0
  | x :: r => uptoBulkEntry x + uptoBulkEntries r
def uptoBulkEntry {H : Type} : Lit × DataW H → Nat
  | (.string bytes, d) => bytes.length + uptoBulk d + 1
  | (_, d) => uptoBulk d + 1
 end
def uptoSmall : (H : Type) → List (DataW H) → Bool := fun _ ds => decide (uptoBulkAll ds ≤ 1048576)
def OpenSpec.upto (s : _root_.Go.ChangeSpec) : _root_.Go.OpenSpec := { _root_.Go.OpenSpec.ofChange s with cond := some uptoSmall }

/-- 'logtidelaw41.PlanCandidates', WHERE WHAT IT READS IS OF BULK AT MOST 1048576: true; the input reads as it did. -/
def planCandidatesUptoRow : OpenClaim := { program := "ytpkhodjlnodagaagreatdoor", sum := "d655d43a582ab783a28f80fe9ade1920e19c6ae2920c2506dc0245a10201582d", func := "logtide/logtidelaw41.PlanCandidates", spec := "planCandidates", unfollowed := true, recurses := true, named := ["logtide/match.whole"], apart := false, laid := [("logtide/match.whole", laid_logtide_match_whole)], narrowed := true }
def PlanCandidatesUptoSaid : Prop := planCandidatesUptoRow.holds Tryz.pinned (OpenSpec.upto planCandidatesSpec)

/-- 'logtidelaw41.PlanSkipsOnlyWhatCannotMatch', WHERE WHAT IT READS IS OF BULK AT MOST 1048576: true; the input reads as it did. -/
def planSkipsOnlyWhatCannotMatchUptoRow : OpenClaim := { program := "ytpkhodjlnodagaagreatdoor", sum := "d655d43a582ab783a28f80fe9ade1920e19c6ae2920c2506dc0245a10201582d", func := "logtide/logtidelaw41.PlanSkipsOnlyWhatCannotMatch", spec := "planSkipsOnlyWhatCannotMatch", unfollowed := true, recurses := true, named := ["logtide/match.whole"], apart := false, laid := [("logtide/match.whole", laid_logtide_match_whole)], narrowed := true }
def PlanSkipsOnlyWhatCannotMatchUptoSaid : Prop := planSkipsOnlyWhatCannotMatchUptoRow.holds Tryz.pinned (OpenSpec.upto planSkipsOnlyWhatCannotMatchSpec)

end Rows
end Go.Proofs.YtpkhodjlnodagaaGreatDoor
