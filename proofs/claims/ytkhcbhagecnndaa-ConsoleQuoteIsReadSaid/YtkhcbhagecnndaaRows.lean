/-
  No cell of these rows narrows 'for every input' (looked for: loops, veiled, ifaces, maps, wideKeys, modest, calm, conditions, laid).
  DERIVED. THE GIVEN ROWS OF THIS SEAT. 1 by the template 'for every input the law returns true; each argument reads behind the call as it read before'; 0 by the template 'total and deterministic' (their statements: YtkhcbhagecnndaaTotals.lean).
  GIVEN WITH THE SEED: the statements are not yours to turn. If you find one false, say at which input.
  Laid BY PROGRAM, IN A SANDBOX (cutbox-rows.mjs): the forced cells as the released guide's own fill.sh prints them over the translation 5efa0bf80da11a31… (all of the seat's roots in one cut). By AI agents, Wed Nov 11 2026. No macro, syntax, notation, axiom, sorry.
-/
import Derived.Test.YtkhcbhagecnndaaChecked
import GoSem.Claim
import GoSem.ClaimJoined
import GoSem.ClaimMapViews
import Derived.JoinedTies
import Derived.KernelRfl
namespace Go.Proofs.Ytkhcbhagecnndaa
/- THE CELL 'sum', in the pinned program and in every row, IS THE sha256 OF THE DUMP (.gsa) THAT YtkhcbhagecnndaaProg.lean LOADS. Nothing in Lean hashes anything: it is a label: what it is worth is what the hold of that sum in a sandbox is worth. -/
noncomputable def Try.pinned : Pinned := { name := "ytkhcbhagecnndaa", sum := "5efa0bf80da11a31a787312ad1dea05e97a41d253ea18a22a79d0af678ba3ea3", checked := Try.checked }
namespace Rows
def none {H : Type} : Left H := { results := [], args := [] }

/-- 'logtidelaw45.ConsoleQuoteIsRead': WHATEVER THE INPUT: true; the input reads as it did. -/
def consoleQuoteIsReadSpec : ChangeSpec := { name := "consoleQuoteIsRead", fn := fun _ => fun
  | [d] => { results := [.lit (.bool true)], args := [d] }
  | _ => none }
def consoleQuoteIsReadRow : OpenClaim := { program := "ytkhcbhagecnndaa", sum := "5efa0bf80da11a31a787312ad1dea05e97a41d253ea18a22a79d0af678ba3ea3", func := "logtide/logtidelaw45.ConsoleQuoteIsRead", spec := "consoleQuoteIsRead", recurses := true, apart := false }
def ConsoleQuoteIsReadSaid : Prop := consoleQuoteIsReadRow.holds Try.pinned (OpenSpec.ofChange consoleQuoteIsReadSpec)

/-- ITS FALSE NEIGHBOUR: 'it returns false'. Refute it at one input. -/
def consoleQuoteIsReadWrong : ChangeSpec := { name := "consoleQuoteIsRead", fn := fun _ => fun
  | [d] => { results := [.lit (.bool false)], args := [d] }
  | _ => none }
def ConsoleQuoteIsReadWrongFalsely : Prop := consoleQuoteIsReadRow.holds Try.pinned (OpenSpec.ofChange consoleQuoteIsReadWrong)

/- THE SECOND FORM. 'bulk': how many values and letters a reading holds, each counted each time it is reached (what is shared counts as often as it is met; a slice's spare places count too). A statement '..UptoSaid' is the law's where the arguments, and the package variables that the reading takes, are together of bulk at most 1048576: NARROWER than '..Said'. Prove '..Said' where nothing that the law and all that it calls make is longer than what came in: it says more and counts as full. Else prove '..UptoSaid'. A law counts once. -/
mutual
def uptoBulk {H : Type} : DataW H → Nat
  | .lit (.string bytes) => bytes.length + 1
  | .lit _ => 1
  | .nil => 1
  | .ptr d => uptoBulk d + 1
  | .slice elems spare => uptoBulkAll elems + uptoBulkAll spare + 1
  | .agg parts => uptoBulkAll parts + 1
  | .iface _ d => uptoBulk d + 1
  | .map entries => uptoBulkEntries entries + 1
  | .held _ => 1
def uptoBulkAll {H : Type} : List (DataW H) → Nat
  | [] => 0
  | d :: r => uptoBulk d + uptoBulkAll r
def uptoBulkEntries {H : Type} : List (Lit × DataW H) → Nat
  | [] => 0
  | x :: r => uptoBulkEntry x + uptoBulkEntries r
def uptoBulkEntry {H : Type} : Lit × DataW H → Nat
  | (.string bytes, d) => bytes.length + uptoBulk d + 1
  | (_, d) => uptoBulk d + 1
 end
def uptoSmall : (H : Type) → List (DataW H) → Bool := fun _ ds => decide (uptoBulkAll ds ≤ 1048576)
def OpenSpec.upto (s : _root_.Go.ChangeSpec) : _root_.Go.OpenSpec := { _root_.Go.OpenSpec.ofChange s with cond := some uptoSmall }

/-- 'logtidelaw45.ConsoleQuoteIsRead', WHERE WHAT IT READS IS OF BULK AT MOST 1048576: true; the input reads as it did. -/
def consoleQuoteIsReadUptoRow : OpenClaim := { program := "ytkhcbhagecnndaa", sum := "5efa0bf80da11a31a787312ad1dea05e97a41d253ea18a22a79d0af678ba3ea3", func := "logtide/logtidelaw45.ConsoleQuoteIsRead", spec := "consoleQuoteIsRead", recurses := true, apart := false, narrowed := true }
def ConsoleQuoteIsReadUptoSaid : Prop := consoleQuoteIsReadUptoRow.holds Try.pinned (OpenSpec.upto consoleQuoteIsReadSpec)

end Rows
end Go.Proofs.Ytkhcbhagecnndaa
