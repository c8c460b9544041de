/- Part 26 of the proof of PlanCandidates. -/
import Derived.Test.YtpkhodjlnodagaaGreatDoorA05
import Derived.Test.YtpkhodjlnodagaaGreatDoorA25
set_option linter.unusedSimpArgs false
set_option linter.unusedVariables false
set_option linter.unusedSectionVars false
namespace Go.Proofs.YtpkhodjlnodagaaGreatDoor
open Go.Av
set_option maxHeartbeats 4000000
attribute [local irreducible] Af
attribute [simp] ED Cw FL To TV UH TD TS TX ND
def AH:AV:= .val (.slice none 0 0)
attribute [go_sem] AH
end Go.Proofs.YtpkhodjlnodagaaGreatDoor
