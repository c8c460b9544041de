/-
  Part 26 of the proof that logtidelaw45.ConsoleAnswer returns true for every list of bytes and every text, and leaves both as they were.
-/
import Derived.Test.YtffchapiaampmaaGreatDoorA09
import Derived.Test.YtffchapiaampmaaGreatDoorA25
set_option linter.unusedSimpArgs false
set_option linter.unusedVariables false
namespace Go.Proofs.YtffchapiaampmaaGreatDoor
open Go.Av
attribute [local irreducible] ACall
attribute [simp] intE_len bytesE_len strE_len lnE_len flE_len evE_len
@[go_sem] theorem E127 : Av.elemOf (tabOf Tryz.prog) 127 = none := by kernel_rfl
def nilV : AV := .val (.slice none 0 0)
attribute [go_sem] nilV
end Go.Proofs.YtffchapiaampmaaGreatDoor
