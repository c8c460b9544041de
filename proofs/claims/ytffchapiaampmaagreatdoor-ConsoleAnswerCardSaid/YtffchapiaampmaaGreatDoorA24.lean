/-
  Part 24 of the proof that logtidelaw45.ConsoleAnswer returns true for every list of bytes and every text, and leaves both as they were.
-/
import Derived.Test.YtffchapiaampmaaGreatDoorA08
import Derived.Test.YtffchapiaampmaaGreatDoorA23
set_option linter.unusedSimpArgs false
set_option linter.unusedVariables false
namespace Go.Proofs.YtffchapiaampmaaGreatDoor
open Go.Av
attribute [local irreducible] ACall
@[simp] theorem intE_nil : intE [] = [] := rfl
@[simp] theorem strE_nil : strE [] = [] := rfl
@[simp] theorem bytesE_nil : bytesE [] = [] := rfl
end Go.Proofs.YtffchapiaampmaaGreatDoor
