/-
  Part 33 of the proof that logtidelaw45.ConsoleAnswer returns true for every list of bytes and every text, and leaves both as they were.
-/
import Derived.Test.YtffchapiaampmaaGreatDoorA16
import Derived.Test.YtffchapiaampmaaGreatDoorA32
set_option linter.unusedSimpArgs false
set_option linter.unusedVariables false
namespace Go.Proofs.YtffchapiaampmaaGreatDoor
open Go.Av
attribute [local irreducible] ACall
theorem new10 (cs : List UInt8) (hc : cs.length < 2 ^ 63) : ∃ L : List UInt8, L.length ≤ 500 ∧ ACall Tryz.prog 5 [.sl 1 (bytesE cs), I 500] [] (.ptr 0 2 0 0) [some (cdE L 0)] := by
 refine ⟨cs.take (min cs.length 500), by simp; omega, ?_⟩
 refine acall 13 0 Tryz.func5 rfl rfl rfl (by simp) rfl rfl ?_
 intro C hN hk
 refine nx ?_; refine rG hN hk noc [] [0, 1] fun K hK => ?_; simp only [go_sem, seval]; refine hK _ _ ?_
 clear hK K; refine nx ?_
 have e1 : (if 500 < (cs.length : Int) then 500 else (cs.length : Int)) = ((min cs.length 500 : Nat) : Int) := by split <;> omega
 refine nx ?_; refine rG hN hk noc [] [4] fun K hK => ?_; simp only [go_sem, seval, e1]
 (first | with_reducible refine hK _ _ ?_ | refine obK (hK _ _ ?_)); clear hK K; refine nx ?_
 refine AW.ret (mkRet [some 0] [] rfl (by simp [resOf, lk, lkh, I, str, B, U8, U64, U32, cdE] <;> omega) (by first | (simp [wkHp, wkHp1, wkEnt, lkh, cdE]; done) | simp [wkHp, wkHp1, wkEnt, lkh, I, str, cdE]))
end Go.Proofs.YtffchapiaampmaaGreatDoor
