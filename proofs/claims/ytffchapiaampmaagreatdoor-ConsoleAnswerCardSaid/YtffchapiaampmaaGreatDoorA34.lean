/-
  Part 34 of the proof that logtidelaw45.ConsoleAnswer returns true for every list of bytes and every text, and leaves both as they were.
-/
import Derived.Test.YtffchapiaampmaaGreatDoorA17
import Derived.Test.YtffchapiaampmaaGreatDoorA33
set_option linter.unusedSimpArgs false
set_option linter.unusedVariables false
namespace Go.Proofs.YtffchapiaampmaaGreatDoor
open Go.Av
set_option maxHeartbeats 4000000
attribute [local irreducible] XH XO PCall ACall
theorem digit99 (c : Int) : PCall Tryz.prog 99 [.val (.int .u8 c)] (fun r => ∃ b, r = B b) := by
 all_goals refine PCall.go 9 (fn := Tryz.f99) Tryz.func99 rfl rfl rfl (by simp) rfl ?_
 all_goals try refine XW.ra0 0 [0] ?_
 all_goals try refine XW.rS 1 ?_
 all_goals try refine XO.r0 3 ?_
 all_goals try first | refine XO.kT 5 ?_ | refine XO.kF 5 ?_ | refine XO.split 5 (fun g5 => ?_) (fun g5 => ?_)
 all_goals try refine XO.r0 4 ?_
 all_goals try refine XO.done [2] ?_
 all_goals try (refine XW.atr ?_; first | (exact XP.rs ⟨_, rfl⟩))
theorem letter79 (c : Int) : PCall Tryz.prog 79 [.val (.int .u8 c)] (fun r => ∃ b, r = B b) := by
 all_goals refine PCall.go 25 (fn := Tryz.f79) Tryz.func79 rfl rfl rfl (by simp) rfl ?_
 all_goals try refine XW.ra0 0 [0] ?_
 all_goals try refine XW.rS 1 ?_
 all_goals try refine XO.r0 3 ?_
 all_goals try first | refine XO.kT 5 ?_ | refine XO.kF 5 ?_ | refine XO.split 5 (fun g5 => ?_) (fun g5 => ?_)
 all_goals try refine XO.r0 4 ?_
 all_goals try first | refine XO.kT 9 ?_ | refine XO.kF 9 ?_ | refine XO.split 9 (fun g9 => ?_) (fun g9 => ?_)
 all_goals try refine XO.r0 3 ?_
 all_goals try first | refine XO.kT 12 ?_ | refine XO.kF 12 ?_ | refine XO.split 12 (fun g12 => ?_) (fun g12 => ?_)
 all_goals try refine XO.r0 5 ?_
 all_goals try first | refine XO.kT 17 ?_ | refine XO.kF 17 ?_ | refine XO.split 17 (fun g17 => ?_) (fun g17 => ?_)
 all_goals try refine XO.r0 4 ?_
 all_goals try first | refine XO.kT 21 ?_ | refine XO.kF 21 ?_ | refine XO.split 21 (fun g21 => ?_) (fun g21 => ?_)
 all_goals try refine XO.r0 4 ?_
 all_goals try refine XO.done [2] ?_
 all_goals try (refine XW.atr ?_; first | (exact XP.rs ⟨_, rfl⟩))
theorem inner81 (c : Int) : PCall Tryz.prog 81 [.val (.int .u8 c)] (fun r => ∃ b, r = B b) := by
 all_goals refine PCall.go 33 (fn := Tryz.f81) Tryz.func81 rfl rfl rfl (by simp) rfl ?_
 all_goals try refine XW.ra0 0 [0] ?_
 all_goals try refine XW.rS 1 ?_
 all_goals try refine XO.r0 3 ?_
 all_goals try first | refine XO.kT 5 ?_ | refine XO.kF 5 ?_ | refine XO.split 5 (fun g5 => ?_) (fun g5 => ?_)
 all_goals try refine XO.r0 4 ?_
 all_goals try first | refine XO.kT 9 ?_ | refine XO.kF 9 ?_ | refine XO.split 9 (fun g9 => ?_) (fun g9 => ?_)
 all_goals try refine XO.r0 3 ?_
 all_goals try first | refine XO.kT 12 ?_ | refine XO.kF 12 ?_ | refine XO.split 12 (fun g12 => ?_) (fun g12 => ?_)
 all_goals try refine XO.r0 5 ?_
 all_goals try first | refine XO.kT 17 ?_ | refine XO.kF 17 ?_ | refine XO.split 17 (fun g17 => ?_) (fun g17 => ?_)
 all_goals try refine XO.r0 4 ?_
 all_goals try first | refine XO.kT 21 ?_ | refine XO.kF 21 ?_ | refine XO.split 21 (fun g21 => ?_) (fun g21 => ?_)
 all_goals try refine XO.r0 1 ?_
 all_goals try first | (refine XO.p (digit99 _) ?_; rintro _ ⟨_, rfl⟩) | refine XO.r0 1 ?_
 all_goals try refine XO.r0 2 ?_
 all_goals try first | refine XO.kT 25 ?_ | refine XO.kF 25 ?_ | refine XO.split 25 (fun g25 => ?_) (fun g25 => ?_)
 all_goals try refine XO.r0 4 ?_
 all_goals try first | refine XO.kT 29 ?_ | refine XO.kF 29 ?_ | refine XO.split 29 (fun g29 => ?_) (fun g29 => ?_)
 all_goals try refine XO.r0 4 ?_
 all_goals try refine XO.done [2] ?_
 all_goals try (refine XW.atr ?_; first | (exact XP.rs ⟨_, rfl⟩))
theorem keyword80 (s : S) : PCall Tryz.prog 80 [str s] (fun r => ∃ b, r = B b) := by
 all_goals refine PCall.go 28 (fn := Tryz.f80) Tryz.func80 rfl rfl rfl (by simp) rfl ?_
 all_goals try refine XW.ra0 0 [0] ?_
 all_goals try refine XW.ra0 1 [3] ?_
 all_goals try refine XW.ra0 2 [3, 4] ?_
 all_goals try first | refine XW.cT 4 ?_ | refine XW.cF 4 ?_ | refine XW.cB 4 (fun c4 => ?_) (fun c4 => ?_)
 all_goals try refine XW.ra0 3 [3, 4] ?_
 all_goals try first | refine XW.cT 4 ?_ | refine XW.cF 4 ?_ | refine XW.cB 4 (fun c4 => ?_) (fun c4 => ?_)
 all_goals try refine XW.ra0 4 [3, 4] ?_
 all_goals try first | refine XW.cT 4 ?_ | refine XW.cF 4 ?_ | refine XW.cB 4 (fun c4 => ?_) (fun c4 => ?_)
 all_goals try refine XW.ra0 5 [3, 4] ?_
 all_goals try first | refine XW.cT 4 ?_ | refine XW.cF 4 ?_ | refine XW.cB 4 (fun c4 => ?_) (fun c4 => ?_)
 all_goals try refine XW.ra0 6 [3, 4] ?_
 all_goals try first | refine XW.cT 4 ?_ | refine XW.cF 4 ?_ | refine XW.cB 4 (fun c4 => ?_) (fun c4 => ?_)
 all_goals try refine XW.ra0 7 [3, 4] ?_
 all_goals try first | refine XW.cT 4 ?_ | refine XW.cF 4 ?_ | refine XW.cB 4 (fun c4 => ?_) (fun c4 => ?_)
 all_goals try refine XW.ra0 8 [3, 4] ?_
 all_goals try first | refine XW.cT 4 ?_ | refine XW.cF 4 ?_ | refine XW.cB 4 (fun c4 => ?_) (fun c4 => ?_)
 all_goals try refine XW.ra0 9 [3, 4] ?_
 all_goals try first | refine XW.cT 4 ?_ | refine XW.cF 4 ?_ | refine XW.cB 4 (fun c4 => ?_) (fun c4 => ?_)
 all_goals try refine XW.ra0 10 [3, 4] ?_
 all_goals try first | refine XW.cT 4 ?_ | refine XW.cF 4 ?_ | refine XW.cB 4 (fun c4 => ?_) (fun c4 => ?_)
 all_goals try refine XW.ra0 11 [3, 4] ?_
 all_goals try first | refine XW.cT 4 ?_ | refine XW.cF 4 ?_ | refine XW.cB 4 (fun c4 => ?_) (fun c4 => ?_)
 all_goals try refine XW.ra0 12 [3, 4] ?_
 all_goals try first | refine XW.cT 4 ?_ | refine XW.cF 4 ?_ | refine XW.cB 4 (fun c4 => ?_) (fun c4 => ?_)
 all_goals try refine XW.ra0 13 [3, 4] ?_
 all_goals try first | refine XW.cT 4 ?_ | refine XW.cF 4 ?_ | refine XW.cB 4 (fun c4 => ?_) (fun c4 => ?_)
 all_goals try refine XW.ra0 14 [3, 4] ?_
 all_goals try first | refine XW.cT 4 ?_ | refine XW.cF 4 ?_ | refine XW.cB 4 (fun c4 => ?_) (fun c4 => ?_)
 all_goals try refine XW.ra0 15 [3, 4] ?_
 all_goals try first | refine XW.cT 4 ?_ | refine XW.cF 4 ?_ | refine XW.cB 4 (fun c4 => ?_) (fun c4 => ?_)
 all_goals try refine XW.ra0 16 [3, 4] ?_
 all_goals try first | refine XW.cT 4 ?_ | refine XW.cF 4 ?_ | refine XW.cB 4 (fun c4 => ?_) (fun c4 => ?_)
 all_goals try refine XW.ra0 17 [3, 4] ?_
 all_goals try first | refine XW.cT 4 ?_ | refine XW.cF 4 ?_ | refine XW.cB 4 (fun c4 => ?_) (fun c4 => ?_)
 all_goals try refine XW.ra0 18 [3, 4] ?_
 all_goals try first | refine XW.cT 4 ?_ | refine XW.cF 4 ?_ | refine XW.cB 4 (fun c4 => ?_) (fun c4 => ?_)
 all_goals try refine XW.ra0 19 [3, 4] ?_
 all_goals try first | refine XW.cT 4 ?_ | refine XW.cF 4 ?_ | refine XW.cB 4 (fun c4 => ?_) (fun c4 => ?_)
 all_goals try refine XW.ra0 20 [3, 4] ?_
 all_goals try first | refine XW.cT 4 ?_ | refine XW.cF 4 ?_ | refine XW.cB 4 (fun c4 => ?_) (fun c4 => ?_)
 all_goals try refine XW.ra0 21 [3, 4] ?_
 all_goals try first | refine XW.cT 4 ?_ | refine XW.cF 4 ?_ | refine XW.cB 4 (fun c4 => ?_) (fun c4 => ?_)
 all_goals try refine XW.ra0 22 [3, 4] ?_
 all_goals try first | refine XW.cT 4 ?_ | refine XW.cF 4 ?_ | refine XW.cB 4 (fun c4 => ?_) (fun c4 => ?_)
 all_goals try refine XW.ra0 23 [3, 4] ?_
 all_goals try first | refine XW.cT 4 ?_ | refine XW.cF 4 ?_ | refine XW.cB 4 (fun c4 => ?_) (fun c4 => ?_)
 all_goals try refine XW.ra0 24 [4] ?_
 all_goals try first | refine XW.cT 4 ?_ | refine XW.cF 4 ?_ | refine XW.cB 4 (fun c4 => ?_) (fun c4 => ?_)
 all_goals try refine XW.ra0 25 [2] ?_
 all_goals try (refine XW.atr ?_; first | (exact XP.rs ⟨_, rfl⟩))
 all_goals try refine XW.ra0 26 [2] ?_
 all_goals try (refine XW.atr ?_; first | (exact XP.rs ⟨_, rfl⟩))
end Go.Proofs.YtffchapiaampmaaGreatDoor
