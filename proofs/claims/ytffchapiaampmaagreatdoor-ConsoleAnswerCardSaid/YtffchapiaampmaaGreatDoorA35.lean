/-
  Part 35 of the proof that logtidelaw45.ConsoleAnswer returns true for every list of bytes and every text, and leaves both as they were.
-/
import Derived.Test.YtffchapiaampmaaGreatDoorA17
import Derived.Test.YtffchapiaampmaaGreatDoorA34
set_option linter.unusedSimpArgs false
set_option linter.unusedVariables false
namespace Go.Proofs.YtffchapiaampmaaGreatDoor
open Go.Av
set_option maxHeartbeats 4000000
set_option maxRecDepth 10000
attribute [local irreducible] XH XO PCall ACall
theorem goodName57 (s : S) (hs : s.length ≤ 2 ^ 30) : PCall Tryz.prog 57 [str s] (fun r => ∃ b, r = B b) := by
 all_goals refine PCall.go 33 (fn := Tryz.f57) Tryz.func57 rfl rfl rfl (by simp) rfl ?_
 all_goals try refine XW.ra0 0 [0] ?_
 all_goals try refine XW.rS 1 ?_
 all_goals try refine XO.r0 4 ?_
 all_goals try first | refine XO.kT 7 ?_ | refine XO.kF 7 ?_ | refine XO.split 7 (fun g7 => ?_) (fun g7 => ?_)
 all_goals try refine XO.r0 5 ?_
 all_goals try first | refine XO.kT 12 ?_ | refine XO.kF 12 ?_ | refine XO.split 12 (fun g12 => ?_) (fun g12 => ?_)
 all_goals try refine XO.r0 1 ?_
 all_goals try (have h0 := len0 g7; obtain ⟨x, hx, _⟩ := getx s 0 h0)
 all_goals try refine XO.r1 1 ?_
 all_goals try first | (refine XO.p (letter79 _) ?_; rintro _ ⟨_, rfl⟩) | refine XO.r0 1 ?_
 all_goals try refine XO.r0 3 ?_
 all_goals try first | refine XO.kT 18 ?_ | refine XO.kF 18 ?_ | refine XO.split 18 (fun g18 => ?_) (fun g18 => ?_)
 all_goals try refine XO.r0 1 ?_
 all_goals try first | (refine XO.p (keyword80 _) ?_; rintro _ ⟨_, rfl⟩) | refine XO.r0 1 ?_
 all_goals try refine XO.r0 1 ?_
 all_goals try refine XO.done [0, 21] ?_
 all_goals try first | refine XW.cT 21 ?_ | refine XW.cF 21 ?_ | refine XW.cB 21 (fun c21 => ?_) (fun c21 => ?_)
 all_goals try refine XW.ra0 2 [2] ?_
 all_goals try (refine XW.atr ?_; first | (exact XP.rs ⟨_, rfl⟩))
 all_goals try refine XW.ra0 3 [0, 3] ?_
 all_goals try (refine XW.lp 0 (fun i : Nat => ⟨[(0, str s), (3, I (i : Nat))], []⟩) (fun i => i ≤ s.length + 1) (fun i => s.length + 1 - i) 1 (mkWk [] [] (by simp [wkEnv, lk, lkh, I, str, B, U8, U64, U32]; first | done | omega) (by simp [wkHp, wkHp1, wkEnt, lkh, I, str])) ?_; rintro i hI0 Y0 hY0; skip)
 all_goals try refine XW.ra0 4 [0, 3, 25] ?_
 all_goals try first | refine XW.cT 25 ?_ | refine XW.cF 25 ?_ | refine XW.cB 25 (fun c25 => ?_) (fun c25 => ?_)
 all_goals try (refine XW.at 6 ?_; have hi := ltC c25; obtain ⟨x, hx, _⟩ := getx s i hi)
 all_goals try refine XW.rS 6 ?_
 all_goals try refine XO.r1 3 ?_
 all_goals try (refine XO.p (inner81 _) ?_; rintro _ ⟨_, rfl⟩)
 all_goals try refine XO.r0 1 ?_
 all_goals try refine XO.done [0, 3, 32] ?_
 all_goals try first | refine XW.cT 32 ?_ | refine XW.cF 32 ?_ | refine XW.cB 32 (fun c32 => ?_) (fun c32 => ?_)
 all_goals try refine XW.ra0 7 [2] ?_
 all_goals try (refine XW.atr ?_; first | (exact XP.rs ⟨_, rfl⟩))
 all_goals try refine XW.ra2 5 [0, 3] ?_
 all_goals try (refine XH.le ?_; first | (exact eY hY0 (i + 1) (mkWk [] [] (by simp [wkEnv, lk, lkh, I, str, B, U8, U64, U32]; first | done | omega) (by simp [wkHp, wkHp1, wkEnt, lkh, I, str]))))
 all_goals try refine XW.ra0 8 [2] ?_
 all_goals try (refine XW.atr ?_; first | (exact XP.rs ⟨_, rfl⟩))
theorem goodWord114 (s : S) (hs : s.length ≤ 2 ^ 30) : PCall Tryz.prog 114 [str s] (fun r => ∃ b, r = B b) := by
 all_goals refine PCall.go 37 (fn := Tryz.f114) Tryz.func114 rfl rfl rfl (by simp) rfl ?_
 all_goals try refine XW.ra0 0 [0] ?_
 all_goals try refine XW.rS 1 ?_
 all_goals try refine XO.r0 4 ?_
 all_goals try first | refine XO.kT 8 ?_ | refine XO.kF 8 ?_ | refine XO.split 8 (fun g8 => ?_) (fun g8 => ?_)
 all_goals try refine XO.r0 4 ?_
 all_goals try refine XO.done [0, 12] ?_
 all_goals try first | refine XW.cT 12 ?_ | refine XW.cF 12 ?_ | refine XW.cB 12 (fun c12 => ?_) (fun c12 => ?_)
 all_goals try refine XW.ra0 2 [2] ?_
 all_goals try (refine XW.atr ?_; first | (exact XP.rs ⟨_, rfl⟩))
 all_goals try refine XW.ra0 3 [0, 3] ?_
 all_goals try (refine XW.lp 0 (fun i : Nat => ⟨[(0, str s), (3, I (i : Nat))], []⟩) (fun i => i ≤ s.length) (fun i => s.length - i) 0 (mkWk [] [] (by simp [wkEnv, lk, lkh, I, str, B, U8, U64, U32]; first | done | omega) (by simp [wkHp, wkHp1, wkEnt, lkh, I, str])) ?_; rintro i hI0 Y0 hY0; skip)
 all_goals try refine XW.ra0 4 [0, 3, 16] ?_
 all_goals try first | refine XW.cT 16 ?_ | refine XW.cF 16 ?_ | refine XW.cB 16 (fun c16 => ?_) (fun c16 => ?_)
 all_goals try (refine XW.at 6 ?_; have hi := ltC c16; obtain ⟨x, hx, _⟩ := getx s i hi)
 all_goals try refine XW.ra1 6 [0, 3, 4] ?_
 all_goals try refine XW.rS 7 ?_
 all_goals try refine XO.r0 3 ?_
 all_goals try first | refine XO.kT 24 ?_ | refine XO.kF 24 ?_ | refine XO.split 24 (fun g24 => ?_) (fun g24 => ?_)
 all_goals try refine XO.r0 4 ?_
 all_goals try first | refine XO.kT 28 ?_ | refine XO.kF 28 ?_ | refine XO.split 28 (fun g28 => ?_) (fun g28 => ?_)
 all_goals try refine XO.r0 1 ?_
 all_goals try first | (refine XO.p (digit99 _) ?_; rintro _ ⟨_, rfl⟩) | refine XO.r0 1 ?_
 all_goals try refine XO.r0 2 ?_
 all_goals try first | refine XO.kT 32 ?_ | refine XO.kF 32 ?_ | refine XO.split 32 (fun g32 => ?_) (fun g32 => ?_)
 all_goals try refine XO.r0 4 ?_
 all_goals try refine XO.done [0, 3, 36] ?_
 all_goals try first | refine XW.cT 36 ?_ | refine XW.cF 36 ?_ | refine XW.cB 36 (fun c36 => ?_) (fun c36 => ?_)
 all_goals try refine XW.ra0 8 [2] ?_
 all_goals try (refine XW.atr ?_; first | (exact XP.rs ⟨_, rfl⟩))
 all_goals try refine XW.ra2 5 [0, 3] ?_
 all_goals try (refine XH.le ?_; first | (exact eY hY0 (i + 1) (mkWk [] [] (by simp [wkEnv, lk, lkh, I, str, B, U8, U64, U32]; first | done | omega) (by simp [wkHp, wkHp1, wkEnt, lkh, I, str]))))
 all_goals try refine XW.ra0 9 [2] ?_
 all_goals try (refine XW.atr ?_; first | (exact XP.rs ⟨_, rfl⟩))
theorem digits115 (n : Int) : PCall Tryz.prog 115 [I n] (fun r => ∃ b, r = B b) := by
 all_goals refine PCall.go 9 (fn := Tryz.f115) Tryz.func115 rfl rfl rfl (by simp) rfl ?_
 all_goals try refine XW.ra0 0 [0] ?_
 all_goals try refine XW.rS 1 ?_
 all_goals try refine XO.r0 3 ?_
 all_goals try first | refine XO.kT 5 ?_ | refine XO.kF 5 ?_ | refine XO.split 5 (fun g5 => ?_) (fun g5 => ?_)
 all_goals try refine XO.r0 4 ?_
 all_goals try refine XO.done [2] ?_
 all_goals try (refine XW.atr ?_; first | (exact XP.rs ⟨_, rfl⟩))
theorem shape113 (t : Ts) : PCall Tryz.prog 113 [.agg (tsC t)] (fun r => ∃ b, r = B b) := by
 all_goals refine PCall.go 117 (fn := Tryz.f113) Tryz.func113 rfl rfl rfl (by simp) rfl ?_
 all_goals try refine XW.ra0 0 [1] ?_
 all_goals try refine XW.ra0 1 [1, 3] ?_
 all_goals try refine XW.ra0 2 [1, 3, 8] ?_
 all_goals try refine XW.ra0 3 [1, 3, 8, 9] ?_
 all_goals try first | refine XW.cT 9 ?_ | refine XW.cF 9 ?_ | refine XW.cB 9 (fun c9 => ?_) (fun c9 => ?_)
 all_goals try refine XW.rS 4 ?_
 all_goals try refine XO.r0 3 ?_
 all_goals try first | refine XO.kT 13 ?_ | refine XO.kF 13 ?_ | refine XO.split 13 (fun g13 => ?_) (fun g13 => ?_)
 all_goals try refine XO.r0 5 ?_
 all_goals try first | refine XO.kT 18 ?_ | refine XO.kF 18 ?_ | refine XO.split 18 (fun g18 => ?_) (fun g18 => ?_)
 all_goals try refine XO.r0 5 ?_
 all_goals try first | refine XO.kT 23 ?_ | refine XO.kF 23 ?_ | refine XO.split 23 (fun g23 => ?_) (fun g23 => ?_)
 all_goals try refine XO.r0 5 ?_
 all_goals try refine XO.done [2] ?_
 all_goals try (refine XW.atr ?_; first | (exact XP.rs ⟨_, rfl⟩))
 all_goals try refine XW.ra0 5 [1, 3, 8, 28] ?_
 all_goals try first | refine XW.cT 28 ?_ | refine XW.cF 28 ?_ | refine XW.cB 28 (fun c28 => ?_) (fun c28 => ?_)
 all_goals try refine XW.ra0 6 [1, 3, 8, 28] ?_
 all_goals try first | refine XW.cT 28 ?_ | refine XW.cF 28 ?_ | refine XW.cB 28 (fun c28 => ?_) (fun c28 => ?_)
 all_goals try refine XW.ra0 7 [1, 3, 8, 28] ?_
 all_goals try first | refine XW.cT 28 ?_ | refine XW.cF 28 ?_ | refine XW.cB 28 (fun c28 => ?_) (fun c28 => ?_)
 all_goals try refine XW.rS 8 ?_
 all_goals try refine XO.r0 3 ?_
 all_goals try first | refine XO.kT 34 ?_ | refine XO.kF 34 ?_ | refine XO.split 34 (fun g34 => ?_) (fun g34 => ?_)
 all_goals try refine XO.r0 5 ?_
 all_goals try first | refine XO.kT 39 ?_ | refine XO.kF 39 ?_ | refine XO.split 39 (fun g39 => ?_) (fun g39 => ?_)
 all_goals try refine XO.r0 5 ?_
 all_goals try refine XO.done [2] ?_
 all_goals try (refine XW.atr ?_; first | (exact XP.rs ⟨_, rfl⟩))
 all_goals try refine XW.ra0 9 [1, 3, 8, 44] ?_
 all_goals try first | refine XW.cT 44 ?_ | refine XW.cF 44 ?_ | refine XW.cB 44 (fun c44 => ?_) (fun c44 => ?_)
 all_goals try refine XW.rS 10 ?_
 all_goals try refine XO.r0 3 ?_
 all_goals try first | refine XO.kT 48 ?_ | refine XO.kF 48 ?_ | refine XO.split 48 (fun g48 => ?_) (fun g48 => ?_)
 all_goals try refine XO.r0 5 ?_
 all_goals try refine XO.done [2] ?_
 all_goals try (refine XW.atr ?_; first | (exact XP.rs ⟨_, rfl⟩))
 all_goals try refine XW.ra0 11 [1, 3, 8, 53] ?_
 all_goals try first | refine XW.cT 53 ?_ | refine XW.cF 53 ?_ | refine XW.cB 53 (fun c53 => ?_) (fun c53 => ?_)
 all_goals try refine XW.rS 12 ?_
 all_goals try refine XO.r0 3 ?_
 all_goals try first | refine XO.kT 57 ?_ | refine XO.kF 57 ?_ | refine XO.split 57 (fun g57 => ?_) (fun g57 => ?_)
 all_goals try refine XO.r0 5 ?_
 all_goals try first | refine XO.kT 62 ?_ | refine XO.kF 62 ?_ | refine XO.split 62 (fun g62 => ?_) (fun g62 => ?_)
 all_goals try refine XO.r0 5 ?_
 all_goals try first | refine XO.kT 67 ?_ | refine XO.kF 67 ?_ | refine XO.split 67 (fun g67 => ?_) (fun g67 => ?_)
 all_goals try refine XO.r0 5 ?_
 all_goals try refine XO.done [2] ?_
 all_goals try (refine XW.atr ?_; first | (exact XP.rs ⟨_, rfl⟩))
 all_goals try refine XW.ra0 13 [1, 3, 8, 72] ?_
 all_goals try first | refine XW.cT 72 ?_ | refine XW.cF 72 ?_ | refine XW.cB 72 (fun c72 => ?_) (fun c72 => ?_)
 all_goals try refine XW.ra0 14 [1, 3, 8, 72] ?_
 all_goals try first | refine XW.cT 72 ?_ | refine XW.cF 72 ?_ | refine XW.cB 72 (fun c72 => ?_) (fun c72 => ?_)
 all_goals try refine XW.rS 15 ?_
 all_goals try refine XO.r0 3 ?_
 all_goals try first | refine XO.kT 77 ?_ | refine XO.kF 77 ?_ | refine XO.split 77 (fun g77 => ?_) (fun g77 => ?_)
 all_goals try refine XO.r0 5 ?_
 all_goals try first | refine XO.kT 82 ?_ | refine XO.kF 82 ?_ | refine XO.split 82 (fun g82 => ?_) (fun g82 => ?_)
 all_goals try refine XO.r0 5 ?_
 all_goals try first | refine XO.kT 87 ?_ | refine XO.kF 87 ?_ | refine XO.split 87 (fun g87 => ?_) (fun g87 => ?_)
 all_goals try refine XO.r0 5 ?_
 all_goals try refine XO.done [2] ?_
 all_goals try (refine XW.atr ?_; first | (exact XP.rs ⟨_, rfl⟩))
 all_goals try refine XW.ra0 16 [1, 3, 8, 92] ?_
 all_goals try first | refine XW.cT 92 ?_ | refine XW.cF 92 ?_ | refine XW.cB 92 (fun c92 => ?_) (fun c92 => ?_)
 all_goals try refine XW.rS 17 ?_
 all_goals try refine XO.r0 3 ?_
 all_goals try first | refine XO.kT 96 ?_ | refine XO.kF 96 ?_ | refine XO.split 96 (fun g96 => ?_) (fun g96 => ?_)
 all_goals try refine XO.r0 5 ?_
 all_goals try first | refine XO.kT 101 ?_ | refine XO.kF 101 ?_ | refine XO.split 101 (fun g101 => ?_) (fun g101 => ?_)
 all_goals try refine XO.r0 5 ?_
 all_goals try refine XO.done [2] ?_
 all_goals try (refine XW.atr ?_; first | (exact XP.rs ⟨_, rfl⟩))
 all_goals try refine XW.ra0 18 [1, 3, 8, 106] ?_
 all_goals try first | refine XW.cT 106 ?_ | refine XW.cF 106 ?_ | refine XW.cB 106 (fun c106 => ?_) (fun c106 => ?_)
 all_goals try refine XW.ra0 19 [1, 3, 8, 106] ?_
 all_goals try first | refine XW.cT 106 ?_ | refine XW.cF 106 ?_ | refine XW.cB 106 (fun c106 => ?_) (fun c106 => ?_)
 all_goals try refine XW.ra0 20 [1, 3, 106] ?_
 all_goals try first | refine XW.cT 106 ?_ | refine XW.cF 106 ?_ | refine XW.cB 106 (fun c106 => ?_) (fun c106 => ?_)
 all_goals try refine XW.rS 21 ?_
 all_goals try refine XO.r0 3 ?_
 all_goals try first | refine XO.kT 112 ?_ | refine XO.kF 112 ?_ | refine XO.split 112 (fun g112 => ?_) (fun g112 => ?_)
 all_goals try refine XO.r0 5 ?_
 all_goals try refine XO.done [2] ?_
 all_goals try (refine XW.atr ?_; first | (exact XP.rs ⟨_, rfl⟩))
 all_goals try refine XW.ra0 22 [2] ?_
 all_goals try (refine XW.atr ?_; first | (exact XP.rs ⟨_, rfl⟩))
theorem zeroTest54 (t : Ts) : PCall Tryz.prog 54 [.agg (tsC t)] (fun r => ∃ b, r = B b) := by
 all_goals refine PCall.go 27 (fn := Tryz.f54) Tryz.func54 rfl rfl rfl (by simp) rfl ?_
 all_goals try refine XW.ra0 0 [1] ?_
 all_goals try refine XW.rS 1 ?_
 all_goals try refine XO.r0 4 ?_
 all_goals try first | refine XO.kT 6 ?_ | refine XO.kF 6 ?_ | refine XO.split 6 (fun g6 => ?_) (fun g6 => ?_)
 all_goals try refine XO.r0 5 ?_
 all_goals try first | refine XO.kT 11 ?_ | refine XO.kF 11 ?_ | refine XO.split 11 (fun g11 => ?_) (fun g11 => ?_)
 all_goals try refine XO.r0 5 ?_
 all_goals try first | refine XO.kT 16 ?_ | refine XO.kF 16 ?_ | refine XO.split 16 (fun g16 => ?_) (fun g16 => ?_)
 all_goals try refine XO.r0 5 ?_
 all_goals try first | refine XO.kT 21 ?_ | refine XO.kF 21 ?_ | refine XO.split 21 (fun g21 => ?_) (fun g21 => ?_)
 all_goals try refine XO.r0 6 ?_
 all_goals try refine XO.done [2] ?_
 all_goals try (refine XW.atr ?_; first | (exact XP.rs ⟨_, rfl⟩))
end Go.Proofs.YtffchapiaampmaaGreatDoor
