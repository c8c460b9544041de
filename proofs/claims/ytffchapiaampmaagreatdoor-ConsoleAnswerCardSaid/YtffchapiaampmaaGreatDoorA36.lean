/-
  Part 36 of the proof that logtidelaw45.ConsoleAnswer returns true for every list of bytes and every text, and leaves both as they were.
-/
import Derived.Test.YtffchapiaampmaaGreatDoorA17
import Derived.Test.YtffchapiaampmaaGreatDoorA35
set_option linter.unusedSimpArgs false
set_option linter.unusedVariables false
namespace Go.Proofs.YtffchapiaampmaaGreatDoor
open Go.Av
set_option maxHeartbeats 4000000
set_option maxRecDepth 10000
attribute [local irreducible] XH XO PCall ACall
attribute [go_sem] qyC
theorem one95 (t : Ts) (h1 : t.name.length ≤ 2 ^ 30) (h2 : t.text.length ≤ 2 ^ 30) : PCall Tryz.prog 95 [.agg (tsC t)] (fun r => ∃ n : Int, r = I n) := by
 have q1 := shape113 t; simp only [tsC_c] at q1
 all_goals refine PCall.go 48 (fn := Tryz.f95) Tryz.func95 rfl rfl rfl (by simp) rfl ?_
 all_goals try refine XW.ra0 0 [1] ?_
 all_goals try refine XW.rS 1 ?_
 all_goals try refine XO.r0 1 ?_
 all_goals try (refine XO.p (q1) ?_; rintro _ ⟨_, rfl⟩)
 all_goals try refine XO.r0 1 ?_
 all_goals try refine XO.done [1, 5] ?_
 all_goals try first | refine XW.cT 5 ?_ | refine XW.cF 5 ?_ | refine XW.cB 5 (fun c5 => ?_) (fun c5 => ?_)
 all_goals try refine XW.ra0 2 [2] ?_
 all_goals try (refine XW.atr ?_; first | (exact XP.rs ⟨_, rfl⟩))
 all_goals try refine XW.ra0 3 [1, 7] ?_
 all_goals try refine XW.ra0 4 [1, 7, 8] ?_
 all_goals try first | refine XW.cT 8 ?_ | refine XW.cF 8 ?_ | refine XW.cB 8 (fun c8 => ?_) (fun c8 => ?_)
 all_goals try refine XW.ra0 5 [1, 7, 8] ?_
 all_goals try first | refine XW.cT 8 ?_ | refine XW.cF 8 ?_ | refine XW.cB 8 (fun c8 => ?_) (fun c8 => ?_)
 all_goals try refine XW.ra0 6 [1, 7, 8] ?_
 all_goals try first | refine XW.cT 8 ?_ | refine XW.cF 8 ?_ | refine XW.cB 8 (fun c8 => ?_) (fun c8 => ?_)
 all_goals try refine XW.ra0 7 [1, 7, 8] ?_
 all_goals try first | refine XW.cT 8 ?_ | refine XW.cF 8 ?_ | refine XW.cB 8 (fun c8 => ?_) (fun c8 => ?_)
 all_goals try refine XW.ra0 8 [1, 7, 8] ?_
 all_goals try first | refine XW.cT 8 ?_ | refine XW.cF 8 ?_ | refine XW.cB 8 (fun c8 => ?_) (fun c8 => ?_)
 all_goals try refine XW.rS 9 ?_
 all_goals try refine XO.r0 2 ?_
 all_goals try (refine XO.p (goodName57 _ (by omega)) ?_; rintro _ ⟨_, rfl⟩)
 all_goals try refine XO.r0 1 ?_
 all_goals try refine XO.done [1, 17] ?_
 all_goals try first | refine XW.cT 17 ?_ | refine XW.cF 17 ?_ | refine XW.cB 17 (fun c17 => ?_) (fun c17 => ?_)
 all_goals try refine XW.ra0 10 [2] ?_
 all_goals try (refine XW.atr ?_; first | (exact XP.rs ⟨_, rfl⟩))
 all_goals try refine XW.ra0 11 [1, 7, 18] ?_
 all_goals try first | refine XW.cT 18 ?_ | refine XW.cF 18 ?_ | refine XW.cB 18 (fun c18 => ?_) (fun c18 => ?_)
 all_goals try refine XW.ra0 12 [1, 7, 18] ?_
 all_goals try first | refine XW.cT 18 ?_ | refine XW.cF 18 ?_ | refine XW.cB 18 (fun c18 => ?_) (fun c18 => ?_)
 all_goals try refine XW.rS 13 ?_
 all_goals try refine XO.r0 2 ?_
 all_goals try (refine XO.p (goodWord114 _ (by omega)) ?_; rintro _ ⟨_, rfl⟩)
 all_goals try refine XO.r0 1 ?_
 all_goals try refine XO.done [1, 24] ?_
 all_goals try first | refine XW.cT 24 ?_ | refine XW.cF 24 ?_ | refine XW.cB 24 (fun c24 => ?_) (fun c24 => ?_)
 all_goals try refine XW.ra0 14 [2] ?_
 all_goals try (refine XW.atr ?_; first | (exact XP.rs ⟨_, rfl⟩))
 all_goals try refine XW.ra0 15 [1, 25] ?_
 all_goals try first | refine XW.cT 25 ?_ | refine XW.cF 25 ?_ | refine XW.cB 25 (fun c25 => ?_) (fun c25 => ?_)
 all_goals try refine XW.ra0 16 [1, 29] ?_
 all_goals try first | refine XW.cT 29 ?_ | refine XW.cF 29 ?_ | refine XW.cB 29 (fun c29 => ?_) (fun c29 => ?_)
 all_goals try refine XW.ra0 17 [2] ?_
 all_goals try (refine XW.atr ?_; first | (exact XP.rs ⟨_, rfl⟩))
 all_goals try refine XW.rS 18 ?_
 all_goals try refine XO.r0 4 ?_
 all_goals try first | refine XO.kT 33 ?_ | refine XO.kF 33 ?_ | refine XO.split 33 (fun g33 => ?_) (fun g33 => ?_)
 all_goals try refine XO.r0 5 ?_
 all_goals try first | refine XO.kT 38 ?_ | refine XO.kF 38 ?_ | refine XO.split 38 (fun g38 => ?_) (fun g38 => ?_)
 all_goals try refine XO.r0 5 ?_
 all_goals try refine XO.done [1, 43] ?_
 all_goals try first | refine XW.cT 43 ?_ | refine XW.cF 43 ?_ | refine XW.cB 43 (fun c43 => ?_) (fun c43 => ?_)
 all_goals try refine XW.ra0 19 [2] ?_
 all_goals try (refine XW.atr ?_; first | (exact XP.rs ⟨_, rfl⟩))
 all_goals try refine XW.rS 20 ?_
 all_goals try refine XO.r0 2 ?_
 all_goals try (refine XO.p (digits115 _) ?_; rintro _ ⟨_, rfl⟩)
 all_goals try refine XO.r0 1 ?_
 all_goals try refine XO.done [47] ?_
 all_goals try first | refine XW.cT 47 ?_ | refine XW.cF 47 ?_ | refine XW.cB 47 (fun c47 => ?_) (fun c47 => ?_)
 all_goals try refine XW.ra0 21 [2] ?_
 all_goals try (refine XW.atr ?_; first | (exact XP.rs ⟨_, rfl⟩))
 all_goals try refine XW.ra0 22 [2] ?_
 all_goals try (refine XW.atr ?_; first | (exact XP.rs ⟨_, rfl⟩))
theorem visitStep75 (t : Ts) (h1 : t.name.length ≤ 2 ^ 30) (h2 : t.text.length ≤ 2 ^ 30) (h3 : t.kids.length ≤ 2 ^ 30) (hk : ∀ k ∈ t.kids, ∀ dep seen : Int, PCall Tryz.prog 75 [.agg (tsC k), I dep, I seen] (fun r => ∃ n e : Int, r = .tup [I n, I e])) (dep seen : Int) : PCall Tryz.prog 75 [.agg (tsC t), I dep, I seen] (fun r => ∃ n e : Int, r = .tup [I n, I e]) := by
 have q1 := one95 t h1 h2; simp only [tsC_c] at hk q1
 all_goals refine PCall.go 49 (fn := Tryz.f75) Tryz.func75 rfl rfl rfl (by simp) rfl ?_
 all_goals try refine XW.ra0 0 [1, 2, 3] ?_
 all_goals try refine XW.ra2 1 [1, 2, 3] ?_
 all_goals try refine XW.ra0 2 [1, 2, 3, 14] ?_
 all_goals try first | refine XW.cT 14 ?_ | refine XW.cF 14 ?_ | refine XW.cB 14 (fun c14 => ?_) (fun c14 => ?_)
 all_goals try refine XW.ra0 3 [6, 7] ?_
 all_goals try (refine XW.atr ?_; first | (exact XP.rs ⟨_, _, rfl⟩))
 all_goals try refine XW.ra0 4 [1, 2, 3, 17] ?_
 all_goals try first | refine XW.cT 17 ?_ | refine XW.cF 17 ?_ | refine XW.cB 17 (fun c17 => ?_) (fun c17 => ?_)
 all_goals try refine XW.ra0 5 [6, 7] ?_
 all_goals try (refine XW.atr ?_; first | (exact XP.rs ⟨_, _, rfl⟩))
 all_goals try refine XW.rS 6 ?_
 all_goals try refine XO.r0 1 ?_
 all_goals try (refine XO.p (q1) ?_; rintro _ ⟨e0, rfl⟩)
 all_goals try refine XO.r0 1 ?_
 all_goals try refine XO.done [1, 2, 3, 8] ?_
 all_goals try refine XW.ra0 7 [1, 2, 3, 8, 22] ?_
 all_goals try first | refine XW.cT 22 ?_ | refine XW.cF 22 ?_ | refine XW.cB 22 (fun c22 => ?_) (fun c22 => ?_)
 all_goals try refine XW.ra0 8 [6, 7] ?_
 all_goals try (refine XW.atr ?_; first | (exact XP.rs ⟨_, _, rfl⟩))
 all_goals try refine XW.ra0 9 [1, 2, 3, 9] ?_
 all_goals try (refine XW.lp 1 (fun s : Nat × Int => ⟨[(1, I dep), (2, I s.2), (3, .ptr 0 5 0 0), (9, I (s.1 : Nat))], [(0, some ⟨28, 5, [tsC t]⟩)]⟩) (fun s => s.1 ≤ t.kids.length) (fun s => t.kids.length - s.1) (0, IntKind.i64.wrap (seen + 1)) (mkWk [some 0] [] (by simp [wkEnv, lk, lkh, I, str, B, U8, U64, U32, tsC_c]; first | done | omega) (by simp [wkHp, wkHp1, wkEnt, lkh, I, str, tsC_c])) ?_; rintro ⟨i, sn⟩ hI0 Y0 hY0; simp only at hI0)
 all_goals try refine XW.ra0 10 [1, 2, 3, 9, 29] ?_
 all_goals try first | refine XW.cT 29 ?_ | refine XW.cF 29 ?_ | refine XW.cB 29 (fun c29 => ?_) (fun c29 => ?_)
 all_goals try refine XW.ra0 12 [1, 2, 3, 9] ?_
 all_goals try (refine XW.at 13 ?_; have hi := ltC c29; obtain ⟨x, hx, hxm⟩ := getx t.kids i hi)
 all_goals try refine XW.rS 13 ?_
 all_goals try refine XO.r3 8 ?_
 all_goals try (refine XO.p ((hk x hxm _ _)) ?_; rintro _ ⟨m2, e2, rfl⟩)
 all_goals try refine XO.r0 5 ?_
 all_goals try refine XO.done [1, 2, 3, 9, 10] ?_
 all_goals try refine XW.ra0 14 [1, 2, 3, 9, 10, 45] ?_
 all_goals try first | refine XW.cT 45 ?_ | refine XW.cF 45 ?_ | refine XW.cB 45 (fun c45 => ?_) (fun c45 => ?_)
 all_goals try refine XW.ra0 15 [6, 7] ?_
 all_goals try (refine XW.atr ?_; first | (exact XP.rs ⟨_, _, rfl⟩))
 all_goals try refine XW.ra2 11 [1, 2, 3, 9] ?_
 all_goals try (refine XH.le ?_; first | (exact eY hY0 (i + 1, m2) (mkWk [some 0] [] (by simp [wkEnv, lk, lkh, I, str, B, U8, U64, U32, tsC_c]; first | done | omega) (by simp [wkHp, wkHp1, wkEnt, lkh, I, str, tsC_c]))))
 all_goals try refine XW.ra0 16 [6, 7] ?_
 all_goals try (refine XW.atr ?_; first | (exact XP.rs ⟨_, _, rfl⟩))
theorem visit75 : ∀ (d : Nat) (t : Ts), TsB d t → ∀ dep seen : Int, PCall Tryz.prog 75 [.agg (tsC t), I dep, I seen] (fun r => ∃ n e : Int, r = .tup [I n, I e]) := by
 intro d
 induction d with
 | zero =>
   intro t h dep seen
   obtain ⟨h1, h2, _, _, h5⟩ := h
   exact visitStep75 t (by omega) (by omega) (by rw [h5]; simp) (by rw [h5]; intro k hk; simp at hk) dep seen
 | succ d ih =>
   intro t h dep seen
   obtain ⟨h1, h2, _, _, h5, h6⟩ := h
   exact visitStep75 t (by omega) (by omega) (by omega) (fun k hk => ih k (h6 k hk)) dep seen
theorem checkTest53 (d : Nat) (t : Ts) (h : TsB d t) : PCall Tryz.prog 53 [.agg (tsC t)] (fun r => ∃ n : Int, r = I n) := by
 have q1 := visit75 d t h 0 0; simp only [tsC_c] at q1
 all_goals refine PCall.go 11 (fn := Tryz.f53) Tryz.func53 rfl rfl rfl (by simp) rfl ?_
 all_goals try refine XW.ra0 0 [1] ?_
 all_goals try refine XW.rS 1 ?_
 all_goals try refine XO.r0 1 ?_
 all_goals try (refine XO.p (q1) ?_; rintro _ ⟨n, e, rfl⟩)
 all_goals try refine XO.r0 5 ?_
 all_goals try refine XO.done [4] ?_
 all_goals try refine XW.ra0 2 [2] ?_
 all_goals try (refine XW.atr ?_; first | (exact XP.rs ⟨_, rfl⟩))
end Go.Proofs.YtffchapiaampmaaGreatDoor
