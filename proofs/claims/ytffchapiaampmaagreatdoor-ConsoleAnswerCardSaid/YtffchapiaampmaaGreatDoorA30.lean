/-
  Part 30 of the proof that logtidelaw45.ConsoleAnswer returns true for every list of bytes and every text, and leaves both as they were.
-/
import Derived.Test.YtffchapiaampmaaGreatDoorA29
set_option linter.unusedSimpArgs false
set_option linter.unusedVariables false
namespace Go.Proofs.YtffchapiaampmaaGreatDoor
open Go.Av
attribute [local irreducible] ACall
def kt13 : Nat → List Nat
 | 0 => [0, 1, 4]
 | 1 => [0, 1, 4, 5]
 | 2 => [0, 1, 4, 5, 12]
 | 3 => [0, 1, 4, 5]
 | 4 => [0, 1, 4, 5, 15]
 | 5 => [0, 1, 4, 5, 15, 16]
 | 6 => [0, 1, 4, 5, 15, 16]
 | 7 => [4]
 | 8 => [0, 1, 4, 5, 15, 25]
 | 9 => [4]
 | 10 => [0, 1, 4, 5, 15, 33]
 | 11 => [4]
 | 12 => [0, 1, 4, 5, 15, 41]
 | 13 => [0, 1, 4, 5, 15, 41]
 | 14 => [0, 4, 46]
 | 15 => [4]
 | 16 => [4]
 | 17 => [0, 1, 4, 5, 15, 63]
 | 18 => [4]
 | 19 => [0, 1, 4, 5, 15, 68]
 | 20 => [0, 1, 4, 5, 15, 68]
 | 21 => [0, 4, 6]
 | 22 => [0, 4, 6, 82]
 | 23 => [0, 4, 6]
 | 24 => [0, 4, 6, 90]
 | 25 => [4, 6]
 | 26 => [4]
 | 27 => [0, 1, 4, 5, 15, 99]
 | 28 => [4]
 | 29 => [0, 1, 4, 5, 102]
 | 30 => [4]
 | 31 => [0, 1, 4, 7]
 | 32 => [0, 1, 4, 7, 8]
 | 33 => [0, 1, 4, 7, 8, 118]
 | 34 => [0, 1, 4, 7, 8]
 | 35 => [0, 1, 4, 7, 8]
 | 36 => [4]
 | _ => []
def bodyOf (f : Func) : Code := f.body.getD .skip
def cR : Code → Code
 | .seq _ b => b
 | c => c
noncomputable def rest24 : Code := cR (cR (cR (bodyOf Tryz.f13)))
/-- What is returned by Test. -/
def R24 (L : List UInt8) (d : Nat) : Res → Prop := fun x => ∃ (t : Ts) (a' : Nat), x = (.agg (tsC t), [some (cdE L a')]) ∧ TsB d t ∧ a' ≤ L.length
theorem test24_0 (L : List UInt8) (hL : L.length ≤ 2 ^ 20) (d a2 : Nat) (ha2 : a2 ≤ L.length) :
   EX 131 1 (R24 L d) (fun x C => AW Tryz.prog C rest24 (retQ (tabOf Tryz.prog) [.cell 4 28] x.1 x.2 1) 2 ⟨[(0, .ptr 0 2 0 0), (1, I d), (4, .ptr 1 5 0 0), (5, I 0)], [(0, some (cdE L a2)), (1, some ⟨28, 5, [[I 0, str [], str [], I 0, nilV]]⟩)]⟩) := by
 dsimp only [rest24, cR, bodyOf, Tryz.f13, Option.getD]
 simp only [cdE, nilV]
 obtain ⟨v, b1, hb1, vlt, q⟩ := next13 L hL a2 6 ha2 (by omega) (by omega)
 have vx := lit_get (l := twL) rfl vlt
 have wl := twL_len v
 generalize twL.getD v [] = w at *
 apply EX.step
 · intro xX C hN hk hqX
   repeat first | (with_reducible first | apply s1 | apply s2 | apply s5 | apply s6 | refine s7 ?_ | apply s3 | apply s4 | apply s8 | apply s9) | refine AW.condT rfl ?_ | refine AW.condF rfl ?_ | (refine AW.rT mixed hN hk (atO 7 (onc 2 (ocq 0 q) noc) noO) kt13 [0] rfl (by decide +kernel) (fun K hK => ?_); simp only [go_sem, seval, kt13, lit_twL, vx]; (iterate 3 (try simp (disch := omega) only [au]; try simp only [go_sem, seval, kt13, lit_twL, vx])); (first | with_reducible refine hK _ _ ?_ | refine obK (hK _ _ ?_)); clear hK K) | (refine AW.rD mixed hN hk (atO 7 (onc 2 (ocq 0 q) noc) noO) kt13 [0] rfl (by decide +kernel) (fun K tok htok hK => ?_); simp only [go_sem, seval, kt13, lit_twL, vx]; (iterate 3 (try simp (disch := omega) only [au]; try simp only [go_sem, seval, kt13, lit_twL, vx])); refine ⟨htok _ (by decide +kernel), ?_⟩; (first | with_reducible refine hK _ _ ?_ | refine obK (hK _ _ ?_)); clear hK K htok tok)
   exact hqX
 refine EX.ret (.agg (tsC (.mk 1 [] w 0 []))) [some (cdE L b1)] ?_ (fun C hN hk => AW.ret (mkRet [some 0] [] (by simp only [resList, go_sem, seval]; rfl) (by simp [resOf, lk, lkh, I, str, B, U8, U64, U32, cdE, tsC_c] <;> omega) (by first | (simp [wkHp, wkHp1, wkEnt, lkh, cdE, tsC_c]; done) | simp [wkHp, wkHp1, wkEnt, lkh, I, str, cdE, tsC_c])))
 exact ⟨_, b1, rfl, TsB.mk0 _ (by simp) wl (by omega) (by unfold In64; omega), hb1⟩
theorem test24_1 (L : List UInt8) (hL : L.length ≤ 2 ^ 20) (d a2 : Nat) (ha2 : a2 ≤ L.length) :
   EX 131 1 (R24 L d) (fun x C => AW Tryz.prog C rest24 (retQ (tabOf Tryz.prog) [.cell 4 28] x.1 x.2 1) 2 ⟨[(0, .ptr 0 2 0 0), (1, I d), (4, .ptr 1 5 0 0), (5, I 1)], [(0, some (cdE L a2)), (1, some ⟨28, 5, [[I 0, str [], str [], I 0, nilV]]⟩)]⟩) := by
 dsimp only [rest24, cR, bodyOf, Tryz.f13, Option.getD]
 simp only [cdE, nilV]
 obtain ⟨v, b1, hb1, vlt, q⟩ := next13 L hL a2 6 ha2 (by omega) (by omega)
 have vx := lit_get (l := twL) rfl vlt
 have wl := twL_len v
 generalize twL.getD v [] = w at *
 apply EX.step
 · intro xX C hN hk hqX
   repeat first | (with_reducible first | apply s1 | apply s2 | apply s5 | apply s6 | refine s7 ?_ | apply s3 | apply s4 | apply s8 | apply s9) | refine AW.condT rfl ?_ | refine AW.condF rfl ?_ | (refine AW.rT mixed hN hk (atO 7 (onc 2 (ocq 0 q) noc) noO) kt13 [0] rfl (by decide +kernel) (fun K hK => ?_); simp only [go_sem, seval, kt13, lit_twL, vx]; (iterate 3 (try simp (disch := omega) only [au]; try simp only [go_sem, seval, kt13, lit_twL, vx])); (first | with_reducible refine hK _ _ ?_ | refine obK (hK _ _ ?_)); clear hK K) | (refine AW.rD mixed hN hk (atO 7 (onc 2 (ocq 0 q) noc) noO) kt13 [0] rfl (by decide +kernel) (fun K tok htok hK => ?_); simp only [go_sem, seval, kt13, lit_twL, vx]; (iterate 3 (try simp (disch := omega) only [au]; try simp only [go_sem, seval, kt13, lit_twL, vx])); refine ⟨htok _ (by decide +kernel), ?_⟩; (first | with_reducible refine hK _ _ ?_ | refine obK (hK _ _ ?_)); clear hK K htok tok)
   exact hqX
 refine EX.ret (.agg (tsC (.mk 1 [] w 0 []))) [some (cdE L b1)] ?_ (fun C hN hk => AW.ret (mkRet [some 0] [] (by simp only [resList, go_sem, seval]; rfl) (by simp [resOf, lk, lkh, I, str, B, U8, U64, U32, cdE, tsC_c] <;> omega) (by first | (simp [wkHp, wkHp1, wkEnt, lkh, cdE, tsC_c]; done) | simp [wkHp, wkHp1, wkEnt, lkh, I, str, cdE, tsC_c])))
 exact ⟨_, b1, rfl, TsB.mk0 _ (by simp) wl (by omega) (by unfold In64; omega), hb1⟩
theorem test24_2 (L : List UInt8) (hL : L.length ≤ 2 ^ 20) (d a2 : Nat) (ha2 : a2 ≤ L.length) :
   EX 131 1 (R24 L d) (fun x C => AW Tryz.prog C rest24 (retQ (tabOf Tryz.prog) [.cell 4 28] x.1 x.2 1) 2 ⟨[(0, .ptr 0 2 0 0), (1, I d), (4, .ptr 1 5 0 0), (5, I 2)], [(0, some (cdE L a2)), (1, some ⟨28, 5, [[I 0, str [], str [], I 0, nilV]]⟩)]⟩) := by
 dsimp only [rest24, cR, bodyOf, Tryz.f13, Option.getD]
 simp only [cdE, nilV]
 obtain ⟨v, b1, hb1, vlt, q⟩ := next13 L hL a2 5 ha2 (by omega) (by omega)
 have vx := lit_get (l := tbL) rfl vlt
 have wl := tbL_len v
 generalize tbL.getD v [] = w at *
 apply EX.step
 · intro xX C hN hk hqX
   repeat first | (with_reducible first | apply s1 | apply s2 | apply s5 | apply s6 | refine s7 ?_ | apply s3 | apply s4 | apply s8 | apply s9) | refine AW.condT rfl ?_ | refine AW.condF rfl ?_ | (refine AW.rT mixed hN hk (atO 9 (onc 2 (ocq 0 q) noc) noO) kt13 [0] rfl (by decide +kernel) (fun K hK => ?_); simp only [go_sem, seval, kt13, lit_tbL, vx]; (iterate 3 (try simp (disch := omega) only [au]; try simp only [go_sem, seval, kt13, lit_tbL, vx])); (first | with_reducible refine hK _ _ ?_ | refine obK (hK _ _ ?_)); clear hK K) | (refine AW.rD mixed hN hk (atO 9 (onc 2 (ocq 0 q) noc) noO) kt13 [0] rfl (by decide +kernel) (fun K tok htok hK => ?_); simp only [go_sem, seval, kt13, lit_tbL, vx]; (iterate 3 (try simp (disch := omega) only [au]; try simp only [go_sem, seval, kt13, lit_tbL, vx])); refine ⟨htok _ (by decide +kernel), ?_⟩; (first | with_reducible refine hK _ _ ?_ | refine obK (hK _ _ ?_)); clear hK K htok tok)
   exact hqX
 refine EX.ret (.agg (tsC (.mk 2 [] w 0 []))) [some (cdE L b1)] ?_ (fun C hN hk => AW.ret (mkRet [some 0] [] (by simp only [resList, go_sem, seval]; rfl) (by simp [resOf, lk, lkh, I, str, B, U8, U64, U32, cdE, tsC_c] <;> omega) (by first | (simp [wkHp, wkHp1, wkEnt, lkh, cdE, tsC_c]; done) | simp [wkHp, wkHp1, wkEnt, lkh, I, str, cdE, tsC_c])))
 exact ⟨_, b1, rfl, TsB.mk0 _ (by simp) wl (by omega) (by unfold In64; omega), hb1⟩
theorem test24_3 (L : List UInt8) (hL : L.length ≤ 2 ^ 20) (d a2 : Nat) (ha2 : a2 ≤ L.length) :
   EX 131 1 (R24 L d) (fun x C => AW Tryz.prog C rest24 (retQ (tabOf Tryz.prog) [.cell 4 28] x.1 x.2 1) 2 ⟨[(0, .ptr 0 2 0 0), (1, I d), (4, .ptr 1 5 0 0), (5, I 3)], [(0, some (cdE L a2)), (1, some ⟨28, 5, [[I 0, str [], str [], I 0, nilV]]⟩)]⟩) := by
 dsimp only [rest24, cR, bodyOf, Tryz.f13, Option.getD]
 simp only [cdE, nilV]
 obtain ⟨v, b1, hb1, vlt, q⟩ := next13 L hL a2 5 ha2 (by omega) (by omega)
 have vx := lit_get (l := tcL) rfl vlt
 have wl := tcL_len v
 generalize tcL.getD v [] = w at *
 apply EX.step
 · intro xX C hN hk hqX
   repeat first | (with_reducible first | apply s1 | apply s2 | apply s5 | apply s6 | refine s7 ?_ | apply s3 | apply s4 | apply s8 | apply s9) | refine AW.condT rfl ?_ | refine AW.condF rfl ?_ | (refine AW.rT mixed hN hk (atO 11 (onc 2 (ocq 0 q) noc) noO) kt13 [0] rfl (by decide +kernel) (fun K hK => ?_); simp only [go_sem, seval, kt13, lit_tcL, vx]; (iterate 3 (try simp (disch := omega) only [au]; try simp only [go_sem, seval, kt13, lit_tcL, vx])); (first | with_reducible refine hK _ _ ?_ | refine obK (hK _ _ ?_)); clear hK K) | (refine AW.rD mixed hN hk (atO 11 (onc 2 (ocq 0 q) noc) noO) kt13 [0] rfl (by decide +kernel) (fun K tok htok hK => ?_); simp only [go_sem, seval, kt13, lit_tcL, vx]; (iterate 3 (try simp (disch := omega) only [au]; try simp only [go_sem, seval, kt13, lit_tcL, vx])); refine ⟨htok _ (by decide +kernel), ?_⟩; (first | with_reducible refine hK _ _ ?_ | refine obK (hK _ _ ?_)); clear hK K htok tok)
   exact hqX
 refine EX.ret (.agg (tsC (.mk 3 [] w 0 []))) [some (cdE L b1)] ?_ (fun C hN hk => AW.ret (mkRet [some 0] [] (by simp only [resList, go_sem, seval]; rfl) (by simp [resOf, lk, lkh, I, str, B, U8, U64, U32, cdE, tsC_c] <;> omega) (by first | (simp [wkHp, wkHp1, wkEnt, lkh, cdE, tsC_c]; done) | simp [wkHp, wkHp1, wkEnt, lkh, I, str, cdE, tsC_c])))
 exact ⟨_, b1, rfl, TsB.mk0 _ (by simp) wl (by omega) (by unfold In64; omega), hb1⟩
theorem test24_4 (L : List UInt8) (hL : L.length ≤ 2 ^ 20) (d a2 : Nat) (ha2 : a2 ≤ L.length) :
   EX 131 1 (R24 L d) (fun x C => AW Tryz.prog C rest24 (retQ (tabOf Tryz.prog) [.cell 4 28] x.1 x.2 1) 2 ⟨[(0, .ptr 0 2 0 0), (1, I d), (4, .ptr 1 5 0 0), (5, I 4)], [(0, some (cdE L a2)), (1, some ⟨28, 5, [[I 0, str [], str [], I 0, nilV]]⟩)]⟩) := by
 dsimp only [rest24, cR, bodyOf, Tryz.f13, Option.getD]
 simp only [cdE, nilV]
 obtain ⟨u, b1, hb1, ult, q⟩ := next13 L hL a2 4 ha2 (by omega) (by omega)
 by_cases hu : u = 3
 · subst hu
   obtain ⟨v, b2, hb2, vlt, q2⟩ := next13 L hL b1 4 hb1 (by omega) (by omega)
   have vx := lit_get (l := tnL) rfl vlt
   have wl := tnL_len v
   generalize tnL.getD v [] = w at *
   obtain ⟨v3, b3, hb3, v3lt, q3⟩ := next13 L hL b2 4 hb2 (by omega) (by omega)
   have v3x := lit_get (l := txL) rfl v3lt
   have w3l := txL_len v3
   generalize txL.getD v3 [] = w3 at *
   apply EX.step
   · intro xX C hN hk hqX
     repeat first | (with_reducible first | apply s1 | apply s2 | apply s5 | apply s6 | refine s7 ?_ | apply s3 | apply s4 | apply s8 | apply s9) | refine AW.condT rfl ?_ | refine AW.condF rfl ?_ | (refine AW.rT mixed hN hk (atO 14 (onc 1 (ocq 0 q) noc) (atO 15 (onc 2 (ocq 0 q2) (onc 7 (ocq 0 q3) noc)) noO)) kt13 [0] rfl (by decide +kernel) (fun K hK => ?_); simp only [go_sem, seval, kt13, lit_tnL, lit_txL, vx, v3x]; (iterate 3 (try simp (disch := omega) only [au]; try simp only [go_sem, seval, kt13, lit_tnL, lit_txL, vx, v3x])); (first | with_reducible refine hK _ _ ?_ | refine obK (hK _ _ ?_)); clear hK K) | (refine AW.rD mixed hN hk (atO 14 (onc 1 (ocq 0 q) noc) (atO 15 (onc 2 (ocq 0 q2) (onc 7 (ocq 0 q3) noc)) noO)) kt13 [0] rfl (by decide +kernel) (fun K tok htok hK => ?_); simp only [go_sem, seval, kt13, lit_tnL, lit_txL, vx, v3x]; (iterate 3 (try simp (disch := omega) only [au]; try simp only [go_sem, seval, kt13, lit_tnL, lit_txL, vx, v3x])); refine ⟨htok _ (by decide +kernel), ?_⟩; (first | with_reducible refine hK _ _ ?_ | refine obK (hK _ _ ?_)); clear hK K htok tok)
     exact hqX
   refine EX.ret (.agg (tsC (.mk 4 w w3 0 []))) [some (cdE L b3)] ?_ (fun C hN hk => AW.ret (mkRet [some 0] [] (by simp only [resList, go_sem, seval]; rfl) (by simp [resOf, lk, lkh, I, str, B, U8, U64, U32, cdE, tsC_c] <;> omega) (by first | (simp [wkHp, wkHp1, wkEnt, lkh, cdE, tsC_c]; done) | simp [wkHp, wkHp1, wkEnt, lkh, I, str, cdE, tsC_c])))
   exact ⟨_, b3, rfl, TsB.mk0 _ wl w3l (by omega) (by unfold In64; omega), hb3⟩
 · have du : ((u : Int) == 3) = false := by simp; omega
   obtain ⟨v, b2, hb2, q2⟩ := name45 L hL b1 hb1
   obtain ⟨v3, b3, hb3, q3⟩ := value46 L hL b2 hb2
   have wl := nameL_len v
   have w3l := valL_len v3
   generalize nameL.getD v [] = w at *
   generalize valL.getD v3 [] = w3 at *
   apply EX.step
   · intro xX C hN hk hqX
     repeat first | (with_reducible first | apply s1 | apply s2 | apply s5 | apply s6 | refine s7 ?_ | apply s3 | apply s4 | apply s8 | apply s9) | refine AW.condT rfl ?_ | refine AW.condF rfl ?_ | (refine AW.rT mixed hN hk (atO 14 (onc 1 (ocq 0 q) noc) (atO 16 (onc 1 (ocq 0 q2) (onc 3 (ocq 0 q3) noc)) noO)) kt13 [0] rfl (by decide +kernel) (fun K hK => ?_); simp only [go_sem, seval, kt13, du]; (iterate 3 (try simp (disch := omega) only [au]; try simp only [go_sem, seval, kt13, du])); (first | with_reducible refine hK _ _ ?_ | refine obK (hK _ _ ?_)); clear hK K) | (refine AW.rD mixed hN hk (atO 14 (onc 1 (ocq 0 q) noc) (atO 16 (onc 1 (ocq 0 q2) (onc 3 (ocq 0 q3) noc)) noO)) kt13 [0] rfl (by decide +kernel) (fun K tok htok hK => ?_); simp only [go_sem, seval, kt13, du]; (iterate 3 (try simp (disch := omega) only [au]; try simp only [go_sem, seval, kt13, du])); refine ⟨htok _ (by decide +kernel), ?_⟩; (first | with_reducible refine hK _ _ ?_ | refine obK (hK _ _ ?_)); clear hK K htok tok)
     exact hqX
   refine EX.ret (.agg (tsC (.mk 4 w w3 0 []))) [some (cdE L b3)] ?_ (fun C hN hk => AW.ret (mkRet [some 0] [] (by simp only [resList, go_sem, seval]; rfl) (by simp [resOf, lk, lkh, I, str, B, U8, U64, U32, cdE, tsC_c] <;> omega) (by first | (simp [wkHp, wkHp1, wkEnt, lkh, cdE, tsC_c]; done) | simp [wkHp, wkHp1, wkEnt, lkh, I, str, cdE, tsC_c])))
   exact ⟨_, b3, rfl, TsB.mk0 _ wl w3l (by omega) (by unfold In64; omega), hb3⟩
theorem test24_5 (L : List UInt8) (hL : L.length ≤ 2 ^ 20) (d a2 : Nat) (ha2 : a2 ≤ L.length) :
   EX 131 1 (R24 L d) (fun x C => AW Tryz.prog C rest24 (retQ (tabOf Tryz.prog) [.cell 4 28] x.1 x.2 1) 2 ⟨[(0, .ptr 0 2 0 0), (1, I d), (4, .ptr 1 5 0 0), (5, I 5)], [(0, some (cdE L a2)), (1, some ⟨28, 5, [[I 0, str [], str [], I 0, nilV]]⟩)]⟩) := by
 dsimp only [rest24, cR, bodyOf, Tryz.f13, Option.getD]
 simp only [cdE, nilV]
 obtain ⟨u, b1, hb1, ult, q⟩ := next13 L hL a2 4 ha2 (by omega) (by omega)
 by_cases hu : u = 3
 · subst hu
   obtain ⟨v, b2, hb2, vlt, q2⟩ := next13 L hL b1 4 hb1 (by omega) (by omega)
   have vx := lit_get (l := tnL) rfl vlt
   have wl := tnL_len v
   generalize tnL.getD v [] = w at *
   obtain ⟨v3, b3, hb3, v3lt, q3⟩ := next13 L hL b2 4 hb2 (by omega) (by omega)
   have v3x := lit_get (l := txL) rfl v3lt
   have w3l := txL_len v3
   generalize txL.getD v3 [] = w3 at *
   apply EX.step
   · intro xX C hN hk hqX
     repeat first | (with_reducible first | apply s1 | apply s2 | apply s5 | apply s6 | refine s7 ?_ | apply s3 | apply s4 | apply s8 | apply s9) | refine AW.condT rfl ?_ | refine AW.condF rfl ?_ | (refine AW.rT mixed hN hk (atO 14 (onc 1 (ocq 0 q) noc) (atO 15 (onc 2 (ocq 0 q2) (onc 7 (ocq 0 q3) noc)) noO)) kt13 [0] rfl (by decide +kernel) (fun K hK => ?_); simp only [go_sem, seval, kt13, lit_tnL, lit_txL, vx, v3x]; (iterate 3 (try simp (disch := omega) only [au]; try simp only [go_sem, seval, kt13, lit_tnL, lit_txL, vx, v3x])); (first | with_reducible refine hK _ _ ?_ | refine obK (hK _ _ ?_)); clear hK K) | (refine AW.rD mixed hN hk (atO 14 (onc 1 (ocq 0 q) noc) (atO 15 (onc 2 (ocq 0 q2) (onc 7 (ocq 0 q3) noc)) noO)) kt13 [0] rfl (by decide +kernel) (fun K tok htok hK => ?_); simp only [go_sem, seval, kt13, lit_tnL, lit_txL, vx, v3x]; (iterate 3 (try simp (disch := omega) only [au]; try simp only [go_sem, seval, kt13, lit_tnL, lit_txL, vx, v3x])); refine ⟨htok _ (by decide +kernel), ?_⟩; (first | with_reducible refine hK _ _ ?_ | refine obK (hK _ _ ?_)); clear hK K htok tok)
     exact hqX
   refine EX.ret (.agg (tsC (.mk 4 w w3 0 []))) [some (cdE L b3)] ?_ (fun C hN hk => AW.ret (mkRet [some 0] [] (by simp only [resList, go_sem, seval]; rfl) (by simp [resOf, lk, lkh, I, str, B, U8, U64, U32, cdE, tsC_c] <;> omega) (by first | (simp [wkHp, wkHp1, wkEnt, lkh, cdE, tsC_c]; done) | simp [wkHp, wkHp1, wkEnt, lkh, I, str, cdE, tsC_c])))
   exact ⟨_, b3, rfl, TsB.mk0 _ wl w3l (by omega) (by unfold In64; omega), hb3⟩
 · have du : ((u : Int) == 3) = false := by simp; omega
   obtain ⟨v, b2, hb2, q2⟩ := name45 L hL b1 hb1
   obtain ⟨v3, b3, hb3, q3⟩ := value46 L hL b2 hb2
   have wl := nameL_len v
   have w3l := valL_len v3
   generalize nameL.getD v [] = w at *
   generalize valL.getD v3 [] = w3 at *
   apply EX.step
   · intro xX C hN hk hqX
     repeat first | (with_reducible first | apply s1 | apply s2 | apply s5 | apply s6 | refine s7 ?_ | apply s3 | apply s4 | apply s8 | apply s9) | refine AW.condT rfl ?_ | refine AW.condF rfl ?_ | (refine AW.rT mixed hN hk (atO 14 (onc 1 (ocq 0 q) noc) (atO 16 (onc 1 (ocq 0 q2) (onc 3 (ocq 0 q3) noc)) noO)) kt13 [0] rfl (by decide +kernel) (fun K hK => ?_); simp only [go_sem, seval, kt13, du]; (iterate 3 (try simp (disch := omega) only [au]; try simp only [go_sem, seval, kt13, du])); (first | with_reducible refine hK _ _ ?_ | refine obK (hK _ _ ?_)); clear hK K) | (refine AW.rD mixed hN hk (atO 14 (onc 1 (ocq 0 q) noc) (atO 16 (onc 1 (ocq 0 q2) (onc 3 (ocq 0 q3) noc)) noO)) kt13 [0] rfl (by decide +kernel) (fun K tok htok hK => ?_); simp only [go_sem, seval, kt13, du]; (iterate 3 (try simp (disch := omega) only [au]; try simp only [go_sem, seval, kt13, du])); refine ⟨htok _ (by decide +kernel), ?_⟩; (first | with_reducible refine hK _ _ ?_ | refine obK (hK _ _ ?_)); clear hK K htok tok)
     exact hqX
   refine EX.ret (.agg (tsC (.mk 4 w w3 0 []))) [some (cdE L b3)] ?_ (fun C hN hk => AW.ret (mkRet [some 0] [] (by simp only [resList, go_sem, seval]; rfl) (by simp [resOf, lk, lkh, I, str, B, U8, U64, U32, cdE, tsC_c] <;> omega) (by first | (simp [wkHp, wkHp1, wkEnt, lkh, cdE, tsC_c]; done) | simp [wkHp, wkHp1, wkEnt, lkh, I, str, cdE, tsC_c])))
   exact ⟨_, b3, rfl, TsB.mk0 _ wl w3l (by omega) (by unfold In64; omega), hb3⟩
theorem test24_6 (L : List UInt8) (hL : L.length ≤ 2 ^ 20) (d a2 : Nat) (ha2 : a2 ≤ L.length) :
   EX 131 1 (R24 L d) (fun x C => AW Tryz.prog C rest24 (retQ (tabOf Tryz.prog) [.cell 4 28] x.1 x.2 1) 2 ⟨[(0, .ptr 0 2 0 0), (1, I d), (4, .ptr 1 5 0 0), (5, I 6)], [(0, some (cdE L a2)), (1, some ⟨28, 5, [[I 0, str [], str [], I 0, nilV]]⟩)]⟩) := by
 dsimp only [rest24, cR, bodyOf, Tryz.f13, Option.getD]
 simp only [cdE, nilV]
 obtain ⟨v, b1, hb1, q⟩ := name45 L hL a2 ha2
 have wl := nameL_len v
 generalize nameL.getD v [] = w at *
 apply EX.step
 · intro xX C hN hk hqX
   repeat first | (with_reducible first | apply s1 | apply s2 | apply s5 | apply s6 | refine s7 ?_ | apply s3 | apply s4 | apply s8 | apply s9) | refine AW.condT rfl ?_ | refine AW.condF rfl ?_ | (refine AW.rT mixed hN hk (atO 18 (onc 1 (ocq 0 q) noc) noO) kt13 [0] rfl (by decide +kernel) (fun K hK => ?_); simp only [go_sem, seval, kt13]; (iterate 3 (try simp (disch := omega) only [au]; try simp only [go_sem, seval, kt13])); (first | with_reducible refine hK _ _ ?_ | refine obK (hK _ _ ?_)); clear hK K) | (refine AW.rD mixed hN hk (atO 18 (onc 1 (ocq 0 q) noc) noO) kt13 [0] rfl (by decide +kernel) (fun K tok htok hK => ?_); simp only [go_sem, seval, kt13]; (iterate 3 (try simp (disch := omega) only [au]; try simp only [go_sem, seval, kt13])); refine ⟨htok _ (by decide +kernel), ?_⟩; (first | with_reducible refine hK _ _ ?_ | refine obK (hK _ _ ?_)); clear hK K htok tok)
   exact hqX
 refine EX.ret (.agg (tsC (.mk 8 w [] 0 []))) [some (cdE L b1)] ?_ (fun C hN hk => AW.ret (mkRet [some 0] [] (by simp only [resList, go_sem, seval]; rfl) (by simp [resOf, lk, lkh, I, str, B, U8, U64, U32, cdE, tsC_c] <;> omega) (by first | (simp [wkHp, wkHp1, wkEnt, lkh, cdE, tsC_c]; done) | simp [wkHp, wkHp1, wkEnt, lkh, I, str, cdE, tsC_c])))
 exact ⟨_, b1, rfl, TsB.mk0 _ wl (by simp) (by omega) (by unfold In64; omega), hb1⟩
theorem test24_7 (L : List UInt8) (hL : L.length ≤ 2 ^ 20) (d a2 : Nat) (ha2 : a2 ≤ L.length) :
   EX 131 1 (R24 L d) (fun x C => AW Tryz.prog C rest24 (retQ (tabOf Tryz.prog) [.cell 4 28] x.1 x.2 1) 2 ⟨[(0, .ptr 0 2 0 0), (1, I d), (4, .ptr 1 5 0 0), (5, I 7)], [(0, some (cdE L a2)), (1, some ⟨28, 5, [[I 0, str [], str [], I 0, nilV]]⟩)]⟩) := by
 dsimp only [rest24, cR, bodyOf, Tryz.f13, Option.getD]
 simp only [cdE, nilV]
 obtain ⟨u, b1, hb1, ult, q⟩ := next13 L hL a2 3 ha2 (by omega) (by omega)
 obtain ⟨v, b2, hb2, q2⟩ := name45 L hL b1 hb1
 obtain ⟨m, b3, hb3, mlt, q3⟩ := next13 L hL b2 40 hb2 (by omega) (by omega)
 obtain ⟨c, b4, hb4, clt, q4⟩ := next13 L hL b3 2 hb3 (by omega) (by omega)
 have wl := nameL_len v
 generalize nameL.getD v [] = w at *
 have w1 := wrap64 (n := 9 + (u : Int)) (by omega)
 have w2 := wrap64 (n := (m : Int) - 5) (by omega)
 apply EX.step
 · intro xX C hN hk hqX
   repeat first | (with_reducible first | apply s1 | apply s2 | apply s5 | apply s6 | refine s7 ?_ | apply s3 | apply s4 | apply s8 | apply s9) | refine AW.condT rfl ?_ | refine AW.condF rfl ?_ | (refine AW.rT mixed hN hk (atO 21 (onc 1 (ocq 0 q) (onc 4 (ocq 0 q2) (onc 6 (ocq 0 q3) noc))) (atO 22 (onc 1 (ocq 0 q4) noc) noO)) kt13 [0] rfl (by decide +kernel) (fun K hK => ?_); simp only [go_sem, seval, kt13, w1, w2]; (iterate 3 (try simp (disch := omega) only [au]; try simp only [go_sem, seval, kt13, w1, w2])); (first | with_reducible refine hK _ _ ?_ | refine obK (hK _ _ ?_)); clear hK K) | (refine AW.rD mixed hN hk (atO 21 (onc 1 (ocq 0 q) (onc 4 (ocq 0 q2) (onc 6 (ocq 0 q3) noc))) (atO 22 (onc 1 (ocq 0 q4) noc) noO)) kt13 [0] rfl (by decide +kernel) (fun K tok htok hK => ?_); simp only [go_sem, seval, kt13, w1, w2]; (iterate 3 (try simp (disch := omega) only [au]; try simp only [go_sem, seval, kt13, w1, w2])); refine ⟨htok _ (by decide +kernel), ?_⟩; (first | with_reducible refine hK _ _ ?_ | refine obK (hK _ _ ?_)); clear hK K htok tok)
   exact hqX
 by_cases hc : c = 1
 · subst hc
   obtain ⟨y, b5, hb5, ylt, q5⟩ := next13 L hL b4 70 hb4 (by omega) (by omega)
   have w3 := wrap64 (n := 995 + (y : Int)) (by omega)
   obtain ⟨e, b6, hb6, elt, q6⟩ := next13 L hL b5 8 hb5 (by omega) (by omega)
   apply EX.step
   · intro xX C hN hk hqX
     repeat first | (with_reducible first | apply s1 | apply s2 | apply s5 | apply s6 | refine s7 ?_ | apply s3 | apply s4 | apply s8 | apply s9) | refine AW.condT rfl ?_ | refine AW.condF rfl ?_ | (refine AW.rT mixed hN hk (atO 23 (onc 1 (ocq 0 q5) noc) (atO 24 (onc 1 (ocq 0 q6) noc) noO)) kt13 [0] rfl (by decide +kernel) (fun K hK => ?_); simp only [go_sem, seval, kt13, w3]; (iterate 3 (try simp (disch := omega) only [au]; try simp only [go_sem, seval, kt13, w3])); (first | with_reducible refine hK _ _ ?_ | refine obK (hK _ _ ?_)); clear hK K) | (refine AW.rD mixed hN hk (atO 23 (onc 1 (ocq 0 q5) noc) (atO 24 (onc 1 (ocq 0 q6) noc) noO)) kt13 [0] rfl (by decide +kernel) (fun K tok htok hK => ?_); simp only [go_sem, seval, kt13, w3]; (iterate 3 (try simp (disch := omega) only [au]; try simp only [go_sem, seval, kt13, w3])); refine ⟨htok _ (by decide +kernel), ?_⟩; (first | with_reducible refine hK _ _ ?_ | refine obK (hK _ _ ?_)); clear hK K htok tok)
     exact hqX
   by_cases he : e = 7
   · subst he
     obtain ⟨z, b7, hb7, zlt, q7⟩ := next13 L hL b6 3 hb6 (by omega) (by omega)
     obtain rfl | rfl | rfl : z = 0 ∨ z = 1 ∨ z = 2 := by omega
     · apply EX.step
       · intro xX C hN hk hqX
         repeat first | (with_reducible first | apply s1 | apply s2 | apply s5 | apply s6 | refine s7 ?_ | apply s3 | apply s4 | apply s8 | apply s9) | refine AW.condT rfl ?_ | refine AW.condF rfl ?_ | (refine AW.rT mixed hN hk (atO 25 (onc 2 (ocq 0 q7) noc) noO) kt13 [0] rfl (by decide +kernel) (fun K hK => ?_); simp only [go_sem, seval, kt13]; (iterate 3 (try simp (disch := omega) only [au]; try simp only [go_sem, seval, kt13])); (first | with_reducible refine hK _ _ ?_ | refine obK (hK _ _ ?_)); clear hK K) | (refine AW.rD mixed hN hk (atO 25 (onc 2 (ocq 0 q7) noc) noO) kt13 [0] rfl (by decide +kernel) (fun K tok htok hK => ?_); simp only [go_sem, seval, kt13]; (iterate 3 (try simp (disch := omega) only [au]; try simp only [go_sem, seval, kt13])); refine ⟨htok _ (by decide +kernel), ?_⟩; (first | with_reducible refine hK _ _ ?_ | refine obK (hK _ _ ?_)); clear hK K htok tok)
         exact hqX
       refine EX.ret (.agg (tsC (.mk (9 + u) [64, 116, 105, 109, 101] [] (-5) []))) [some (cdE L b7)] ?_ (fun C hN hk => AW.ret (mkRet [some 0] [] (by simp only [resList, go_sem, seval]; rfl) (by simp [resOf, lk, lkh, I, str, B, U8, U64, U32, cdE, tsC_c] <;> omega) (by first | (simp [wkHp, wkHp1, wkEnt, lkh, cdE, tsC_c]; done) | simp [wkHp, wkHp1, wkEnt, lkh, I, str, cdE, tsC_c])))
       exact ⟨_, b7, rfl, TsB.mk0 _ (by decide) (by simp) (by omega) (by unfold In64; omega), hb7⟩
     · apply EX.step
       · intro xX C hN hk hqX
         repeat first | (with_reducible first | apply s1 | apply s2 | apply s5 | apply s6 | refine s7 ?_ | apply s3 | apply s4 | apply s8 | apply s9) | refine AW.condT rfl ?_ | refine AW.condF rfl ?_ | (refine AW.rT mixed hN hk (atO 25 (onc 2 (ocq 0 q7) noc) noO) kt13 [0] rfl (by decide +kernel) (fun K hK => ?_); simp only [go_sem, seval, kt13]; (iterate 3 (try simp (disch := omega) only [au]; try simp only [go_sem, seval, kt13])); (first | with_reducible refine hK _ _ ?_ | refine obK (hK _ _ ?_)); clear hK K) | (refine AW.rD mixed hN hk (atO 25 (onc 2 (ocq 0 q7) noc) noO) kt13 [0] rfl (by decide +kernel) (fun K tok htok hK => ?_); simp only [go_sem, seval, kt13]; (iterate 3 (try simp (disch := omega) only [au]; try simp only [go_sem, seval, kt13])); refine ⟨htok _ (by decide +kernel), ?_⟩; (first | with_reducible refine hK _ _ ?_ | refine obK (hK _ _ ?_)); clear hK K htok tok)
         exact hqX
       refine EX.ret (.agg (tsC (.mk (9 + u) [64, 116, 105, 109, 101] [] 253402300799999 []))) [some (cdE L b7)] ?_ (fun C hN hk => AW.ret (mkRet [some 0] [] (by simp only [resList, go_sem, seval]; rfl) (by simp [resOf, lk, lkh, I, str, B, U8, U64, U32, cdE, tsC_c] <;> omega) (by first | (simp [wkHp, wkHp1, wkEnt, lkh, cdE, tsC_c]; done) | simp [wkHp, wkHp1, wkEnt, lkh, I, str, cdE, tsC_c])))
       exact ⟨_, b7, rfl, TsB.mk0 _ (by decide) (by simp) (by omega) (by unfold In64; omega), hb7⟩
     · apply EX.step
       · intro xX C hN hk hqX
         repeat first | (with_reducible first | apply s1 | apply s2 | apply s5 | apply s6 | refine s7 ?_ | apply s3 | apply s4 | apply s8 | apply s9) | refine AW.condT rfl ?_ | refine AW.condF rfl ?_ | (refine AW.rT mixed hN hk (atO 25 (onc 2 (ocq 0 q7) noc) noO) kt13 [0] rfl (by decide +kernel) (fun K hK => ?_); simp only [go_sem, seval, kt13]; (iterate 3 (try simp (disch := omega) only [au]; try simp only [go_sem, seval, kt13])); (first | with_reducible refine hK _ _ ?_ | refine obK (hK _ _ ?_)); clear hK K) | (refine AW.rD mixed hN hk (atO 25 (onc 2 (ocq 0 q7) noc) noO) kt13 [0] rfl (by decide +kernel) (fun K tok htok hK => ?_); simp only [go_sem, seval, kt13]; (iterate 3 (try simp (disch := omega) only [au]; try simp only [go_sem, seval, kt13])); refine ⟨htok _ (by decide +kernel), ?_⟩; (first | with_reducible refine hK _ _ ?_ | refine obK (hK _ _ ?_)); clear hK K htok tok)
         exact hqX
       refine EX.ret (.agg (tsC (.mk (9 + u) [64, 116, 105, 109, 101] [] 999999999999999999 []))) [some (cdE L b7)] ?_ (fun C hN hk => AW.ret (mkRet [some 0] [] (by simp only [resList, go_sem, seval]; rfl) (by simp [resOf, lk, lkh, I, str, B, U8, U64, U32, cdE, tsC_c] <;> omega) (by first | (simp [wkHp, wkHp1, wkEnt, lkh, cdE, tsC_c]; done) | simp [wkHp, wkHp1, wkEnt, lkh, I, str, cdE, tsC_c])))
       exact ⟨_, b7, rfl, TsB.mk0 _ (by decide) (by simp) (by omega) (by unfold In64; omega), hb7⟩
   · have de : ((e : Int) == 7) = false := by simp; omega
     simp only [de]
     apply EX.step
     · intro xX C hN hk hqX
       repeat first | (with_reducible first | apply s1 | apply s2 | apply s5 | apply s6 | refine s7 ?_ | apply s3 | apply s4 | apply s8 | apply s9) | refine AW.condT rfl ?_ | refine AW.condF rfl ?_ | (refine AW.rT mixed hN hk noO kt13 [0] rfl (by decide +kernel) (fun K hK => ?_); simp only [go_sem, seval, kt13]; (iterate 3 (try simp (disch := omega) only [au]; try simp only [go_sem, seval, kt13])); (first | with_reducible refine hK _ _ ?_ | refine obK (hK _ _ ?_)); clear hK K) | (refine AW.rD mixed hN hk noO kt13 [0] rfl (by decide +kernel) (fun K tok htok hK => ?_); simp only [go_sem, seval, kt13]; (iterate 3 (try simp (disch := omega) only [au]; try simp only [go_sem, seval, kt13])); refine ⟨htok _ (by decide +kernel), ?_⟩; (first | with_reducible refine hK _ _ ?_ | refine obK (hK _ _ ?_)); clear hK K htok tok)
       exact hqX
     refine EX.ret (.agg (tsC (.mk (9 + u) [64, 116, 105, 109, 101] [] (995 + y) []))) [some (cdE L b6)] ?_ (fun C hN hk => AW.ret (mkRet [some 0] [] (by simp only [resList, go_sem, seval]; rfl) (by simp [resOf, lk, lkh, I, str, B, U8, U64, U32, cdE, tsC_c] <;> omega) (by first | (simp [wkHp, wkHp1, wkEnt, lkh, cdE, tsC_c]; done) | simp [wkHp, wkHp1, wkEnt, lkh, I, str, cdE, tsC_c])))
     exact ⟨_, b6, rfl, TsB.mk0 _ (by decide) (by simp) (by omega) (by unfold In64; omega), hb6⟩
 · have dc : ((c : Int) == 1) = false := by simp; omega
   simp only [dc]
   obtain ⟨e, b6, hb6, elt, q6⟩ := next13 L hL b4 8 hb4 (by omega) (by omega)
   apply EX.step
   · intro xX C hN hk hqX
     repeat first | (with_reducible first | apply s1 | apply s2 | apply s5 | apply s6 | refine s7 ?_ | apply s3 | apply s4 | apply s8 | apply s9) | refine AW.condT rfl ?_ | refine AW.condF rfl ?_ | (refine AW.rT mixed hN hk (atO 24 (onc 1 (ocq 0 q6) noc) noO) kt13 [0] rfl (by decide +kernel) (fun K hK => ?_); simp only [go_sem, seval, kt13]; (iterate 3 (try simp (disch := omega) only [au]; try simp only [go_sem, seval, kt13])); (first | with_reducible refine hK _ _ ?_ | refine obK (hK _ _ ?_)); clear hK K) | (refine AW.rD mixed hN hk (atO 24 (onc 1 (ocq 0 q6) noc) noO) kt13 [0] rfl (by decide +kernel) (fun K tok htok hK => ?_); simp only [go_sem, seval, kt13]; (iterate 3 (try simp (disch := omega) only [au]; try simp only [go_sem, seval, kt13])); refine ⟨htok _ (by decide +kernel), ?_⟩; (first | with_reducible refine hK _ _ ?_ | refine obK (hK _ _ ?_)); clear hK K htok tok)
     exact hqX
   by_cases he : e = 7
   · subst he
     obtain ⟨z, b7, hb7, zlt, q7⟩ := next13 L hL b6 3 hb6 (by omega) (by omega)
     obtain rfl | rfl | rfl : z = 0 ∨ z = 1 ∨ z = 2 := by omega
     · apply EX.step
       · intro xX C hN hk hqX
         repeat first | (with_reducible first | apply s1 | apply s2 | apply s5 | apply s6 | refine s7 ?_ | apply s3 | apply s4 | apply s8 | apply s9) | refine AW.condT rfl ?_ | refine AW.condF rfl ?_ | (refine AW.rT mixed hN hk (atO 25 (onc 2 (ocq 0 q7) noc) noO) kt13 [0] rfl (by decide +kernel) (fun K hK => ?_); simp only [go_sem, seval, kt13]; (iterate 3 (try simp (disch := omega) only [au]; try simp only [go_sem, seval, kt13])); (first | with_reducible refine hK _ _ ?_ | refine obK (hK _ _ ?_)); clear hK K) | (refine AW.rD mixed hN hk (atO 25 (onc 2 (ocq 0 q7) noc) noO) kt13 [0] rfl (by decide +kernel) (fun K tok htok hK => ?_); simp only [go_sem, seval, kt13]; (iterate 3 (try simp (disch := omega) only [au]; try simp only [go_sem, seval, kt13])); refine ⟨htok _ (by decide +kernel), ?_⟩; (first | with_reducible refine hK _ _ ?_ | refine obK (hK _ _ ?_)); clear hK K htok tok)
         exact hqX
       refine EX.ret (.agg (tsC (.mk (9 + u) [64, 116, 105, 109, 101] [] (-5) []))) [some (cdE L b7)] ?_ (fun C hN hk => AW.ret (mkRet [some 0] [] (by simp only [resList, go_sem, seval]; rfl) (by simp [resOf, lk, lkh, I, str, B, U8, U64, U32, cdE, tsC_c] <;> omega) (by first | (simp [wkHp, wkHp1, wkEnt, lkh, cdE, tsC_c]; done) | simp [wkHp, wkHp1, wkEnt, lkh, I, str, cdE, tsC_c])))
       exact ⟨_, b7, rfl, TsB.mk0 _ (by decide) (by simp) (by omega) (by unfold In64; omega), hb7⟩
     · apply EX.step
       · intro xX C hN hk hqX
         repeat first | (with_reducible first | apply s1 | apply s2 | apply s5 | apply s6 | refine s7 ?_ | apply s3 | apply s4 | apply s8 | apply s9) | refine AW.condT rfl ?_ | refine AW.condF rfl ?_ | (refine AW.rT mixed hN hk (atO 25 (onc 2 (ocq 0 q7) noc) noO) kt13 [0] rfl (by decide +kernel) (fun K hK => ?_); simp only [go_sem, seval, kt13]; (iterate 3 (try simp (disch := omega) only [au]; try simp only [go_sem, seval, kt13])); (first | with_reducible refine hK _ _ ?_ | refine obK (hK _ _ ?_)); clear hK K) | (refine AW.rD mixed hN hk (atO 25 (onc 2 (ocq 0 q7) noc) noO) kt13 [0] rfl (by decide +kernel) (fun K tok htok hK => ?_); simp only [go_sem, seval, kt13]; (iterate 3 (try simp (disch := omega) only [au]; try simp only [go_sem, seval, kt13])); refine ⟨htok _ (by decide +kernel), ?_⟩; (first | with_reducible refine hK _ _ ?_ | refine obK (hK _ _ ?_)); clear hK K htok tok)
         exact hqX
       refine EX.ret (.agg (tsC (.mk (9 + u) [64, 116, 105, 109, 101] [] 253402300799999 []))) [some (cdE L b7)] ?_ (fun C hN hk => AW.ret (mkRet [some 0] [] (by simp only [resList, go_sem, seval]; rfl) (by simp [resOf, lk, lkh, I, str, B, U8, U64, U32, cdE, tsC_c] <;> omega) (by first | (simp [wkHp, wkHp1, wkEnt, lkh, cdE, tsC_c]; done) | simp [wkHp, wkHp1, wkEnt, lkh, I, str, cdE, tsC_c])))
       exact ⟨_, b7, rfl, TsB.mk0 _ (by decide) (by simp) (by omega) (by unfold In64; omega), hb7⟩
     · apply EX.step
       · intro xX C hN hk hqX
         repeat first | (with_reducible first | apply s1 | apply s2 | apply s5 | apply s6 | refine s7 ?_ | apply s3 | apply s4 | apply s8 | apply s9) | refine AW.condT rfl ?_ | refine AW.condF rfl ?_ | (refine AW.rT mixed hN hk (atO 25 (onc 2 (ocq 0 q7) noc) noO) kt13 [0] rfl (by decide +kernel) (fun K hK => ?_); simp only [go_sem, seval, kt13]; (iterate 3 (try simp (disch := omega) only [au]; try simp only [go_sem, seval, kt13])); (first | with_reducible refine hK _ _ ?_ | refine obK (hK _ _ ?_)); clear hK K) | (refine AW.rD mixed hN hk (atO 25 (onc 2 (ocq 0 q7) noc) noO) kt13 [0] rfl (by decide +kernel) (fun K tok htok hK => ?_); simp only [go_sem, seval, kt13]; (iterate 3 (try simp (disch := omega) only [au]; try simp only [go_sem, seval, kt13])); refine ⟨htok _ (by decide +kernel), ?_⟩; (first | with_reducible refine hK _ _ ?_ | refine obK (hK _ _ ?_)); clear hK K htok tok)
         exact hqX
       refine EX.ret (.agg (tsC (.mk (9 + u) [64, 116, 105, 109, 101] [] 999999999999999999 []))) [some (cdE L b7)] ?_ (fun C hN hk => AW.ret (mkRet [some 0] [] (by simp only [resList, go_sem, seval]; rfl) (by simp [resOf, lk, lkh, I, str, B, U8, U64, U32, cdE, tsC_c] <;> omega) (by first | (simp [wkHp, wkHp1, wkEnt, lkh, cdE, tsC_c]; done) | simp [wkHp, wkHp1, wkEnt, lkh, I, str, cdE, tsC_c])))
       exact ⟨_, b7, rfl, TsB.mk0 _ (by decide) (by simp) (by omega) (by unfold In64; omega), hb7⟩
   · have de : ((e : Int) == 7) = false := by simp; omega
     simp only [de]
     apply EX.step
     · intro xX C hN hk hqX
       repeat first | (with_reducible first | apply s1 | apply s2 | apply s5 | apply s6 | refine s7 ?_ | apply s3 | apply s4 | apply s8 | apply s9) | refine AW.condT rfl ?_ | refine AW.condF rfl ?_ | (refine AW.rT mixed hN hk noO kt13 [0] rfl (by decide +kernel) (fun K hK => ?_); simp only [go_sem, seval, kt13]; (iterate 3 (try simp (disch := omega) only [au]; try simp only [go_sem, seval, kt13])); (first | with_reducible refine hK _ _ ?_ | refine obK (hK _ _ ?_)); clear hK K) | (refine AW.rD mixed hN hk noO kt13 [0] rfl (by decide +kernel) (fun K tok htok hK => ?_); simp only [go_sem, seval, kt13]; (iterate 3 (try simp (disch := omega) only [au]; try simp only [go_sem, seval, kt13])); refine ⟨htok _ (by decide +kernel), ?_⟩; (first | with_reducible refine hK _ _ ?_ | refine obK (hK _ _ ?_)); clear hK K htok tok)
       exact hqX
     refine EX.ret (.agg (tsC (.mk (9 + u) w [] (m - 5) []))) [some (cdE L b6)] ?_ (fun C hN hk => AW.ret (mkRet [some 0] [] (by simp only [resList, go_sem, seval]; rfl) (by simp [resOf, lk, lkh, I, str, B, U8, U64, U32, cdE, tsC_c] <;> omega) (by first | (simp [wkHp, wkHp1, wkEnt, lkh, cdE, tsC_c]; done) | simp [wkHp, wkHp1, wkEnt, lkh, I, str, cdE, tsC_c])))
     exact ⟨_, b6, rfl, TsB.mk0 _ wl (by simp) (by omega) (by unfold In64; omega), hb6⟩
theorem test24_8 (L : List UInt8) (hL : L.length ≤ 2 ^ 20) (d a2 : Nat) (ha2 : a2 ≤ L.length) :
   EX 131 1 (R24 L d) (fun x C => AW Tryz.prog C rest24 (retQ (tabOf Tryz.prog) [.cell 4 28] x.1 x.2 1) 2 ⟨[(0, .ptr 0 2 0 0), (1, I d), (4, .ptr 1 5 0 0), (5, I 8)], [(0, some (cdE L a2)), (1, some ⟨28, 5, [[I 0, str [], str [], I 0, nilV]]⟩)]⟩) := by
 dsimp only [rest24, cR, bodyOf, Tryz.f13, Option.getD]
 simp only [cdE, nilV]
 obtain ⟨u, b1, hb1, ult, q⟩ := next13 L hL a2 3 ha2 (by omega) (by omega)
 obtain ⟨v, b2, hb2, q2⟩ := name45 L hL b1 hb1
 obtain ⟨m, b3, hb3, mlt, q3⟩ := next13 L hL b2 40 hb2 (by omega) (by omega)
 obtain ⟨c, b4, hb4, clt, q4⟩ := next13 L hL b3 2 hb3 (by omega) (by omega)
 have wl := nameL_len v
 generalize nameL.getD v [] = w at *
 have w1 := wrap64 (n := 9 + (u : Int)) (by omega)
 have w2 := wrap64 (n := (m : Int) - 5) (by omega)
 apply EX.step
 · intro xX C hN hk hqX
   repeat first | (with_reducible first | apply s1 | apply s2 | apply s5 | apply s6 | refine s7 ?_ | apply s3 | apply s4 | apply s8 | apply s9) | refine AW.condT rfl ?_ | refine AW.condF rfl ?_ | (refine AW.rT mixed hN hk (atO 21 (onc 1 (ocq 0 q) (onc 4 (ocq 0 q2) (onc 6 (ocq 0 q3) noc))) (atO 22 (onc 1 (ocq 0 q4) noc) noO)) kt13 [0] rfl (by decide +kernel) (fun K hK => ?_); simp only [go_sem, seval, kt13, w1, w2]; (iterate 3 (try simp (disch := omega) only [au]; try simp only [go_sem, seval, kt13, w1, w2])); (first | with_reducible refine hK _ _ ?_ | refine obK (hK _ _ ?_)); clear hK K) | (refine AW.rD mixed hN hk (atO 21 (onc 1 (ocq 0 q) (onc 4 (ocq 0 q2) (onc 6 (ocq 0 q3) noc))) (atO 22 (onc 1 (ocq 0 q4) noc) noO)) kt13 [0] rfl (by decide +kernel) (fun K tok htok hK => ?_); simp only [go_sem, seval, kt13, w1, w2]; (iterate 3 (try simp (disch := omega) only [au]; try simp only [go_sem, seval, kt13, w1, w2])); refine ⟨htok _ (by decide +kernel), ?_⟩; (first | with_reducible refine hK _ _ ?_ | refine obK (hK _ _ ?_)); clear hK K htok tok)
   exact hqX
 by_cases hc : c = 1
 · subst hc
   obtain ⟨y, b5, hb5, ylt, q5⟩ := next13 L hL b4 70 hb4 (by omega) (by omega)
   have w3 := wrap64 (n := 995 + (y : Int)) (by omega)
   obtain ⟨e, b6, hb6, elt, q6⟩ := next13 L hL b5 8 hb5 (by omega) (by omega)
   apply EX.step
   · intro xX C hN hk hqX
     repeat first | (with_reducible first | apply s1 | apply s2 | apply s5 | apply s6 | refine s7 ?_ | apply s3 | apply s4 | apply s8 | apply s9) | refine AW.condT rfl ?_ | refine AW.condF rfl ?_ | (refine AW.rT mixed hN hk (atO 23 (onc 1 (ocq 0 q5) noc) (atO 24 (onc 1 (ocq 0 q6) noc) noO)) kt13 [0] rfl (by decide +kernel) (fun K hK => ?_); simp only [go_sem, seval, kt13, w3]; (iterate 3 (try simp (disch := omega) only [au]; try simp only [go_sem, seval, kt13, w3])); (first | with_reducible refine hK _ _ ?_ | refine obK (hK _ _ ?_)); clear hK K) | (refine AW.rD mixed hN hk (atO 23 (onc 1 (ocq 0 q5) noc) (atO 24 (onc 1 (ocq 0 q6) noc) noO)) kt13 [0] rfl (by decide +kernel) (fun K tok htok hK => ?_); simp only [go_sem, seval, kt13, w3]; (iterate 3 (try simp (disch := omega) only [au]; try simp only [go_sem, seval, kt13, w3])); refine ⟨htok _ (by decide +kernel), ?_⟩; (first | with_reducible refine hK _ _ ?_ | refine obK (hK _ _ ?_)); clear hK K htok tok)
     exact hqX
   by_cases he : e = 7
   · subst he
     obtain ⟨z, b7, hb7, zlt, q7⟩ := next13 L hL b6 3 hb6 (by omega) (by omega)
     obtain rfl | rfl | rfl : z = 0 ∨ z = 1 ∨ z = 2 := by omega
     · apply EX.step
       · intro xX C hN hk hqX
         repeat first | (with_reducible first | apply s1 | apply s2 | apply s5 | apply s6 | refine s7 ?_ | apply s3 | apply s4 | apply s8 | apply s9) | refine AW.condT rfl ?_ | refine AW.condF rfl ?_ | (refine AW.rT mixed hN hk (atO 25 (onc 2 (ocq 0 q7) noc) noO) kt13 [0] rfl (by decide +kernel) (fun K hK => ?_); simp only [go_sem, seval, kt13]; (iterate 3 (try simp (disch := omega) only [au]; try simp only [go_sem, seval, kt13])); (first | with_reducible refine hK _ _ ?_ | refine obK (hK _ _ ?_)); clear hK K) | (refine AW.rD mixed hN hk (atO 25 (onc 2 (ocq 0 q7) noc) noO) kt13 [0] rfl (by decide +kernel) (fun K tok htok hK => ?_); simp only [go_sem, seval, kt13]; (iterate 3 (try simp (disch := omega) only [au]; try simp only [go_sem, seval, kt13])); refine ⟨htok _ (by decide +kernel), ?_⟩; (first | with_reducible refine hK _ _ ?_ | refine obK (hK _ _ ?_)); clear hK K htok tok)
         exact hqX
       refine EX.ret (.agg (tsC (.mk (9 + u) [64, 116, 105, 109, 101] [] (-5) []))) [some (cdE L b7)] ?_ (fun C hN hk => AW.ret (mkRet [some 0] [] (by simp only [resList, go_sem, seval]; rfl) (by simp [resOf, lk, lkh, I, str, B, U8, U64, U32, cdE, tsC_c] <;> omega) (by first | (simp [wkHp, wkHp1, wkEnt, lkh, cdE, tsC_c]; done) | simp [wkHp, wkHp1, wkEnt, lkh, I, str, cdE, tsC_c])))
       exact ⟨_, b7, rfl, TsB.mk0 _ (by decide) (by simp) (by omega) (by unfold In64; omega), hb7⟩
     · apply EX.step
       · intro xX C hN hk hqX
         repeat first | (with_reducible first | apply s1 | apply s2 | apply s5 | apply s6 | refine s7 ?_ | apply s3 | apply s4 | apply s8 | apply s9) | refine AW.condT rfl ?_ | refine AW.condF rfl ?_ | (refine AW.rT mixed hN hk (atO 25 (onc 2 (ocq 0 q7) noc) noO) kt13 [0] rfl (by decide +kernel) (fun K hK => ?_); simp only [go_sem, seval, kt13]; (iterate 3 (try simp (disch := omega) only [au]; try simp only [go_sem, seval, kt13])); (first | with_reducible refine hK _ _ ?_ | refine obK (hK _ _ ?_)); clear hK K) | (refine AW.rD mixed hN hk (atO 25 (onc 2 (ocq 0 q7) noc) noO) kt13 [0] rfl (by decide +kernel) (fun K tok htok hK => ?_); simp only [go_sem, seval, kt13]; (iterate 3 (try simp (disch := omega) only [au]; try simp only [go_sem, seval, kt13])); refine ⟨htok _ (by decide +kernel), ?_⟩; (first | with_reducible refine hK _ _ ?_ | refine obK (hK _ _ ?_)); clear hK K htok tok)
         exact hqX
       refine EX.ret (.agg (tsC (.mk (9 + u) [64, 116, 105, 109, 101] [] 253402300799999 []))) [some (cdE L b7)] ?_ (fun C hN hk => AW.ret (mkRet [some 0] [] (by simp only [resList, go_sem, seval]; rfl) (by simp [resOf, lk, lkh, I, str, B, U8, U64, U32, cdE, tsC_c] <;> omega) (by first | (simp [wkHp, wkHp1, wkEnt, lkh, cdE, tsC_c]; done) | simp [wkHp, wkHp1, wkEnt, lkh, I, str, cdE, tsC_c])))
       exact ⟨_, b7, rfl, TsB.mk0 _ (by decide) (by simp) (by omega) (by unfold In64; omega), hb7⟩
     · apply EX.step
       · intro xX C hN hk hqX
         repeat first | (with_reducible first | apply s1 | apply s2 | apply s5 | apply s6 | refine s7 ?_ | apply s3 | apply s4 | apply s8 | apply s9) | refine AW.condT rfl ?_ | refine AW.condF rfl ?_ | (refine AW.rT mixed hN hk (atO 25 (onc 2 (ocq 0 q7) noc) noO) kt13 [0] rfl (by decide +kernel) (fun K hK => ?_); simp only [go_sem, seval, kt13]; (iterate 3 (try simp (disch := omega) only [au]; try simp only [go_sem, seval, kt13])); (first | with_reducible refine hK _ _ ?_ | refine obK (hK _ _ ?_)); clear hK K) | (refine AW.rD mixed hN hk (atO 25 (onc 2 (ocq 0 q7) noc) noO) kt13 [0] rfl (by decide +kernel) (fun K tok htok hK => ?_); simp only [go_sem, seval, kt13]; (iterate 3 (try simp (disch := omega) only [au]; try simp only [go_sem, seval, kt13])); refine ⟨htok _ (by decide +kernel), ?_⟩; (first | with_reducible refine hK _ _ ?_ | refine obK (hK _ _ ?_)); clear hK K htok tok)
         exact hqX
       refine EX.ret (.agg (tsC (.mk (9 + u) [64, 116, 105, 109, 101] [] 999999999999999999 []))) [some (cdE L b7)] ?_ (fun C hN hk => AW.ret (mkRet [some 0] [] (by simp only [resList, go_sem, seval]; rfl) (by simp [resOf, lk, lkh, I, str, B, U8, U64, U32, cdE, tsC_c] <;> omega) (by first | (simp [wkHp, wkHp1, wkEnt, lkh, cdE, tsC_c]; done) | simp [wkHp, wkHp1, wkEnt, lkh, I, str, cdE, tsC_c])))
       exact ⟨_, b7, rfl, TsB.mk0 _ (by decide) (by simp) (by omega) (by unfold In64; omega), hb7⟩
   · have de : ((e : Int) == 7) = false := by simp; omega
     simp only [de]
     apply EX.step
     · intro xX C hN hk hqX
       repeat first | (with_reducible first | apply s1 | apply s2 | apply s5 | apply s6 | refine s7 ?_ | apply s3 | apply s4 | apply s8 | apply s9) | refine AW.condT rfl ?_ | refine AW.condF rfl ?_ | (refine AW.rT mixed hN hk noO kt13 [0] rfl (by decide +kernel) (fun K hK => ?_); simp only [go_sem, seval, kt13]; (iterate 3 (try simp (disch := omega) only [au]; try simp only [go_sem, seval, kt13])); (first | with_reducible refine hK _ _ ?_ | refine obK (hK _ _ ?_)); clear hK K) | (refine AW.rD mixed hN hk noO kt13 [0] rfl (by decide +kernel) (fun K tok htok hK => ?_); simp only [go_sem, seval, kt13]; (iterate 3 (try simp (disch := omega) only [au]; try simp only [go_sem, seval, kt13])); refine ⟨htok _ (by decide +kernel), ?_⟩; (first | with_reducible refine hK _ _ ?_ | refine obK (hK _ _ ?_)); clear hK K htok tok)
       exact hqX
     refine EX.ret (.agg (tsC (.mk (9 + u) [64, 116, 105, 109, 101] [] (995 + y) []))) [some (cdE L b6)] ?_ (fun C hN hk => AW.ret (mkRet [some 0] [] (by simp only [resList, go_sem, seval]; rfl) (by simp [resOf, lk, lkh, I, str, B, U8, U64, U32, cdE, tsC_c] <;> omega) (by first | (simp [wkHp, wkHp1, wkEnt, lkh, cdE, tsC_c]; done) | simp [wkHp, wkHp1, wkEnt, lkh, I, str, cdE, tsC_c])))
     exact ⟨_, b6, rfl, TsB.mk0 _ (by decide) (by simp) (by omega) (by unfold In64; omega), hb6⟩
 · have dc : ((c : Int) == 1) = false := by simp; omega
   simp only [dc]
   obtain ⟨e, b6, hb6, elt, q6⟩ := next13 L hL b4 8 hb4 (by omega) (by omega)
   apply EX.step
   · intro xX C hN hk hqX
     repeat first | (with_reducible first | apply s1 | apply s2 | apply s5 | apply s6 | refine s7 ?_ | apply s3 | apply s4 | apply s8 | apply s9) | refine AW.condT rfl ?_ | refine AW.condF rfl ?_ | (refine AW.rT mixed hN hk (atO 24 (onc 1 (ocq 0 q6) noc) noO) kt13 [0] rfl (by decide +kernel) (fun K hK => ?_); simp only [go_sem, seval, kt13]; (iterate 3 (try simp (disch := omega) only [au]; try simp only [go_sem, seval, kt13])); (first | with_reducible refine hK _ _ ?_ | refine obK (hK _ _ ?_)); clear hK K) | (refine AW.rD mixed hN hk (atO 24 (onc 1 (ocq 0 q6) noc) noO) kt13 [0] rfl (by decide +kernel) (fun K tok htok hK => ?_); simp only [go_sem, seval, kt13]; (iterate 3 (try simp (disch := omega) only [au]; try simp only [go_sem, seval, kt13])); refine ⟨htok _ (by decide +kernel), ?_⟩; (first | with_reducible refine hK _ _ ?_ | refine obK (hK _ _ ?_)); clear hK K htok tok)
     exact hqX
   by_cases he : e = 7
   · subst he
     obtain ⟨z, b7, hb7, zlt, q7⟩ := next13 L hL b6 3 hb6 (by omega) (by omega)
     obtain rfl | rfl | rfl : z = 0 ∨ z = 1 ∨ z = 2 := by omega
     · apply EX.step
       · intro xX C hN hk hqX
         repeat first | (with_reducible first | apply s1 | apply s2 | apply s5 | apply s6 | refine s7 ?_ | apply s3 | apply s4 | apply s8 | apply s9) | refine AW.condT rfl ?_ | refine AW.condF rfl ?_ | (refine AW.rT mixed hN hk (atO 25 (onc 2 (ocq 0 q7) noc) noO) kt13 [0] rfl (by decide +kernel) (fun K hK => ?_); simp only [go_sem, seval, kt13]; (iterate 3 (try simp (disch := omega) only [au]; try simp only [go_sem, seval, kt13])); (first | with_reducible refine hK _ _ ?_ | refine obK (hK _ _ ?_)); clear hK K) | (refine AW.rD mixed hN hk (atO 25 (onc 2 (ocq 0 q7) noc) noO) kt13 [0] rfl (by decide +kernel) (fun K tok htok hK => ?_); simp only [go_sem, seval, kt13]; (iterate 3 (try simp (disch := omega) only [au]; try simp only [go_sem, seval, kt13])); refine ⟨htok _ (by decide +kernel), ?_⟩; (first | with_reducible refine hK _ _ ?_ | refine obK (hK _ _ ?_)); clear hK K htok tok)
         exact hqX
       refine EX.ret (.agg (tsC (.mk (9 + u) [64, 116, 105, 109, 101] [] (-5) []))) [some (cdE L b7)] ?_ (fun C hN hk => AW.ret (mkRet [some 0] [] (by simp only [resList, go_sem, seval]; rfl) (by simp [resOf, lk, lkh, I, str, B, U8, U64, U32, cdE, tsC_c] <;> omega) (by first | (simp [wkHp, wkHp1, wkEnt, lkh, cdE, tsC_c]; done) | simp [wkHp, wkHp1, wkEnt, lkh, I, str, cdE, tsC_c])))
       exact ⟨_, b7, rfl, TsB.mk0 _ (by decide) (by simp) (by omega) (by unfold In64; omega), hb7⟩
     · apply EX.step
       · intro xX C hN hk hqX
         repeat first | (with_reducible first | apply s1 | apply s2 | apply s5 | apply s6 | refine s7 ?_ | apply s3 | apply s4 | apply s8 | apply s9) | refine AW.condT rfl ?_ | refine AW.condF rfl ?_ | (refine AW.rT mixed hN hk (atO 25 (onc 2 (ocq 0 q7) noc) noO) kt13 [0] rfl (by decide +kernel) (fun K hK => ?_); simp only [go_sem, seval, kt13]; (iterate 3 (try simp (disch := omega) only [au]; try simp only [go_sem, seval, kt13])); (first | with_reducible refine hK _ _ ?_ | refine obK (hK _ _ ?_)); clear hK K) | (refine AW.rD mixed hN hk (atO 25 (onc 2 (ocq 0 q7) noc) noO) kt13 [0] rfl (by decide +kernel) (fun K tok htok hK => ?_); simp only [go_sem, seval, kt13]; (iterate 3 (try simp (disch := omega) only [au]; try simp only [go_sem, seval, kt13])); refine ⟨htok _ (by decide +kernel), ?_⟩; (first | with_reducible refine hK _ _ ?_ | refine obK (hK _ _ ?_)); clear hK K htok tok)
         exact hqX
       refine EX.ret (.agg (tsC (.mk (9 + u) [64, 116, 105, 109, 101] [] 253402300799999 []))) [some (cdE L b7)] ?_ (fun C hN hk => AW.ret (mkRet [some 0] [] (by simp only [resList, go_sem, seval]; rfl) (by simp [resOf, lk, lkh, I, str, B, U8, U64, U32, cdE, tsC_c] <;> omega) (by first | (simp [wkHp, wkHp1, wkEnt, lkh, cdE, tsC_c]; done) | simp [wkHp, wkHp1, wkEnt, lkh, I, str, cdE, tsC_c])))
       exact ⟨_, b7, rfl, TsB.mk0 _ (by decide) (by simp) (by omega) (by unfold In64; omega), hb7⟩
     · apply EX.step
       · intro xX C hN hk hqX
         repeat first | (with_reducible first | apply s1 | apply s2 | apply s5 | apply s6 | refine s7 ?_ | apply s3 | apply s4 | apply s8 | apply s9) | refine AW.condT rfl ?_ | refine AW.condF rfl ?_ | (refine AW.rT mixed hN hk (atO 25 (onc 2 (ocq 0 q7) noc) noO) kt13 [0] rfl (by decide +kernel) (fun K hK => ?_); simp only [go_sem, seval, kt13]; (iterate 3 (try simp (disch := omega) only [au]; try simp only [go_sem, seval, kt13])); (first | with_reducible refine hK _ _ ?_ | refine obK (hK _ _ ?_)); clear hK K) | (refine AW.rD mixed hN hk (atO 25 (onc 2 (ocq 0 q7) noc) noO) kt13 [0] rfl (by decide +kernel) (fun K tok htok hK => ?_); simp only [go_sem, seval, kt13]; (iterate 3 (try simp (disch := omega) only [au]; try simp only [go_sem, seval, kt13])); refine ⟨htok _ (by decide +kernel), ?_⟩; (first | with_reducible refine hK _ _ ?_ | refine obK (hK _ _ ?_)); clear hK K htok tok)
         exact hqX
       refine EX.ret (.agg (tsC (.mk (9 + u) [64, 116, 105, 109, 101] [] 999999999999999999 []))) [some (cdE L b7)] ?_ (fun C hN hk => AW.ret (mkRet [some 0] [] (by simp only [resList, go_sem, seval]; rfl) (by simp [resOf, lk, lkh, I, str, B, U8, U64, U32, cdE, tsC_c] <;> omega) (by first | (simp [wkHp, wkHp1, wkEnt, lkh, cdE, tsC_c]; done) | simp [wkHp, wkHp1, wkEnt, lkh, I, str, cdE, tsC_c])))
       exact ⟨_, b7, rfl, TsB.mk0 _ (by decide) (by simp) (by omega) (by unfold In64; omega), hb7⟩
   · have de : ((e : Int) == 7) = false := by simp; omega
     simp only [de]
     apply EX.step
     · intro xX C hN hk hqX
       repeat first | (with_reducible first | apply s1 | apply s2 | apply s5 | apply s6 | refine s7 ?_ | apply s3 | apply s4 | apply s8 | apply s9) | refine AW.condT rfl ?_ | refine AW.condF rfl ?_ | (refine AW.rT mixed hN hk noO kt13 [0] rfl (by decide +kernel) (fun K hK => ?_); simp only [go_sem, seval, kt13]; (iterate 3 (try simp (disch := omega) only [au]; try simp only [go_sem, seval, kt13])); (first | with_reducible refine hK _ _ ?_ | refine obK (hK _ _ ?_)); clear hK K) | (refine AW.rD mixed hN hk noO kt13 [0] rfl (by decide +kernel) (fun K tok htok hK => ?_); simp only [go_sem, seval, kt13]; (iterate 3 (try simp (disch := omega) only [au]; try simp only [go_sem, seval, kt13])); refine ⟨htok _ (by decide +kernel), ?_⟩; (first | with_reducible refine hK _ _ ?_ | refine obK (hK _ _ ?_)); clear hK K htok tok)
       exact hqX
     refine EX.ret (.agg (tsC (.mk (9 + u) w [] (m - 5) []))) [some (cdE L b6)] ?_ (fun C hN hk => AW.ret (mkRet [some 0] [] (by simp only [resList, go_sem, seval]; rfl) (by simp [resOf, lk, lkh, I, str, B, U8, U64, U32, cdE, tsC_c] <;> omega) (by first | (simp [wkHp, wkHp1, wkEnt, lkh, cdE, tsC_c]; done) | simp [wkHp, wkHp1, wkEnt, lkh, I, str, cdE, tsC_c])))
     exact ⟨_, b6, rfl, TsB.mk0 _ wl (by simp) (by omega) (by unfold In64; omega), hb6⟩
theorem test24_9 (L : List UInt8) (hL : L.length ≤ 2 ^ 20) (d a2 : Nat) (ha2 : a2 ≤ L.length) :
   EX 131 1 (R24 L d) (fun x C => AW Tryz.prog C rest24 (retQ (tabOf Tryz.prog) [.cell 4 28] x.1 x.2 1) 2 ⟨[(0, .ptr 0 2 0 0), (1, I d), (4, .ptr 1 5 0 0), (5, I 9)], [(0, some (cdE L a2)), (1, some ⟨28, 5, [[I 0, str [], str [], I 0, nilV]]⟩)]⟩) := by
 dsimp only [rest24, cR, bodyOf, Tryz.f13, Option.getD]
 simp only [cdE, nilV]
 apply EX.step
 · intro xX C hN hk hqX
   repeat first | (with_reducible first | apply s1 | apply s2 | apply s5 | apply s6 | refine s7 ?_ | apply s3 | apply s4 | apply s8 | apply s9) | refine AW.condT rfl ?_ | refine AW.condF rfl ?_ | (refine AW.rT mixed hN hk noO kt13 [0] rfl (by decide +kernel) (fun K hK => ?_); simp only [go_sem, seval, kt13]; (iterate 3 (try simp (disch := omega) only [au]; try simp only [go_sem, seval, kt13])); (first | with_reducible refine hK _ _ ?_ | refine obK (hK _ _ ?_)); clear hK K) | (refine AW.rD mixed hN hk noO kt13 [0] rfl (by decide +kernel) (fun K tok htok hK => ?_); simp only [go_sem, seval, kt13]; (iterate 3 (try simp (disch := omega) only [au]; try simp only [go_sem, seval, kt13])); refine ⟨htok _ (by decide +kernel), ?_⟩; (first | with_reducible refine hK _ _ ?_ | refine obK (hK _ _ ?_)); clear hK K htok tok)
   exact hqX
 refine EX.ret (.agg (tsC (.mk 0 [] [] 0 []))) [some (cdE L a2)] ?_ (fun C hN hk => AW.ret (mkRet [some 0] [] (by simp only [resList, go_sem, seval]; rfl) (by simp [resOf, lk, lkh, I, str, B, U8, U64, U32, cdE, tsC_c] <;> omega) (by first | (simp [wkHp, wkHp1, wkEnt, lkh, cdE, tsC_c]; done) | simp [wkHp, wkHp1, wkEnt, lkh, I, str, cdE, tsC_c])))
 exact ⟨_, a2, rfl, TsB.mk0 _ (by simp) (by simp) (by omega) (by unfold In64; omega), ha2⟩
end Go.Proofs.YtffchapiaampmaaGreatDoor
