/-
  Part 18 of the proof that logtidelaw41.PlanCombine returns true for every list of bytes and leaves its argument as it was; no condition.
-/
import Derived.Test.YtceeklfmlheofaaGreatA17
set_option linter.unusedSimpArgs false
set_option linter.unusedVariables false
namespace Go.Proofs.YtceeklfmlheofaaGreat
open Go.Av
attribute [local irreducible] ACall
def hd24 (k : Nat) (v : List Int) : List UInt8 := [UInt8.ofNat k] ++ varint v.length
def pl24 (v : List Int) : Nat → List UInt8
 | 0 => hd24 0 v
 | i + 1 => pl24 v i ++ putIntF (v.getD i 0)
def de24V (v : List Int) (i : Nat) : Int := if 0 < i then IntKind.i64.wrap (v.getD i 0 - v.getD (i - 1) 0) else v.getD i 0
def de24 (v : List Int) : Nat → List UInt8
 | 0 => hd24 1 v
 | i + 1 => de24 v i ++ putIntF (de24V v i)
theorem putIntF_len (x : Int) : (putIntF x).length ≤ 11 := varint_len _
theorem hd24_len (k : Nat) (v : List Int) : (hd24 k v).length ≤ 12 := by
 have := varint_len v.length
 simp [hd24]; omega
theorem pl24_len (v : List Int) : ∀ i, (pl24 v i).length ≤ 12 + i * 11
 | 0 => by have := hd24_len 0 v; simp only [pl24]; omega
 | i + 1 => by
   have := pl24_len v i
   have := putIntF_len (v.getD i 0)
   simp only [pl24, List.length_append]; omega
theorem de24_len (v : List Int) : ∀ i, (de24 v i).length ≤ 12 + i * 11
 | 0 => by have := hd24_len 1 v; simp only [de24]; omega
 | i + 1 => by
   have := de24_len v i
   have := putIntF_len (de24V v i)
   simp only [de24, List.length_append]; omega
theorem encPlain (v : List Int) (hl : v.length ≤ 16384) :
   ACall Tryz.prog 62 [I 0, .sl 1 (intE v)] [] (.tup [.osl 0 (pl24 v v.length).length 1, I 0]) [some ⟨5, 1, bytesE (pl24 v v.length)⟩] := by
 refine acall 95 0 Tryz.func62 rfl rfl rfl (by simp) rfl rfl ?_
 intro C hN hk
 have a1 : decide ((0 : Int) < 0) = false := by decide
 have a2 : decide ((0 : Int) > 3) = false := by decide
 have a3 : decide ((v.length : Int) > 16384) = false := by simp; omega
 have a4 : IntKind.u8.wrap (0 : Int) = 0 := by decide
 have a5 : IntKind.u64.wrap (v.length : Int) = v.length := IntWalk.u64_in _ (by omega)
 have a6 : ((0 : Int) == 3) = false := by decide
 have a7 : ((0 : Int) == 2) = false := by decide
 have a8 : ((0 : Int) == 1) = false := by decide
 have q1 := putVarint [UInt8.ofNat 0] v.length (by omega) (by simp)
 refine nx ?_; refine rG hN hk noc [] [0, 1] fun K hK => ?_; simp only [go_sem, reduceIte, Nat.reduceAdd, Nat.reduceMul, Nat.reduceEqDiff, reduceCtorEq, Nat.reduceSub, Nat.reduceLeDiff, Nat.reducePow, Nat.lt_add_one, Nat.zero_lt_succ, ne_eq, not_false_eq_true, decide_true, decide_false, Bool.not_true, Bool.not_false, Bool.false_eq_true]; refine hK _ _ ?_
 clear hK K; refine nx ?_
 refine rG hN hk noc [] [0, 1, 14] fun K hK => ?_; simp only [go_sem, reduceIte, Nat.reduceAdd, Nat.reduceMul, Nat.reduceEqDiff, reduceCtorEq, Nat.reduceSub, Nat.reduceLeDiff, Nat.reducePow, Nat.lt_add_one, Nat.zero_lt_succ, ne_eq, not_false_eq_true, decide_true, decide_false, Bool.not_true, Bool.not_false, Bool.false_eq_true, a1, a2]; refine hK _ _ ?_
 clear hK K; refine nx ?_
 refine AW.condF rfl (AW.skip (qNext ?_))
 refine nx ?_; refine rG hN hk noc [] [0, 1, 17] fun K hK => ?_; simp only [go_sem, reduceIte, Nat.reduceAdd, Nat.reduceMul, Nat.reduceEqDiff, reduceCtorEq, Nat.reduceSub, Nat.reduceLeDiff, Nat.reducePow, Nat.lt_add_one, Nat.zero_lt_succ, ne_eq, not_false_eq_true, decide_true, decide_false, Bool.not_true, Bool.not_false, Bool.false_eq_true, a3]; refine hK _ _ ?_
 clear hK K; refine nx ?_
 refine AW.condF rfl (AW.skip (qNext ?_))
 refine nx ?_; refine rG hN hk (onc 6 (oc 16 ⟨5, 1, bytesE [UInt8.ofNat 0]⟩ [.osl 0 [UInt8.ofNat 0].length 1, U64 v.length] (.osl 1 ([UInt8.ofNat 0] ++ varint v.length).length 1) [none, some ⟨5, 1, bytesE ([UInt8.ofNat 0] ++ varint v.length)⟩]) noc) [] [0, 1, 6] fun K hK => ?_; simp only [go_sem, reduceIte, Nat.reduceAdd, Nat.reduceMul, Nat.reduceEqDiff, reduceCtorEq, Nat.reduceSub, Nat.reduceLeDiff, Nat.reducePow, Nat.lt_add_one, Nat.zero_lt_succ, ne_eq, not_false_eq_true, decide_true, decide_false, Bool.not_true, Bool.not_false, Bool.false_eq_true, a4, a5]
 first | with_reducible refine hK _ _ ?_ | refine ⟨by exact ⟨by simp, ownOb q1 rfl (by simp) (by simp) rfl (by simp) (by simp) rfl⟩, hK _ _ ?_⟩ | refine obK (hK _ _ ?_)
 clear hK K; refine nx ?_
 rw [show (varint v.length).length + 1 = (hd24 0 v).length from rfl, show UInt8.ofNat 0 :: varint v.length = hd24 0 v from rfl]
 clear q1
 refine nx ?_; refine rG hN hk noc [] [0, 1, 6, 26] fun K hK => ?_; simp only [go_sem, reduceIte, Nat.reduceAdd, Nat.reduceMul, Nat.reduceEqDiff, reduceCtorEq, Nat.reduceSub, Nat.reduceLeDiff, Nat.reducePow, Nat.lt_add_one, Nat.zero_lt_succ, ne_eq, not_false_eq_true, decide_true, decide_false, Bool.not_true, Bool.not_false, Bool.false_eq_true, a6]; refine hK _ _ ?_
 clear hK K; refine nx ?_
 refine AW.condF rfl (AW.skip (qNext ?_))
 refine nx ?_; refine rG hN hk noc [] [0, 1, 6, 7] fun K hK => ?_; simp only [go_sem, reduceIte, Nat.reduceAdd, Nat.reduceMul, Nat.reduceEqDiff, reduceCtorEq, Nat.reduceSub, Nat.reduceLeDiff, Nat.reducePow, Nat.lt_add_one, Nat.zero_lt_succ, ne_eq, not_false_eq_true, decide_true, decide_false, Bool.not_true, Bool.not_false, Bool.false_eq_true]; refine hK _ _ ?_
 clear hK K; refine nx ?_
 refine AW.loopF hk 1 (fun i : Nat => ⟨[(0, I 0), (1, .sl 1 (intE v)), (6, .osl 0 (pl24 v i).length 1), (7, I i)], [(0, some ⟨5, 1, bytesE (pl24 v i)⟩)]⟩) (fun i => i ≤ v.length) (fun i => v.length - i) 0 (by omega) ⟨[some 0], [], ⟨by simp [srcIds], by simp [srcIds], by simp⟩, by simp, by simp [wkEnv, wk, lk, I, pl24], by simp [wkHp, wkHp1, wkEnt, lkh, pl24]⟩ ?_
 intro i h1
 by_cases hi : i < v.length
 · have b1 : decide ((i : Int) < v.length) = true := by simp; omega
   have hx := List.getElem?_eq_getElem hi
   have hx2 : v.getD i 0 = v[i] := by simp [List.getD, hi]
   have b2 := wrap64 (n := (i : Int) + 1) (by omega)
   have hol := pl24_len v i
   have hpk : pl24 v (i + 1) = pl24 v i ++ putIntF (v.getD i 0) := rfl
   rw [hx2] at hpk
   generalize v[i] = x at *
   have q2 := putInt (pl24 v i) x (by omega)
   generalize pl24 v i = o at *
   generalize putIntF x = px at *
   refine nx ?_; refine rG hN hk noc [] [0, 1, 6, 7, 33] fun K hK => ?_; simp only [go_sem, reduceIte, Nat.reduceAdd, Nat.reduceMul, Nat.reduceEqDiff, reduceCtorEq, Nat.reduceSub, Nat.reduceLeDiff, Nat.reducePow, Nat.lt_add_one, Nat.zero_lt_succ, ne_eq, not_false_eq_true, decide_true, decide_false, Bool.not_true, Bool.not_false, Bool.false_eq_true, b1]; refine hK _ _ ?_
   clear hK K; refine nx ?_
   refine AW.condT rfl (AW.skip (qNext ?_))
   refine nx ?_; refine rG hN hk noc [] [0, 1, 6, 7, 42] fun K hK => ?_; simp only [go_sem, reduceIte, Nat.reduceAdd, Nat.reduceMul, Nat.reduceEqDiff, reduceCtorEq, Nat.reduceSub, Nat.reduceLeDiff, Nat.reducePow, Nat.lt_add_one, Nat.zero_lt_succ, ne_eq, not_false_eq_true, decide_true, decide_false, Bool.not_true, Bool.not_false, Bool.false_eq_true, a7]; refine hK _ _ ?_
   clear hK K; refine nx ?_
   refine cF ?_; refine nx ?_; refine rG hN hk noc [] [0, 1, 6, 7, 75] fun K hK => ?_; simp only [go_sem, reduceIte, Nat.reduceAdd, Nat.reduceMul, Nat.reduceEqDiff, reduceCtorEq, Nat.reduceSub, Nat.reduceLeDiff, Nat.reducePow, Nat.lt_add_one, Nat.zero_lt_succ, ne_eq, not_false_eq_true, decide_true, decide_false, Bool.not_true, Bool.not_false, Bool.false_eq_true, a8]; refine hK _ _ ?_
   clear hK K; refine nx ?_
   refine cF ?_; refine nx ?_; refine rG hN hk (onc 5 (oc 0 ⟨5, 1, bytesE o⟩ [.osl 0 o.length 1, I x] (.osl 1 (o ++ px).length 1) [none, some ⟨5, 1, bytesE (o ++ px)⟩]) noc) [] [0, 1, 6, 7] fun K hK => ?_; simp only [go_sem, reduceIte, Nat.reduceAdd, Nat.reduceMul, Nat.reduceEqDiff, reduceCtorEq, Nat.reduceSub, Nat.reduceLeDiff, Nat.reducePow, Nat.lt_add_one, Nat.zero_lt_succ, ne_eq, not_false_eq_true, decide_true, decide_false, Bool.not_true, Bool.not_false, Bool.false_eq_true, hx]
   first | with_reducible refine hK _ _ ?_ | refine ⟨by exact ownOb q2 rfl (by simp) (by simp) rfl (by simp) (by simp) rfl, hK _ _ ?_⟩ | refine obK (hK _ _ ?_)
   clear hK K; refine nx ?_
   refine rG hN hk noc [] [0, 1, 6, 7] fun K hK => ?_; simp only [go_sem, reduceIte, Nat.reduceAdd, Nat.reduceMul, Nat.reduceEqDiff, reduceCtorEq, Nat.reduceSub, Nat.reduceLeDiff, Nat.reducePow, Nat.lt_add_one, Nat.zero_lt_succ, ne_eq, not_false_eq_true, decide_true, decide_false, Bool.not_true, Bool.not_false, Bool.false_eq_true, b2]; refine hK _ _ ?_
   clear hK K; refine nx ?_
   exact ⟨i + 1, by omega, by omega, ⟨[some 0], [], ⟨by simp [srcIds], by simp [srcIds], by simp⟩, by simp, by simp [wkEnv, wk, lk, I, hpk], by simp [wkHp, wkHp1, wkEnt, lkh, hpk]⟩⟩
 · have b1 : decide ((i : Int) < v.length) = false := by simp; omega
   have : i = v.length := by omega
   subst this
   refine nx ?_; refine rG hN hk noc [] [6, 33] fun K hK => ?_; simp only [go_sem, reduceIte, Nat.reduceAdd, Nat.reduceMul, Nat.reduceEqDiff, reduceCtorEq, Nat.reduceSub, Nat.reduceLeDiff, Nat.reducePow, Nat.lt_add_one, Nat.zero_lt_succ, ne_eq, not_false_eq_true, decide_true, decide_false, Bool.not_true, Bool.not_false, Bool.false_eq_true, b1]; refine hK _ _ ?_
   clear hK K; refine nx ?_
   refine AW.condF rfl (AW.exit (qThen (qThen (qHere (qNext ?_)))))
   refine nx ?_; refine rG hN hk noc [] [4, 5] fun K hK => ?_; simp only [go_sem, reduceIte, Nat.reduceAdd, Nat.reduceMul, Nat.reduceEqDiff, reduceCtorEq, Nat.reduceSub, Nat.reduceLeDiff, Nat.reducePow, Nat.lt_add_one, Nat.zero_lt_succ, ne_eq, not_false_eq_true, decide_true, decide_false, Bool.not_true, Bool.not_false, Bool.false_eq_true]; refine hK _ _ ?_
   clear hK K; refine nx ?_
   refine AW.ret (mkRet [some 0] [] rfl ?_ ?_)
   · simp [resOf, lk, wk, wkL, I]
   · simp [wkHp, wkHp1, wkEnt, lkh]
theorem encDelta (v : List Int) (hl : v.length ≤ 16384) :
   ACall Tryz.prog 62 [I 1, .sl 1 (intE v)] [] (.tup [.osl 0 (de24 v v.length).length 1, I 0]) [some ⟨5, 1, bytesE (de24 v v.length)⟩] := by
 refine acall 95 0 Tryz.func62 rfl rfl rfl (by simp) rfl rfl ?_
 intro C hN hk
 have a1 : decide ((1 : Int) < 0) = false := by decide
 have a2 : decide ((1 : Int) > 3) = false := by decide
 have a3 : decide ((v.length : Int) > 16384) = false := by simp; omega
 have a4 : IntKind.u8.wrap (1 : Int) = 1 := by decide
 have a5 : IntKind.u64.wrap (v.length : Int) = v.length := IntWalk.u64_in _ (by omega)
 have a6 : ((1 : Int) == 3) = false := by decide
 have a7 : ((1 : Int) == 2) = false := by decide
 have a8 : ((1 : Int) == 1) = true := by decide
 have q1 := putVarint [UInt8.ofNat 1] v.length (by omega) (by simp)
 refine nx ?_; refine rG hN hk noc [] [0, 1] fun K hK => ?_; simp only [go_sem, reduceIte, Nat.reduceAdd, Nat.reduceMul, Nat.reduceEqDiff, reduceCtorEq, Nat.reduceSub, Nat.reduceLeDiff, Nat.reducePow, Nat.lt_add_one, Nat.zero_lt_succ, ne_eq, not_false_eq_true, decide_true, decide_false, Bool.not_true, Bool.not_false, Bool.false_eq_true]; refine hK _ _ ?_
 clear hK K; refine nx ?_
 refine rG hN hk noc [] [0, 1, 14] fun K hK => ?_; simp only [go_sem, reduceIte, Nat.reduceAdd, Nat.reduceMul, Nat.reduceEqDiff, reduceCtorEq, Nat.reduceSub, Nat.reduceLeDiff, Nat.reducePow, Nat.lt_add_one, Nat.zero_lt_succ, ne_eq, not_false_eq_true, decide_true, decide_false, Bool.not_true, Bool.not_false, Bool.false_eq_true, a1, a2]; refine hK _ _ ?_
 clear hK K; refine nx ?_
 refine AW.condF rfl (AW.skip (qNext ?_))
 refine nx ?_; refine rG hN hk noc [] [0, 1, 17] fun K hK => ?_; simp only [go_sem, reduceIte, Nat.reduceAdd, Nat.reduceMul, Nat.reduceEqDiff, reduceCtorEq, Nat.reduceSub, Nat.reduceLeDiff, Nat.reducePow, Nat.lt_add_one, Nat.zero_lt_succ, ne_eq, not_false_eq_true, decide_true, decide_false, Bool.not_true, Bool.not_false, Bool.false_eq_true, a3]; refine hK _ _ ?_
 clear hK K; refine nx ?_
 refine AW.condF rfl (AW.skip (qNext ?_))
 refine nx ?_; refine rG hN hk (onc 6 (oc 16 ⟨5, 1, bytesE [UInt8.ofNat 1]⟩ [.osl 0 [UInt8.ofNat 1].length 1, U64 v.length] (.osl 1 ([UInt8.ofNat 1] ++ varint v.length).length 1) [none, some ⟨5, 1, bytesE ([UInt8.ofNat 1] ++ varint v.length)⟩]) noc) [] [0, 1, 6] fun K hK => ?_; simp only [go_sem, reduceIte, Nat.reduceAdd, Nat.reduceMul, Nat.reduceEqDiff, reduceCtorEq, Nat.reduceSub, Nat.reduceLeDiff, Nat.reducePow, Nat.lt_add_one, Nat.zero_lt_succ, ne_eq, not_false_eq_true, decide_true, decide_false, Bool.not_true, Bool.not_false, Bool.false_eq_true, a4, a5]
 first | with_reducible refine hK _ _ ?_ | refine ⟨by exact ⟨by simp, ownOb q1 rfl (by simp) (by simp) rfl (by simp) (by simp) rfl⟩, hK _ _ ?_⟩ | refine obK (hK _ _ ?_)
 clear hK K; refine nx ?_
 rw [show (varint v.length).length + 1 = (hd24 1 v).length from rfl, show UInt8.ofNat 1 :: varint v.length = hd24 1 v from rfl]
 clear q1
 refine nx ?_; refine rG hN hk noc [] [0, 1, 6, 26] fun K hK => ?_; simp only [go_sem, reduceIte, Nat.reduceAdd, Nat.reduceMul, Nat.reduceEqDiff, reduceCtorEq, Nat.reduceSub, Nat.reduceLeDiff, Nat.reducePow, Nat.lt_add_one, Nat.zero_lt_succ, ne_eq, not_false_eq_true, decide_true, decide_false, Bool.not_true, Bool.not_false, Bool.false_eq_true, a6]; refine hK _ _ ?_
 clear hK K; refine nx ?_
 refine AW.condF rfl (AW.skip (qNext ?_))
 refine nx ?_; refine rG hN hk noc [] [0, 1, 6, 7] fun K hK => ?_; simp only [go_sem, reduceIte, Nat.reduceAdd, Nat.reduceMul, Nat.reduceEqDiff, reduceCtorEq, Nat.reduceSub, Nat.reduceLeDiff, Nat.reducePow, Nat.lt_add_one, Nat.zero_lt_succ, ne_eq, not_false_eq_true, decide_true, decide_false, Bool.not_true, Bool.not_false, Bool.false_eq_true]; refine hK _ _ ?_
 clear hK K; refine nx ?_
 refine AW.loopF hk 1 (fun i : Nat => ⟨[(0, I 1), (1, .sl 1 (intE v)), (6, .osl 0 (de24 v i).length 1), (7, I i)], [(0, some ⟨5, 1, bytesE (de24 v i)⟩)]⟩) (fun i => i ≤ v.length) (fun i => v.length - i) 0 (by omega) ⟨[some 0], [], ⟨by simp [srcIds], by simp [srcIds], by simp⟩, by simp, by simp [wkEnv, wk, lk, I, de24], by simp [wkHp, wkHp1, wkEnt, lkh, de24]⟩ ?_
 intro i h1
 by_cases hi : i < v.length
 · have b1 : decide ((i : Int) < v.length) = true := by simp; omega
   have hx := List.getElem?_eq_getElem hi
   have hx2 : v.getD i 0 = v[i] := by simp [List.getD, hi]
   have b2 := wrap64 (n := (i : Int) + 1) (by omega)
   have hol := de24_len v i
   have hpk : de24 v (i + 1) = de24 v i ++ putIntF (de24V v i) := rfl
   refine nx ?_; refine rG hN hk noc [] [0, 1, 6, 7, 33] fun K hK => ?_; simp only [go_sem, reduceIte, Nat.reduceAdd, Nat.reduceMul, Nat.reduceEqDiff, reduceCtorEq, Nat.reduceSub, Nat.reduceLeDiff, Nat.reducePow, Nat.lt_add_one, Nat.zero_lt_succ, ne_eq, not_false_eq_true, decide_true, decide_false, Bool.not_true, Bool.not_false, Bool.false_eq_true, b1]; refine hK _ _ ?_
   clear hK K; refine nx ?_
   refine AW.condT rfl (AW.skip (qNext ?_))
   refine nx ?_; refine rG hN hk noc [] [0, 1, 6, 7, 42] fun K hK => ?_; simp only [go_sem, reduceIte, Nat.reduceAdd, Nat.reduceMul, Nat.reduceEqDiff, reduceCtorEq, Nat.reduceSub, Nat.reduceLeDiff, Nat.reducePow, Nat.lt_add_one, Nat.zero_lt_succ, ne_eq, not_false_eq_true, decide_true, decide_false, Bool.not_true, Bool.not_false, Bool.false_eq_true, a7]; refine hK _ _ ?_
   clear hK K; refine nx ?_
   refine cF ?_
   by_cases hi0 : 0 < i
   · have b3 : decide ((i : Int) > 0) = true := by simp; omega
     have hy := List.getElem?_eq_getElem (show i - 1 < v.length by omega)
     have hy2 : v.getD (i - 1) 0 = v[i - 1] := by simp [List.getD, show i - 1 < v.length by omega]
     rw [de24V, if_pos hi0, hx2, hy2] at hpk
     generalize v[i] = x at *
     generalize v[i - 1] = y at *
     have b4 := wrap64 (n := (i : Int) - 1) (by omega)
     have b5 : ((i : Int) - 1).toNat = i - 1 := by omega
     generalize hz : IntKind.i64.wrap (x - y) = z at *
     have q2 := putInt (de24 v i) z (by omega)
     generalize de24 v i = o at *
     generalize putIntF z = px at *
     refine nx ?_; refine rG hN hk noc [] [0, 1, 6, 7, 75] fun K hK => ?_; simp only [go_sem, reduceIte, Nat.reduceAdd, Nat.reduceMul, Nat.reduceEqDiff, reduceCtorEq, Nat.reduceSub, Nat.reduceLeDiff, Nat.reducePow, Nat.lt_add_one, Nat.zero_lt_succ, ne_eq, not_false_eq_true, decide_true, decide_false, Bool.not_true, Bool.not_false, Bool.false_eq_true, a8, b3]; refine hK _ _ ?_
     clear hK K; refine nx ?_
     refine cT ?_; refine nx ?_
     refine rD hN hk (onc 11 (oc 0 ⟨5, 1, bytesE o⟩ [.osl 0 o.length 1, I z] (.osl 1 (o ++ px).length 1) [none, some ⟨5, 1, bytesE (o ++ px)⟩]) noc) [] [0, 1, 6, 7] fun K tok htok hK => ?_
     simp only [go_sem, reduceIte, Nat.reduceAdd, Nat.reduceMul, Nat.reduceEqDiff, reduceCtorEq, Nat.reduceSub, Nat.reduceLeDiff, Nat.reducePow, Nat.lt_add_one, Nat.zero_lt_succ, ne_eq, not_false_eq_true, decide_true, decide_false, Bool.not_true, Bool.not_false, Bool.false_eq_true, hx, hy, b4, b5, hz]
     refine ⟨htok _ (by decide +kernel), by exact ⟨by omega, ownOb q2 rfl (by simp) (by simp) rfl (by simp) (by simp) rfl⟩, hK _ _ ?_⟩
     clear hK K htok tok
     refine nx ?_; refine rG hN hk noc [] [0, 1, 6, 7] fun K hK => ?_; simp only [go_sem, reduceIte, Nat.reduceAdd, Nat.reduceMul, Nat.reduceEqDiff, reduceCtorEq, Nat.reduceSub, Nat.reduceLeDiff, Nat.reducePow, Nat.lt_add_one, Nat.zero_lt_succ, ne_eq, not_false_eq_true, decide_true, decide_false, Bool.not_true, Bool.not_false, Bool.false_eq_true, b2]; refine hK _ _ ?_
     clear hK K; refine nx ?_
     exact ⟨i + 1, by omega, by omega, ⟨[some 0], [], ⟨by simp [srcIds], by simp [srcIds], by simp⟩, by simp, by simp [wkEnv, wk, lk, I, hpk], by simp [wkHp, wkHp1, wkEnt, lkh, hpk]⟩⟩
   · have b3 : decide ((i : Int) > 0) = false := by simp; omega
     rw [de24V, if_neg hi0, hx2] at hpk
     generalize v[i] = x at *
     have q2 := putInt (de24 v i) x (by omega)
     generalize de24 v i = o at *
     generalize putIntF x = px at *
     refine nx ?_; refine rG hN hk noc [] [0, 1, 6, 7, 75] fun K hK => ?_; simp only [go_sem, reduceIte, Nat.reduceAdd, Nat.reduceMul, Nat.reduceEqDiff, reduceCtorEq, Nat.reduceSub, Nat.reduceLeDiff, Nat.reducePow, Nat.lt_add_one, Nat.zero_lt_succ, ne_eq, not_false_eq_true, decide_true, decide_false, Bool.not_true, Bool.not_false, Bool.false_eq_true, a8, b3]; refine hK _ _ ?_
     clear hK K; refine nx ?_
     refine cF ?_; refine nx ?_; refine rG hN hk (onc 5 (oc 0 ⟨5, 1, bytesE o⟩ [.osl 0 o.length 1, I x] (.osl 1 (o ++ px).length 1) [none, some ⟨5, 1, bytesE (o ++ px)⟩]) noc) [] [0, 1, 6, 7] fun K hK => ?_; simp only [go_sem, reduceIte, Nat.reduceAdd, Nat.reduceMul, Nat.reduceEqDiff, reduceCtorEq, Nat.reduceSub, Nat.reduceLeDiff, Nat.reducePow, Nat.lt_add_one, Nat.zero_lt_succ, ne_eq, not_false_eq_true, decide_true, decide_false, Bool.not_true, Bool.not_false, Bool.false_eq_true, hx]
     first | with_reducible refine hK _ _ ?_ | refine ⟨by exact ownOb q2 rfl (by simp) (by simp) rfl (by simp) (by simp) rfl, hK _ _ ?_⟩ | refine obK (hK _ _ ?_)
     clear hK K; refine nx ?_
     refine rG hN hk noc [] [0, 1, 6, 7] fun K hK => ?_; simp only [go_sem, reduceIte, Nat.reduceAdd, Nat.reduceMul, Nat.reduceEqDiff, reduceCtorEq, Nat.reduceSub, Nat.reduceLeDiff, Nat.reducePow, Nat.lt_add_one, Nat.zero_lt_succ, ne_eq, not_false_eq_true, decide_true, decide_false, Bool.not_true, Bool.not_false, Bool.false_eq_true, b2]; refine hK _ _ ?_
     clear hK K; refine nx ?_
     exact ⟨i + 1, by omega, by omega, ⟨[some 0], [], ⟨by simp [srcIds], by simp [srcIds], by simp⟩, by simp, by simp [wkEnv, wk, lk, I, hpk], by simp [wkHp, wkHp1, wkEnt, lkh, hpk]⟩⟩
 · have b1 : decide ((i : Int) < v.length) = false := by simp; omega
   have : i = v.length := by omega
   subst this
   refine nx ?_; refine rG hN hk noc [] [6, 33] fun K hK => ?_; simp only [go_sem, reduceIte, Nat.reduceAdd, Nat.reduceMul, Nat.reduceEqDiff, reduceCtorEq, Nat.reduceSub, Nat.reduceLeDiff, Nat.reducePow, Nat.lt_add_one, Nat.zero_lt_succ, ne_eq, not_false_eq_true, decide_true, decide_false, Bool.not_true, Bool.not_false, Bool.false_eq_true, b1]; refine hK _ _ ?_
   clear hK K; refine nx ?_
   refine AW.condF rfl (AW.exit (qThen (qThen (qHere (qNext ?_)))))
   refine nx ?_; refine rG hN hk noc [] [4, 5] fun K hK => ?_; simp only [go_sem, reduceIte, Nat.reduceAdd, Nat.reduceMul, Nat.reduceEqDiff, reduceCtorEq, Nat.reduceSub, Nat.reduceLeDiff, Nat.reducePow, Nat.lt_add_one, Nat.zero_lt_succ, ne_eq, not_false_eq_true, decide_true, decide_false, Bool.not_true, Bool.not_false, Bool.false_eq_true]; refine hK _ _ ?_
   clear hK K; refine nx ?_
   refine AW.ret (mkRet [some 0] [] rfl ?_ ?_)
   · simp [resOf, lk, wk, wkL, I]
   · simp [wkHp, wkHp1, wkEnt, lkh]
def pk24 (v : List Int) : List UInt8 := hd24 3 v ++ packF v
theorem encPacked (v : List Int) (h0 : 0 < v.length) (hl : v.length ≤ 16384) :
   ACall Tryz.prog 62 [I 3, .sl 1 (intE v)] [] (.tup [.osl 0 (pk24 v).length 1, I 0]) [some ⟨5, 1, bytesE (pk24 v)⟩] := by
 refine acall 95 0 Tryz.func62 rfl rfl rfl (by simp) rfl rfl ?_
 intro C hN hk
 have a1 : decide ((3 : Int) < 0) = false := by decide
 have a2 : decide ((3 : Int) > 3) = false := by decide
 have a3 : decide ((v.length : Int) > 16384) = false := by simp; omega
 have a4 : IntKind.u8.wrap (3 : Int) = 3 := by decide
 have a5 : IntKind.u64.wrap (v.length : Int) = v.length := IntWalk.u64_in _ (by omega)
 have a6 : ((3 : Int) == 3) = true := by decide
 have a7 : ((3 : Int) == 2) = false := by decide
 have a8 : ((3 : Int) == 1) = false := by decide
 have q1 := putVarint [UInt8.ofNat 3] v.length (by omega) (by simp)
 refine nx ?_; refine rG hN hk noc [] [0, 1] fun K hK => ?_; simp only [go_sem, reduceIte, Nat.reduceAdd, Nat.reduceMul, Nat.reduceEqDiff, reduceCtorEq, Nat.reduceSub, Nat.reduceLeDiff, Nat.reducePow, Nat.lt_add_one, Nat.zero_lt_succ, ne_eq, not_false_eq_true, decide_true, decide_false, Bool.not_true, Bool.not_false, Bool.false_eq_true]; refine hK _ _ ?_
 clear hK K; refine nx ?_
 refine rG hN hk noc [] [0, 1, 14] fun K hK => ?_; simp only [go_sem, reduceIte, Nat.reduceAdd, Nat.reduceMul, Nat.reduceEqDiff, reduceCtorEq, Nat.reduceSub, Nat.reduceLeDiff, Nat.reducePow, Nat.lt_add_one, Nat.zero_lt_succ, ne_eq, not_false_eq_true, decide_true, decide_false, Bool.not_true, Bool.not_false, Bool.false_eq_true, a1, a2]; refine hK _ _ ?_
 clear hK K; refine nx ?_
 refine AW.condF rfl (AW.skip (qNext ?_))
 refine nx ?_; refine rG hN hk noc [] [0, 1, 17] fun K hK => ?_; simp only [go_sem, reduceIte, Nat.reduceAdd, Nat.reduceMul, Nat.reduceEqDiff, reduceCtorEq, Nat.reduceSub, Nat.reduceLeDiff, Nat.reducePow, Nat.lt_add_one, Nat.zero_lt_succ, ne_eq, not_false_eq_true, decide_true, decide_false, Bool.not_true, Bool.not_false, Bool.false_eq_true, a3]; refine hK _ _ ?_
 clear hK K; refine nx ?_
 refine AW.condF rfl (AW.skip (qNext ?_))
 refine nx ?_; refine rG hN hk (onc 6 (oc 16 ⟨5, 1, bytesE [UInt8.ofNat 3]⟩ [.osl 0 [UInt8.ofNat 3].length 1, U64 v.length] (.osl 1 ([UInt8.ofNat 3] ++ varint v.length).length 1) [none, some ⟨5, 1, bytesE ([UInt8.ofNat 3] ++ varint v.length)⟩]) noc) [] [0, 1, 6] fun K hK => ?_; simp only [go_sem, reduceIte, Nat.reduceAdd, Nat.reduceMul, Nat.reduceEqDiff, reduceCtorEq, Nat.reduceSub, Nat.reduceLeDiff, Nat.reducePow, Nat.lt_add_one, Nat.zero_lt_succ, ne_eq, not_false_eq_true, decide_true, decide_false, Bool.not_true, Bool.not_false, Bool.false_eq_true, a4, a5]
 first | with_reducible refine hK _ _ ?_ | refine ⟨by exact ⟨by simp, ownOb q1 rfl (by simp) (by simp) rfl (by simp) (by simp) rfl⟩, hK _ _ ?_⟩ | refine obK (hK _ _ ?_)
 clear hK K; refine nx ?_
 rw [show (varint v.length).length + 1 = (hd24 3 v).length from rfl, show UInt8.ofNat 3 :: varint v.length = hd24 3 v from rfl]
 clear q1
 refine nx ?_; refine rG hN hk noc [] [0, 1, 6, 26] fun K hK => ?_; simp only [go_sem, reduceIte, Nat.reduceAdd, Nat.reduceMul, Nat.reduceEqDiff, reduceCtorEq, Nat.reduceSub, Nat.reduceLeDiff, Nat.reducePow, Nat.lt_add_one, Nat.zero_lt_succ, ne_eq, not_false_eq_true, decide_true, decide_false, Bool.not_true, Bool.not_false, Bool.false_eq_true, a6]; refine hK _ _ ?_
 clear hK K; refine nx ?_
 refine cT ?_
 have hhl := hd24_len 3 v
 have q2 := pack1 (hd24 3 v) v h0 (by omega) (by omega)
 unfold pk24
 generalize hd24 3 v = o at *
 generalize packF v = px at *
 refine nx ?_; refine rG hN hk (onc 2 (oc 0 ⟨5, 1, bytesE o⟩ [.osl 0 o.length 1, .sl 1 (intE v)] (.osl 1 (o ++ px).length 1) [none, some ⟨5, 1, bytesE (o ++ px)⟩]) noc) [] [4, 5] fun K hK => ?_; simp only [go_sem, reduceIte, Nat.reduceAdd, Nat.reduceMul, Nat.reduceEqDiff, reduceCtorEq, Nat.reduceSub, Nat.reduceLeDiff, Nat.reducePow, Nat.lt_add_one, Nat.zero_lt_succ, ne_eq, not_false_eq_true, decide_true, decide_false, Bool.not_true, Bool.not_false, Bool.false_eq_true]
 first | with_reducible refine hK _ _ ?_ | refine ⟨by exact ownOb q2 rfl (by simp) (by simp) rfl (by simp) (by simp) rfl, hK _ _ ?_⟩ | refine obK (hK _ _ ?_)
 clear hK K; refine nx ?_
 refine AW.ret (mkRet [some 0] [] rfl ?_ ?_)
 · simp [resOf, lk, wk, wkL, I]
 · simp [wkHp, wkHp1, wkEnt, lkh]
theorem pack0 (b : List UInt8) : ACall Tryz.prog 91 [.osl 0 b.length 1, .sl 1 []] [some ⟨5, 1, bytesE b⟩] (.osl 0 b.length 1) [some ⟨5, 1, bytesE b⟩] := by
 refine acall 83 1 Tryz.func91 rfl rfl rfl (by simp) rfl rfl ?_
 intro C hN hk
 have e1 : ((([] : List (List AV)).length : Int) == 0) = true := by decide
 refine nx ?_; refine rG hN hk noc [0] [0, 1] fun K hK => ?_; simp only [go_sem, reduceIte, Nat.reduceAdd, Nat.reduceMul, Nat.reduceEqDiff, reduceCtorEq, Nat.reduceSub, Nat.reduceLeDiff, Nat.reducePow, Nat.lt_add_one, Nat.zero_lt_succ, ne_eq, not_false_eq_true, decide_true, decide_false, Bool.not_true, Bool.not_false, Bool.false_eq_true]; refine hK _ _ ?_
 clear hK K; refine nx ?_
 refine rG hN hk noc [0] [0, 1, 16] fun K hK => ?_; simp only [go_sem, reduceIte, Nat.reduceAdd, Nat.reduceMul, Nat.reduceEqDiff, reduceCtorEq, Nat.reduceSub, Nat.reduceLeDiff, Nat.reducePow, Nat.lt_add_one, Nat.zero_lt_succ, ne_eq, not_false_eq_true, decide_true, decide_false, Bool.not_true, Bool.not_false, Bool.false_eq_true, e1]; refine hK _ _ ?_
 clear hK K; refine nx ?_
 refine cT ?_; refine nx ?_; refine rG hN hk noc [0] [4] fun K hK => ?_; simp only [go_sem, reduceIte, Nat.reduceAdd, Nat.reduceMul, Nat.reduceEqDiff, reduceCtorEq, Nat.reduceSub, Nat.reduceLeDiff, Nat.reducePow, Nat.lt_add_one, Nat.zero_lt_succ, ne_eq, not_false_eq_true, decide_true, decide_false, Bool.not_true, Bool.not_false, Bool.false_eq_true]; refine hK _ _ ?_
 clear hK K; refine nx ?_
 refine AW.ret (mkRet [some 0] [] rfl ?_ ?_)
 · simp [resOf, lk, wk]
 · simp [wkHp, wkHp1, wkEnt, lkh]
theorem encPacked0 (v : List Int) (h0 : v = []) :
   ACall Tryz.prog 62 [I 3, .sl 1 (intE v)] [] (.tup [.osl 0 (pk24 v).length 1, I 0]) [some ⟨5, 1, bytesE (pk24 v)⟩] := by
 have hl : v.length ≤ 16384 := by rw [h0]; simp
 have hpf : packF v = [] := by unfold packF; rw [h0]; rfl
 refine acall 95 0 Tryz.func62 rfl rfl rfl (by simp) rfl rfl ?_
 intro C hN hk
 have a1 : decide ((3 : Int) < 0) = false := by decide
 have a2 : decide ((3 : Int) > 3) = false := by decide
 have a3 : decide ((v.length : Int) > 16384) = false := by simp; omega
 have a4 : IntKind.u8.wrap (3 : Int) = 3 := by decide
 have a5 : IntKind.u64.wrap (v.length : Int) = v.length := IntWalk.u64_in _ (by omega)
 have a6 : ((3 : Int) == 3) = true := by decide
 have a7 : ((3 : Int) == 2) = false := by decide
 have a8 : ((3 : Int) == 1) = false := by decide
 have q1 := putVarint [UInt8.ofNat 3] v.length (by omega) (by simp)
 refine nx ?_; refine rG hN hk noc [] [0, 1] fun K hK => ?_; simp only [go_sem, reduceIte, Nat.reduceAdd, Nat.reduceMul, Nat.reduceEqDiff, reduceCtorEq, Nat.reduceSub, Nat.reduceLeDiff, Nat.reducePow, Nat.lt_add_one, Nat.zero_lt_succ, ne_eq, not_false_eq_true, decide_true, decide_false, Bool.not_true, Bool.not_false, Bool.false_eq_true]; refine hK _ _ ?_
 clear hK K; refine nx ?_
 refine rG hN hk noc [] [0, 1, 14] fun K hK => ?_; simp only [go_sem, reduceIte, Nat.reduceAdd, Nat.reduceMul, Nat.reduceEqDiff, reduceCtorEq, Nat.reduceSub, Nat.reduceLeDiff, Nat.reducePow, Nat.lt_add_one, Nat.zero_lt_succ, ne_eq, not_false_eq_true, decide_true, decide_false, Bool.not_true, Bool.not_false, Bool.false_eq_true, a1, a2]; refine hK _ _ ?_
 clear hK K; refine nx ?_
 refine AW.condF rfl (AW.skip (qNext ?_))
 refine nx ?_; refine rG hN hk noc [] [0, 1, 17] fun K hK => ?_; simp only [go_sem, reduceIte, Nat.reduceAdd, Nat.reduceMul, Nat.reduceEqDiff, reduceCtorEq, Nat.reduceSub, Nat.reduceLeDiff, Nat.reducePow, Nat.lt_add_one, Nat.zero_lt_succ, ne_eq, not_false_eq_true, decide_true, decide_false, Bool.not_true, Bool.not_false, Bool.false_eq_true, a3]; refine hK _ _ ?_
 clear hK K; refine nx ?_
 refine AW.condF rfl (AW.skip (qNext ?_))
 refine nx ?_; refine rG hN hk (onc 6 (oc 16 ⟨5, 1, bytesE [UInt8.ofNat 3]⟩ [.osl 0 [UInt8.ofNat 3].length 1, U64 v.length] (.osl 1 ([UInt8.ofNat 3] ++ varint v.length).length 1) [none, some ⟨5, 1, bytesE ([UInt8.ofNat 3] ++ varint v.length)⟩]) noc) [] [0, 1, 6] fun K hK => ?_; simp only [go_sem, reduceIte, Nat.reduceAdd, Nat.reduceMul, Nat.reduceEqDiff, reduceCtorEq, Nat.reduceSub, Nat.reduceLeDiff, Nat.reducePow, Nat.lt_add_one, Nat.zero_lt_succ, ne_eq, not_false_eq_true, decide_true, decide_false, Bool.not_true, Bool.not_false, Bool.false_eq_true, a4, a5]
 first | with_reducible refine hK _ _ ?_ | refine ⟨by exact ⟨by simp, ownOb q1 rfl (by simp) (by simp) rfl (by simp) (by simp) rfl⟩, hK _ _ ?_⟩ | refine obK (hK _ _ ?_)
 clear hK K; refine nx ?_
 rw [show (varint v.length).length + 1 = (hd24 3 v).length from rfl, show UInt8.ofNat 3 :: varint v.length = hd24 3 v from rfl]
 clear q1
 refine nx ?_; refine rG hN hk noc [] [0, 1, 6, 26] fun K hK => ?_; simp only [go_sem, reduceIte, Nat.reduceAdd, Nat.reduceMul, Nat.reduceEqDiff, reduceCtorEq, Nat.reduceSub, Nat.reduceLeDiff, Nat.reducePow, Nat.lt_add_one, Nat.zero_lt_succ, ne_eq, not_false_eq_true, decide_true, decide_false, Bool.not_true, Bool.not_false, Bool.false_eq_true, a6]; refine hK _ _ ?_
 clear hK K; refine nx ?_
 refine cT ?_
 have q2 := pack0 (hd24 3 v)
 unfold pk24
 rw [hpf, List.append_nil]
 rw [show intE v = [] by rw [h0]; rfl]
 generalize hd24 3 v = o at *
 refine nx ?_; refine rG hN hk (onc 2 (oc 0 ⟨5, 1, bytesE o⟩ [.osl 0 o.length 1, .sl 1 []] (.osl 0 o.length 1) [some ⟨5, 1, bytesE o⟩]) noc) [] [4, 5] fun K hK => ?_; simp only [go_sem, reduceIte, Nat.reduceAdd, Nat.reduceMul, Nat.reduceEqDiff, reduceCtorEq, Nat.reduceSub, Nat.reduceLeDiff, Nat.reducePow, Nat.lt_add_one, Nat.zero_lt_succ, ne_eq, not_false_eq_true, decide_true, decide_false, Bool.not_true, Bool.not_false, Bool.false_eq_true]
 first | with_reducible refine hK _ _ ?_ | refine ⟨by exact ownOb q2 rfl (by simp) (by simp) rfl (by simp) (by simp) rfl, hK _ _ ?_⟩ | refine obK (hK _ _ ?_)
 clear hK K; refine nx ?_
 refine AW.ret (mkRet [some 0] [] rfl ?_ ?_)
 · simp [resOf, lk, wk, wkL, I]
 · simp [wkHp, wkHp1, wkEnt, lkh]
def runEnd (v : List Int) : Nat → Nat → Nat
 | 0, i => i
 | f + 1, i => if i + 1 < v.length ∧ v.getD (i + 1) 0 = v.getD i 0 then runEnd v f (i + 1) else i
theorem runEnd_le (v : List Int) : ∀ f i, i < v.length → i ≤ runEnd v f i ∧ runEnd v f i < v.length
 | 0, i, h => ⟨Nat.le_refl _, h⟩
 | f + 1, i, h => by
   rw [runEnd]
   split
   · next hh => have := runEnd_le v f (i + 1) hh.1; omega
   · exact ⟨Nat.le_refl _, h⟩
def ruG (v : List Int) : Nat → Nat → List UInt8
 | 0, _ => []
 | f + 1, i => if i < v.length then putIntF (v.getD (runEnd v (v.length - i) i) 0) ++ varint (runEnd v (v.length - i) i - i + 1) ++ ruG v f (runEnd v (v.length - i) i + 1) else []
def ru24 (v : List Int) : List UInt8 := hd24 2 v ++ ruG v v.length 0
theorem encRuns (v : List Int) (hl : v.length ≤ 16384) :
   ACall Tryz.prog 62 [I 2, .sl 1 (intE v)] [] (.tup [.osl 0 (ru24 v).length 1, I 0]) [some ⟨5, 1, bytesE (ru24 v)⟩] := by
 refine acall 95 0 Tryz.func62 rfl rfl rfl (by simp) rfl rfl ?_
 intro C hN hk
 have a1 : decide ((2 : Int) < 0) = false := by decide
 have a2 : decide ((2 : Int) > 3) = false := by decide
 have a3 : decide ((v.length : Int) > 16384) = false := by simp; omega
 have a4 : IntKind.u8.wrap (2 : Int) = 2 := by decide
 have a5 : IntKind.u64.wrap (v.length : Int) = v.length := IntWalk.u64_in _ (by omega)
 have a6 : ((2 : Int) == 3) = false := by decide
 have a7 : ((2 : Int) == 2) = true := by decide
 have a8 : ((2 : Int) == 1) = false := by decide
 have q1 := putVarint [UInt8.ofNat 2] v.length (by omega) (by simp)
 refine nx ?_; refine rG hN hk noc [] [0, 1] fun K hK => ?_; simp only [go_sem, reduceIte, Nat.reduceAdd, Nat.reduceMul, Nat.reduceEqDiff, reduceCtorEq, Nat.reduceSub, Nat.reduceLeDiff, Nat.reducePow, Nat.lt_add_one, Nat.zero_lt_succ, ne_eq, not_false_eq_true, decide_true, decide_false, Bool.not_true, Bool.not_false, Bool.false_eq_true]; refine hK _ _ ?_
 clear hK K; refine nx ?_
 refine rG hN hk noc [] [0, 1, 14] fun K hK => ?_; simp only [go_sem, reduceIte, Nat.reduceAdd, Nat.reduceMul, Nat.reduceEqDiff, reduceCtorEq, Nat.reduceSub, Nat.reduceLeDiff, Nat.reducePow, Nat.lt_add_one, Nat.zero_lt_succ, ne_eq, not_false_eq_true, decide_true, decide_false, Bool.not_true, Bool.not_false, Bool.false_eq_true, a1, a2]; refine hK _ _ ?_
 clear hK K; refine nx ?_
 refine AW.condF rfl (AW.skip (qNext ?_))
 refine nx ?_; refine rG hN hk noc [] [0, 1, 17] fun K hK => ?_; simp only [go_sem, reduceIte, Nat.reduceAdd, Nat.reduceMul, Nat.reduceEqDiff, reduceCtorEq, Nat.reduceSub, Nat.reduceLeDiff, Nat.reducePow, Nat.lt_add_one, Nat.zero_lt_succ, ne_eq, not_false_eq_true, decide_true, decide_false, Bool.not_true, Bool.not_false, Bool.false_eq_true, a3]; refine hK _ _ ?_
 clear hK K; refine nx ?_
 refine AW.condF rfl (AW.skip (qNext ?_))
 refine nx ?_; refine rG hN hk (onc 6 (oc 16 ⟨5, 1, bytesE [UInt8.ofNat 2]⟩ [.osl 0 [UInt8.ofNat 2].length 1, U64 v.length] (.osl 1 ([UInt8.ofNat 2] ++ varint v.length).length 1) [none, some ⟨5, 1, bytesE ([UInt8.ofNat 2] ++ varint v.length)⟩]) noc) [] [0, 1, 6] fun K hK => ?_; simp only [go_sem, reduceIte, Nat.reduceAdd, Nat.reduceMul, Nat.reduceEqDiff, reduceCtorEq, Nat.reduceSub, Nat.reduceLeDiff, Nat.reducePow, Nat.lt_add_one, Nat.zero_lt_succ, ne_eq, not_false_eq_true, decide_true, decide_false, Bool.not_true, Bool.not_false, Bool.false_eq_true, a4, a5]
 first | with_reducible refine hK _ _ ?_ | refine ⟨by exact ⟨by simp, ownOb q1 rfl (by simp) (by simp) rfl (by simp) (by simp) rfl⟩, hK _ _ ?_⟩ | refine obK (hK _ _ ?_)
 clear hK K; refine nx ?_
 rw [show (varint v.length).length + 1 = (hd24 2 v).length from rfl, show UInt8.ofNat 2 :: varint v.length = hd24 2 v from rfl]
 clear q1
 refine nx ?_; refine rG hN hk noc [] [0, 1, 6, 26] fun K hK => ?_; simp only [go_sem, reduceIte, Nat.reduceAdd, Nat.reduceMul, Nat.reduceEqDiff, reduceCtorEq, Nat.reduceSub, Nat.reduceLeDiff, Nat.reducePow, Nat.lt_add_one, Nat.zero_lt_succ, ne_eq, not_false_eq_true, decide_true, decide_false, Bool.not_true, Bool.not_false, Bool.false_eq_true, a6]; refine hK _ _ ?_
 clear hK K; refine nx ?_
 refine AW.condF rfl (AW.skip (qNext ?_))
 refine nx ?_; refine rG hN hk noc [] [0, 1, 6, 7] fun K hK => ?_; simp only [go_sem, reduceIte, Nat.reduceAdd, Nat.reduceMul, Nat.reduceEqDiff, reduceCtorEq, Nat.reduceSub, Nat.reduceLeDiff, Nat.reducePow, Nat.lt_add_one, Nat.zero_lt_succ, ne_eq, not_false_eq_true, decide_true, decide_false, Bool.not_true, Bool.not_false, Bool.false_eq_true]; refine hK _ _ ?_
 clear hK K; refine nx ?_
 have hhl := hd24_len 2 v
 refine AW.loopF hk 1 (fun a : Nat × List UInt8 => ⟨[(0, I 2), (1, .sl 1 (intE v)), (6, .osl 0 a.2.length 1), (7, I a.1)], [(0, some ⟨5, 1, bytesE a.2⟩)]⟩) (fun a => a.1 ≤ v.length ∧ a.2.length ≤ 12 + a.1 * 22 ∧ ∃ f, v.length - a.1 ≤ f ∧ a.2 ++ ruG v f a.1 = ru24 v) (fun a => v.length - a.1) (0, hd24 2 v) ⟨by omega, by simp only; omega, v.length, by simp, rfl⟩ ⟨[some 0], [], ⟨by simp [srcIds], by simp [srcIds], by simp⟩, by simp, by simp [wkEnv, wk, lk, I], by simp [wkHp, wkHp1, wkEnt, lkh]⟩ ?_
 rintro ⟨i, o⟩ ⟨h1, h2, f, h3, h4⟩
 simp only at h1 h2 h3 h4 ⊢
 by_cases hi : i < v.length
 · have b1 : decide ((i : Int) < v.length) = true := by simp; omega
   obtain ⟨f, rfl⟩ : ∃ f', f = f' + 1 := ⟨f - 1, by omega⟩
   rw [ruG, if_pos hi] at h4
   refine nx ?_; refine rG hN hk noc [] [0, 1, 6, 7, 33] fun K hK => ?_; simp only [go_sem, reduceIte, Nat.reduceAdd, Nat.reduceMul, Nat.reduceEqDiff, reduceCtorEq, Nat.reduceSub, Nat.reduceLeDiff, Nat.reducePow, Nat.lt_add_one, Nat.zero_lt_succ, ne_eq, not_false_eq_true, decide_true, decide_false, Bool.not_true, Bool.not_false, Bool.false_eq_true, b1]; refine hK _ _ ?_
   clear hK K; refine nx ?_
   refine AW.condT rfl (AW.skip (qNext ?_))
   refine nx ?_; refine rG hN hk noc [] [0, 1, 6, 7, 42] fun K hK => ?_; simp only [go_sem, reduceIte, Nat.reduceAdd, Nat.reduceMul, Nat.reduceEqDiff, reduceCtorEq, Nat.reduceSub, Nat.reduceLeDiff, Nat.reducePow, Nat.lt_add_one, Nat.zero_lt_succ, ne_eq, not_false_eq_true, decide_true, decide_false, Bool.not_true, Bool.not_false, Bool.false_eq_true, a7]; refine hK _ _ ?_
   clear hK K; refine nx ?_
   refine cT ?_; refine nx ?_; refine rG hN hk noc [] [0, 1, 6, 7, 8] fun K hK => ?_; simp only [go_sem, reduceIte, Nat.reduceAdd, Nat.reduceMul, Nat.reduceEqDiff, reduceCtorEq, Nat.reduceSub, Nat.reduceLeDiff, Nat.reducePow, Nat.lt_add_one, Nat.zero_lt_succ, ne_eq, not_false_eq_true, decide_true, decide_false, Bool.not_true, Bool.not_false, Bool.false_eq_true]; refine hK _ _ ?_
   clear hK K; refine nx ?_
   refine AW.loopF hk 1 (fun j : Nat => ⟨[(0, I 2), (1, .sl 1 (intE v)), (6, .osl 0 o.length 1), (7, I j), (8, I ((j - i + 1 : Nat) : Int))], [(0, some ⟨5, 1, bytesE o⟩)]⟩) (fun j => i ≤ j ∧ j < v.length ∧ runEnd v (v.length - j) j = runEnd v (v.length - i) i) (fun j => v.length - j) i ⟨by omega, hi, rfl⟩ ⟨[some 0], [], ⟨by simp [srcIds], by simp [srcIds], by simp⟩, by simp, by simp [wkEnv, wk, lk, I], by simp [wkHp, wkHp1, wkEnt, lkh]⟩ ?_
   rintro j ⟨g1, g2, g3⟩
   have hy := List.getElem?_eq_getElem g2
   have hy2 : v.getD j 0 = v[j] := by simp [List.getD, g2]
   have c1 := wrap64 (n := (j : Int) + 1) (by omega)
   rw [show v.length - j = (v.length - j - 1) + 1 by omega, runEnd] at g3
   by_cases hj : j + 1 < v.length
   · have hx := List.getElem?_eq_getElem hj
     have hx2 : v.getD (j + 1) 0 = v[j + 1] := by simp [List.getD, hj]
     have c2 : decide ((j : Int) + 1 < v.length) = true := by simp; omega
     have c3 : ((j : Int) + 1).toNat = j + 1 := by omega
     rw [hx2, hy2] at g3
     by_cases hxy : v[j + 1] = v[j]
     · have c4 : (v[j + 1] == v[j]) = true := by simp [hxy]
       rw [if_pos ⟨hj, hxy⟩, show v.length - j - 1 = v.length - (j + 1) by omega] at g3
       clear hy2 hx2
       generalize v[j + 1] = x at *
       generalize v[j] = y at *
       refine nx ?_
       refine rD hN hk noc [] [0, 1, 6, 7, 8, 61] fun K tok htok hK => ?_
       simp only [go_sem, reduceIte, Nat.reduceAdd, Nat.reduceMul, Nat.reduceEqDiff, reduceCtorEq, Nat.reduceSub, Nat.reduceLeDiff, Nat.reducePow, Nat.lt_add_one, Nat.zero_lt_succ, ne_eq, not_false_eq_true, decide_true, decide_false, Bool.not_true, Bool.not_false, Bool.false_eq_true, hx, hy, c1, c2, c3, c4]
       refine ⟨htok _ (by decide +kernel), by omega, hK _ _ ?_⟩
       clear hK K htok tok
       refine nx ?_
       refine AW.condT rfl (AW.skip (qNext ?_))
       have c5 := wrap64 (n := ((j - i + 1 : Nat) : Int) + 1) (by omega)
       refine nx ?_; refine rG hN hk noc [] [0, 1, 6, 7, 8] fun K hK => ?_; simp only [go_sem, reduceIte, Nat.reduceAdd, Nat.reduceMul, Nat.reduceEqDiff, reduceCtorEq, Nat.reduceSub, Nat.reduceLeDiff, Nat.reducePow, Nat.lt_add_one, Nat.zero_lt_succ, ne_eq, not_false_eq_true, decide_true, decide_false, Bool.not_true, Bool.not_false, Bool.false_eq_true, c1]; refine hK _ _ ?_
       clear hK K; refine nx ?_
       refine rG hN hk noc [] [0, 1, 6, 7, 8] fun K hK => ?_; simp only [go_sem, reduceIte, Nat.reduceAdd, Nat.reduceMul, Nat.reduceEqDiff, reduceCtorEq, Nat.reduceSub, Nat.reduceLeDiff, Nat.reducePow, Nat.lt_add_one, Nat.zero_lt_succ, ne_eq, not_false_eq_true, decide_true, decide_false, Bool.not_true, Bool.not_false, Bool.false_eq_true, c5]; refine hK _ _ ?_
       clear hK K; refine nx ?_
       exact ⟨j + 1, ⟨by omega, hj, g3⟩, by omega, ⟨[some 0], [], ⟨by simp [srcIds], by simp [srcIds], by simp⟩, by simp, by simp [wkEnv, wk, lk, I]; omega, by simp [wkHp, wkHp1, wkEnt, lkh]⟩⟩
     · have c4 : (v[j + 1] == v[j]) = false := by simp [hxy]
       rw [if_neg (fun h => hxy h.2)] at g3
       clear hx2
       generalize v[j + 1] = x at hx c4
       refine nx ?_
       refine rD hN hk noc [] [0, 1, 6, 7, 8, 61] fun K tok htok hK => ?_
       simp only [go_sem, reduceIte, Nat.reduceAdd, Nat.reduceMul, Nat.reduceEqDiff, reduceCtorEq, Nat.reduceSub, Nat.reduceLeDiff, Nat.reducePow, Nat.lt_add_one, Nat.zero_lt_succ, ne_eq, not_false_eq_true, decide_true, decide_false, Bool.not_true, Bool.not_false, Bool.false_eq_true, hx, hy, c1, c2, c3, c4]
       refine ⟨htok _ (by decide +kernel), by omega, hK _ _ ?_⟩
       clear hK K htok tok
       refine nx ?_
       clear c4 hx
       refine AW.condF rfl (AW.exit (qThen (qThen (qHere (qNext ?_)))))
       rw [← g3, hy2] at h4
       clear hy2
       generalize v[j] = y at *
       have q2 := putInt o y (by omega)
       have hpl := putIntF_len y
       have q3 := putVarint (o ++ putIntF y) (j - i + 1) (by omega) (by simp; omega)
       have hvl := varint_len (j - i + 1)
       have c6 : IntKind.u64.wrap ((j - i + 1 : Nat) : Int) = ((j - i + 1 : Nat) : Int) := IntWalk.u64_in _ (by omega)
       generalize putIntF y = px at *
       generalize varint (j - i + 1) = vv at *
       refine nx ?_; refine rG hN hk (onc 5 (oc 0 ⟨5, 1, bytesE o⟩ [.osl 0 o.length 1, I y] (.osl 1 (o ++ px).length 1) [none, some ⟨5, 1, bytesE (o ++ px)⟩]) (onc 8 (oc 41 ⟨5, 1, bytesE (o ++ px)⟩ [.osl 0 (o ++ px).length 1, U64 ((j - i + 1 : Nat) : Int)] (.osl 1 (o ++ px ++ vv).length 1) [none, some ⟨5, 1, bytesE (o ++ px ++ vv)⟩]) noc)) [] [0, 1, 6, 7] fun K hK => ?_; simp only [go_sem, reduceIte, Nat.reduceAdd, Nat.reduceMul, Nat.reduceEqDiff, reduceCtorEq, Nat.reduceSub, Nat.reduceLeDiff, Nat.reducePow, Nat.lt_add_one, Nat.zero_lt_succ, ne_eq, not_false_eq_true, decide_true, decide_false, Bool.not_true, Bool.not_false, Bool.false_eq_true, hy, c6]
       refine ⟨⟨ownOb q2 rfl (by simp) (by simp) rfl (by simp) (by simp) rfl, ownOb q3 rfl (by simp) (by simp) rfl (by simp) (by simp) rfl⟩, hK _ _ ?_⟩
       clear hK K; refine nx ?_
       refine rG hN hk noc [] [0, 1, 6, 7] fun K hK => ?_; simp only [go_sem, reduceIte, Nat.reduceAdd, Nat.reduceMul, Nat.reduceEqDiff, reduceCtorEq, Nat.reduceSub, Nat.reduceLeDiff, Nat.reducePow, Nat.lt_add_one, Nat.zero_lt_succ, ne_eq, not_false_eq_true, decide_true, decide_false, Bool.not_true, Bool.not_false, Bool.false_eq_true, c1]; refine hK _ _ ?_
       clear hK K; refine nx ?_
       exact ⟨(j + 1, o ++ px ++ vv), ⟨by simp only; omega, by simp; omega, f, by simp only; omega, by simp only; rw [← h4]; simp [List.append_assoc]⟩, by simp only; omega, ⟨[some 0], [], ⟨by simp [srcIds], by simp [srcIds], by simp⟩, by simp, by simp [wkEnv, wk, lk, I], by simp [wkHp, wkHp1, wkEnt, lkh]⟩⟩
   · have c2 : decide ((j : Int) + 1 < v.length) = false := by simp; omega
     rw [if_neg (fun h => hj h.1)] at g3
     refine nx ?_
     refine rD hN hk noc [] [0, 1, 6, 7, 8, 61] fun K tok htok hK => ?_
     simp only [go_sem, reduceIte, Nat.reduceAdd, Nat.reduceMul, Nat.reduceEqDiff, reduceCtorEq, Nat.reduceSub, Nat.reduceLeDiff, Nat.reducePow, Nat.lt_add_one, Nat.zero_lt_succ, ne_eq, not_false_eq_true, decide_true, decide_false, Bool.not_true, Bool.not_false, Bool.false_eq_true, c1, c2]
     refine ⟨htok _ (by decide +kernel), hK _ _ ?_⟩
     clear hK K htok tok
     refine nx ?_
     refine AW.condF rfl (AW.exit (qThen (qThen (qHere (qNext ?_)))))
     rw [← g3, hy2] at h4
     clear hy2
     generalize v[j] = y at *
     have q2 := putInt o y (by omega)
     have hpl := putIntF_len y
     have q3 := putVarint (o ++ putIntF y) (j - i + 1) (by omega) (by simp; omega)
     have hvl := varint_len (j - i + 1)
     have c6 : IntKind.u64.wrap ((j - i + 1 : Nat) : Int) = ((j - i + 1 : Nat) : Int) := IntWalk.u64_in _ (by omega)
     generalize putIntF y = px at *
     generalize varint (j - i + 1) = vv at *
     refine nx ?_; refine rG hN hk (onc 5 (oc 0 ⟨5, 1, bytesE o⟩ [.osl 0 o.length 1, I y] (.osl 1 (o ++ px).length 1) [none, some ⟨5, 1, bytesE (o ++ px)⟩]) (onc 8 (oc 41 ⟨5, 1, bytesE (o ++ px)⟩ [.osl 0 (o ++ px).length 1, U64 ((j - i + 1 : Nat) : Int)] (.osl 1 (o ++ px ++ vv).length 1) [none, some ⟨5, 1, bytesE (o ++ px ++ vv)⟩]) noc)) [] [0, 1, 6, 7] fun K hK => ?_; simp only [go_sem, reduceIte, Nat.reduceAdd, Nat.reduceMul, Nat.reduceEqDiff, reduceCtorEq, Nat.reduceSub, Nat.reduceLeDiff, Nat.reducePow, Nat.lt_add_one, Nat.zero_lt_succ, ne_eq, not_false_eq_true, decide_true, decide_false, Bool.not_true, Bool.not_false, Bool.false_eq_true, hy, c6]
     refine ⟨⟨ownOb q2 rfl (by simp) (by simp) rfl (by simp) (by simp) rfl, ownOb q3 rfl (by simp) (by simp) rfl (by simp) (by simp) rfl⟩, hK _ _ ?_⟩
     clear hK K; refine nx ?_
     refine rG hN hk noc [] [0, 1, 6, 7] fun K hK => ?_; simp only [go_sem, reduceIte, Nat.reduceAdd, Nat.reduceMul, Nat.reduceEqDiff, reduceCtorEq, Nat.reduceSub, Nat.reduceLeDiff, Nat.reducePow, Nat.lt_add_one, Nat.zero_lt_succ, ne_eq, not_false_eq_true, decide_true, decide_false, Bool.not_true, Bool.not_false, Bool.false_eq_true, c1]; refine hK _ _ ?_
     clear hK K; refine nx ?_
     exact ⟨(j + 1, o ++ px ++ vv), ⟨by simp only; omega, by simp; omega, f, by simp only; omega, by simp only; rw [← h4]; simp [List.append_assoc]⟩, by simp only; omega, ⟨[some 0], [], ⟨by simp [srcIds], by simp [srcIds], by simp⟩, by simp, by simp [wkEnv, wk, lk, I], by simp [wkHp, wkHp1, wkEnt, lkh]⟩⟩
 · have b1 : decide ((i : Int) < v.length) = false := by simp; omega
   have h5 : ru24 v = o := by
     rw [← h4]
     cases f with
     | zero => simp [ruG]
     | succ f => rw [ruG, if_neg hi, List.append_nil]
   rw [h5]
   refine nx ?_; refine rG hN hk noc [] [6, 33] fun K hK => ?_; simp only [go_sem, reduceIte, Nat.reduceAdd, Nat.reduceMul, Nat.reduceEqDiff, reduceCtorEq, Nat.reduceSub, Nat.reduceLeDiff, Nat.reducePow, Nat.lt_add_one, Nat.zero_lt_succ, ne_eq, not_false_eq_true, decide_true, decide_false, Bool.not_true, Bool.not_false, Bool.false_eq_true, b1]; refine hK _ _ ?_
   clear hK K; refine nx ?_
   refine AW.condF rfl (AW.exit (qThen (qThen (qHere (qNext ?_)))))
   refine nx ?_; refine rG hN hk noc [] [4, 5] fun K hK => ?_; simp only [go_sem, reduceIte, Nat.reduceAdd, Nat.reduceMul, Nat.reduceEqDiff, reduceCtorEq, Nat.reduceSub, Nat.reduceLeDiff, Nat.reducePow, Nat.lt_add_one, Nat.zero_lt_succ, ne_eq, not_false_eq_true, decide_true, decide_false, Bool.not_true, Bool.not_false, Bool.false_eq_true]; refine hK _ _ ?_
   clear hK K; refine nx ?_
   refine AW.ret (mkRet [some 0] [] rfl ?_ ?_)
   · simp [resOf, lk, wk, wkL, I]
   · simp [wkHp, wkHp1, wkEnt, lkh]
def encAs (v : List Int) : Nat → List UInt8
 | 0 => pl24 v v.length
 | 1 => de24 v v.length
 | 2 => ru24 v
 | _ => pk24 v
theorem encAs1 (v : List Int) (k : Nat) (hk : k ≤ 3) (hl : v.length ≤ 16384) :
   ACall Tryz.prog 62 [I k, .sl 1 (intE v)] [] (.tup [.osl 0 (encAs v k).length 1, I 0]) [some ⟨5, 1, bytesE (encAs v k)⟩] := by
 match k, hk with
 | 0, _ => exact encPlain v hl
 | 1, _ => exact encDelta v hl
 | 2, _ => exact encRuns v hl
 | 3, _ =>
   by_cases h : v = []
   · exact encPacked0 v h
   · exact encPacked v (List.length_pos_iff.2 h) hl
def bestTo (v : List Int) : Nat → Nat
 | 0 => 0
 | k + 1 => if (encAs v (k + 1)).length < (encAs v (bestTo v k)).length then k + 1 else bestTo v k
theorem bestTo_le (v : List Int) : ∀ k, bestTo v k ≤ k
 | 0 => Nat.le_refl _
 | k + 1 => by have := bestTo_le v k; rw [bestTo]; split <;> omega
def enc24 (v : List Int) : List UInt8 := encAs v (bestTo v 3)
theorem encode24 (v : List Int) (hl : v.length ≤ 16384) :
   ACall Tryz.prog 88 [.sl 1 (intE v)] [] (.tup [.osl 0 (enc24 v).length 1, I 0]) [some ⟨5, 1, bytesE (enc24 v)⟩] := by
 refine acall 34 0 Tryz.func88 rfl rfl rfl (by simp) rfl rfl ?_
 intro C hN hk
 have q0 := encAs1 v 0 (by omega) hl
 refine nx ?_; refine rG hN hk noc [] [0] fun K hK => ?_; simp only [go_sem, seval]; refine hK _ _ ?_
 clear hK K; refine nx ?_
 generalize he0 : encAs v 0 = o at *
 refine nx ?_; refine rG hN hk (onc 1 (pc [I 0, .sl 1 (intE v)] (.tup [.osl 0 o.length 1, I 0]) [some ⟨5, 1, bytesE o⟩]) noc) [] [0, 4, 5] fun K hK => ?_; simp only [go_sem, seval]
 first | with_reducible refine hK _ _ ?_ | refine ⟨by exact pureOb q0 rfl (by simp), hK _ _ ?_⟩ | refine obK (hK _ _ ?_)
 clear hK K; refine nx ?_
 refine rG hN hk noc [] [0, 4, 15] fun K hK => ?_; simp only [go_sem, seval, bne_self_eq_false]; refine hK _ _ ?_
 clear hK K; refine nx ?_
 refine AW.condF rfl (AW.skip (qNext ?_))
 refine nx ?_; refine rG hN hk noc [] [0, 4, 6] fun K hK => ?_; simp only [go_sem, seval]; refine hK _ _ ?_
 clear hK K; refine nx ?_
 refine AW.loopF hk 1 (fun k : Nat => ⟨[(0, .sl 1 (intE v)), (4, .osl 0 (encAs v (bestTo v k)).length 1), (6, I ((k : Int) + 1))], [(0, some ⟨5, 1, bytesE (encAs v (bestTo v k))⟩)]⟩) (fun k => k ≤ 3) (fun k => 3 - k) 0 (by omega) ⟨[some 0], [], ⟨by simp [srcIds], by simp [srcIds], by simp⟩, by simp, by simp [wkEnv, wk, lk, I, bestTo, he0], by simp [wkHp, wkHp1, wkEnt, lkh, bestTo, he0]⟩ ?_
 intro k h1
 by_cases h3 : k < 3
 · have b1 : decide ((k : Int) + 1 ≤ 3) = true := by simp; omega
   have b2 := wrap64 (n := (k : Int) + 1 + 1) (by omega)
   have q1 := encAs1 v (k + 1) (by omega) hl
   have hb : bestTo v (k + 1) = if (encAs v (k + 1)).length < (encAs v (bestTo v k)).length then k + 1 else bestTo v k := rfl
   rw [show ((k + 1 : Nat) : Int) = (k : Int) + 1 by omega] at q1
   generalize hx : encAs v (k + 1) = x at *
   generalize hy : encAs v (bestTo v k) = y at *
   refine nx ?_; refine rG hN hk noc [] [0, 4, 6, 18] fun K hK => ?_; simp only [go_sem, seval, b1]; refine hK _ _ ?_
   clear hK K; refine nx ?_
   refine AW.condT rfl (AW.skip (qNext ?_))
   refine nx ?_; refine rG hN hk (onc 2 (pc [I ((k : Int) + 1), .sl 1 (intE v)] (.tup [.osl 0 x.length 1, I 0]) [some ⟨5, 1, bytesE x⟩]) noc) [] [0, 4, 6, 7] fun K hK => ?_; simp only [go_sem, seval]
   first | with_reducible refine hK _ _ ?_ | refine ⟨by exact pureOb q1 rfl (by simp), hK _ _ ?_⟩ | refine obK (hK _ _ ?_)
   clear hK K; refine nx ?_
   refine rG hN hk noc [] [0, 4, 6, 7, 31] fun K hK => ?_; simp only [go_sem, seval]; refine hK _ _ ?_
   clear hK K; refine nx ?_
   refine AW.condB rfl (fun h => ?_) (fun h => AW.skip ?_)
   · simp only [decide_eq_true_eq] at h
     rw [if_pos (by omega)] at hb
     refine nx ?_; refine rG hN hk noc [] [0, 4, 6] fun K hK => ?_; simp only [go_sem, seval]; refine hK _ _ ?_
     clear hK K; refine nx ?_
     refine rG hN hk noc [] [0, 4, 6] fun K hK => ?_; simp only [go_sem, seval, b2]; refine hK _ _ ?_
     clear hK K; refine nx ?_
     exact ⟨k + 1, by omega, by omega, ⟨[some 0], [], ⟨by simp [srcIds], by simp [srcIds], by simp⟩, by simp, by simp [wkEnv, wk, lk, I, hb, hx], by simp [wkHp, wkHp1, wkEnt, lkh, hb, hx]⟩⟩
   · simp only [decide_eq_false_iff_not] at h
     rw [if_neg (by omega)] at hb
     refine nx ?_; refine rG hN hk noc [] [0, 4, 6] fun K hK => ?_; simp only [go_sem, seval, b2]; refine hK _ _ ?_
     clear hK K; refine nx ?_
     exact ⟨k + 1, by omega, by omega, ⟨[some 0], [], ⟨by simp [srcIds], by simp [srcIds], by simp⟩, by simp, by simp [wkEnv, wk, lk, I, hb, hy], by simp [wkHp, wkHp1, wkEnt, lkh, hb, hy]⟩⟩
 · have b1 : decide ((k : Int) + 1 ≤ 3) = false := by simp; omega
   have : k = 3 := by omega
   subst this
   refine nx ?_; refine rG hN hk noc [] [4, 18] fun K hK => ?_; simp only [go_sem, seval, b1]; refine hK _ _ ?_
   clear hK K; refine nx ?_
   refine AW.condF rfl (AW.exit (qThen (qThen (qHere (qNext ?_)))))
   refine nx ?_; refine rG hN hk noc [] [2, 3] fun K hK => ?_; simp only [go_sem, seval]; refine hK _ _ ?_
   clear hK K; refine nx ?_
   refine AW.ret (mkRet [some 0] [] rfl ?_ ?_)
   · simp [resOf, lk, wk, wkL, I, enc24]
   · simp [wkHp, wkHp1, wkEnt, lkh, enc24]
theorem xorU (k : IntKind) (hk : k.bits = 64) (a : Nat) (ha : a < 2 ^ 64) : bitsOf .xor k (a : Int) 0 = k.wrap (a : Int) := by
 simp only [bitsOf]
 rw [BitVec.toNat_xor, BitVec.ofInt_natCast, BitVec.toNat_ofNat, hk, Nat.mod_eq_of_lt ha]
 rw [show (BitVec.ofInt 64 0).toNat = 0 by rfl, Nat.xor_zero]
theorem xorOnes (k : IntKind) (hk : k.bits = 64) (a : Nat) (b : Int) (ha : a < 2 ^ 64) (hb : BitVec.ofInt 64 b = BitVec.allOnes 64) : bitsOf .xor k (a : Int) b = k.wrap ((2 ^ 64 - 1 - a : Nat) : Int) := by
 simp only [bitsOf]
 rw [hk, hb, BitVec.xor_allOnes, BitVec.toNat_not, BitVec.ofInt_natCast, BitVec.toNat_ofNat, Nat.mod_eq_of_lt ha]
theorem wrapU_eq (n : Int) : IntKind.u64.wrap n = n % 18446744073709551616 := by
 have e1 : ((2 : Int) ^ IntKind.u64.bits) = 18446744073709551616 := by decide
 have e3 : IntKind.u64.signed = false := rfl
 unfold IntKind.wrap
 simp only [e1, e3, Bool.false_and, Bool.false_eq_true, if_false]
theorem zig_pos (x : Nat) (hx : x < 2 ^ 63) : zigF (x : Int) = ((2 * x : Nat) : Int) := by
 unfold zigF
 have h1 : (x : Int).fdiv (2 ^ 63) = 0 := by rw [Int.fdiv_eq_ediv_of_nonneg _ (by decide)]; omega
 rw [h1, wrapU_eq, wrapU_eq, wrapU_eq]
 rw [show (((x : Int) % 18446744073709551616) * 2 ^ 1) % 18446744073709551616 = ((2 * x : Nat) : Int) by omega, show (0 : Int) % 18446744073709551616 = 0 by decide, xorU .u64 rfl _ (by omega), wrapU_eq]
 omega
theorem zig_neg (x : Nat) (hx : x < 2 ^ 63) : zigF (-(x : Int) - 1) = ((2 * x + 1 : Nat) : Int) := by
 unfold zigF
 have h1 : (-(x : Int) - 1).fdiv (2 ^ 63) = -1 := by rw [Int.fdiv_eq_ediv_of_nonneg _ (by decide)]; omega
 rw [h1, wrapU_eq, wrapU_eq, wrapU_eq]
 rw [show (((-(x : Int) - 1) % 18446744073709551616) * 2 ^ 1) % 18446744073709551616 = ((2 ^ 64 - 2 * x - 2 : Nat) : Int) by omega, xorOnes .u64 rfl _ _ (by omega) (by decide), wrapU_eq]
 omega
theorem unzig_even (x : Nat) (hx : x < 2 ^ 63) : unzigF ((2 * x : Nat) : Int) = x := by
 unfold unzigF
 have h1 : ((2 * x : Nat) : Int).fdiv (2 ^ 1) = (x : Int) := by rw [Int.fdiv_eq_ediv_of_nonneg _ (by decide)]; omega
 rw [h1, andU1 _ (by omega), show ((2 * x % 2 : Nat) : Int) = 0 by omega, wrap64 (n := (x : Int)) (by omega), show IntKind.i64.wrap (0 - IntKind.i64.wrap 0) = 0 by decide, xorU .i64 rfl _ (by omega), wrap64 (by omega)]
theorem unzig_odd (x : Nat) (hx : x < 2 ^ 63) : unzigF ((2 * x + 1 : Nat) : Int) = -(x : Int) - 1 := by
 unfold unzigF
 have h1 : ((2 * x + 1 : Nat) : Int).fdiv (2 ^ 1) = (x : Int) := by rw [Int.fdiv_eq_ediv_of_nonneg _ (by decide)]; omega
 rw [h1, andU1 _ (by omega), show (((2 * x + 1) % 2 : Nat) : Int) = 1 by omega, wrap64 (n := (x : Int)) (by omega), xorOnes .i64 rfl _ _ (by omega) (by decide)]
 have e1 : ((2 : Int) ^ IntKind.i64.bits) = 18446744073709551616 := by decide
 unfold IntKind.wrap
 simp only [e1]
 have e2 : IntKind.i64.signed = true := rfl
 simp only [e2, Bool.true_and]
 have e3 : ((2 : Int) ^ (IntKind.i64.bits - 1)) = 9223372036854775808 := by decide
 simp only [e3, ge_iff_le, decide_eq_true_eq]
 split <;> omega
def In64 (x : Int) : Prop := -9223372036854775808 ≤ x ∧ x < 9223372036854775808
theorem unzig_zig (x : Int) (hx : In64 x) : unzigF (zigF x) = x := by
 obtain ⟨h1, h2⟩ := hx
 by_cases h : 0 ≤ x
 · obtain ⟨y, rfl⟩ : ∃ y : Nat, x = y := ⟨x.toNat, by omega⟩
   rw [zig_pos y (by omega), unzig_even y (by omega)]
 · obtain ⟨y, rfl⟩ : ∃ y : Nat, x = -(y : Int) - 1 := ⟨(-x - 1).toNat, by omega⟩
   rw [zig_neg y (by omega), unzig_odd y (by omega)]
theorem getInt_put (pre post e : List UInt8) (x : Int) (hx : In64 x) (he : e = pre ++ putIntF x ++ post) (hl : e.length ≤ 2 ^ 40) :
   ACall Tryz.prog 89 [.sl 1 (bytesE e), I pre.length] [] (.tup [I x, I ((pre ++ putIntF x).length : Nat), B true]) [] := by
 have hz := zig_range x
 have h := getVar_varint pre post (zigF x).toNat (by omega)
 rw [show pre ++ varint (zigF x).toNat ++ post = e from he.symm] at h
 have := getInt1 e pre.length _ _ hl (by subst he; simp at hl; omega) h
 rw [show (((zigF x).toNat : Nat) : Int) = zigF x by omega, unzig_zig x hx] at this
 rw [List.length_append]
 exact this
end Go.Proofs.YtceeklfmlheofaaGreat
