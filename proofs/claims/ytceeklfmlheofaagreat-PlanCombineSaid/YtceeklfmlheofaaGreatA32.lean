/-
  Part 32 of the proof that logtidelaw41.PlanCombine returns true for every list of bytes and leaves its argument as it was; no condition.
-/
import Derived.Test.YtceeklfmlheofaaGreatA29
import Derived.Test.YtceeklfmlheofaaGreatA30
import Derived.Test.YtceeklfmlheofaaGreatA31
set_option linter.unusedSimpArgs false
set_option linter.unusedVariables false
namespace Go.Proofs.YtceeklfmlheofaaGreat
open Go.Av
attribute [local irreducible] ACall
theorem tsE_one (t : Ts) : tsE [t] = [[.val (.int .i64 t.op), .val (.string ⟨t.name.toArray⟩), .val (.string ⟨t.text.toArray⟩), .val (.int .i64 t.num), .sl 5 (tsE t.kids)]] := by rw [← tsC_c]; rfl
theorem test24 : ∀ (d : Nat), d ≤ 2 → ∀ (L : List UInt8) (hL : L.length ≤ 2 ^ 20) (a : Nat) (ha : a ≤ L.length), ACallE Tryz.prog 24 [.ptr 0 2 0 0, I d] [some (cdE L a)] (R24 L d)
 | 0, hd, L, hL, a, ha => by
   obtain ⟨k0, a1, ha1, k0lt, q0⟩ := next13 L hL a 15 ha (by omega) (by omega)
   obtain ⟨k, a2, ha2, klt, q1⟩ := next13 L hL a1 10 ha1 (by omega) (by omega)
   refine acallE 131 1 Tryz.func24 rfl rfl rfl (by simp) rfl rfl ?_
   apply EX.step
   · intro xX C hN hk hqX
     repeat first | with_reducible refine AW.seq ?_ | with_reducible refine AW.block ?_
     refine rG hN hk noc [0] [0, 1, 4] fun K hK => ?_; simp only [go_sem, seval]; refine hK _ _ ?_
     clear hK K
     repeat first | with_reducible refine qBlock ?_ | with_reducible refine qNext ?_
     exact hqX
   apply EX.step
   · intro xX C hN hk hqX
     repeat first | with_reducible refine AW.seq ?_ | with_reducible refine AW.block ?_
     refine rG hN hk (onc 1 (ocq 0 q0) noc) [0] [0, 1, 4, 5] fun K hK => ?_; simp only [go_sem, seval]; refine obK (hK _ _ ?_)
     clear hK K
     repeat first | with_reducible refine qBlock ?_ | with_reducible refine qNext ?_
     exact hqX
   apply EX.step
   · intro xX C hN hk hqX
     repeat first | with_reducible refine AW.seq ?_ | with_reducible refine AW.block ?_
     refine rG hN hk noc [0] [0, 1, 4, 5, 12] fun K hK => ?_; simp only [go_sem, seval]
     try simp (disch := omega) only [au]
     refine hK _ _ ?_; clear hK K
     repeat first | with_reducible refine qBlock ?_ | with_reducible refine qNext ?_
     exact hqX
   apply EX.step
   · intro xX C hN hk hqX
     repeat first | with_reducible refine AW.seq ?_ | with_reducible refine AW.block ?_
     refine cT ?_
     try first | refine AW.skip ?_ | refine AW.exit ?_
     repeat first | with_reducible refine qThen ?_ | with_reducible refine qHere ?_ | with_reducible refine qOut (by decide) ?_ | with_reducible refine qBlock ?_ | with_reducible refine qNext ?_
     exact hqX
   apply EX.step
   · intro xX C hN hk hqX
     repeat first | with_reducible refine AW.seq ?_ | with_reducible refine AW.block ?_
     refine rG hN hk (onc 1 (ocq 0 q1) noc) [0] [0, 1, 4, 5] fun K hK => ?_; simp only [go_sem, seval]; refine obK (hK _ _ ?_)
     clear hK K
     repeat first | with_reducible refine qBlock ?_ | with_reducible refine qNext ?_
     exact hqX
   clear q0 q1
   obtain rfl | rfl | rfl | rfl | rfl | rfl | rfl | rfl | rfl | rfl : k = 0 ∨ k = 1 ∨ k = 2 ∨ k = 3 ∨ k = 4 ∨ k = 5 ∨ k = 6 ∨ k = 7 ∨ k = 8 ∨ k = 9 := by omega
   · exact test24_0 L hL 0 a2 ha2
   · exact test24_1 L hL 0 a2 ha2
   · exact test24_2 L hL 0 a2 ha2
   · exact test24_3 L hL 0 a2 ha2
   · exact test24_4 L hL 0 a2 ha2
   · exact test24_5 L hL 0 a2 ha2
   · exact test24_6 L hL 0 a2 ha2
   · exact test24_7 L hL 0 a2 ha2
   · exact test24_8 L hL 0 a2 ha2
   · exact test24_9 L hL 0 a2 ha2
 | d + 1, hd, L, hL, a, ha => by
   have IH := test24 d (by omega)
   obtain ⟨k, a2, ha2, klt, q0⟩ := next13 L hL a 15 ha (by omega) (by omega)
   have dd : (((d + 1 : Nat) : Int) == 0) = false := by simp; omega
   have e1 : (((d + 1 : Nat) : Int) - 1) = (d : Int) := by omega
   have wd := wrap64 (n := (d : Int)) (by omega)
   refine acallE 131 1 Tryz.func24 rfl rfl rfl (by simp) rfl rfl ?_
   apply EX.step
   · intro xX C hN hk hqX
     repeat first | with_reducible refine AW.seq ?_ | with_reducible refine AW.block ?_
     refine rG hN hk noc [0] [0, 1, 4] fun K hK => ?_; simp only [go_sem, seval]; refine hK _ _ ?_
     clear hK K
     repeat first | with_reducible refine qBlock ?_ | with_reducible refine qNext ?_
     exact hqX
   apply EX.step
   · intro xX C hN hk hqX
     repeat first | with_reducible refine AW.seq ?_ | with_reducible refine AW.block ?_
     refine rG hN hk (onc 1 (ocq 0 q0) noc) [0] [0, 1, 4, 5] fun K hK => ?_; simp only [go_sem, seval]; refine obK (hK _ _ ?_)
     clear hK K
     repeat first | with_reducible refine qBlock ?_ | with_reducible refine qNext ?_
     exact hqX
   apply EX.step
   · intro xX C hN hk hqX
     repeat first | with_reducible refine AW.seq ?_ | with_reducible refine AW.block ?_
     refine rG hN hk noc [0] [0, 1, 4, 5, 12] fun K hK => ?_; simp only [go_sem, seval, dd]
     try simp (disch := omega) only [au]
     refine hK _ _ ?_; clear hK K
     repeat first | with_reducible refine qBlock ?_ | with_reducible refine qNext ?_
     exact hqX
   apply EX.step
   · intro xX C hN hk hqX
     repeat first | with_reducible refine AW.seq ?_ | with_reducible refine AW.block ?_
     refine cF ?_
     try first | refine AW.skip ?_ | refine AW.exit ?_
     repeat first | with_reducible refine qThen ?_ | with_reducible refine qHere ?_ | with_reducible refine qOut (by decide) ?_ | with_reducible refine qBlock ?_ | with_reducible refine qNext ?_
     exact hqX
   clear q0
   refine EX.wk 2 ⟨[(0, .ptr 0 2 0 0), (1, I (d + 1 : Nat)), (4, .ptr 1 5 0 0), (5, I k)], [(0, some (cdE L a2)), (1, some ⟨26, 5, [[I 0, str [], str [], I 0, nilV]]⟩)]⟩ ⟨[some 0, some 1], [], ⟨by simp [srcIds], by simp [srcIds], by simp⟩, by simp, by simp [wkEnv, lk, lkh, I, str], by simp [wkHp, wkHp1, wkEnt, lkh, cdE, nilV, I, str]⟩ ?_
   obtain rfl | rfl | rfl | rfl | rfl | rfl | rfl | rfl | rfl | rfl | rfl | hk : k = 0 ∨ k = 1 ∨ k = 2 ∨ k = 3 ∨ k = 4 ∨ k = 5 ∨ k = 6 ∨ k = 7 ∨ k = 8 ∨ k = 9 ∨ k = 10 ∨ 11 ≤ k := by omega
   · exact test24_0 L hL (d + 1) a2 ha2
   · exact test24_1 L hL (d + 1) a2 ha2
   · exact test24_2 L hL (d + 1) a2 ha2
   · exact test24_3 L hL (d + 1) a2 ha2
   · exact test24_4 L hL (d + 1) a2 ha2
   · exact test24_5 L hL (d + 1) a2 ha2
   · exact test24_6 L hL (d + 1) a2 ha2
   · exact test24_7 L hL (d + 1) a2 ha2
   · exact test24_8 L hL (d + 1) a2 ha2
   · exact test24_9 L hL (d + 1) a2 ha2
   · simp only [cdE, nilV]
     obtain ⟨_, ⟨t0, a3, rfl, tb, ha3⟩, qt⟩ := IH L hL a2 ha2
     simp only [tsC_c] at qt
     apply EX.step
     · intro xX C hN hk hqX
       repeat first | (with_reducible first | apply s1 | apply s2 | apply s5 | apply s6 | refine s7 ?_ | apply s3 | apply s4 | apply s8 | apply s9) | refine AW.condT rfl ?_ | refine AW.condF rfl ?_ | (refine AW.rT mixed hN hk (atO 30 (onc 3 (ocq 0 qt) noc) noO) kt24 [0] rfl (by decide +kernel) (fun K hK => ?_); simp only [go_sem, seval, kt24, e1, wd]; (iterate 3 (try simp (disch := omega) only [au]; try simp only [go_sem, seval, kt24, e1, wd])); (first | with_reducible refine hK _ _ ?_ | refine obK (hK _ _ ?_)); clear hK K) | (refine AW.rD mixed hN hk (atO 30 (onc 3 (ocq 0 qt) noc) noO) kt24 [0] rfl (by decide +kernel) (fun K tok htok hK => ?_); simp only [go_sem, seval, kt24, e1, wd]; (iterate 3 (try simp (disch := omega) only [au]; try simp only [go_sem, seval, kt24, e1, wd])); refine ⟨htok _ (by decide +kernel), ?_⟩; (first | with_reducible refine hK _ _ ?_ | refine obK (hK _ _ ?_)); clear hK K htok tok)
       exact hqX
     refine EX.ret (.agg (tsC (.mk 5 [] [] 0 [t0]))) [some (cdE L a3)] ?_ (fun C hN hk => AW.ret (mkRet [some 0] [2] (by simp only [resList, go_sem, seval]; rfl) (by simp [resOf, lk, lkh, I, str, B, U8, U64, U32, cdE, tsC_c, tsE_one] <;> omega) (by first | (simp [wkHp, wkHp1, wkEnt, lkh, cdE, tsC_c, tsE_one]; done) | simp [wkHp, wkHp1, wkEnt, lkh, I, str, cdE, tsC_c, tsE_one])))
     exact ⟨_, a3, rfl, ⟨by simp, by simp, by simp, by unfold In64; simp, by simp, by intro k hk; rw [ts_kids] at hk; rw [List.mem_singleton.1 hk]; exact tb⟩, ha3⟩
   · have n0 : ((k : Int) == 0) = false := by simp; omega
     have n1 : ((k : Int) == 1) = false := by simp; omega
     have n2 : ((k : Int) == 2) = false := by simp; omega
     have n3 : ((k : Int) == 3) = false := by simp; omega
     have n4 : ((k : Int) == 4) = false := by simp; omega
     have n5 : ((k : Int) == 5) = false := by simp; omega
     have n6 : ((k : Int) == 6) = false := by simp; omega
     have n7 : ((k : Int) == 7) = false := by simp; omega
     have n8 : ((k : Int) == 8) = false := by simp; omega
     have n9 : ((k : Int) == 9) = false := by simp; omega
     have n10 : ((k : Int) == 10) = false := by simp; omega
     have er : (k : Int).tmod 2 = (k : Int) % 2 := Int.tmod_eq_emod_of_nonneg (by omega)
     have w6 := wrap64 (n := 6 + (k : Int) % 2) (by omega)
     obtain ⟨op, hop⟩ : ∃ op, op = 6 + (k : Int) % 2 := ⟨_, rfl⟩
     have ho : 0 ≤ op ∧ op ≤ 11 := by omega
     rw [← hop] at w6
     obtain ⟨m, a3, ha3, mlt, q2⟩ := next13 L hL a2 2 ha2 (by omega) (by omega)
     have w7 := wrap64 (n := 2 + (m : Int)) (by omega)
     simp only [cdE, nilV]
     apply EX.step
     · intro xX C hN hk hqX
       repeat first | (with_reducible first | apply s1 | apply s2 | apply s5 | apply s6 | refine s7 ?_ | apply s3 | apply s4 | apply s8 | apply s9) | refine AW.condT rfl ?_ | refine AW.condF rfl ?_ | (refine AW.rT mixed hN hk (atO 32 (onc 1 (ocq 0 q2) noc) noO) kt24 [0] rfl (by decide +kernel) (fun K hK => ?_); simp only [go_sem, seval, kt24, n0, n1, n2, n3, n4, n5, n6, n7, n8, n9, n10, er, ← hop, w6, w7]; (iterate 3 (try simp (disch := omega) only [au]; try simp only [go_sem, seval, kt24, n0, n1, n2, n3, n4, n5, n6, n7, n8, n9, n10, er, ← hop, w6, w7])); (first | with_reducible refine hK _ _ ?_ | refine obK (hK _ _ ?_)); clear hK K) | (refine AW.rD mixed hN hk (atO 32 (onc 1 (ocq 0 q2) noc) noO) kt24 [0] rfl (by decide +kernel) (fun K tok htok hK => ?_); simp only [go_sem, seval, kt24, n0, n1, n2, n3, n4, n5, n6, n7, n8, n9, n10, er, ← hop, w6, w7]; (iterate 3 (try simp (disch := omega) only [au]; try simp only [go_sem, seval, kt24, n0, n1, n2, n3, n4, n5, n6, n7, n8, n9, n10, er, ← hop, w6, w7])); refine ⟨htok _ (by decide +kernel), ?_⟩; (first | with_reducible refine hK _ _ ?_ | refine obK (hK _ _ ?_)); clear hK K htok tok)
       exact hqX
     have hm2 : 2 + (m : Int) = ((m + 2 : Nat) : Int) := by omega
     simp only [hm2]
     clear q2 n0 n1 n2 n3 n4 n5 n6 n7 n8 n9 n10 er w6 w7 hm2 hop
     apply EX.step
     · intro xX C hN hk hqX
       repeat first | with_reducible refine AW.seq ?_ | with_reducible refine AW.block ?_
       exact hqX
     refine lpX 4 (fun s : Nat × List Ts × Nat => ⟨[(0, .ptr 0 2 0 0), (1, I (d + 1 : Nat)), (4, .ptr 1 5 0 0), (7, .ptr 2 5 0 0), (8, I s.1)], [(0, some ⟨70, 2, [[.sl 1 (bytesE L), I s.2.2]]⟩), (1, some ⟨26, 5, [[I 0, str [], str [], I 0, nilV]]⟩), (2, some ⟨26, 5, [[I op, str [], str [], I 0, .osl 3 s.2.1.length 5]]⟩), (3, some ⟨26, 5, tsE s.2.1⟩)]⟩) (fun s => s.2.1.length + s.1 ≤ 3 ∧ s.2.2 ≤ L.length ∧ ∀ t ∈ s.2.1, TsB d t) (fun s => s.1) (m + 2, [], a3) (mkWk [some 0, some 1, some 2, none] [] (by simp [wkEnv, lk, lkh, I, str, B, U8, U64, U32, nilV] <;> omega) (by first | (simp [wkHp, wkHp1, wkEnt, lkh, nilV]; done) | simp [wkHp, wkHp1, wkEnt, lkh, I, str, nilV])) ?_
     intro ⟨j, ks, a4⟩ hI Y hY
     obtain ⟨g1, g2, g3⟩ := hI
     simp only at g1 g2 g3
     cases j with
     | succ j =>
       obtain ⟨_, ⟨t0, a5, rfl, tb, ha5⟩, qt⟩ := IH L hL a4 g2
       simp only [tsC_c] at qt
       have d0 : decide (((j + 1 : Nat) : Int) > 0) = true := by simp
       have e2 : (((j + 1 : Nat) : Int) - 1) = (j : Int) := by omega
       have w8 := wrap64 (n := (j : Int)) (by omega)
       obtain ⟨k2, hk2⟩ : ∃ k2, k2 = ks ++ [t0] := ⟨_, rfl⟩
       have hkl : k2.length = ks.length + 1 := by rw [hk2]; simp
       have hkm : ∀ t ∈ k2, TsB d t := by
         intro t ht
         rw [hk2] at ht
         rcases List.mem_append.1 ht with ht | ht
         · exact g3 t ht
         · rw [List.mem_singleton.1 ht]; exact tb
       apply EX.step
       · intro xX C hN hk hqX
         repeat first | (with_reducible first | apply s1 | apply s2 | apply s5 | apply s6 | refine s7 ?_ | apply s3 | apply s4 | apply s8 | apply s9) | refine AW.condT rfl ?_ | refine AW.condF rfl ?_ | (refine AW.rT mixed hN hk (atO 35 (onc 5 (ocq 0 qt) noc) noO) kt24 [0] rfl (by decide +kernel) (fun K hK => ?_); simp only [go_sem, seval, kt24, d0, e1, wd, e2, w8]; (iterate 3 (try simp (disch := omega) only [au]; try simp only [go_sem, seval, kt24, d0, e1, wd, e2, w8])); (first | with_reducible refine hK _ _ ?_ | refine obK (hK _ _ ?_)); clear hK K) | (refine AW.rD mixed hN hk (atO 35 (onc 5 (ocq 0 qt) noc) noO) kt24 [0] rfl (by decide +kernel) (fun K tok htok hK => ?_); simp only [go_sem, seval, kt24, d0, e1, wd, e2, w8]; (iterate 3 (try simp (disch := omega) only [au]; try simp only [go_sem, seval, kt24, d0, e1, wd, e2, w8])); refine ⟨htok _ (by decide +kernel), ?_⟩; (first | with_reducible refine hK _ _ ?_ | refine obK (hK _ _ ?_)); clear hK K htok tok)
         exact hqX
       refine eY hY ((j, k2, a5)) (mkWk [some 0, some 1, some 2, some 3] [] (by simp [wkEnv, lk, lkh, I, str, B, U8, U64, U32, hk2, hkl, nilV] <;> omega) (by first | (simp [wkHp, wkHp1, wkEnt, lkh, hk2, hkl, nilV]; done) | simp [wkHp, wkHp1, wkEnt, lkh, I, str, hk2, hkl, nilV]))
     | zero =>
       have d0 : decide (((0 : Nat) : Int) > 0) = false := by simp
       apply EX.step
       · intro xX C hN hk hqX
         repeat first | (with_reducible first | apply s1 | apply s2 | apply s5 | apply s6 | refine s7 ?_ | apply s3 | apply s4 | apply s8 | apply s9) | refine AW.condT rfl ?_ | refine AW.condF rfl ?_ | (refine AW.rT mixed hN hk noO kt24 [0] rfl (by decide +kernel) (fun K hK => ?_); simp only [go_sem, seval, kt24, d0]; (iterate 3 (try simp (disch := omega) only [au]; try simp only [go_sem, seval, kt24, d0])); (first | with_reducible refine hK _ _ ?_ | refine obK (hK _ _ ?_)); clear hK K) | (refine AW.rD mixed hN hk noO kt24 [0] rfl (by decide +kernel) (fun K tok htok hK => ?_); simp only [go_sem, seval, kt24, d0]; (iterate 3 (try simp (disch := omega) only [au]; try simp only [go_sem, seval, kt24, d0])); refine ⟨htok _ (by decide +kernel), ?_⟩; (first | with_reducible refine hK _ _ ?_ | refine obK (hK _ _ ?_)); clear hK K htok tok)
         exact hqX
       refine EX.ret (.agg (tsC (.mk op [] [] 0 ks))) [some (cdE L a4)] ?_ (fun C hN hk => AW.ret (mkRet [some 0] [2] (by simp only [resList, go_sem, seval]; rfl) (by simp [resOf, lk, lkh, I, str, B, U8, U64, U32, cdE, tsC_c] <;> omega) (by first | (simp [wkHp, wkHp1, wkEnt, lkh, cdE, tsC_c]; done) | simp [wkHp, wkHp1, wkEnt, lkh, I, str, cdE, tsC_c])))
       exact ⟨_, a4, rfl, ⟨by simp, by simp, ho, by unfold In64; simp, by rw [ts_kids]; omega, by intro k hk; rw [ts_kids] at hk; exact g3 k hk⟩, g2⟩
structure Sg where
 ext : Bool
 src : S
 test : Ts
def sgC (x : Sg) : List AV := B x.ext :: str x.src :: tsC x.test
def sgE (l : List Sg) : List (List AV) := l.map sgC
theorem sgE_len (l : List Sg) : (sgE l).length = l.length := by simp [sgE]
theorem sgE_getE (l : List Sg) (i : Nat) : (sgE l)[i]? = (l[i]?).map sgC := by simp [sgE]
@[simp] theorem sgE_id (k : Nat) (l : List Sg) : idLtE k (sgE l) = true := by
 simp only [idLtE, sgE, List.all_map, List.all_eq_true]
 intro x _
 obtain ⟨a, b, ⟨⟩⟩ := x; rfl
@[simp] theorem sgE_st (l : List Sg) : (sgE l).all (fun c => c.all storable) = true := by
 simp only [sgE, List.all_map, List.all_eq_true]
 intro x _
 obtain ⟨a, b, ⟨⟩⟩ := x; rfl
theorem sgE_drop (l : List Sg) (i : Nat) : (sgE l).drop i = sgE (l.drop i) := by simp [sgE]
theorem sgE_take (l : List Sg) (i : Nat) : (sgE l).take i = sgE (l.take i) := by simp [sgE]
theorem sgE_ren (L : List Nat) (l : List Sg) : renCE L (sgE l) = sgE l := by
 simp only [renCE, sgE, List.map_map]
 apply List.map_congr_left
 intro x _
 obtain ⟨a, b, ⟨⟩⟩ := x; rfl
theorem sgE_renE (ρ : Nat → Nat) (l : List Sg) : (sgE l).map (renL ρ) = sgE l := renE_noid ρ (sgE_id 0 l)
theorem sgE_snoc (l : List Sg) (x : Sg) : sgE l ++ [[.val (.bool x.ext), .val (.string ⟨x.src.toArray⟩), .val (.int .i64 x.test.op), .val (.string ⟨x.test.name.toArray⟩), .val (.string ⟨x.test.text.toArray⟩), .val (.int .i64 x.test.num), .sl 5 (tsE x.test.kids)]] = sgE (l ++ [x]) := by simp [sgE, sgC, tsC_c, B, I, str]
theorem sgE_snoc' (l : List Sg) (x : Sg) : sgE l ++ [sgC x] = sgE (l ++ [x]) := by simp [sgE]
theorem sgE_app (l m : List Sg) : sgE l ++ sgE m = sgE (l ++ m) := by simp [sgE]
@[simp] theorem sgE_nil : sgE [] = [] := rfl
theorem sgE_set (l : List Sg) (i : Nat) (x : Sg) : (sgE l).set i [.val (.bool x.ext), .val (.string ⟨x.src.toArray⟩), .val (.int .i64 x.test.op), .val (.string ⟨x.test.name.toArray⟩), .val (.string ⟨x.test.text.toArray⟩), .val (.int .i64 x.test.num), .sl 5 (tsE x.test.kids)] = sgE (l.set i x) := by simp [sgE, List.map_set, sgC, tsC_c, B, I, str]
attribute [go_sem] sgE_len sgE_getE sgE_drop sgE_take sgE_ren sgE_renE sgE_snoc sgE_snoc' sgE_app sgE_set sgC
structure Ag where
 kind : Int
 fld : S
def agC (x : Ag) : List AV := [I x.kind, str x.fld]
def agE (l : List Ag) : List (List AV) := l.map agC
theorem agE_len (l : List Ag) : (agE l).length = l.length := by simp [agE]
theorem agE_getE (l : List Ag) (i : Nat) : (agE l)[i]? = (l[i]?).map agC := by simp [agE]
@[simp] theorem agE_id (k : Nat) (l : List Ag) : idLtE k (agE l) = true := by
 simp only [idLtE, agE, List.all_map, List.all_eq_true]
 intro x _
 rfl
@[simp] theorem agE_st (l : List Ag) : (agE l).all (fun c => c.all storable) = true := by
 simp only [agE, List.all_map, List.all_eq_true]
 intro x _
 rfl
@[simp] theorem agE_ns (l : List Ag) : noSlE (agE l) = true := by
 simp only [noSlE, agE, List.all_map, List.all_eq_true]
 intro x _
 rfl
theorem agE_drop (l : List Ag) (i : Nat) : (agE l).drop i = agE (l.drop i) := by simp [agE]
theorem agE_take (l : List Ag) (i : Nat) : (agE l).take i = agE (l.take i) := by simp [agE]
theorem agE_ren (L : List Nat) (l : List Ag) : renCE L (agE l) = agE l := by
 simp only [renCE, agE, List.map_map]
 apply List.map_congr_left
 intro x _
 rfl
theorem agE_renE (ρ : Nat → Nat) (l : List Ag) : (agE l).map (renL ρ) = agE l := renE_noid ρ (agE_id 0 l)
theorem agE_snoc (l : List Ag) (x : Ag) : agE l ++ [[.val (.int .i64 x.kind), .val (.string ⟨x.fld.toArray⟩)]] = agE (l ++ [x]) := by simp [agE, agC, I, str]
theorem agE_snoc' (l : List Ag) (x : Ag) : agE l ++ [agC x] = agE (l ++ [x]) := by simp [agE]
theorem agE_app (l m : List Ag) : agE l ++ agE m = agE (l ++ m) := by simp [agE]
@[simp] theorem agE_nil : agE [] = [] := rfl
theorem agE_set (l : List Ag) (i : Nat) (x : Ag) : (agE l).set i [.val (.int .i64 x.kind), .val (.string ⟨x.fld.toArray⟩)] = agE (l.set i x) := by simp [agE, List.map_set, agC, I, str]
attribute [go_sem] agE_len agE_getE agE_drop agE_take agE_ren agE_renE agE_snoc agE_snoc' agE_app agE_set agC
attribute [simp] sgE_len agE_len
structure Qy where
 test : Ts
 stages : List Sg
 kind : Int
 limit : Int
 last : Bool
 names : List S
 aggs : List Ag
 sketch : Int
 other : Ts
 key : S
 window : Int
def qyC (q : Qy) : List AV := tsC q.test ++ [.sl 7 (sgE q.stages), I q.kind, I q.limit, B q.last, .sl 1 (strE q.names), .sl 2 (agE q.aggs), I q.sketch] ++ tsC q.other ++ [str q.key, I q.window]
def tz : Ts := .mk 0 [] [] 0 []
def kt25 : Nat → List Nat
 | 0 => [0]
 | 1 => [0, 3]
 | 2 => [0, 3, 12]
 | 3 => [3]
 | 4 => [2]
 | _ => []
theorem names25 (L : List UInt8) (hL : L.length ≤ 2 ^ 20) (a : Nat) (ha : a ≤ L.length) :
   ACallE Tryz.prog 25 [.ptr 0 2 0 0] [some (cdE L a)] (fun x => ∃ (ns : List S) (a' : Nat), x = (.osl 1 ns.length 1, [some (cdE L a'), some ⟨9, 1, strE ns⟩]) ∧ (ns.length ≤ 2 ∧ ∀ n ∈ ns, n.length ≤ 19) ∧ a' ≤ L.length) := by
 obtain ⟨v, a1, ha1, vlt, q1⟩ := next13 L hL a 5 ha (by omega) (by omega)
 obtain ⟨c, a2, ha2, clt, q2⟩ := next13 L hL a1 2 ha1 (by omega) (by omega)
 have vx := lit_get (l := nsL) rfl vlt
 have wl := nsL_len v
 generalize nsL.getD v [] = w at *
 refine acallE 19 1 Tryz.func25 rfl rfl rfl (by simp) rfl rfl ?_
 apply EX.step
 · intro xX C hN hk hqX
   repeat first | (with_reducible first | apply s1 | apply s2 | apply s5 | apply s6 | refine s7 ?_ | apply s3 | apply s4 | apply s8 | apply s9) | refine AW.condT rfl ?_ | refine AW.condF rfl ?_ | (refine AW.rT mixed hN hk (atO 1 (onc 2 (ocq 0 q1) noc) (atO 2 (onc 1 (ocq 0 q2) noc) noO)) kt25 [0] rfl (by decide +kernel) (fun K hK => ?_); simp only [go_sem, seval, kt25, lit_nsL, vx]; (iterate 3 (try simp (disch := omega) only [au]; try simp only [go_sem, seval, kt25, lit_nsL, vx])); (first | with_reducible refine hK _ _ ?_ | refine obK (hK _ _ ?_)); clear hK K) | (refine AW.rD mixed hN hk (atO 1 (onc 2 (ocq 0 q1) noc) (atO 2 (onc 1 (ocq 0 q2) noc) noO)) kt25 [0] rfl (by decide +kernel) (fun K tok htok hK => ?_); simp only [go_sem, seval, kt25, lit_nsL, vx]; (iterate 3 (try simp (disch := omega) only [au]; try simp only [go_sem, seval, kt25, lit_nsL, vx])); refine ⟨htok _ (by decide +kernel), ?_⟩; (first | with_reducible refine hK _ _ ?_ | refine obK (hK _ _ ?_)); clear hK K htok tok)
   exact hqX
 by_cases hc : c = 1
 · subst hc
   obtain ⟨v2, a3, ha3, q3⟩ := name45 L hL a2 ha2
   have wl2 := nameL_len v2
   generalize nameL.getD v2 [] = w2 at *
   apply EX.step
   · intro xX C hN hk hqX
     repeat first | (with_reducible first | apply s1 | apply s2 | apply s5 | apply s6 | refine s7 ?_ | apply s3 | apply s4 | apply s8 | apply s9) | refine AW.condT rfl ?_ | refine AW.condF rfl ?_ | (refine AW.rT mixed hN hk (atO 3 (onc 2 (ocq 0 q3) noc) noO) kt25 [0] rfl (by decide +kernel) (fun K hK => ?_); simp only [go_sem, seval, kt25]; (iterate 3 (try simp (disch := omega) only [au]; try simp only [go_sem, seval, kt25])); (first | with_reducible refine hK _ _ ?_ | refine obK (hK _ _ ?_)); clear hK K) | (refine AW.rD mixed hN hk (atO 3 (onc 2 (ocq 0 q3) noc) noO) kt25 [0] rfl (by decide +kernel) (fun K tok htok hK => ?_); simp only [go_sem, seval, kt25]; (iterate 3 (try simp (disch := omega) only [au]; try simp only [go_sem, seval, kt25])); refine ⟨htok _ (by decide +kernel), ?_⟩; (first | with_reducible refine hK _ _ ?_ | refine obK (hK _ _ ?_)); clear hK K htok tok)
     exact hqX
   have e2 : strE [w, w2] = [[.val (.string ⟨w.toArray⟩)], [.val (.string ⟨w2.toArray⟩)]] := rfl
   refine EX.ret (.osl 1 2 1) [some (cdE L a3), some ⟨9, 1, strE [w, w2]⟩] ?_ (fun C hN hk => AW.ret (mkRet [some 0, some 1] [] rfl (by simp [resOf, lk, lkh, I, str, B, U8, U64, U32, cdE, e2] <;> omega) (by first | (simp [wkHp, wkHp1, wkEnt, lkh, cdE, e2]; done) | simp [wkHp, wkHp1, wkEnt, lkh, I, str, cdE, e2])))
   exact ⟨[w, w2], a3, rfl, ⟨by simp, by simp; exact ⟨wl, wl2⟩⟩, ha3⟩
 · have dc : ((c : Int) == 1) = false := by simp; omega
   simp only [dc]
   apply EX.step
   · intro xX C hN hk hqX
     repeat first | (with_reducible first | apply s1 | apply s2 | apply s5 | apply s6 | refine s7 ?_ | apply s3 | apply s4 | apply s8 | apply s9) | refine AW.condT rfl ?_ | refine AW.condF rfl ?_ | (refine AW.rT mixed hN hk noO kt25 [0] rfl (by decide +kernel) (fun K hK => ?_); simp only [go_sem, seval, kt25]; (iterate 3 (try simp (disch := omega) only [au]; try simp only [go_sem, seval, kt25])); (first | with_reducible refine hK _ _ ?_ | refine obK (hK _ _ ?_)); clear hK K) | (refine AW.rD mixed hN hk noO kt25 [0] rfl (by decide +kernel) (fun K tok htok hK => ?_); simp only [go_sem, seval, kt25]; (iterate 3 (try simp (disch := omega) only [au]; try simp only [go_sem, seval, kt25])); refine ⟨htok _ (by decide +kernel), ?_⟩; (first | with_reducible refine hK _ _ ?_ | refine obK (hK _ _ ?_)); clear hK K htok tok)
     exact hqX
   have e1 : strE [w] = [[.val (.string ⟨w.toArray⟩)]] := rfl
   refine EX.ret (.osl 1 1 1) [some (cdE L a2), some ⟨9, 1, strE [w]⟩] ?_ (fun C hN hk => AW.ret (mkRet [some 0, some 1] [] rfl (by simp [resOf, lk, lkh, I, str, B, U8, U64, U32, cdE, e1] <;> omega) (by first | (simp [wkHp, wkHp1, wkEnt, lkh, cdE, e1]; done) | simp [wkHp, wkHp1, wkEnt, lkh, I, str, cdE, e1])))
   exact ⟨[w], a2, rfl, ⟨by simp, by simp; exact wl⟩, ha2⟩
def kt11 : Nat → List Nat
 | 0 => [0, 2]
 | 1 => [0, 2, 3]
 | 2 => [0, 2, 3, 4]
 | 3 => [0, 2, 3, 4, 13]
 | 4 => [0, 2, 3, 4]
 | 5 => [0, 2, 3, 4, 18]
 | 6 => [0, 2, 3, 4]
 | 7 => [0, 2, 3, 4]
 | 8 => [0, 2, 3, 39]
 | 9 => [0, 2, 3, 39, 40]
 | 10 => [2, 3]
 | 11 => [0, 2, 3, 39, 49]
 | 12 => [0, 2, 3]
 | 13 => [0, 2, 3, 5]
 | 14 => [0, 2, 3, 5, 59]
 | 15 => [0, 2, 3, 5]
 | 16 => [0, 2, 3, 5, 6]
 | 17 => [0, 2, 3, 5, 6, 67]
 | 18 => [0, 2, 3, 5, 6]
 | 19 => [0, 2, 3, 5]
 | 20 => [0, 2, 3, 39, 80]
 | 21 => [0, 2, 3]
 | 22 => [0, 2, 3]
 | 23 => [0, 2, 3, 95]
 | 24 => [2, 3]
 | 25 => [2, 3, 102]
 | 26 => [2, 3]
 | 27 => [0, 2, 3, 107]
 | 28 => [0, 2, 3]
 | 29 => [2, 3]
 | 30 => [2]
 | _ => []
def qsL : List S := [[40, 109, 115, 58, 92, 100, 43, 41], [40, 117, 115, 101, 114, 58, 91, 97, 45, 122, 93, 43, 41, 95, 40, 99, 111, 100, 101, 58, 92, 100, 41], [120], [40, 108, 101, 118, 101, 108, 58, 103, 101, 116, 124, 119, 97, 114, 110, 41]]
def qaL : List S := [[109, 115], [99, 111, 100, 101], [64, 116, 105, 109, 101], [108, 101, 118, 101, 108]]
def qkL : List S := [[64, 116, 114, 97, 99, 101], [117, 115, 101, 114], [108, 101, 118, 101, 108]]
@[simp] theorem qsL_n : qsL.length = 4 := rfl
@[simp] theorem qaL_n : qaL.length = 4 := rfl
@[simp] theorem qkL_n : qkL.length = 3 := rfl
theorem lit_qsL : ([[AV.val (.string ⟨#[40, 109, 115, 58, 92, 100, 43, 41]⟩)], [AV.val (.string ⟨#[40, 117, 115, 101, 114, 58, 91, 97, 45, 122, 93, 43, 41, 95, 40, 99, 111, 100, 101, 58, 92, 100, 41]⟩)], [AV.val (.string ⟨#[120]⟩)], [AV.val (.string ⟨#[40, 108, 101, 118, 101, 108, 58, 103, 101, 116, 124, 119, 97, 114, 110, 41]⟩)]] : List (List AV)) = strE qsL := rfl
theorem lit_qaL : ([[AV.val (.string ⟨#[109, 115]⟩)], [AV.val (.string ⟨#[99, 111, 100, 101]⟩)], [AV.val (.string ⟨#[64, 116, 105, 109, 101]⟩)], [AV.val (.string ⟨#[108, 101, 118, 101, 108]⟩)]] : List (List AV)) = strE qaL := rfl
theorem lit_qkL : ([[AV.val (.string ⟨#[64, 116, 114, 97, 99, 101]⟩)], [AV.val (.string ⟨#[117, 115, 101, 114]⟩)], [AV.val (.string ⟨#[108, 101, 118, 101, 108]⟩)]] : List (List AV)) = strE qkL := rfl
/-- Queries that are drawn. -/
structure QyG (q : Qy) : Prop where
 test : TsB 2 q.test
 other : TsB 1 q.other
 st : q.stages.length ≤ 2 ∧ ∀ s ∈ q.stages, TsB 1 s.test
theorem tz0 : TsB 1 tz := TsB.mk0 1 (by simp) (by simp) (by omega) (by unfold In64; omega)
@[simp] theorem wkE_sg {hp : Hp} {ids : List (Option Nat)} {D : List Nat} (l : List Sg) (x c : List AV) : wkE hp ids D (sgE l ++ [c]) (sgE l ++ [x]) ↔ wkL hp ids D c x := wkE_snoc_iff (sgE_id 0 l)
noncomputable def rest11 : Code := cR (cR (cR (bodyOf Tryz.f11)))
/-- What is returned by Query. -/
def R11 (L : List UInt8) : Res → Prop := fun x => ∃ (q : Qy) (a' : Nat), x = (.agg (qyC q), [some (cdE L a')]) ∧ QyG q ∧ a' ≤ L.length
def st11 (L : List UInt8) (t : Ts) (sg : List Sg) (a3 : Nat) : AS := ⟨[(0, .ptr 0 2 0 0), (2, .ptr 1 19 0 0), (3, .ptr 2 19 0 0)], [(0, some (cdE L a3)), (1, some ⟨31, 19, [[I 0, str [], str [], I 0, nilV, nilV, I 0, I 0, B false, nilV, nilV, I 0, I 0, str [], str [], I 0, nilV, str [], I 0]]⟩), (2, some ⟨31, 19, [[I t.op, str t.name, str t.text, I t.num, .sl 5 (tsE t.kids), .osl 3 sg.length 7, I 0, I 0, B false, nilV, nilV, I 0, I 0, str [], str [], I 0, nilV, str [], I 0]]⟩), (3, some ⟨73, 7, sgE sg⟩)]⟩
theorem query11_0 (L : List UInt8) (hL : L.length ≤ 2 ^ 20) (t : Ts) (tb : TsB 2 t) (sg : List Sg) (hs : sg.length ≤ 2 ∧ ∀ x ∈ sg, TsB 1 x.test) (a3 a4 : Nat) (ha4 : a4 ≤ L.length) (q1 : ACall Tryz.prog 13 [.ptr 0 2 0 0, I 5] [some (cdE L a3)] (I 0) [some (cdE L a4)]) :
   EX 126 1 (R11 L) (fun x C => AW Tryz.prog C rest11 (retQ (tabOf Tryz.prog) [.cell 2 31] x.1 x.2 1) 4 (st11 L t sg a3)) := by
 dsimp only [rest11, cR, bodyOf, Tryz.f11, Option.getD]
 simp only [st11, cdE, nilV]
 obtain ⟨c, a5, ha5, clt, q2⟩ := next13 L hL a4 2 ha4 (by omega) (by omega)
 obtain ⟨m, a6, ha6, mlt, q3⟩ := next13 L hL a5 4 ha5 (by omega) (by omega)
 apply EX.step
 · intro xX C hN hk hqX
   repeat first | (with_reducible first | apply s1 | apply s2 | apply s5 | apply s6 | refine s7 ?_ | apply s3 | apply s4 | apply s8 | apply s9) | refine AW.condT rfl ?_ | refine AW.condF rfl ?_ | (refine AW.rT mixed hN hk (atO 8 (onc 1 (ocq 0 q1) noc) (atO 10 (onc 1 (ocq 0 q2) (onc 4 (ocq 0 q3) noc)) noO)) kt11 [0] rfl (by decide +kernel) (fun K hK => ?_); simp only [go_sem, seval, kt11]; (iterate 3 (try simp (disch := omega) only [au]; try simp only [go_sem, seval, kt11])); (first | with_reducible refine hK _ _ ?_ | refine obK (hK _ _ ?_)); clear hK K) | (refine AW.rD mixed hN hk (atO 8 (onc 1 (ocq 0 q1) noc) (atO 10 (onc 1 (ocq 0 q2) (onc 4 (ocq 0 q3) noc)) noO)) kt11 [0] rfl (by decide +kernel) (fun K tok htok hK => ?_); simp only [go_sem, seval, kt11]; (iterate 3 (try simp (disch := omega) only [au]; try simp only [go_sem, seval, kt11])); refine ⟨htok _ (by decide +kernel), ?_⟩; (first | with_reducible refine hK _ _ ?_ | refine obK (hK _ _ ?_)); clear hK K htok tok)
   exact hqX
 refine EX.ret (.agg (qyC ⟨t, sg, 0, m, ((c : Int) == 1), [], [], 0, tz, [], 0⟩)) [some (cdE L a6)] ?_ (fun C hN hk => AW.ret (mkRet [some 0] [2] (by simp only [resList, go_sem, seval]; rfl) (by simp [resOf, lk, lkh, I, str, B, U8, U64, U32, cdE, qyC, tsC_c, tz] <;> omega) (by first | (simp [wkHp, wkHp1, wkEnt, lkh, cdE, qyC, tsC_c, tz]; done) | simp [wkHp, wkHp1, wkEnt, lkh, I, str, cdE, qyC, tsC_c, tz])))
 exact ⟨_, a6, rfl, ⟨tb, tz0, hs⟩, ha6⟩
theorem query11_1 (L : List UInt8) (hL : L.length ≤ 2 ^ 20) (t : Ts) (tb : TsB 2 t) (sg : List Sg) (hs : sg.length ≤ 2 ∧ ∀ x ∈ sg, TsB 1 x.test) (a3 a4 : Nat) (ha4 : a4 ≤ L.length) (q1 : ACall Tryz.prog 13 [.ptr 0 2 0 0, I 5] [some (cdE L a3)] (I 1) [some (cdE L a4)]) :
   EX 126 1 (R11 L) (fun x C => AW Tryz.prog C rest11 (retQ (tabOf Tryz.prog) [.cell 2 31] x.1 x.2 1) 4 (st11 L t sg a3)) := by
 dsimp only [rest11, cR, bodyOf, Tryz.f11, Option.getD]
 simp only [st11, cdE, nilV]
 obtain ⟨_, ⟨ns, a5, rfl, nb, ha5⟩, q2⟩ := names25 L hL a4 ha4
 obtain ⟨m, a6, ha6, mlt, q3⟩ := next13 L hL a5 3 ha5 (by omega) (by omega)
 simp only at q2
 have w1 := wrap64 (n := 1 + (m : Int)) (by omega)
 apply EX.step
 · intro xX C hN hk hqX
   repeat first | (with_reducible first | apply s1 | apply s2 | apply s5 | apply s6 | refine s7 ?_ | apply s3 | apply s4 | apply s8 | apply s9) | refine AW.condT rfl ?_ | refine AW.condF rfl ?_ | (refine AW.rT mixed hN hk (atO 8 (onc 1 (ocq 0 q1) noc) (atO 12 (onc 1 (ocq 0 q2) noc) (atO 13 (onc 1 (ocq 0 q3) noc) noO))) kt11 [0] rfl (by decide +kernel) (fun K hK => ?_); simp only [go_sem, seval, kt11, w1]; (iterate 3 (try simp (disch := omega) only [au]; try simp only [go_sem, seval, kt11, w1])); (first | with_reducible refine hK _ _ ?_ | refine obK (hK _ _ ?_)); clear hK K) | (refine AW.rD mixed hN hk (atO 8 (onc 1 (ocq 0 q1) noc) (atO 12 (onc 1 (ocq 0 q2) noc) (atO 13 (onc 1 (ocq 0 q3) noc) noO))) kt11 [0] rfl (by decide +kernel) (fun K tok htok hK => ?_); simp only [go_sem, seval, kt11, w1]; (iterate 3 (try simp (disch := omega) only [au]; try simp only [go_sem, seval, kt11, w1])); refine ⟨htok _ (by decide +kernel), ?_⟩; (first | with_reducible refine hK _ _ ?_ | refine obK (hK _ _ ?_)); clear hK K htok tok)
   exact hqX
 have hm2 : 1 + (m : Int) = ((m + 1 : Nat) : Int) := by omega
 simp only [hm2]
 clear q1 q2 q3 w1 hm2
 apply EX.step
 · intro xX C hN hk hqX
   repeat first | with_reducible refine AW.seq ?_ | with_reducible refine AW.block ?_
   exact hqX
 refine lpX 6 (fun s : Nat × List Ag × Nat => ⟨[(0, .ptr 0 2 0 0), (2, .ptr 1 19 0 0), (3, .ptr 2 19 0 0), (5, I s.1)], [(0, some ⟨70, 2, [[.sl 1 (bytesE L), I s.2.2]]⟩), (1, some ⟨31, 19, [[I 0, str [], str [], I 0, nilV, nilV, I 0, I 0, B false, nilV, nilV, I 0, I 0, str [], str [], I 0, nilV, str [], I 0]]⟩), (2, some ⟨31, 19, [[I t.op, str t.name, str t.text, I t.num, .sl 5 (tsE t.kids), .osl 3 sg.length 7, I 1, I 0, B false, .osl 4 ns.length 1, .osl 5 s.2.1.length 2, I 0, I 0, str [], str [], I 0, nilV, str [], I 0]]⟩), (3, some ⟨73, 7, sgE sg⟩), (4, some ⟨9, 1, strE ns⟩), (5, some ⟨76, 2, agE s.2.1⟩)]⟩) (fun s => s.2.1.length + s.1 ≤ 10 ∧ s.2.2 ≤ L.length) (fun s => s.1) (m + 1, [], a6) (mkWk [some 0, some 1, some 2, some 3, some 4, none] [] (by simp [wkEnv, lk, lkh, I, str, B, U8, U64, U32, nilV, B] <;> omega) (by first | (simp [wkHp, wkHp1, wkEnt, lkh, nilV, B]; done) | simp [wkHp, wkHp1, wkEnt, lkh, I, str, nilV, B])) ?_
 intro ⟨j, ag, a7⟩ hI2 Y2 hY2
 obtain ⟨m1, ha7⟩ := hI2
 simp only at m1 ha7
 cases j with
 | succ j =>
   have d2 : decide (((j + 1 : Nat) : Int) > 0) = true := by simp
   have e2 : (((j + 1 : Nat) : Int) - 1) = (j : Int) := by omega
   have w8 := wrap64 (n := (j : Int)) (by omega)
   obtain ⟨c, a8, ha8, clt, q4⟩ := next13 L hL a7 5 ha7 (by omega) (by omega)
   obtain rfl | hc : c = 0 ∨ c ≠ 0 := by omega
   · apply EX.step
     · intro xX C hN hk hqX
       repeat first | (with_reducible first | apply s1 | apply s2 | apply s5 | apply s6 | refine s7 ?_ | apply s3 | apply s4 | apply s8 | apply s9) | refine AW.condT rfl ?_ | refine AW.condF rfl ?_ | (refine AW.rT mixed hN hk (atO 16 (onc 1 (ocq 0 q4) noc) noO) kt11 [0] rfl (by decide +kernel) (fun K hK => ?_); simp only [go_sem, seval, kt11, d2, e2, w8]; (iterate 3 (try simp (disch := omega) only [au]; try simp only [go_sem, seval, kt11, d2, e2, w8])); (first | with_reducible refine hK _ _ ?_ | refine obK (hK _ _ ?_)); clear hK K) | (refine AW.rD mixed hN hk (atO 16 (onc 1 (ocq 0 q4) noc) noO) kt11 [0] rfl (by decide +kernel) (fun K tok htok hK => ?_); simp only [go_sem, seval, kt11, d2, e2, w8]; (iterate 3 (try simp (disch := omega) only [au]; try simp only [go_sem, seval, kt11, d2, e2, w8])); refine ⟨htok _ (by decide +kernel), ?_⟩; (first | with_reducible refine hK _ _ ?_ | refine obK (hK _ _ ?_)); clear hK K htok tok)
       exact hqX
     obtain ⟨g2, hg2⟩ : ∃ g2, g2 = ag ++ [⟨0, []⟩] := ⟨_, rfl⟩
     have hgl : g2.length = ag.length + 1 := by rw [hg2]; simp
     have hge : agE g2 = agE ag ++ [[.val (.int .i64 0), .val (.string ⟨#[]⟩)]] := by rw [hg2]; simp [agE, agC, I, str]
     refine eY hY2 ((j, g2, a8)) (mkWk [some 0, some 1, some 2, some 3, some 4, some 5] [] (by simp [wkEnv, lk, lkh, I, str, B, U8, U64, U32, hge, hgl, nilV, B, idLtL, idLt] <;> omega) (by first | (simp [wkHp, wkHp1, wkEnt, lkh, hge, hgl, nilV, B, idLtL, idLt]; done) | simp [wkHp, wkHp1, wkEnt, lkh, I, str, hge, hgl, nilV, B, idLtL, idLt]))
   · have dn : ((c : Int) != 0) = true := by simp; omega
     obtain ⟨v, a9, ha9, vlt, q5⟩ := next13 L hL a8 4 ha8 (by omega) (by omega)
     have vx := lit_get (l := qaL) rfl vlt
     generalize qaL.getD v [] = w at *
     obtain ⟨g2, hg2⟩ : ∃ g2, g2 = ag ++ [⟨(c : Int), w⟩] := ⟨_, rfl⟩
     have hgl : g2.length = ag.length + 1 := by rw [hg2]; simp
     have hge : agE g2 = agE ag ++ [[.val (.int .i64 c), .val (.string ⟨w.toArray⟩)]] := by rw [hg2]; simp [agE, agC, I, str]
     apply EX.step
     · intro xX C hN hk hqX
       repeat first | (with_reducible first | apply s1 | apply s2 | apply s5 | apply s6 | refine s7 ?_ | apply s3 | apply s4 | apply s8 | apply s9) | refine AW.condT rfl ?_ | refine AW.condF rfl ?_ | (refine AW.rT mixed hN hk (atO 16 (onc 1 (ocq 0 q4) noc) (atO 18 (onc 2 (ocq 0 q5) noc) noO)) kt11 [0] rfl (by decide +kernel) (fun K hK => ?_); simp only [go_sem, seval, kt11, d2, e2, w8, dn, lit_qaL, vx]; (iterate 3 (try simp (disch := omega) only [au]; try simp only [go_sem, seval, kt11, d2, e2, w8, dn, lit_qaL, vx])); (first | with_reducible refine hK _ _ ?_ | refine obK (hK _ _ ?_)); clear hK K) | (refine AW.rD mixed hN hk (atO 16 (onc 1 (ocq 0 q4) noc) (atO 18 (onc 2 (ocq 0 q5) noc) noO)) kt11 [0] rfl (by decide +kernel) (fun K tok htok hK => ?_); simp only [go_sem, seval, kt11, d2, e2, w8, dn, lit_qaL, vx]; (iterate 3 (try simp (disch := omega) only [au]; try simp only [go_sem, seval, kt11, d2, e2, w8, dn, lit_qaL, vx])); refine ⟨htok _ (by decide +kernel), ?_⟩; (first | with_reducible refine hK _ _ ?_ | refine obK (hK _ _ ?_)); clear hK K htok tok)
       exact hqX
     refine eY hY2 ((j, g2, a9)) (mkWk [some 0, some 1, some 2, some 3, some 4, some 5] [] (by simp [wkEnv, lk, lkh, I, str, B, U8, U64, U32, hge, hgl, nilV, B, idLtL, idLt] <;> omega) (by first | (simp [wkHp, wkHp1, wkEnt, lkh, hge, hgl, nilV, B, idLtL, idLt]; done) | simp [wkHp, wkHp1, wkEnt, lkh, I, str, hge, hgl, nilV, B, idLtL, idLt]))
 | zero =>
   apply EX.step
   · intro xX C hN hk hqX
     repeat first | (with_reducible first | apply s1 | apply s2 | apply s5 | apply s6 | refine s7 ?_ | apply s3 | apply s4 | apply s8 | apply s9) | refine AW.condT rfl ?_ | refine AW.condF rfl ?_ | (refine AW.rT mixed hN hk noO kt11 [0] rfl (by decide +kernel) (fun K hK => ?_); simp only [go_sem, seval, kt11]; (iterate 3 (try simp (disch := omega) only [au]; try simp only [go_sem, seval, kt11])); (first | with_reducible refine hK _ _ ?_ | refine obK (hK _ _ ?_)); clear hK K) | (refine AW.rD mixed hN hk noO kt11 [0] rfl (by decide +kernel) (fun K tok htok hK => ?_); simp only [go_sem, seval, kt11]; (iterate 3 (try simp (disch := omega) only [au]; try simp only [go_sem, seval, kt11])); refine ⟨htok _ (by decide +kernel), ?_⟩; (first | with_reducible refine hK _ _ ?_ | refine obK (hK _ _ ?_)); clear hK K htok tok)
     exact hqX
   refine EX.ret (.agg (qyC ⟨t, sg, 1, 0, false, ns, ag, 0, tz, [], 0⟩)) [some (cdE L a7)] ?_ (fun C hN hk => AW.ret (mkRet [some 0] [2, 3, 4] (by simp only [resList, go_sem, seval]; rfl) (by simp [resOf, lk, lkh, I, str, B, U8, U64, U32, cdE, qyC, tsC_c, tz] <;> omega) (by first | (simp [wkHp, wkHp1, wkEnt, lkh, cdE, qyC, tsC_c, tz]; done) | simp [wkHp, wkHp1, wkEnt, lkh, I, str, cdE, qyC, tsC_c, tz])))
   exact ⟨_, a7, rfl, ⟨tb, tz0, hs⟩, ha7⟩
theorem query11_2 (L : List UInt8) (hL : L.length ≤ 2 ^ 20) (t : Ts) (tb : TsB 2 t) (sg : List Sg) (hs : sg.length ≤ 2 ∧ ∀ x ∈ sg, TsB 1 x.test) (a3 a4 : Nat) (ha4 : a4 ≤ L.length) (q1 : ACall Tryz.prog 13 [.ptr 0 2 0 0, I 5] [some (cdE L a3)] (I 2) [some (cdE L a4)]) :
   EX 126 1 (R11 L) (fun x C => AW Tryz.prog C rest11 (retQ (tabOf Tryz.prog) [.cell 2 31] x.1 x.2 1) 4 (st11 L t sg a3)) := by
 dsimp only [rest11, cR, bodyOf, Tryz.f11, Option.getD]
 simp only [st11, cdE, nilV]
 obtain ⟨_, ⟨ns, a5, rfl, nb, ha5⟩, q2⟩ := names25 L hL a4 ha4
 obtain ⟨m, a6, ha6, mlt, q3⟩ := next13 L hL a5 4 ha5 (by omega) (by omega)
 obtain ⟨c, a7, ha7, clt, q4⟩ := next13 L hL a6 2 ha6 (by omega) (by omega)
 simp only at q2
 have w1 := wrap64 (n := 1 + (m : Int)) (by omega)
 apply EX.step
 · intro xX C hN hk hqX
   repeat first | (with_reducible first | apply s1 | apply s2 | apply s5 | apply s6 | refine s7 ?_ | apply s3 | apply s4 | apply s8 | apply s9) | refine AW.condT rfl ?_ | refine AW.condF rfl ?_ | (refine AW.rT mixed hN hk (atO 8 (onc 1 (ocq 0 q1) noc) (atO 21 (onc 1 (ocq 0 q2) (onc 3 (ocq 0 q3) noc)) (atO 23 (onc 1 (ocq 0 q4) noc) noO))) kt11 [0] rfl (by decide +kernel) (fun K hK => ?_); simp only [go_sem, seval, kt11, w1]; (iterate 3 (try simp (disch := omega) only [au]; try simp only [go_sem, seval, kt11, w1])); (first | with_reducible refine hK _ _ ?_ | refine obK (hK _ _ ?_)); clear hK K) | (refine AW.rD mixed hN hk (atO 8 (onc 1 (ocq 0 q1) noc) (atO 21 (onc 1 (ocq 0 q2) (onc 3 (ocq 0 q3) noc)) (atO 23 (onc 1 (ocq 0 q4) noc) noO))) kt11 [0] rfl (by decide +kernel) (fun K tok htok hK => ?_); simp only [go_sem, seval, kt11, w1]; (iterate 3 (try simp (disch := omega) only [au]; try simp only [go_sem, seval, kt11, w1])); refine ⟨htok _ (by decide +kernel), ?_⟩; (first | with_reducible refine hK _ _ ?_ | refine obK (hK _ _ ?_)); clear hK K htok tok)
   exact hqX
 by_cases hc : c = 1
 · subst hc
   obtain ⟨v, a8, ha8, vlt, q5⟩ := next13 L hL a7 4 ha7 (by omega) (by omega)
   have w2 := wrap64 (n := 1 + (v : Int)) (by omega)
   apply EX.step
   · intro xX C hN hk hqX
     repeat first | (with_reducible first | apply s1 | apply s2 | apply s5 | apply s6 | refine s7 ?_ | apply s3 | apply s4 | apply s8 | apply s9) | refine AW.condT rfl ?_ | refine AW.condF rfl ?_ | (refine AW.rT mixed hN hk (atO 24 (onc 1 (ocq 0 q5) noc) noO) kt11 [0] rfl (by decide +kernel) (fun K hK => ?_); simp only [go_sem, seval, kt11, w2]; (iterate 3 (try simp (disch := omega) only [au]; try simp only [go_sem, seval, kt11, w2])); (first | with_reducible refine hK _ _ ?_ | refine obK (hK _ _ ?_)); clear hK K) | (refine AW.rD mixed hN hk (atO 24 (onc 1 (ocq 0 q5) noc) noO) kt11 [0] rfl (by decide +kernel) (fun K tok htok hK => ?_); simp only [go_sem, seval, kt11, w2]; (iterate 3 (try simp (disch := omega) only [au]; try simp only [go_sem, seval, kt11, w2])); refine ⟨htok _ (by decide +kernel), ?_⟩; (first | with_reducible refine hK _ _ ?_ | refine obK (hK _ _ ?_)); clear hK K htok tok)
     exact hqX
   refine EX.ret (.agg (qyC ⟨t, sg, 2, (1 + m), false, ns, [⟨0, []⟩], (1 + v), tz, [], 0⟩)) [some (cdE L a8)] ?_ (fun C hN hk => AW.ret (mkRet [some 0] [2, 3, 4] (by simp only [resList, go_sem, seval]; rfl) (by simp [resOf, lk, lkh, I, str, B, U8, U64, U32, cdE, qyC, tsC_c, tz, agE, agC] <;> omega) (by first | (simp [wkHp, wkHp1, wkEnt, lkh, cdE, qyC, tsC_c, tz, agE, agC]; done) | simp [wkHp, wkHp1, wkEnt, lkh, I, str, cdE, qyC, tsC_c, tz, agE, agC])))
   exact ⟨_, a8, rfl, ⟨tb, tz0, hs⟩, ha8⟩
 · have dc : ((c : Int) == 1) = false := by simp; omega
   simp only [dc]
   obtain ⟨v, a8, ha8, vlt, q5⟩ := next13 L hL a7 2 ha7 (by omega) (by omega)
   apply EX.step
   · intro xX C hN hk hqX
     repeat first | (with_reducible first | apply s1 | apply s2 | apply s5 | apply s6 | refine s7 ?_ | apply s3 | apply s4 | apply s8 | apply s9) | refine AW.condT rfl ?_ | refine AW.condF rfl ?_ | (refine AW.rT mixed hN hk (atO 25 (onc 1 (ocq 0 q5) noc) noO) kt11 [0] rfl (by decide +kernel) (fun K hK => ?_); simp only [go_sem, seval, kt11]; (iterate 3 (try simp (disch := omega) only [au]; try simp only [go_sem, seval, kt11])); (first | with_reducible refine hK _ _ ?_ | refine obK (hK _ _ ?_)); clear hK K) | (refine AW.rD mixed hN hk (atO 25 (onc 1 (ocq 0 q5) noc) noO) kt11 [0] rfl (by decide +kernel) (fun K tok htok hK => ?_); simp only [go_sem, seval, kt11]; (iterate 3 (try simp (disch := omega) only [au]; try simp only [go_sem, seval, kt11])); refine ⟨htok _ (by decide +kernel), ?_⟩; (first | with_reducible refine hK _ _ ?_ | refine obK (hK _ _ ?_)); clear hK K htok tok)
     exact hqX
   by_cases hv : v = 1
   · subst hv
     apply EX.step
     · intro xX C hN hk hqX
       repeat first | (with_reducible first | apply s1 | apply s2 | apply s5 | apply s6 | refine s7 ?_ | apply s3 | apply s4 | apply s8 | apply s9) | refine AW.condT rfl ?_ | refine AW.condF rfl ?_ | (refine AW.rT mixed hN hk noO kt11 [0] rfl (by decide +kernel) (fun K hK => ?_); simp only [go_sem, seval, kt11]; (iterate 3 (try simp (disch := omega) only [au]; try simp only [go_sem, seval, kt11])); (first | with_reducible refine hK _ _ ?_ | refine obK (hK _ _ ?_)); clear hK K) | (refine AW.rD mixed hN hk noO kt11 [0] rfl (by decide +kernel) (fun K tok htok hK => ?_); simp only [go_sem, seval, kt11]; (iterate 3 (try simp (disch := omega) only [au]; try simp only [go_sem, seval, kt11])); refine ⟨htok _ (by decide +kernel), ?_⟩; (first | with_reducible refine hK _ _ ?_ | refine obK (hK _ _ ?_)); clear hK K htok tok)
       exact hqX
     refine EX.ret (.agg (qyC ⟨t, sg, 2, (1 + m), false, ns, [⟨1, [109, 115]⟩], 0, tz, [], 0⟩)) [some (cdE L a8)] ?_ (fun C hN hk => AW.ret (mkRet [some 0] [2, 3, 4] (by simp only [resList, go_sem, seval]; rfl) (by simp [resOf, lk, lkh, I, str, B, U8, U64, U32, cdE, qyC, tsC_c, tz, agE, agC] <;> omega) (by first | (simp [wkHp, wkHp1, wkEnt, lkh, cdE, qyC, tsC_c, tz, agE, agC]; done) | simp [wkHp, wkHp1, wkEnt, lkh, I, str, cdE, qyC, tsC_c, tz, agE, agC])))
     exact ⟨_, a8, rfl, ⟨tb, tz0, hs⟩, ha8⟩
   · have dv : ((v : Int) == 1) = false := by simp; omega
     simp only [dv]
     apply EX.step
     · intro xX C hN hk hqX
       repeat first | (with_reducible first | apply s1 | apply s2 | apply s5 | apply s6 | refine s7 ?_ | apply s3 | apply s4 | apply s8 | apply s9) | refine AW.condT rfl ?_ | refine AW.condF rfl ?_ | (refine AW.rT mixed hN hk noO kt11 [0] rfl (by decide +kernel) (fun K hK => ?_); simp only [go_sem, seval, kt11]; (iterate 3 (try simp (disch := omega) only [au]; try simp only [go_sem, seval, kt11])); (first | with_reducible refine hK _ _ ?_ | refine obK (hK _ _ ?_)); clear hK K) | (refine AW.rD mixed hN hk noO kt11 [0] rfl (by decide +kernel) (fun K tok htok hK => ?_); simp only [go_sem, seval, kt11]; (iterate 3 (try simp (disch := omega) only [au]; try simp only [go_sem, seval, kt11])); refine ⟨htok _ (by decide +kernel), ?_⟩; (first | with_reducible refine hK _ _ ?_ | refine obK (hK _ _ ?_)); clear hK K htok tok)
       exact hqX
     refine EX.ret (.agg (qyC ⟨t, sg, 2, (1 + m), false, ns, [⟨0, []⟩], 0, tz, [], 0⟩)) [some (cdE L a8)] ?_ (fun C hN hk => AW.ret (mkRet [some 0] [2, 3, 4] (by simp only [resList, go_sem, seval]; rfl) (by simp [resOf, lk, lkh, I, str, B, U8, U64, U32, cdE, qyC, tsC_c, tz, agE, agC] <;> omega) (by first | (simp [wkHp, wkHp1, wkEnt, lkh, cdE, qyC, tsC_c, tz, agE, agC]; done) | simp [wkHp, wkHp1, wkEnt, lkh, I, str, cdE, qyC, tsC_c, tz, agE, agC])))
     exact ⟨_, a8, rfl, ⟨tb, tz0, hs⟩, ha8⟩
theorem query11_3 (L : List UInt8) (hL : L.length ≤ 2 ^ 20) (t : Ts) (tb : TsB 2 t) (sg : List Sg) (hs : sg.length ≤ 2 ∧ ∀ x ∈ sg, TsB 1 x.test) (a3 a4 : Nat) (ha4 : a4 ≤ L.length) (q1 : ACall Tryz.prog 13 [.ptr 0 2 0 0, I 5] [some (cdE L a3)] (I 3) [some (cdE L a4)]) :
   EX 126 1 (R11 L) (fun x C => AW Tryz.prog C rest11 (retQ (tabOf Tryz.prog) [.cell 2 31] x.1 x.2 1) 4 (st11 L t sg a3)) := by
 dsimp only [rest11, cR, bodyOf, Tryz.f11, Option.getD]
 simp only [st11, cdE, nilV]
 obtain ⟨v, a5, ha5, vlt, q2⟩ := next13 L hL a4 3 ha4 (by omega) (by omega)
 obtain ⟨m, a6, ha6, mlt, q3⟩ := next13 L hL a5 60 ha5 (by omega) (by omega)
 obtain ⟨_, ⟨t2, a7, rfl, tb2, ha7⟩, q4⟩ := test24 1 (by omega) L hL a6 ha6
 simp only [tsC_c] at q4
 obtain ⟨i, a8, ha8, ilt, q5⟩ := next13 L hL a7 5 ha7 (by omega) (by omega)
 have vx := lit_get (l := qkL) rfl vlt
 generalize qkL.getD v [] = w at *
 apply EX.step
 · intro xX C hN hk hqX
   repeat first | (with_reducible first | apply s1 | apply s2 | apply s5 | apply s6 | refine s7 ?_ | apply s3 | apply s4 | apply s8 | apply s9) | refine AW.condT rfl ?_ | refine AW.condF rfl ?_ | (refine AW.rT mixed hN hk (atO 8 (onc 1 (ocq 0 q1) noc) (atO 28 (onc 2 (ocq 0 q2) (onc 6 (ocq 0 q3) noc)) (atO 29 (onc 1 (ocq 0 q4) (onc 3 (ocq 0 q5) noc)) noO))) kt11 [0] rfl (by decide +kernel) (fun K hK => ?_); simp only [go_sem, seval, kt11, lit_qkL, vx]; (iterate 3 (try simp (disch := omega) only [au]; try simp only [go_sem, seval, kt11, lit_qkL, vx])); (first | with_reducible refine hK _ _ ?_ | refine obK (hK _ _ ?_)); clear hK K) | (refine AW.rD mixed hN hk (atO 8 (onc 1 (ocq 0 q1) noc) (atO 28 (onc 2 (ocq 0 q2) (onc 6 (ocq 0 q3) noc)) (atO 29 (onc 1 (ocq 0 q4) (onc 3 (ocq 0 q5) noc)) noO))) kt11 [0] rfl (by decide +kernel) (fun K tok htok hK => ?_); simp only [go_sem, seval, kt11, lit_qkL, vx]; (iterate 3 (try simp (disch := omega) only [au]; try simp only [go_sem, seval, kt11, lit_qkL, vx])); refine ⟨htok _ (by decide +kernel), ?_⟩; (first | with_reducible refine hK _ _ ?_ | refine obK (hK _ _ ?_)); clear hK K htok tok)
   exact hqX
 refine EX.ret (.agg (qyC ⟨t, sg, 3, i, false, [], [], 0, t2, w, m⟩)) [some (cdE L a8)] ?_ (fun C hN hk => AW.ret (mkRet [some 0] [2] (by simp only [resList, go_sem, seval]; rfl) (by simp [resOf, lk, lkh, I, str, B, U8, U64, U32, cdE, qyC, tsC_c, tz] <;> omega) (by first | (simp [wkHp, wkHp1, wkEnt, lkh, cdE, qyC, tsC_c, tz]; done) | simp [wkHp, wkHp1, wkEnt, lkh, I, str, cdE, qyC, tsC_c, tz])))
 exact ⟨_, a8, rfl, ⟨tb, tb2, hs⟩, ha8⟩
theorem query11_4 (L : List UInt8) (hL : L.length ≤ 2 ^ 20) (t : Ts) (tb : TsB 2 t) (sg : List Sg) (hs : sg.length ≤ 2 ∧ ∀ x ∈ sg, TsB 1 x.test) (a3 a4 : Nat) (ha4 : a4 ≤ L.length) (q1 : ACall Tryz.prog 13 [.ptr 0 2 0 0, I 5] [some (cdE L a3)] (I 4) [some (cdE L a4)]) :
   EX 126 1 (R11 L) (fun x C => AW Tryz.prog C rest11 (retQ (tabOf Tryz.prog) [.cell 2 31] x.1 x.2 1) 4 (st11 L t sg a3)) := by
 dsimp only [rest11, cR, bodyOf, Tryz.f11, Option.getD]
 simp only [st11, cdE, nilV]
 apply EX.step
 · intro xX C hN hk hqX
   repeat first | (with_reducible first | apply s1 | apply s2 | apply s5 | apply s6 | refine s7 ?_ | apply s3 | apply s4 | apply s8 | apply s9) | refine AW.condT rfl ?_ | refine AW.condF rfl ?_ | (refine AW.rT mixed hN hk (atO 8 (onc 1 (ocq 0 q1) noc) noO) kt11 [0] rfl (by decide +kernel) (fun K hK => ?_); simp only [go_sem, seval, kt11]; (iterate 3 (try simp (disch := omega) only [au]; try simp only [go_sem, seval, kt11])); (first | with_reducible refine hK _ _ ?_ | refine obK (hK _ _ ?_)); clear hK K) | (refine AW.rD mixed hN hk (atO 8 (onc 1 (ocq 0 q1) noc) noO) kt11 [0] rfl (by decide +kernel) (fun K tok htok hK => ?_); simp only [go_sem, seval, kt11]; (iterate 3 (try simp (disch := omega) only [au]; try simp only [go_sem, seval, kt11])); refine ⟨htok _ (by decide +kernel), ?_⟩; (first | with_reducible refine hK _ _ ?_ | refine obK (hK _ _ ?_)); clear hK K htok tok)
   exact hqX
 refine EX.ret (.agg (qyC ⟨t, sg, 0, 0, false, [], [], 0, tz, [], 0⟩)) [some (cdE L a4)] ?_ (fun C hN hk => AW.ret (mkRet [some 0] [2] (by simp only [resList, go_sem, seval]; rfl) (by simp [resOf, lk, lkh, I, str, B, U8, U64, U32, cdE, qyC, tsC_c, tz] <;> omega) (by first | (simp [wkHp, wkHp1, wkEnt, lkh, cdE, qyC, tsC_c, tz]; done) | simp [wkHp, wkHp1, wkEnt, lkh, I, str, cdE, qyC, tsC_c, tz])))
 exact ⟨_, a4, rfl, ⟨tb, tz0, hs⟩, ha4⟩
theorem query11 (L : List UInt8) (hL : L.length ≤ 2 ^ 20) (a : Nat) (ha : a ≤ L.length) :
   ACallE Tryz.prog 11 [.ptr 0 2 0 0] [some (cdE L a)] (R11 L) := by
 obtain ⟨_, ⟨t, a1, rfl, tb, ha1⟩, q1⟩ := test24 2 (by omega) L hL a ha
 simp only [tsC_c] at q1
 obtain ⟨n, a2, ha2, nlt, q2⟩ := next13 L hL a1 3 ha1 (by omega) (by omega)
 refine acallE 126 1 Tryz.func11 rfl rfl rfl (by simp) rfl rfl ?_
 apply EX.step
 · intro xX C hN hk hqX
   repeat first | (with_reducible first | apply s1 | apply s2 | apply s5 | apply s6 | refine s7 ?_ | apply s3 | apply s4 | apply s8 | apply s9) | refine AW.condT rfl ?_ | refine AW.condF rfl ?_ | (refine AW.rT mixed hN hk (atO 1 (onc 1 (ocq 0 q1) noc) (atO 2 (onc 1 (ocq 0 q2) noc) noO)) kt11 [0] rfl (by decide +kernel) (fun K hK => ?_); simp only [go_sem, seval, kt11]; (iterate 3 (try simp (disch := omega) only [au]; try simp only [go_sem, seval, kt11])); (first | with_reducible refine hK _ _ ?_ | refine obK (hK _ _ ?_)); clear hK K) | (refine AW.rD mixed hN hk (atO 1 (onc 1 (ocq 0 q1) noc) (atO 2 (onc 1 (ocq 0 q2) noc) noO)) kt11 [0] rfl (by decide +kernel) (fun K tok htok hK => ?_); simp only [go_sem, seval, kt11]; (iterate 3 (try simp (disch := omega) only [au]; try simp only [go_sem, seval, kt11])); refine ⟨htok _ (by decide +kernel), ?_⟩; (first | with_reducible refine hK _ _ ?_ | refine obK (hK _ _ ?_)); clear hK K htok tok)
   exact hqX
 clear q1 q2
 apply EX.step
 · intro xX C hN hk hqX
   repeat first | with_reducible refine AW.seq ?_ | with_reducible refine AW.block ?_
   exact hqX
 refine lpX 4 (fun s : Nat × List Sg × Nat => ⟨[(0, .ptr 0 2 0 0), (2, .ptr 1 19 0 0), (3, .ptr 2 19 0 0), (4, I s.1)], [(0, some ⟨70, 2, [[.sl 1 (bytesE L), I s.2.2]]⟩), (1, some ⟨31, 19, [[I 0, str [], str [], I 0, nilV, nilV, I 0, I 0, B false, nilV, nilV, I 0, I 0, str [], str [], I 0, nilV, str [], I 0]]⟩), (2, some ⟨31, 19, [[I t.op, str t.name, str t.text, I t.num, .sl 5 (tsE t.kids), .osl 3 s.2.1.length 7, I 0, I 0, B false, nilV, nilV, I 0, I 0, str [], str [], I 0, nilV, str [], I 0]]⟩), (3, some ⟨73, 7, sgE s.2.1⟩)]⟩) (fun s => s.2.1.length + s.1 ≤ 2 ∧ s.2.2 ≤ L.length ∧ ∀ x ∈ s.2.1, TsB 1 x.test) (fun s => s.1) (n, [], a2) (mkWk [some 0, some 1, some 2, none] [] (by simp [wkEnv, lk, lkh, I, str, B, U8, U64, U32, nilV, B] <;> omega) (by first | (simp [wkHp, wkHp1, wkEnt, lkh, nilV, B]; done) | simp [wkHp, wkHp1, wkEnt, lkh, I, str, nilV, B])) ?_
 intro ⟨j, sg, a3⟩ hI Y hY
 obtain ⟨g1, ha3, g3⟩ := hI
 simp only at g1 ha3 g3
 cases j with
 | succ j =>
   have d0 : decide (((j + 1 : Nat) : Int) > 0) = true := by simp
   have e2 : (((j + 1 : Nat) : Int) - 1) = (j : Int) := by omega
   have w8 := wrap64 (n := (j : Int)) (by omega)
   obtain ⟨c, a4, ha4, clt, q1⟩ := next13 L hL a3 2 ha3 (by omega) (by omega)
   apply EX.step
   · intro xX C hN hk hqX
     repeat first | (with_reducible first | apply s1 | apply s2 | apply s5 | apply s6 | refine s7 ?_ | apply s3 | apply s4 | apply s8 | apply s9) | refine AW.condT rfl ?_ | refine AW.condF rfl ?_ | (refine AW.rT mixed hN hk (atO 5 (onc 1 (ocq 0 q1) noc) noO) kt11 [0] rfl (by decide +kernel) (fun K hK => ?_); simp only [go_sem, seval, kt11, d0]; (iterate 3 (try simp (disch := omega) only [au]; try simp only [go_sem, seval, kt11, d0])); (first | with_reducible refine hK _ _ ?_ | refine obK (hK _ _ ?_)); clear hK K) | (refine AW.rD mixed hN hk (atO 5 (onc 1 (ocq 0 q1) noc) noO) kt11 [0] rfl (by decide +kernel) (fun K tok htok hK => ?_); simp only [go_sem, seval, kt11, d0]; (iterate 3 (try simp (disch := omega) only [au]; try simp only [go_sem, seval, kt11, d0])); refine ⟨htok _ (by decide +kernel), ?_⟩; (first | with_reducible refine hK _ _ ?_ | refine obK (hK _ _ ?_)); clear hK K htok tok)
     exact hqX
   by_cases hc : c = 1
   · subst hc
     obtain ⟨v, a5, ha5, vlt, q2⟩ := next13 L hL a4 4 ha4 (by omega) (by omega)
     have vx := lit_get (l := qsL) rfl vlt
     generalize qsL.getD v [] = w at *
     obtain ⟨s2, hs2⟩ : ∃ s2, s2 = sg ++ [⟨true, w, tz⟩] := ⟨_, rfl⟩
     have hsl : s2.length = sg.length + 1 := by rw [hs2]; simp
     have hsm : ∀ x ∈ s2, TsB 1 x.test := by
       intro x hx
       rw [hs2] at hx
       rcases List.mem_append.1 hx with hx | hx
       · exact g3 x hx
       · rw [List.mem_singleton.1 hx]; exact tz0
     apply EX.step
     · intro xX C hN hk hqX
       repeat first | (with_reducible first | apply s1 | apply s2 | apply s5 | apply s6 | refine s7 ?_ | apply s3 | apply s4 | apply s8 | apply s9) | refine AW.condT rfl ?_ | refine AW.condF rfl ?_ | (refine AW.rT mixed hN hk (atO 6 (onc 4 (ocq 0 q2) noc) noO) kt11 [0] rfl (by decide +kernel) (fun K hK => ?_); simp only [go_sem, seval, kt11, lit_qsL, vx, e2, w8]; (iterate 3 (try simp (disch := omega) only [au]; try simp only [go_sem, seval, kt11, lit_qsL, vx, e2, w8])); (first | with_reducible refine hK _ _ ?_ | refine obK (hK _ _ ?_)); clear hK K) | (refine AW.rD mixed hN hk (atO 6 (onc 4 (ocq 0 q2) noc) noO) kt11 [0] rfl (by decide +kernel) (fun K tok htok hK => ?_); simp only [go_sem, seval, kt11, lit_qsL, vx, e2, w8]; (iterate 3 (try simp (disch := omega) only [au]; try simp only [go_sem, seval, kt11, lit_qsL, vx, e2, w8])); refine ⟨htok _ (by decide +kernel), ?_⟩; (first | with_reducible refine hK _ _ ?_ | refine obK (hK _ _ ?_)); clear hK K htok tok)
       exact hqX
     have hse : sgE s2 = sgE sg ++ [[B true, str w, I 0, str [], str [], I 0, .sl 5 (tsE [])]] := by rw [hs2]; simp [sgE, sgC, tsC_c, tz, B, I, str]
     refine eY hY ((j, s2, a5)) (mkWk [some 0, some 1, some 2, some 3] [] (by simp [wkEnv, lk, lkh, I, str, B, U8, U64, U32, hse, hsl, nilV, B, idLtL, idLt] <;> omega) (by first | (simp [wkHp, wkHp1, wkEnt, lkh, hse, hsl, nilV, B, idLtL, idLt]; done) | simp [wkHp, wkHp1, wkEnt, lkh, I, str, hse, hsl, nilV, B, idLtL, idLt]))
   · have dc : ((c : Int) == 1) = false := by simp; omega
     simp only [dc]
     obtain ⟨_, ⟨t2, a5, rfl, tb2, ha5⟩, q2⟩ := test24 1 (by omega) L hL a4 ha4
     simp only [tsC_c] at q2
     obtain ⟨s2, hs2⟩ : ∃ s2, s2 = sg ++ [⟨false, [], t2⟩] := ⟨_, rfl⟩
     have hsl : s2.length = sg.length + 1 := by rw [hs2]; simp
     have hsm : ∀ x ∈ s2, TsB 1 x.test := by
       intro x hx
       rw [hs2] at hx
       rcases List.mem_append.1 hx with hx | hx
       · exact g3 x hx
       · rw [List.mem_singleton.1 hx]; exact tb2
     apply EX.step
     · intro xX C hN hk hqX
       repeat first | (with_reducible first | apply s1 | apply s2 | apply s5 | apply s6 | refine s7 ?_ | apply s3 | apply s4 | apply s8 | apply s9) | refine AW.condT rfl ?_ | refine AW.condF rfl ?_ | (refine AW.rT mixed hN hk (atO 7 (onc 3 (ocq 0 q2) noc) noO) kt11 [0] rfl (by decide +kernel) (fun K hK => ?_); simp only [go_sem, seval, kt11, e2, w8]; (iterate 3 (try simp (disch := omega) only [au]; try simp only [go_sem, seval, kt11, e2, w8])); (first | with_reducible refine hK _ _ ?_ | refine obK (hK _ _ ?_)); clear hK K) | (refine AW.rD mixed hN hk (atO 7 (onc 3 (ocq 0 q2) noc) noO) kt11 [0] rfl (by decide +kernel) (fun K tok htok hK => ?_); simp only [go_sem, seval, kt11, e2, w8]; (iterate 3 (try simp (disch := omega) only [au]; try simp only [go_sem, seval, kt11, e2, w8])); refine ⟨htok _ (by decide +kernel), ?_⟩; (first | with_reducible refine hK _ _ ?_ | refine obK (hK _ _ ?_)); clear hK K htok tok)
       exact hqX
     have hse : sgE s2 = sgE sg ++ [[.val (.bool false), .val (.string ⟨#[]⟩), .val (.int .i64 t2.op), .val (.string ⟨t2.name.toArray⟩), .val (.string ⟨t2.text.toArray⟩), .val (.int .i64 t2.num), .sl 5 (tsE t2.kids)]] := by rw [hs2]; simp [sgE, sgC, tsC_c, B, I, str]
     refine eY hY ((j, s2, a5)) (mkWk [some 0, some 1, some 2, some 3] [] (by simp [wkEnv, lk, lkh, I, str, B, U8, U64, U32, hse, hsl, nilV, B, idLtL, idLt] <;> omega) (by first | (simp [wkHp, wkHp1, wkEnt, lkh, hse, hsl, nilV, B, idLtL, idLt]; done) | simp [wkHp, wkHp1, wkEnt, lkh, I, str, hse, hsl, nilV, B, idLtL, idLt]))
 | zero =>
   have hs : sg.length ≤ 2 ∧ ∀ x ∈ sg, TsB 1 x.test := ⟨by omega, g3⟩
   have d0 : decide (((0 : Nat) : Int) > 0) = false := by simp
   obtain ⟨k, a4, ha4, klt, q1⟩ := next13 L hL a3 5 ha3 (by omega) (by omega)
   apply EX.step
   · intro xX C hN hk hqX
     repeat first | with_reducible refine AW.seq ?_ | with_reducible refine AW.block ?_
     refine rG hN hk noc [0] [0, 2, 3, 4, 13] fun K hK => ?_; simp only [go_sem, seval, d0]
     try simp (disch := omega) only [au]
     refine hK _ _ ?_; clear hK K
     repeat first | with_reducible refine qBlock ?_ | with_reducible refine qNext ?_
     exact hqX
   apply EX.step
   · intro xX C hN hk hqX
     repeat first | with_reducible refine AW.seq ?_ | with_reducible refine AW.block ?_
     refine cF ?_
     try first | refine AW.skip ?_ | refine AW.exit ?_
     repeat first | with_reducible refine qThen ?_ | with_reducible refine qHere ?_ | with_reducible refine qOut (by decide) ?_ | with_reducible refine qBlock ?_ | with_reducible refine qNext ?_
     exact hqX
   refine EX.wk 4 (st11 L t sg a3) (by simp only [st11, cdE]; exact ⟨[some 0, some 1, some 2, some 3], [], ⟨by simp [srcIds], by simp [srcIds], by simp⟩, by simp, by simp [wkEnv, lk, lkh, I, str], by simp [wkHp, wkHp1, wkEnt, lkh, nilV, B, I, str]⟩) ?_
   obtain rfl | rfl | rfl | rfl | rfl : k = 0 ∨ k = 1 ∨ k = 2 ∨ k = 3 ∨ k = 4 := by omega
   · exact query11_0 L hL t tb sg hs a3 a4 ha4 q1
   · exact query11_1 L hL t tb sg hs a3 a4 ha4 q1
   · exact query11_2 L hL t tb sg hs a3 a4 ha4 q1
   · exact query11_3 L hL t tb sg hs a3 a4 ha4 q1
   · exact query11_4 L hL t tb sg hs a3 a4 ha4 q1
theorem selF_snoc : ∀ (l : List Ev) (x : Ev) (p : Nat → Bool), selF (l ++ [x]) p = selF l p ++ (if p l.length then [x] else [])
 | [], x, p => by simp [selF]
 | y :: l, x, p => by
   simp only [List.cons_append, selF, selF_snoc l x, List.length_cons]
   split <;> rfl
theorem selF_congr : ∀ (l : List Ev) (p q : Nat → Bool), (∀ i, i < l.length → p i = q i) → selF l p = selF l q
 | [], _, _, _ => rfl
 | y :: l, p, q, h => by
   simp only [selF]
   rw [h 0 (by simp), selF_congr l _ (fun i => q (i + 1)) (fun i hi => h (i + 1) (by simp; omega))]
/-- Which events are in list j. -/
def pOf (C : List (Nat × Option Nat)) (j i : Nat) : Bool := match C[i]? with
 | some (k, o) => j == k || o == some j
 | none => false
def scX (l : List Ev) (m : Nat) (C : List (Nat × Option Nat)) : List (List Ev) := (List.range m).map fun j => selF (l.take C.length) (pOf C j)
def addEv (X : List (List Ev)) (p : Nat) (x : Ev) : List (List Ev) := X.set p (X.getD p [] ++ [x])
theorem addEv_len (X : List (List Ev)) (p : Nat) (f : Ev) : (addEv X p f).length = X.length := by simp [addEv]
theorem scX_len (l : List Ev) (m : Nat) (C : List (Nat × Option Nat)) : (scX l m C).length = m := by simp [scX]
theorem scX_at (l : List Ev) (m : Nat) (C : List (Nat × Option Nat)) (j : Nat) (h : j < m) : (scX l m C).getD j [] = selF (l.take C.length) (pOf C j) := by simp [scX, List.getD, h]
theorem scX_0 (l : List Ev) (m : Nat) : scX l m [] = List.replicate m [] := by
 unfold scX
 simp only [List.length_nil, List.take_zero, selF]
 rw [List.map_const', List.length_range]
theorem addEv_at (X : List (List Ev)) (p j : Nat) (x : Ev) (hp : p < X.length) : (addEv X p x).getD j [] = X.getD j [] ++ (if j == p then [x] else []) := by
 unfold addEv
 by_cases h : j = p
 · subst h; simp [List.getD, hp]
 · have : (j == p) = false := by simpa using h
   simp [List.getD, List.getElem?_set_ne (Ne.symm h), this]
theorem ext_getD' {A B : List (List Ev)} (h : A.length = B.length) (hg : ∀ j, j < A.length → A.getD j [] = B.getD j []) : A = B := by
 apply List.ext_getElem h
 intro j h1 h2
 have := hg j h1
 simpa [List.getD, h1, h2] using this
theorem scX_s (l : List Ev) (m : Nat) (C : List (Nat × Option Nat)) (h : C.length < l.length) (k : Nat) (hk : k < m) (o : Option Nat) (ho : ∀ k2, o = some k2 → k2 < m ∧ k2 ≠ k) :
   scX l m (C ++ [(k, o)]) = match o with
     | none => addEv (scX l m C) k l[C.length]
     | some k2 => addEv (addEv (scX l m C) k l[C.length]) k2 l[C.length] := by
 have key : ∀ j, j < m → (scX l m (C ++ [(k, o)])).getD j [] = (scX l m C).getD j [] ++ (if (j == k || o == some j) then [l[C.length]] else []) := by
   intro j hj
   rw [scX_at _ _ _ _ hj, scX_at _ _ _ _ hj, List.length_append, List.length_singleton, List.take_add_one, List.getElem?_eq_getElem h]
   simp only [Option.toList]
   rw [selF_snoc]
   have h1 : (l.take C.length).length = C.length := by simp; omega
   rw [h1]
   congr 1
   · apply selF_congr
     intro i hi
     rw [h1] at hi
     unfold pOf
     rw [List.getElem?_append_left hi]
   · have : pOf (C ++ [(k, o)]) j C.length = (j == k || o == some j) := by
       unfold pOf
       rw [List.getElem?_append_right (Nat.le_refl _)]
       simp
     rw [this]
 cases o with
 | none =>
   apply ext_getD'
   · rw [addEv_len, scX_len, scX_len]
   · intro j hj
     rw [scX_len] at hj
     rw [key j hj, addEv_at _ _ _ _ (by rw [scX_len]; exact hk)]
     simp
 | some k2 =>
   obtain ⟨h1, h2⟩ := ho k2 rfl
   apply ext_getD'
   · rw [addEv_len, addEv_len, scX_len, scX_len]
   · intro j hj
     rw [scX_len] at hj
     rw [key j hj, addEv_at _ _ _ _ (by rw [addEv_len, scX_len]; exact h1), addEv_at _ _ _ _ (by rw [scX_len]; exact hk), List.append_assoc]
     congr 1
     by_cases e1 : j = k
     · subst e1
       have : (j == k2) = false := by simpa using Ne.symm h2
       simp [this, Ne.symm h2, h2]
     · have e1' : (j == k) = false := by simpa using e1
       by_cases e2 : j = k2
       · subst e2; simp [e1']
       · have e2' : (j == k2) = false := by simpa using e2
         have : ¬ k2 = j := fun h => e2 h.symm
         simp [e1', e2', this]
theorem scX_all (l : List Ev) (m : Nat) (C : List (Nat × Option Nat)) (h : C.length = l.length) : scX l m C = ((List.range m).map (pOf C)).map (selF l) := by
 unfold scX
 rw [h, List.take_length, List.map_map]; rfl
theorem pOf_any (l : List Ev) (m : Nat) (C : List (Nat × Option Nat)) (h : C.length = l.length) (hC : ∀ c ∈ C, c.1 < m) (i : Nat) (hi : i < l.length) : ((List.range m).map (pOf C)).any (fun p => p i) = true := by
 have hx : C[i]? = some C[i] := List.getElem?_eq_getElem (by omega)
 rw [List.any_map, List.any_eq_true]
 refine ⟨C[i].1, List.mem_range.2 (hC _ (List.getElem_mem _)), ?_⟩
 simp only [Function.comp, pOf, hx]
 simp
theorem sorted_len : ∀ (f d : List S), f.Pairwise ltS → d.Pairwise ltS → (∀ x ∈ d, x ∈ f) → d.length ≤ f.length
 | [], d, _, _, h => by
   cases d with
   | nil => simp
   | cons x d => exact absurd (h x (by simp)) (by simp)
 | y :: f, [], _, _, _ => by simp
 | y :: f, x :: d, hf, hd, h => by
   have hf1 := List.pairwise_cons.1 hf
   have hd1 := List.pairwise_cons.1 hd
   by_cases e : x = y
   · subst e
     have := sorted_len f d hf1.2 hd1.2 (fun z hz => by
       rcases List.mem_cons.1 (h z (by simp [hz])) with e | e
       · have := hd1.1 z hz
         rw [e] at this
         exact absurd this (ltS_irrefl _)
       · exact e)
     simp; omega
   · have hxf : x ∈ f := by
       rcases List.mem_cons.1 (h x (by simp)) with h | h
       · exact absurd h e
       · exact h
     have hyx := hf1.1 x hxf
     have := sorted_len f (x :: d) hf1.2 hd (fun z hz => by
       rcases List.mem_cons.1 (h z hz) with e2 | e2
       · rcases List.mem_cons.1 hz with e3 | e3
         · subst e3; exact absurd e2 e
         · have := ltS_trans hyx (hd1.1 z e3)
           rw [e2] at this
           exact absurd this (ltS_irrefl _)
       · exact e2)
     simp at this ⊢; omega
theorem txTo_short (L : List Ln) (h : ∀ x ∈ L, x.text.length ≤ 100) : ∀ i, (txTo L i).length ≤ i * 101
 | 0 => by simp [txTo]
 | i + 1 => by
   have := txTo_short L h i
   have h2 : (if 0 < i then [10] else [] : S).length ≤ 1 := by split <;> simp
   rw [txTo]
   cases hx : L[i]? with
   | none => simp only [List.length_append, List.length_nil]; omega
   | some x =>
     have := h x (List.mem_of_getElem? hx)
     simp only [List.length_append]; omega
theorem wsTo_le (l : List Ev) (h : ∀ e ∈ l, DrE e) : ∀ i, i ≤ l.length → (wsTo l i).length ≤ i * 304
 | 0, _ => by simp [wsTo]
 | i + 1, hi => by
   have h1 := wsTo_le l h i (by omega)
   have hd := h l[i] (List.getElem_mem _)
   have h2 := txTo_short l[i].lines hd.tx l[i].lines.length
   have h3 := wordsF_len (textF l[i])
   have h4 := hd.nl
   have h5 : (textF l[i]).length ≤ 303 := by unfold textF; omega
   rw [wsTo_s l i (by omega), List.length_append]; omega
theorem segG_of {l : List Ev} (ha : Asc l) (hd : ∀ e ∈ l, DrE e) (hl : l.length ≤ 36) : SegG l := by
 refine ⟨by omega, fun e he => (hd e he).good, ha, ?_, ?_⟩
 · have := sorted_len fnL (allNames l) fnL_asc (distF_sorted _) (by
     intro x hx
     unfold allNames at hx
     have hx := (distF_mem _ _).1 hx
     unfold nmTo at hx
     obtain ⟨e, he, hx⟩ := List.mem_flatMap.1 hx
     obtain ⟨f, hf, rfl⟩ := List.mem_map.1 hx
     exact (hd e (List.mem_of_mem_take he)).fn f hf)
   have h4 : fnL.length = 4 := rfl
   omega
 · have h1 := distF_len (wsTo l l.length)
   have h2 := wsTo_le l hd l.length (Nat.le_refl _)
   unfold allWords; omega
theorem segG_sub {l l' : List Ev} (hs : l'.Sublist l) (ha : Asc l) (hd : ∀ e ∈ l, DrE e) (hl : l.length ≤ 36) : SegG l' :=
 segG_of (ha.sublist hs) (fun e he => hd e (hs.subset he)) (by have := hs.length_le; omega)
end Go.Proofs.YtceeklfmlheofaaGreat
