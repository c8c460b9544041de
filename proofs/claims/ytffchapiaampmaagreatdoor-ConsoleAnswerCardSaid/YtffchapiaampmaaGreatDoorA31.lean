/-
  Part 31 of the proof that logtidelaw45.ConsoleAnswer returns true for every list of bytes and every text, and leaves both as they were.
-/
import Derived.Test.YtffchapiaampmaaGreatDoorA30
set_option linter.unusedSimpArgs false
set_option linter.unusedVariables false
namespace Go.Proofs.YtffchapiaampmaaGreatDoor
open Go.Av
attribute [local irreducible] ACall
theorem tsE_one (t : Ts) : tsE [t] = [[.val (.int .i64 t.op), .val (.string ⟨t.name.toArray⟩), .val (.string ⟨t.text.toArray⟩), .val (.int .i64 t.num), .sl 5 (tsE t.kids)]] := by rw [← tsC_c]; rfl
theorem test24 : ∀ (d : Nat), d ≤ 2 → ∀ (L : List UInt8) (hL : L.length ≤ 2 ^ 20) (a : Nat) (ha : a ≤ L.length), ACallE Tryz.prog 13 [.ptr 0 2 0 0, I d] [some (cdE L a)] (R24 L d)
 | 0, hd, L, hL, a, ha => by
   obtain ⟨k0, a1, ha1, k0lt, q0⟩ := next13 L hL a 15 ha (by omega) (by omega)
   obtain ⟨k, a2, ha2, klt, q1⟩ := next13 L hL a1 10 ha1 (by omega) (by omega)
   refine acallE 131 1 Tryz.func13 rfl rfl rfl (by simp) rfl rfl ?_
   apply EX.step
   · intro xX C hN hk hqX
     repeat first | with_reducible refine AW.seq ?_ | with_reducible refine AW.block ?_
     refine rG hN hk noc [0] [0, 1, 4] fun K hK => ?_; simp only [go_sem, seval]; refine hK _ _ ?_
     clear hK K
     repeat first | with_reducible refine qBlock ?_ | with_reducible refine qNext ?_
     exact hqX
   apply EX.step
   · intro xX C hN hk hqX
     repeat first | with_reducible refine AW.seq ?_ | with_reducible refine AW.block ?_
     refine rG hN hk (onc 1 (ocq 0 q0) noc) [0] [0, 1, 4, 5] fun K hK => ?_; simp only [go_sem, seval]; refine obK (hK _ _ ?_)
     clear hK K
     repeat first | with_reducible refine qBlock ?_ | with_reducible refine qNext ?_
     exact hqX
   apply EX.step
   · intro xX C hN hk hqX
     repeat first | with_reducible refine AW.seq ?_ | with_reducible refine AW.block ?_
     refine rG hN hk noc [0] [0, 1, 4, 5, 12] fun K hK => ?_; simp only [go_sem, seval]
     try simp (disch := omega) only [au]
     refine hK _ _ ?_; clear hK K
     repeat first | with_reducible refine qBlock ?_ | with_reducible refine qNext ?_
     exact hqX
   apply EX.step
   · intro xX C hN hk hqX
     repeat first | with_reducible refine AW.seq ?_ | with_reducible refine AW.block ?_
     refine cT ?_
     try first | refine AW.skip ?_ | refine AW.exit ?_
     repeat first | with_reducible refine qThen ?_ | with_reducible refine qHere ?_ | with_reducible refine qOut (by decide) ?_ | with_reducible refine qBlock ?_ | with_reducible refine qNext ?_
     exact hqX
   apply EX.step
   · intro xX C hN hk hqX
     repeat first | with_reducible refine AW.seq ?_ | with_reducible refine AW.block ?_
     refine rG hN hk (onc 1 (ocq 0 q1) noc) [0] [0, 1, 4, 5] fun K hK => ?_; simp only [go_sem, seval]; refine obK (hK _ _ ?_)
     clear hK K
     repeat first | with_reducible refine qBlock ?_ | with_reducible refine qNext ?_
     exact hqX
   clear q0 q1
   obtain rfl | rfl | rfl | rfl | rfl | rfl | rfl | rfl | rfl | rfl : k = 0 ∨ k = 1 ∨ k = 2 ∨ k = 3 ∨ k = 4 ∨ k = 5 ∨ k = 6 ∨ k = 7 ∨ k = 8 ∨ k = 9 := by omega
   · exact test24_0 L hL 0 a2 ha2
   · exact test24_1 L hL 0 a2 ha2
   · exact test24_2 L hL 0 a2 ha2
   · exact test24_3 L hL 0 a2 ha2
   · exact test24_4 L hL 0 a2 ha2
   · exact test24_5 L hL 0 a2 ha2
   · exact test24_6 L hL 0 a2 ha2
   · exact test24_7 L hL 0 a2 ha2
   · exact test24_8 L hL 0 a2 ha2
   · exact test24_9 L hL 0 a2 ha2
 | d + 1, hd, L, hL, a, ha => by
   have IH := test24 d (by omega)
   obtain ⟨k, a2, ha2, klt, q0⟩ := next13 L hL a 15 ha (by omega) (by omega)
   have dd : (((d + 1 : Nat) : Int) == 0) = false := by simp; omega
   have e1 : (((d + 1 : Nat) : Int) - 1) = (d : Int) := by omega
   have wd := wrap64 (n := (d : Int)) (by omega)
   refine acallE 131 1 Tryz.func13 rfl rfl rfl (by simp) rfl rfl ?_
   apply EX.step
   · intro xX C hN hk hqX
     repeat first | with_reducible refine AW.seq ?_ | with_reducible refine AW.block ?_
     refine rG hN hk noc [0] [0, 1, 4] fun K hK => ?_; simp only [go_sem, seval]; refine hK _ _ ?_
     clear hK K
     repeat first | with_reducible refine qBlock ?_ | with_reducible refine qNext ?_
     exact hqX
   apply EX.step
   · intro xX C hN hk hqX
     repeat first | with_reducible refine AW.seq ?_ | with_reducible refine AW.block ?_
     refine rG hN hk (onc 1 (ocq 0 q0) noc) [0] [0, 1, 4, 5] fun K hK => ?_; simp only [go_sem, seval]; refine obK (hK _ _ ?_)
     clear hK K
     repeat first | with_reducible refine qBlock ?_ | with_reducible refine qNext ?_
     exact hqX
   apply EX.step
   · intro xX C hN hk hqX
     repeat first | with_reducible refine AW.seq ?_ | with_reducible refine AW.block ?_
     refine rG hN hk noc [0] [0, 1, 4, 5, 12] fun K hK => ?_; simp only [go_sem, seval, dd]
     try simp (disch := omega) only [au]
     refine hK _ _ ?_; clear hK K
     repeat first | with_reducible refine qBlock ?_ | with_reducible refine qNext ?_
     exact hqX
   apply EX.step
   · intro xX C hN hk hqX
     repeat first | with_reducible refine AW.seq ?_ | with_reducible refine AW.block ?_
     refine cF ?_
     try first | refine AW.skip ?_ | refine AW.exit ?_
     repeat first | with_reducible refine qThen ?_ | with_reducible refine qHere ?_ | with_reducible refine qOut (by decide) ?_ | with_reducible refine qBlock ?_ | with_reducible refine qNext ?_
     exact hqX
   clear q0
   refine EX.wk 2 ⟨[(0, .ptr 0 2 0 0), (1, I (d + 1 : Nat)), (4, .ptr 1 5 0 0), (5, I k)], [(0, some (cdE L a2)), (1, some ⟨28, 5, [[I 0, str [], str [], I 0, nilV]]⟩)]⟩ ⟨[some 0, some 1], [], ⟨by simp [srcIds], by simp [srcIds], by simp⟩, by simp, by simp [wkEnv, lk, lkh, I, str], by simp [wkHp, wkHp1, wkEnt, lkh, cdE, nilV, I, str]⟩ ?_
   obtain rfl | rfl | rfl | rfl | rfl | rfl | rfl | rfl | rfl | rfl | rfl | hk : k = 0 ∨ k = 1 ∨ k = 2 ∨ k = 3 ∨ k = 4 ∨ k = 5 ∨ k = 6 ∨ k = 7 ∨ k = 8 ∨ k = 9 ∨ k = 10 ∨ 11 ≤ k := by omega
   · exact test24_0 L hL (d + 1) a2 ha2
   · exact test24_1 L hL (d + 1) a2 ha2
   · exact test24_2 L hL (d + 1) a2 ha2
   · exact test24_3 L hL (d + 1) a2 ha2
   · exact test24_4 L hL (d + 1) a2 ha2
   · exact test24_5 L hL (d + 1) a2 ha2
   · exact test24_6 L hL (d + 1) a2 ha2
   · exact test24_7 L hL (d + 1) a2 ha2
   · exact test24_8 L hL (d + 1) a2 ha2
   · exact test24_9 L hL (d + 1) a2 ha2
   · simp only [cdE, nilV]
     obtain ⟨_, ⟨t0, a3, rfl, tb, ha3⟩, qt⟩ := IH L hL a2 ha2
     simp only [tsC_c] at qt
     apply EX.step
     · intro xX C hN hk hqX
       repeat first | (with_reducible first | apply s1 | apply s2 | apply s5 | apply s6 | refine s7 ?_ | apply s3 | apply s4 | apply s8 | apply s9) | refine AW.condT rfl ?_ | refine AW.condF rfl ?_ | (refine AW.rT mixed hN hk (atO 30 (onc 3 (ocq 0 qt) noc) noO) kt13 [0] rfl (by decide +kernel) (fun K hK => ?_); simp only [go_sem, seval, kt13, e1, wd]; (iterate 3 (try simp (disch := omega) only [au]; try simp only [go_sem, seval, kt13, e1, wd])); (first | with_reducible refine hK _ _ ?_ | refine obK (hK _ _ ?_)); clear hK K) | (refine AW.rD mixed hN hk (atO 30 (onc 3 (ocq 0 qt) noc) noO) kt13 [0] rfl (by decide +kernel) (fun K tok htok hK => ?_); simp only [go_sem, seval, kt13, e1, wd]; (iterate 3 (try simp (disch := omega) only [au]; try simp only [go_sem, seval, kt13, e1, wd])); refine ⟨htok _ (by decide +kernel), ?_⟩; (first | with_reducible refine hK _ _ ?_ | refine obK (hK _ _ ?_)); clear hK K htok tok)
       exact hqX
     refine EX.ret (.agg (tsC (.mk 5 [] [] 0 [t0]))) [some (cdE L a3)] ?_ (fun C hN hk => AW.ret (mkRet [some 0] [2] (by simp only [resList, go_sem, seval]; rfl) (by simp [resOf, lk, lkh, I, str, B, U8, U64, U32, cdE, tsC_c, tsE_one] <;> omega) (by first | (simp [wkHp, wkHp1, wkEnt, lkh, cdE, tsC_c, tsE_one]; done) | simp [wkHp, wkHp1, wkEnt, lkh, I, str, cdE, tsC_c, tsE_one])))
     exact ⟨_, a3, rfl, ⟨by simp, by simp, by simp, by unfold In64; simp, by simp, by intro k hk; rw [ts_kids] at hk; rw [List.mem_singleton.1 hk]; exact tb⟩, ha3⟩
   · have n0 : ((k : Int) == 0) = false := by simp; omega
     have n1 : ((k : Int) == 1) = false := by simp; omega
     have n2 : ((k : Int) == 2) = false := by simp; omega
     have n3 : ((k : Int) == 3) = false := by simp; omega
     have n4 : ((k : Int) == 4) = false := by simp; omega
     have n5 : ((k : Int) == 5) = false := by simp; omega
     have n6 : ((k : Int) == 6) = false := by simp; omega
     have n7 : ((k : Int) == 7) = false := by simp; omega
     have n8 : ((k : Int) == 8) = false := by simp; omega
     have n9 : ((k : Int) == 9) = false := by simp; omega
     have n10 : ((k : Int) == 10) = false := by simp; omega
     have er : (k : Int).tmod 2 = (k : Int) % 2 := Int.tmod_eq_emod_of_nonneg (by omega)
     have w6 := wrap64 (n := 6 + (k : Int) % 2) (by omega)
     obtain ⟨op, hop⟩ : ∃ op, op = 6 + (k : Int) % 2 := ⟨_, rfl⟩
     have ho : 0 ≤ op ∧ op ≤ 11 := by omega
     rw [← hop] at w6
     obtain ⟨m, a3, ha3, mlt, q2⟩ := next13 L hL a2 2 ha2 (by omega) (by omega)
     have w7 := wrap64 (n := 2 + (m : Int)) (by omega)
     simp only [cdE, nilV]
     apply EX.step
     · intro xX C hN hk hqX
       repeat first | (with_reducible first | apply s1 | apply s2 | apply s5 | apply s6 | refine s7 ?_ | apply s3 | apply s4 | apply s8 | apply s9) | refine AW.condT rfl ?_ | refine AW.condF rfl ?_ | (refine AW.rT mixed hN hk (atO 32 (onc 1 (ocq 0 q2) noc) noO) kt13 [0] rfl (by decide +kernel) (fun K hK => ?_); simp only [go_sem, seval, kt13, n0, n1, n2, n3, n4, n5, n6, n7, n8, n9, n10, er, ← hop, w6, w7]; (iterate 3 (try simp (disch := omega) only [au]; try simp only [go_sem, seval, kt13, n0, n1, n2, n3, n4, n5, n6, n7, n8, n9, n10, er, ← hop, w6, w7])); (first | with_reducible refine hK _ _ ?_ | refine obK (hK _ _ ?_)); clear hK K) | (refine AW.rD mixed hN hk (atO 32 (onc 1 (ocq 0 q2) noc) noO) kt13 [0] rfl (by decide +kernel) (fun K tok htok hK => ?_); simp only [go_sem, seval, kt13, n0, n1, n2, n3, n4, n5, n6, n7, n8, n9, n10, er, ← hop, w6, w7]; (iterate 3 (try simp (disch := omega) only [au]; try simp only [go_sem, seval, kt13, n0, n1, n2, n3, n4, n5, n6, n7, n8, n9, n10, er, ← hop, w6, w7])); refine ⟨htok _ (by decide +kernel), ?_⟩; (first | with_reducible refine hK _ _ ?_ | refine obK (hK _ _ ?_)); clear hK K htok tok)
       exact hqX
     have hm2 : 2 + (m : Int) = ((m + 2 : Nat) : Int) := by omega
     simp only [hm2]
     clear q2 n0 n1 n2 n3 n4 n5 n6 n7 n8 n9 n10 er w6 w7 hm2 hop
     apply EX.step
     · intro xX C hN hk hqX
       repeat first | with_reducible refine AW.seq ?_ | with_reducible refine AW.block ?_
       exact hqX
     refine lpX 4 (fun s : Nat × List Ts × Nat => ⟨[(0, .ptr 0 2 0 0), (1, I (d + 1 : Nat)), (4, .ptr 1 5 0 0), (7, .ptr 2 5 0 0), (8, I s.1)], [(0, some ⟨48, 2, [[.sl 1 (bytesE L), I s.2.2]]⟩), (1, some ⟨28, 5, [[I 0, str [], str [], I 0, nilV]]⟩), (2, some ⟨28, 5, [[I op, str [], str [], I 0, .osl 3 s.2.1.length 5]]⟩), (3, some ⟨28, 5, tsE s.2.1⟩)]⟩) (fun s => s.2.1.length + s.1 ≤ 3 ∧ s.2.2 ≤ L.length ∧ ∀ t ∈ s.2.1, TsB d t) (fun s => s.1) (m + 2, [], a3) (mkWk [some 0, some 1, some 2, none] [] (by simp [wkEnv, lk, lkh, I, str, B, U8, U64, U32, nilV] <;> omega) (by first | (simp [wkHp, wkHp1, wkEnt, lkh, nilV]; done) | simp [wkHp, wkHp1, wkEnt, lkh, I, str, nilV])) ?_
     intro ⟨j, ks, a4⟩ hI Y hY
     obtain ⟨g1, g2, g3⟩ := hI
     simp only at g1 g2 g3
     cases j with
     | succ j =>
       obtain ⟨_, ⟨t0, a5, rfl, tb, ha5⟩, qt⟩ := IH L hL a4 g2
       simp only [tsC_c] at qt
       have d0 : decide (((j + 1 : Nat) : Int) > 0) = true := by simp
       have e2 : (((j + 1 : Nat) : Int) - 1) = (j : Int) := by omega
       have w8 := wrap64 (n := (j : Int)) (by omega)
       obtain ⟨k2, hk2⟩ : ∃ k2, k2 = ks ++ [t0] := ⟨_, rfl⟩
       have hkl : k2.length = ks.length + 1 := by rw [hk2]; simp
       have hkm : ∀ t ∈ k2, TsB d t := by
         intro t ht
         rw [hk2] at ht
         rcases List.mem_append.1 ht with ht | ht
         · exact g3 t ht
         · rw [List.mem_singleton.1 ht]; exact tb
       apply EX.step
       · intro xX C hN hk hqX
         repeat first | (with_reducible first | apply s1 | apply s2 | apply s5 | apply s6 | refine s7 ?_ | apply s3 | apply s4 | apply s8 | apply s9) | refine AW.condT rfl ?_ | refine AW.condF rfl ?_ | (refine AW.rT mixed hN hk (atO 35 (onc 5 (ocq 0 qt) noc) noO) kt13 [0] rfl (by decide +kernel) (fun K hK => ?_); simp only [go_sem, seval, kt13, d0, e1, wd, e2, w8]; (iterate 3 (try simp (disch := omega) only [au]; try simp only [go_sem, seval, kt13, d0, e1, wd, e2, w8])); (first | with_reducible refine hK _ _ ?_ | refine obK (hK _ _ ?_)); clear hK K) | (refine AW.rD mixed hN hk (atO 35 (onc 5 (ocq 0 qt) noc) noO) kt13 [0] rfl (by decide +kernel) (fun K tok htok hK => ?_); simp only [go_sem, seval, kt13, d0, e1, wd, e2, w8]; (iterate 3 (try simp (disch := omega) only [au]; try simp only [go_sem, seval, kt13, d0, e1, wd, e2, w8])); refine ⟨htok _ (by decide +kernel), ?_⟩; (first | with_reducible refine hK _ _ ?_ | refine obK (hK _ _ ?_)); clear hK K htok tok)
         exact hqX
       refine eY hY ((j, k2, a5)) (mkWk [some 0, some 1, some 2, some 3] [] (by simp [wkEnv, lk, lkh, I, str, B, U8, U64, U32, hk2, hkl, nilV] <;> omega) (by first | (simp [wkHp, wkHp1, wkEnt, lkh, hk2, hkl, nilV]; done) | simp [wkHp, wkHp1, wkEnt, lkh, I, str, hk2, hkl, nilV]))
     | zero =>
       have d0 : decide (((0 : Nat) : Int) > 0) = false := by simp
       apply EX.step
       · intro xX C hN hk hqX
         repeat first | (with_reducible first | apply s1 | apply s2 | apply s5 | apply s6 | refine s7 ?_ | apply s3 | apply s4 | apply s8 | apply s9) | refine AW.condT rfl ?_ | refine AW.condF rfl ?_ | (refine AW.rT mixed hN hk noO kt13 [0] rfl (by decide +kernel) (fun K hK => ?_); simp only [go_sem, seval, kt13, d0]; (iterate 3 (try simp (disch := omega) only [au]; try simp only [go_sem, seval, kt13, d0])); (first | with_reducible refine hK _ _ ?_ | refine obK (hK _ _ ?_)); clear hK K) | (refine AW.rD mixed hN hk noO kt13 [0] rfl (by decide +kernel) (fun K tok htok hK => ?_); simp only [go_sem, seval, kt13, d0]; (iterate 3 (try simp (disch := omega) only [au]; try simp only [go_sem, seval, kt13, d0])); refine ⟨htok _ (by decide +kernel), ?_⟩; (first | with_reducible refine hK _ _ ?_ | refine obK (hK _ _ ?_)); clear hK K htok tok)
         exact hqX
       refine EX.ret (.agg (tsC (.mk op [] [] 0 ks))) [some (cdE L a4)] ?_ (fun C hN hk => AW.ret (mkRet [some 0] [2] (by simp only [resList, go_sem, seval]; rfl) (by simp [resOf, lk, lkh, I, str, B, U8, U64, U32, cdE, tsC_c] <;> omega) (by first | (simp [wkHp, wkHp1, wkEnt, lkh, cdE, tsC_c]; done) | simp [wkHp, wkHp1, wkEnt, lkh, I, str, cdE, tsC_c])))
       exact ⟨_, a4, rfl, ⟨by simp, by simp, ho, by unfold In64; simp, by rw [ts_kids]; omega, by intro k hk; rw [ts_kids] at hk; exact g3 k hk⟩, g2⟩
structure Sg where
 ext : Bool
 src : S
 test : Ts
def sgC (x : Sg) : List AV := B x.ext :: str x.src :: tsC x.test
def sgE (l : List Sg) : List (List AV) := l.map sgC
theorem sgE_len (l : List Sg) : (sgE l).length = l.length := by simp [sgE]
theorem sgE_getE (l : List Sg) (i : Nat) : (sgE l)[i]? = (l[i]?).map sgC := by simp [sgE]
@[simp] theorem sgE_id (k : Nat) (l : List Sg) : idLtE k (sgE l) = true := by
 simp only [idLtE, sgE, List.all_map, List.all_eq_true]
 intro x _
 obtain ⟨a, b, ⟨⟩⟩ := x; rfl
@[simp] theorem sgE_st (l : List Sg) : (sgE l).all (fun c => c.all storable) = true := by
 simp only [sgE, List.all_map, List.all_eq_true]
 intro x _
 obtain ⟨a, b, ⟨⟩⟩ := x; rfl
theorem sgE_drop (l : List Sg) (i : Nat) : (sgE l).drop i = sgE (l.drop i) := by simp [sgE]
theorem sgE_take (l : List Sg) (i : Nat) : (sgE l).take i = sgE (l.take i) := by simp [sgE]
theorem sgE_ren (L : List Nat) (l : List Sg) : renCE L (sgE l) = sgE l := by
 simp only [renCE, sgE, List.map_map]
 apply List.map_congr_left
 intro x _
 obtain ⟨a, b, ⟨⟩⟩ := x; rfl
theorem sgE_renE (ρ : Nat → Nat) (l : List Sg) : (sgE l).map (renL ρ) = sgE l := renE_noid ρ (sgE_id 0 l)
theorem sgE_snoc (l : List Sg) (x : Sg) : sgE l ++ [[.val (.bool x.ext), .val (.string ⟨x.src.toArray⟩), .val (.int .i64 x.test.op), .val (.string ⟨x.test.name.toArray⟩), .val (.string ⟨x.test.text.toArray⟩), .val (.int .i64 x.test.num), .sl 5 (tsE x.test.kids)]] = sgE (l ++ [x]) := by simp [sgE, sgC, tsC_c, B, I, str]
theorem sgE_snoc' (l : List Sg) (x : Sg) : sgE l ++ [sgC x] = sgE (l ++ [x]) := by simp [sgE]
theorem sgE_app (l m : List Sg) : sgE l ++ sgE m = sgE (l ++ m) := by simp [sgE]
@[simp] theorem sgE_nil : sgE [] = [] := rfl
theorem sgE_set (l : List Sg) (i : Nat) (x : Sg) : (sgE l).set i [.val (.bool x.ext), .val (.string ⟨x.src.toArray⟩), .val (.int .i64 x.test.op), .val (.string ⟨x.test.name.toArray⟩), .val (.string ⟨x.test.text.toArray⟩), .val (.int .i64 x.test.num), .sl 5 (tsE x.test.kids)] = sgE (l.set i x) := by simp [sgE, List.map_set, sgC, tsC_c, B, I, str]
attribute [go_sem] sgE_len sgE_getE sgE_drop sgE_take sgE_ren sgE_renE sgE_snoc sgE_snoc' sgE_app sgE_set sgC
structure Ag where
 kind : Int
 fld : S
def agC (x : Ag) : List AV := [I x.kind, str x.fld]
def agE (l : List Ag) : List (List AV) := l.map agC
theorem agE_len (l : List Ag) : (agE l).length = l.length := by simp [agE]
theorem agE_getE (l : List Ag) (i : Nat) : (agE l)[i]? = (l[i]?).map agC := by simp [agE]
@[simp] theorem agE_id (k : Nat) (l : List Ag) : idLtE k (agE l) = true := by
 simp only [idLtE, agE, List.all_map, List.all_eq_true]
 intro x _
 rfl
@[simp] theorem agE_st (l : List Ag) : (agE l).all (fun c => c.all storable) = true := by
 simp only [agE, List.all_map, List.all_eq_true]
 intro x _
 rfl
@[simp] theorem agE_ns (l : List Ag) : noSlE (agE l) = true := by
 simp only [noSlE, agE, List.all_map, List.all_eq_true]
 intro x _
 rfl
theorem agE_drop (l : List Ag) (i : Nat) : (agE l).drop i = agE (l.drop i) := by simp [agE]
theorem agE_take (l : List Ag) (i : Nat) : (agE l).take i = agE (l.take i) := by simp [agE]
theorem agE_ren (L : List Nat) (l : List Ag) : renCE L (agE l) = agE l := by
 simp only [renCE, agE, List.map_map]
 apply List.map_congr_left
 intro x _
 rfl
theorem agE_renE (ρ : Nat → Nat) (l : List Ag) : (agE l).map (renL ρ) = agE l := renE_noid ρ (agE_id 0 l)
theorem agE_snoc (l : List Ag) (x : Ag) : agE l ++ [[.val (.int .i64 x.kind), .val (.string ⟨x.fld.toArray⟩)]] = agE (l ++ [x]) := by simp [agE, agC, I, str]
theorem agE_snoc' (l : List Ag) (x : Ag) : agE l ++ [agC x] = agE (l ++ [x]) := by simp [agE]
theorem agE_app (l m : List Ag) : agE l ++ agE m = agE (l ++ m) := by simp [agE]
@[simp] theorem agE_nil : agE [] = [] := rfl
theorem agE_set (l : List Ag) (i : Nat) (x : Ag) : (agE l).set i [.val (.int .i64 x.kind), .val (.string ⟨x.fld.toArray⟩)] = agE (l.set i x) := by simp [agE, List.map_set, agC, I, str]
attribute [go_sem] agE_len agE_getE agE_drop agE_take agE_ren agE_renE agE_snoc agE_snoc' agE_app agE_set agC
attribute [simp] sgE_len agE_len
structure Qy where
 test : Ts
 stages : List Sg
 kind : Int
 limit : Int
 last : Bool
 names : List S
 aggs : List Ag
 sketch : Int
 other : Ts
 key : S
 window : Int
def qyC (q : Qy) : List AV := tsC q.test ++ [.sl 7 (sgE q.stages), I q.kind, I q.limit, B q.last, .sl 1 (strE q.names), .sl 2 (agE q.aggs), I q.sketch] ++ tsC q.other ++ [str q.key, I q.window]
def tz : Ts := .mk 0 [] [] 0 []
def kt15 : Nat → List Nat
 | 0 => [0]
 | 1 => [0, 3]
 | 2 => [0, 3, 12]
 | 3 => [3]
 | 4 => [2]
 | _ => []
theorem names25 (L : List UInt8) (hL : L.length ≤ 2 ^ 20) (a : Nat) (ha : a ≤ L.length) :
   ACallE Tryz.prog 15 [.ptr 0 2 0 0] [some (cdE L a)] (fun x => ∃ (ns : List S) (a' : Nat), x = (.osl 1 ns.length 1, [some (cdE L a'), some ⟨9, 1, strE ns⟩]) ∧ (ns.length ≤ 2 ∧ ∀ n ∈ ns, n.length ≤ 19) ∧ a' ≤ L.length) := by
 obtain ⟨v, a1, ha1, vlt, q1⟩ := next13 L hL a 5 ha (by omega) (by omega)
 obtain ⟨c, a2, ha2, clt, q2⟩ := next13 L hL a1 2 ha1 (by omega) (by omega)
 have vx := lit_get (l := nsL) rfl vlt
 have wl := nsL_len v
 generalize nsL.getD v [] = w at *
 refine acallE 19 1 Tryz.func15 rfl rfl rfl (by simp) rfl rfl ?_
 apply EX.step
 · intro xX C hN hk hqX
   repeat first | (with_reducible first | apply s1 | apply s2 | apply s5 | apply s6 | refine s7 ?_ | apply s3 | apply s4 | apply s8 | apply s9) | refine AW.condT rfl ?_ | refine AW.condF rfl ?_ | (refine AW.rT mixed hN hk (atO 1 (onc 2 (ocq 0 q1) noc) (atO 2 (onc 1 (ocq 0 q2) noc) noO)) kt15 [0] rfl (by decide +kernel) (fun K hK => ?_); simp only [go_sem, seval, kt15, lit_nsL, vx]; (iterate 3 (try simp (disch := omega) only [au]; try simp only [go_sem, seval, kt15, lit_nsL, vx])); (first | with_reducible refine hK _ _ ?_ | refine obK (hK _ _ ?_)); clear hK K) | (refine AW.rD mixed hN hk (atO 1 (onc 2 (ocq 0 q1) noc) (atO 2 (onc 1 (ocq 0 q2) noc) noO)) kt15 [0] rfl (by decide +kernel) (fun K tok htok hK => ?_); simp only [go_sem, seval, kt15, lit_nsL, vx]; (iterate 3 (try simp (disch := omega) only [au]; try simp only [go_sem, seval, kt15, lit_nsL, vx])); refine ⟨htok _ (by decide +kernel), ?_⟩; (first | with_reducible refine hK _ _ ?_ | refine obK (hK _ _ ?_)); clear hK K htok tok)
   exact hqX
 by_cases hc : c = 1
 · subst hc
   obtain ⟨v2, a3, ha3, q3⟩ := name45 L hL a2 ha2
   have wl2 := nameL_len v2
   generalize nameL.getD v2 [] = w2 at *
   apply EX.step
   · intro xX C hN hk hqX
     repeat first | (with_reducible first | apply s1 | apply s2 | apply s5 | apply s6 | refine s7 ?_ | apply s3 | apply s4 | apply s8 | apply s9) | refine AW.condT rfl ?_ | refine AW.condF rfl ?_ | (refine AW.rT mixed hN hk (atO 3 (onc 2 (ocq 0 q3) noc) noO) kt15 [0] rfl (by decide +kernel) (fun K hK => ?_); simp only [go_sem, seval, kt15]; (iterate 3 (try simp (disch := omega) only [au]; try simp only [go_sem, seval, kt15])); (first | with_reducible refine hK _ _ ?_ | refine obK (hK _ _ ?_)); clear hK K) | (refine AW.rD mixed hN hk (atO 3 (onc 2 (ocq 0 q3) noc) noO) kt15 [0] rfl (by decide +kernel) (fun K tok htok hK => ?_); simp only [go_sem, seval, kt15]; (iterate 3 (try simp (disch := omega) only [au]; try simp only [go_sem, seval, kt15])); refine ⟨htok _ (by decide +kernel), ?_⟩; (first | with_reducible refine hK _ _ ?_ | refine obK (hK _ _ ?_)); clear hK K htok tok)
     exact hqX
   have e2 : strE [w, w2] = [[.val (.string ⟨w.toArray⟩)], [.val (.string ⟨w2.toArray⟩)]] := rfl
   refine EX.ret (.osl 1 2 1) [some (cdE L a3), some ⟨9, 1, strE [w, w2]⟩] ?_ (fun C hN hk => AW.ret (mkRet [some 0, some 1] [] rfl (by simp [resOf, lk, lkh, I, str, B, U8, U64, U32, cdE, e2] <;> omega) (by first | (simp [wkHp, wkHp1, wkEnt, lkh, cdE, e2]; done) | simp [wkHp, wkHp1, wkEnt, lkh, I, str, cdE, e2])))
   exact ⟨[w, w2], a3, rfl, ⟨by simp, by simp; exact ⟨wl, wl2⟩⟩, ha3⟩
 · have dc : ((c : Int) == 1) = false := by simp; omega
   simp only [dc]
   apply EX.step
   · intro xX C hN hk hqX
     repeat first | (with_reducible first | apply s1 | apply s2 | apply s5 | apply s6 | refine s7 ?_ | apply s3 | apply s4 | apply s8 | apply s9) | refine AW.condT rfl ?_ | refine AW.condF rfl ?_ | (refine AW.rT mixed hN hk noO kt15 [0] rfl (by decide +kernel) (fun K hK => ?_); simp only [go_sem, seval, kt15]; (iterate 3 (try simp (disch := omega) only [au]; try simp only [go_sem, seval, kt15])); (first | with_reducible refine hK _ _ ?_ | refine obK (hK _ _ ?_)); clear hK K) | (refine AW.rD mixed hN hk noO kt15 [0] rfl (by decide +kernel) (fun K tok htok hK => ?_); simp only [go_sem, seval, kt15]; (iterate 3 (try simp (disch := omega) only [au]; try simp only [go_sem, seval, kt15])); refine ⟨htok _ (by decide +kernel), ?_⟩; (first | with_reducible refine hK _ _ ?_ | refine obK (hK _ _ ?_)); clear hK K htok tok)
     exact hqX
   have e1 : strE [w] = [[.val (.string ⟨w.toArray⟩)]] := rfl
   refine EX.ret (.osl 1 1 1) [some (cdE L a2), some ⟨9, 1, strE [w]⟩] ?_ (fun C hN hk => AW.ret (mkRet [some 0, some 1] [] rfl (by simp [resOf, lk, lkh, I, str, B, U8, U64, U32, cdE, e1] <;> omega) (by first | (simp [wkHp, wkHp1, wkEnt, lkh, cdE, e1]; done) | simp [wkHp, wkHp1, wkEnt, lkh, I, str, cdE, e1])))
   exact ⟨[w], a2, rfl, ⟨by simp, by simp; exact wl⟩, ha2⟩
end Go.Proofs.YtffchapiaampmaaGreatDoor
