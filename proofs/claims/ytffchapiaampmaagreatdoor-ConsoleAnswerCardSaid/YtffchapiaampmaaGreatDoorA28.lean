/-
  Part 28 of the proof that logtidelaw45.ConsoleAnswer returns true for every list of bytes and every text, and leaves both as they were.
-/
import Derived.Test.YtffchapiaampmaaGreatDoorA27
set_option linter.unusedSimpArgs false
set_option linter.unusedVariables false
namespace Go.Proofs.YtffchapiaampmaaGreatDoor
open Go.Av
attribute [local irreducible] ACall
/-- Lines that are drawn. -/
structure LnsG (f : Int) (l : List Ln) : Prop where
 off : ∀ i (h : i < l.length), l[i].off = atTo f (l.take i) ∧ 1 ≤ l[i].len
 tx : ∀ x ∈ l, x.text.length ≤ 100
 lo : f + l.length ≤ atTo f l
 hi : atTo f l ≤ f + 102 * l.length
theorem LnsG.nil (f : Int) : LnsG f [] := ⟨fun i h => by simp at h, fun x h => by simp at h, by simp [atTo], by simp [atTo]⟩
theorem LnsG.snoc {f : Int} {l : List Ln} (h : LnsG f l) (x : Ln) (h1 : x.off = atTo f l) (h2 : 1 ≤ x.len ∧ x.len ≤ 102) (h3 : x.text.length ≤ 100) : LnsG f (l ++ [x]) := by
 refine ⟨fun i hi => ?_, fun y hy => ?_, ?_, ?_⟩
 · simp only [List.length_append, List.length_singleton] at hi
   by_cases hl : i < l.length
   · rw [List.getElem_append_left hl, List.take_append_of_le_length (by omega)]; exact h.off i hl
   · have : i = l.length := by omega
     subst this
     rw [List.getElem_append_right (Nat.le_refl _)]
     simp only [Nat.sub_self, List.getElem_cons_zero, List.take_left']
     exact ⟨h1, h2.1⟩
 · rcases List.mem_append.1 hy with hy | hy
   · exact h.tx y hy
   · rw [List.mem_singleton.1 hy]; exact h3
 · have := h.lo; rw [atTo_snoc]; simp; omega
 · have := h.hi; rw [atTo_snoc]; simp; omega
/-- An item that is drawn. -/
structure ItG (host file frm : Int) (x : It) : Prop where
 to : frm < x.ev.to ∧ x.ev.to ≤ frm + 306
 good : x.rule = [] → EvG x.ev ∧ x.ev.host = host ∧ x.ev.file = file ∧ x.ev.frm = frm ∧ (∀ f ∈ x.ev.fields, f.name ∈ fnL) ∧ x.ev.lines.length ≤ 3 ∧ ∀ y ∈ x.ev.lines, y.text.length ≤ 100
def trL : List S := [[116, 49], [116, 50], [], [49, 58, 50, 58, 48]]
def stL : List S := [[109, 97, 105, 110], [100, 101, 98, 117, 103]]
theorem trL_len (i : Nat) : (trL.getD i []).length ≤ 5 := getD_len (by decide) i
theorem stL_len (i : Nat) : (stL.getD i []).length ≤ 5 := getD_len (by decide) i
theorem item47 (L : List UInt8) (hL : L.length ≤ 2 ^ 20) (a : Nat) (ha : a ≤ L.length) (host file frm : Int) (hh : 0 ≤ host ∧ host ≤ 999) (hf : 0 ≤ file ∧ file ≤ 2147483646) (hfr : 0 ≤ frm ∧ frm ≤ 50000) :
   ACallE Tryz.prog 31 [.ptr 0 2 0 0, I host, I file, I frm] [some (cdE L a)] (fun x => ∃ (it : It) (a' : Nat), x = (.agg (itC it), [some (cdE L a')]) ∧ ItG host file frm it ∧ a' ≤ L.length) := by
 obtain ⟨v, a1, h1, h2, q1⟩ := next13 L hL a 3 ha (by omega) (by omega)
 have w1 := wrap64 (n := 1 + (v : Int)) (by omega)
 refine acallE 94 1 Tryz.func31 rfl rfl rfl (by simp) rfl rfl ?_
 apply EX.step
 · intro xX C hN hk hqX
   refine nx ?_; refine rG hN hk noc [0] [0, 1, 2, 3, 8] fun K hK => ?_; simp only [go_sem, seval]; refine hK _ _ ?_
   clear hK K; refine nx ?_
   exact hqX
 apply EX.step
 · intro xX C hN hk hqX
   refine nx ?_; refine rG hN hk noc [0] [0, 3, 8, 9] fun K hK => ?_; simp only [go_sem, seval]; refine hK _ _ ?_
   clear hK K; refine nx ?_
   exact hqX
 apply EX.step
 · intro xX C hN hk hqX
   refine nx ?_; refine rG hN hk noc [0] [0, 8, 9, 10] fun K hK => ?_; simp only [go_sem, seval]; refine hK _ _ ?_
   clear hK K; refine nx ?_
   exact hqX
 apply EX.step
 · intro xX C hN hk hqX
   refine nx ?_; refine rG hN hk (onc 1 (ocq 0 q1) noc) [0] [0, 8, 9, 10, 11] fun K hK => ?_; simp only [go_sem, seval, w1]
   try simp (disch := omega) only [au]
   refine obK (hK _ _ ?_); clear hK K; refine nx ?_
   exact hqX
 have h0 : atTo frm [] = frm := by simp [atTo]
 have h1v : 1 + (v : Int) = ((v + 1 : Nat) : Int) := by omega
 rw [h1v]
 have hnil := LnsG.nil frm
 have hnl0 : ([] : List Ln).length + (v + 1) = v + 1 := by simp
 apply EX.step
 · intro xX C hN hk hqX
   refine nx ?_
   exact hqX
 refine lpX 4 (fun s : Nat × List Ln × Nat => ⟨[(0, .ptr 0 2 0 0), (8, .ptr 1 11 0 0), (9, .ptr 2 10 0 0), (10, I (atTo frm s.2.1)), (11, I s.1)], [(0, some ⟨48, 2, [[.sl 1 (bytesE L), I s.2.2]]⟩), (1, some ⟨64, 11, [[str [], I 0, I 0, I 0, I 0, nilV, I 0, I 0, str [], str [], nilV]]⟩), (2, some ⟨62, 10, [[I host, I file, I frm, I 0, .osl 3 s.2.1.length 3, I 0, I 0, str [], str [], nilV]]⟩), (3, some ⟨111, 3, lnE s.2.1⟩)]⟩) (fun s => LnsG frm s.2.1 ∧ s.2.1.length + s.1 = v + 1 ∧ s.2.2 ≤ L.length) (fun s => s.1) (v + 1, [], a1) (mkWk [some 0, some 1, some 2, none] [] (by simp [wkEnv, lk, lkh, I, str, B, U8, U64, U32, h0, nilV] <;> omega) (by first | (simp [wkHp, wkHp1, wkEnt, lkh, h0, nilV]; done) | simp [wkHp, wkHp1, wkEnt, lkh, I, str, h0, nilV])) ?_
 clear q1 hnil
 intro ⟨j, ls, a2⟩ hI Y hY
 obtain ⟨g1, g2, g3⟩ := hI
 simp only at g1 g2 g3
 have hlo := g1.lo
 have hhi := g1.hi
 cases j with
 | succ j =>
   obtain ⟨_, ⟨t, a3, rfl, k1, k2⟩, q2⟩ := text69 L hL a2 g3
   obtain ⟨u, a4, k3, k4, q3⟩ := next13 L hL a3 2 k2 (by omega) (by omega)
   simp only at q2
   have d0 : decide (((j + 1 : Nat) : Int) > 0) = true := by simp
   have e1 : (((j + 1 : Nat) : Int) - 1) = (j : Int) := by omega
   have w2 := wrap64 (n := (j : Int)) (by omega)
   have w3 := wrap64 (n := (t.length : Int) + 1) (by omega)
   have w4 := wrap64 (n := (t.length : Int) + 1 + (u : Int)) (by omega)
   have w5 := wrap64 (n := atTo frm ls + ((t.length : Int) + 1 + (u : Int))) (by omega)
   obtain ⟨x, hx⟩ : ∃ x : Ln, x = ⟨atTo frm ls, (t.length : Int) + 1 + (u : Int), t⟩ := ⟨_, rfl⟩
   have hln : lnE (ls ++ [x]) = lnE ls ++ [[.val (.int .i64 (atTo frm ls)), .val (.int .i64 ((t.length : Int) + 1 + (u : Int))), .val (.string ⟨t.toArray⟩)]] := by rw [hx]; simp [lnE, lnC, I, str]
   have hg := g1.snoc x (by rw [hx]) (by rw [hx]; simp only; omega) (by rw [hx]; exact k1)
   have hat := atTo_snoc frm ls x
   have hxl : x.len = (t.length : Int) + 1 + (u : Int) := by rw [hx]
   rw [hxl] at hat
   obtain ⟨ls2, hls2⟩ : ∃ ls2, ls2 = ls ++ [x] := ⟨_, rfl⟩
   have hl2 : ls2.length = ls.length + 1 := by rw [hls2]; simp
   rw [← hls2] at hg hat hln
   apply EX.step
   · intro xX C hN hk hqX
     refine nx ?_; refine rG hN hk noc [0] [0, 8, 9, 10, 11, 24] fun K hK => ?_; simp only [go_sem, seval, d0]
     try simp (disch := omega) only [au]
     refine hK _ _ ?_; clear hK K; refine nx ?_
     exact hqX
   apply EX.step
   · intro xX C hN hk hqX
     refine nx ?_; refine cT ?_; refine nx ?_
     exact hqX
   apply EX.step
   · intro xX C hN hk hqX
     refine nx ?_; refine rG hN hk (onc 1 (ocq 0 q2) noc) [0] [0, 8, 9, 10, 11, 12] fun K hK => ?_; simp only [go_sem, seval]; refine obK (hK _ _ ?_)
     clear hK K; refine nx ?_
     exact hqX
   apply EX.step
   · intro xX C hN hk hqX
     refine nx ?_; refine rG hN hk (onc 4 (ocq 0 q3) noc) [0] [0, 8, 9, 10, 11, 12, 13] fun K hK => ?_; simp only [go_sem, seval, w3, w4]
     try simp (disch := omega) only [au]
     refine obK (hK _ _ ?_); clear hK K; refine nx ?_
     exact hqX
   apply EX.step
   · intro xX C hN hk hqX
     refine nx ?_; refine rG hN hk noc [0] [0, 8, 9, 10, 11, 13] fun K hK => ?_; simp only [go_sem, seval]
     (first | with_reducible refine hK _ _ ?_ | refine obK (hK _ _ ?_)); clear hK K; refine nx ?_
     exact hqX
   apply EX.step
   · intro xX C hN hk hqX
     refine nx ?_; refine rG hN hk noc [0] [0, 8, 9, 10, 11] fun K hK => ?_; simp only [go_sem, seval, w5]
     try simp (disch := omega) only [au]
     refine hK _ _ ?_; clear hK K; refine nx ?_
     exact hqX
   apply EX.step
   · intro xX C hN hk hqX
     refine nx ?_; refine rG hN hk noc [0] [0, 8, 9, 10, 11] fun K hK => ?_; simp only [go_sem, seval, e1, w2]
     try simp (disch := omega) only [au]
     refine hK _ _ ?_; clear hK K; refine nx ?_
     exact hqX
   refine eY hY ((j, ls2, a4)) (mkWk [some 0, some 1, some 2, some 3] [] (by simp [wkEnv, lk, lkh, I, str, B, U8, U64, U32, hat, hln, hl2, nilV] <;> omega) (by first | (simp [wkHp, wkHp1, wkEnt, lkh, hat, hln, hl2, nilV]; done) | simp [wkHp, wkHp1, wkEnt, lkh, I, str, hat, hln, hl2, nilV]))
 | zero =>
   have d0 : decide (((0 : Nat) : Int) > 0) = false := by simp
   have g2 : ls.length = v + 1 := by omega
   obtain ⟨b, a3, k1, k2, q2⟩ := next13 L hL a2 5 g3 (by omega) (by omega)
   obtain ⟨to, hto⟩ : ∃ to, to = atTo frm ls := ⟨_, rfl⟩
   rw [← hto] at hlo hhi ⊢
   apply EX.step
   · intro xX C hN hk hqX
     refine nx ?_; refine rG hN hk noc [0] [0, 8, 9, 10, 11, 24] fun K hK => ?_; simp only [go_sem, seval, d0]
     try simp (disch := omega) only [au]
     refine hK _ _ ?_; clear hK K; refine nx ?_
     exact hqX
   apply EX.step
   · intro xX C hN hk hqX
     refine nx ?_; refine cF ?_; refine nx ?_
     exact hqX
   apply EX.step
   · intro xX C hN hk hqX
     refine nx ?_; refine rG hN hk noc [0] [0, 8, 9] fun K hK => ?_; simp only [go_sem, seval]; refine hK _ _ ?_
     clear hK K; refine nx ?_
     exact hqX
   by_cases hb : b = 4
   · subst hb
     apply EX.step
     · intro xX C hN hk hqX
       refine nx ?_; refine rG hN hk (onc 1 (ocq 0 q2) noc) [0] [0, 8, 9, 51] fun K hK => ?_; simp only [go_sem, seval]
       try simp (disch := omega) only [au]
       refine obK (hK _ _ ?_); clear hK K; refine nx ?_
       exact hqX
     apply EX.step
     · intro xX C hN hk hqX
       refine nx ?_; refine cT ?_; refine nx ?_
       exact hqX
     apply EX.step
     · intro xX C hN hk hqX
       refine nx ?_; refine rG hN hk noc [0] [0, 8, 9, 14] fun K hK => ?_; simp only [go_sem, seval]; refine hK _ _ ?_
       clear hK K; refine nx ?_
       exact hqX
     clear q2
     apply EX.step
     · intro xX C hN hk hqX
       refine nx ?_
       exact hqX
     refine lpX 4 (fun s : Nat × List Ln => ⟨[(0, .ptr 0 2 0 0), (8, .ptr 1 11 0 0), (9, .ptr 2 10 0 0), (14, I s.1)], [(0, some ⟨48, 2, [[.sl 1 (bytesE L), I a3]]⟩), (1, some ⟨64, 11, [[str [], I 0, I 0, I 0, I 0, nilV, I 0, I 0, str [], str [], nilV]]⟩), (2, some ⟨62, 10, [[I host, I file, I frm, I to, .osl 3 s.2.length 3, I 0, I 0, str [], str [], nilV]]⟩), (3, some ⟨111, 3, lnE s.2⟩)]⟩) (fun s => s.1 ≤ ls.length ∧ s.2.length = ls.length) (fun s => ls.length - s.1) (0, ls) (mkWk [some 0, some 1, some 2, some 3] [] (by simp [wkEnv, lk, lkh, I, str, B, U8, U64, U32, nilV] <;> omega) (by first | (simp [wkHp, wkHp1, wkEnt, lkh, nilV]; done) | simp [wkHp, wkHp1, wkEnt, lkh, I, str, nilV])) ?_
     intro ⟨i, l2⟩ hI2 Y2 hY2
     obtain ⟨m1, m2⟩ := hI2
     simp only at m1 m2
     by_cases hi : i < l2.length
     · have hx := List.getElem?_eq_getElem hi
       generalize l2[i] = x at *
       have hset : (lnE l2).set i [.val (.int .i64 x.off), .val (.int .i64 x.len), .val (.string ⟨#[]⟩)] = lnE (l2.set i ⟨x.off, x.len, []⟩) := by simp [lnE, List.map_set, lnC, I, str]
       have hsl : (l2.set i ⟨x.off, x.len, []⟩).length = l2.length := by simp
       generalize l2.set i ⟨x.off, x.len, []⟩ = l3 at *
       apply EX.step
       · intro xX C hN hk hqX
         refine nx ?_; refine rG hN hk noc [0] [0, 8, 9, 14, 56] fun K hK => ?_; simp only [go_sem, seval]
         try simp (disch := omega) only [au]
         (first | with_reducible refine hK _ _ ?_ | refine obK (hK _ _ ?_)); clear hK K; refine nx ?_
         exact hqX
       apply EX.step
       · intro xX C hN hk hqX
         refine nx ?_; refine cT ?_; refine nx ?_
         exact hqX
       apply EX.step
       · intro xX C hN hk hqX
         refine nx ?_; refine rG hN hk noc [0] [0, 8, 9, 14] fun K hK => ?_; simp only [go_sem, seval, hx, hi, hset]
         (first | with_reducible refine hK _ _ ?_ | refine obK (hK _ _ ?_)); clear hK K; refine nx ?_
         exact hqX
       apply EX.step
       · intro xX C hN hk hqX
         refine nx ?_; refine rG hN hk noc [0] [0, 8, 9, 14] fun K hK => ?_; simp only [go_sem, seval]
         try simp (disch := omega) only [au]
         refine hK _ _ ?_; clear hK K; refine nx ?_
         exact hqX
       refine eY hY2 ((i + 1, l3)) (mkWk [some 0, some 1, some 2, some 3] [] (by simp [wkEnv, lk, lkh, I, str, B, U8, U64, U32, hsl, nilV] <;> omega) (by first | (simp [wkHp, wkHp1, wkEnt, lkh, hsl, nilV]; done) | simp [wkHp, wkHp1, wkEnt, lkh, I, str, hsl, nilV]))
     · obtain ⟨v3, a4, k3, k4, q3⟩ := next13 L hL a3 3 k1 (by omega) (by omega)
       apply EX.step
       · intro xX C hN hk hqX
         refine nx ?_; refine rG hN hk noc [0] [0, 8, 9, 14, 56] fun K hK => ?_; simp only [go_sem, seval]
         try simp (disch := omega) only [au]
         (first | with_reducible refine hK _ _ ?_ | refine obK (hK _ _ ?_)); clear hK K; refine nx ?_
         exact hqX
       apply EX.step
       · intro xX C hN hk hqX
         refine nx ?_; refine cF ?_; refine nx ?_
         exact hqX
       obtain rfl | rfl | rfl : v3 = 0 ∨ v3 = 1 ∨ v3 = 2 := by omega
       · apply EX.step
         · intro xX C hN hk hqX
           refine nx ?_
           refine rD hN hk (onc 2 (ocq 0 q3) noc) [0] [8] fun K tok htok hK => ?_
           simp only [go_sem, seval]
           refine ⟨htok _ (by decide +kernel), ?_⟩
           refine obK (hK _ _ ?_); clear hK K htok tok
           refine nx ?_
           exact hqX
         refine EX.ret (.agg (itC ⟨[115, 97, 109, 112, 108, 101], ⟨host, file, frm, to, l2, 0, 0, [], [], []⟩⟩)) [some (cdE L a4)] ?_ (fun C hN hk => AW.ret (mkRet [some 0] [2] (by simp only [resList, go_sem, seval]; rfl) (by simp [resOf, lk, lkh, I, str, B, U8, U64, U32, cdE, itC, evC] <;> omega) (by first | (simp [wkHp, wkHp1, wkEnt, lkh, cdE, itC, evC]; done) | simp [wkHp, wkHp1, wkEnt, lkh, I, str, cdE, itC, evC])))
         exact ⟨_, a4, rfl, ⟨by simp only; omega, by simp⟩, k3⟩
       · apply EX.step
         · intro xX C hN hk hqX
           refine nx ?_
           refine rD hN hk (onc 2 (ocq 0 q3) noc) [0] [8] fun K tok htok hK => ?_
           simp only [go_sem, seval]
           refine ⟨htok _ (by decide +kernel), ?_⟩
           refine obK (hK _ _ ?_); clear hK K htok tok
           refine nx ?_
           exact hqX
         refine EX.ret (.agg (itC ⟨[100, 114, 111, 112], ⟨host, file, frm, to, l2, 0, 0, [], [], []⟩⟩)) [some (cdE L a4)] ?_ (fun C hN hk => AW.ret (mkRet [some 0] [2] (by simp only [resList, go_sem, seval]; rfl) (by simp [resOf, lk, lkh, I, str, B, U8, U64, U32, cdE, itC, evC] <;> omega) (by first | (simp [wkHp, wkHp1, wkEnt, lkh, cdE, itC, evC]; done) | simp [wkHp, wkHp1, wkEnt, lkh, I, str, cdE, itC, evC])))
         exact ⟨_, a4, rfl, ⟨by simp only; omega, by simp⟩, k3⟩
       · apply EX.step
         · intro xX C hN hk hqX
           refine nx ?_
           refine rD hN hk (onc 2 (ocq 0 q3) noc) [0] [8] fun K tok htok hK => ?_
           simp only [go_sem, seval]
           refine ⟨htok _ (by decide +kernel), ?_⟩
           refine obK (hK _ _ ?_); clear hK K htok tok
           refine nx ?_
           exact hqX
         refine EX.ret (.agg (itC ⟨[116, 111, 111, 45, 108, 111, 110, 103], ⟨host, file, frm, to, l2, 0, 0, [], [], []⟩⟩)) [some (cdE L a4)] ?_ (fun C hN hk => AW.ret (mkRet [some 0] [2] (by simp only [resList, go_sem, seval]; rfl) (by simp [resOf, lk, lkh, I, str, B, U8, U64, U32, cdE, itC, evC] <;> omega) (by first | (simp [wkHp, wkHp1, wkEnt, lkh, cdE, itC, evC]; done) | simp [wkHp, wkHp1, wkEnt, lkh, I, str, cdE, itC, evC])))
         exact ⟨_, a4, rfl, ⟨by simp only; omega, by simp⟩, k3⟩
   · have d4 : ((b : Int) == 4) = false := by simp; omega
     apply EX.step
     · intro xX C hN hk hqX
       refine nx ?_; refine rG hN hk (onc 1 (ocq 0 q2) noc) [0] [0, 8, 9, 51] fun K hK => ?_; simp only [go_sem, seval, d4]
       try simp (disch := omega) only [au]
       refine obK (hK _ _ ?_); clear hK K; refine nx ?_
       exact hqX
     apply EX.step
     · intro xX C hN hk hqX
       refine nx ?_; refine cF ?_; refine nx ?_
       exact hqX
     obtain ⟨t, a4, t1, k3, q3⟩ := time70 L hL a3 k1
     obtain ⟨w, a5, t2, k4, q4⟩ := weight71 L hL a4 k3
     obtain ⟨v5, a6, k5, k6, q5⟩ := next13 L hL a5 4 k4 (by omega) (by omega)
     obtain ⟨v6, a7, k7, k8, q6⟩ := next13 L hL a6 2 k5 (by omega) (by omega)
     obtain ⟨_, ⟨F, a8, rfl, hF, k9⟩, q7⟩ := fields72 L hL a7 k7
     simp only at q7
     have htr := trL_len v5
     have hst := stL_len v6
     obtain ⟨e, he⟩ : ∃ e : Ev, e = ⟨host, file, frm, to, ls, t, w, trL.getD v5 [], stL.getD v6 [], F⟩ := ⟨_, rfl⟩
     have hg : EvG e := by
       rw [he]
       exact ⟨hh, hf, hfr.1, by simp only; omega, t1, t2, by simp only; omega, fun i hi => by simpa using g1.off i hi, hto.symm, fun y hy => by have := g1.tx y hy; omega, ⟨by simp only; omega, by simp only; omega⟩, by have := hF.len; simp only; omega, fun f hf => ⟨fnL_ok _ (hF.mem f hf).1, by have := (hF.mem f hf).2; omega⟩, hF.asc⟩
     have hi : ItG host file frm ⟨[], e⟩ := by
       refine ⟨?_, fun _ => ⟨hg, ?_⟩⟩
       · rw [he]; simp only; omega
       · rw [he]; exact ⟨rfl, rfl, rfl, fun f hf => (hF.mem f hf).1, by simp only; omega, g1.tx⟩
     have hec : itC ⟨[], e⟩ = [str [], I host, I file, I frm, I to, .sl 3 (lnE ls), I t, I w, str (trL.getD v5 []), str (stL.getD v6 []), .sl 2 (flE F)] := by rw [he]; rfl
     apply EX.step
     · intro xX C hN hk hqX
       refine nx ?_; refine rG hN hk (onc 1 (ocq 0 q3) (onc 3 (ocq 0 q4) noc)) [0] [0, 8, 9] fun K hK => ?_; simp only [go_sem, seval]; refine obK (hK _ _ ?_)
       clear hK K; refine nx ?_
       exact hqX
     obtain rfl | rfl | rfl | rfl : v5 = 0 ∨ v5 = 1 ∨ v5 = 2 ∨ v5 = 3 := by omega
     all_goals
       obtain rfl | rfl : v6 = 0 ∨ v6 = 1 := by omega
       all_goals
         apply EX.step
         · intro xX C hN hk hqX
           refine nx ?_
           refine rD hN hk (onc 2 (ocq 0 q5) (onc 7 (ocq 0 q6) noc)) [0] [0, 8, 9] fun K tok htok hK => ?_
           simp only [go_sem, seval]
           refine ⟨htok _ (by decide +kernel), ?_⟩
           refine obK (hK _ _ ?_); clear hK K htok tok
           refine nx ?_
           exact hqX
         apply EX.step
         · intro xX C hN hk hqX
           refine nx ?_; refine rG hN hk (onc 1 (ocq 0 q7) noc) [0] [8, 9] fun K hK => ?_; simp only [go_sem, seval]; refine obK (hK _ _ ?_)
           clear hK K; refine nx ?_
           exact hqX
         apply EX.step
         · intro xX C hN hk hqX
           refine nx ?_; refine rG hN hk noc [0] [8] fun K hK => ?_; simp only [go_sem, seval]; refine hK _ _ ?_
           clear hK K; refine nx ?_
           exact hqX
         refine EX.ret (.agg (itC ⟨[], e⟩)) [some (cdE L a8)] ?_ (fun C hN hk => AW.ret (mkRet [some 0] [2, 3] (by simp only [resList, go_sem, seval]; rfl) (by simp [resOf, lk, lkh, I, str, B, U8, U64, U32, cdE, hec, trL, stL] <;> omega) (by first | (simp [wkHp, wkHp1, wkEnt, lkh, cdE, hec, trL, stL]; done) | simp [wkHp, wkHp1, wkEnt, lkh, I, str, cdE, hec, trL, stL])))
         exact ⟨_, a8, rfl, hi, k9⟩
@[simp] theorem wkE_jj {hp : Hp} {ids : List (Option Nat)} {D : List Nat} (l : List (List It)) (x : List It) (c : List AV) : wkE hp ids D (jjE l ++ [c]) (jjE (l ++ [x])) ↔ wkL hp ids D c [.sl 11 (itE x)] := by
 rw [← jjE_snoc]; exact wkE_snoc_iff (jjE_id 0 l)
/-- An event that is drawn. -/
structure DrE (e : Ev) : Prop where
 good : EvG e
 fn : ∀ f ∈ e.fields, f.name ∈ fnL
 nl : e.lines.length ≤ 3
 tx : ∀ y ∈ e.lines, y.text.length ≤ 100
/-- The items of a file. -/
structure RowG (host file : Int) (l : List It) : Prop where
 each : ∀ x ∈ l, x.rule = [] → DrE x.ev ∧ x.ev.host = host ∧ x.ev.file = file
 asc : l.Pairwise fun x y => x.rule = [] → y.rule = [] → x.ev.frm < y.ev.frm
 len : l.length ≤ 6
theorem files26 (L : List UInt8) (hL : L.length ≤ 2 ^ 20) (a : Nat) (ha : a ≤ L.length) (host : Int) (most : Nat) (hh : 0 ≤ host ∧ host ≤ 999) (hm : most ≤ 6) :
   ACallE Tryz.prog 16 [.ptr 0 2 0 0, I host, I most] [some (cdE L a)] (fun x => ∃ (out : List (List It)) (a' : Nat), x = (.osl 1 out.length 1, [some (cdE L a'), some ⟨58, 1, jjE out⟩]) ∧ (out.length ≤ 3 ∧ ∀ i (h : i < out.length), RowG host (5 + i) out[i]) ∧ a' ≤ L.length) := by
 refine acallE 45 1 Tryz.func16 rfl rfl rfl (by simp) rfl rfl ?_
 apply EX.step
 · intro xX C hN hk hqX
   refine nx ?_; refine rG hN hk noc [0] [0, 1, 2] fun K hK => ?_; simp only [go_sem, seval]; refine hK _ _ ?_
   clear hK K; refine nx ?_
   exact hqX
 apply EX.step
 · intro xX C hN hk hqX
   refine nx ?_; refine rG hN hk noc [0] [0, 1, 2, 7] fun K hK => ?_; simp only [go_sem, seval]; refine hK _ _ ?_
   clear hK K; refine nx ?_
   exact hqX
 apply EX.step
 · intro xX C hN hk hqX
   refine nx ?_; refine rG hN hk noc [0] [0, 1, 2, 7, 8] fun K hK => ?_; simp only [go_sem, seval]; refine hK _ _ ?_
   clear hK K; refine nx ?_
   exact hqX
 have hnil : ∀ i (h : i < ([] : List (List It)).length), RowG host (5 + i) ([] : List (List It))[i] := fun i h => by simp at h
 apply EX.step
 · intro xX C hN hk hqX
   refine nx ?_
   exact hqX
 refine lpX 2 (fun s : Nat × List (List It) × Nat => ⟨[(0, .ptr 0 2 0 0), (1, I host), (2, I most), (7, .osl 1 s.2.1.length 1), (8, I s.1)], [(0, some ⟨48, 2, [[.sl 1 (bytesE L), I s.2.2]]⟩), (1, some ⟨58, 1, jjE s.2.1⟩)]⟩) (fun s => s.1 ≤ 3 ∧ s.2.1.length = s.1 ∧ s.2.2 ≤ L.length ∧ ∀ i (h : i < s.2.1.length), RowG host (5 + i) s.2.1[i]) (fun s => 3 - s.1) (0, [], a) (mkWk [some 0, none] [] (by simp [wkEnv, lk, lkh, I, str, B, U8, U64, U32] <;> omega) (by first | (simp [wkHp, wkHp1, wkEnt, lkh]; done) | simp [wkHp, wkHp1, wkEnt, lkh, I, str])) ?_
 intro ⟨f, out, a1⟩ hI Y hY
 obtain ⟨g1, g2, g3, g4⟩ := hI
 simp only at g1 g2 g3 g4
 obtain ⟨v, a2, h1, h2, q1⟩ := next13 L hL a1 3 g3 (by omega) (by omega)
 by_cases hfv : f ≤ v
 · have d0 := dLeT (a := (f : Int)) (b := (v : Int)) (by omega)
   obtain ⟨n, a3, h3, h4, q2⟩ := next13 L hL a2 (most + 1) h1 (by omega) (by omega)
   have w1 := wrap64 (n := (most : Int) + 1) (by omega)
   apply EX.step
   · intro xX C hN hk hqX
     refine nx ?_; refine rG hN hk (onc 2 (ocq 0 q1) noc) [0] [0, 1, 2, 7, 8, 16] fun K hK => ?_; simp only [go_sem, seval, d0]
     try simp (disch := omega) only [au]
     refine obK (hK _ _ ?_); clear hK K; refine nx ?_
     exact hqX
   apply EX.step
   · intro xX C hN hk hqX
     refine nx ?_; refine cT ?_; refine nx ?_
     exact hqX
   apply EX.step
   · intro xX C hN hk hqX
     refine nx ?_; refine rG hN hk noc [0] [0, 1, 2, 7, 8, 9] fun K hK => ?_; simp only [go_sem, seval]; refine hK _ _ ?_
     clear hK K; refine nx ?_
     exact hqX
   apply EX.step
   · intro xX C hN hk hqX
     refine nx ?_; refine rG hN hk noc [0] [0, 1, 2, 7, 8, 9, 10] fun K hK => ?_; simp only [go_sem, seval]; refine hK _ _ ?_
     clear hK K; refine nx ?_
     exact hqX
   apply EX.step
   · intro xX C hN hk hqX
     refine nx ?_; refine rG hN hk (onc 3 (ocq 0 q2) noc) [0] [0, 1, 2, 7, 8, 9, 10, 11] fun K hK => ?_; simp only [go_sem, seval, w1]
     try simp (disch := omega) only [au]
     refine obK (hK _ _ ?_); clear hK K; refine nx ?_
     exact hqX
   clear q1 q2
   have hnil2 : ∀ x ∈ ([] : List It), x.rule = [] → (DrE x.ev ∧ x.ev.host = host ∧ x.ev.file = 5 + f) ∧ x.ev.frm < 0 := fun x h => by simp at h
   apply EX.step
   · intro xX C hN hk hqX
     refine nx ?_
     exact hqX
   refine lpX 3 (fun s : Nat × List It × Int × Nat => ⟨[(0, .ptr 0 2 0 0), (1, I host), (2, I most), (7, .osl 1 out.length 1), (8, I f), (9, .osl 2 s.2.1.length 11), (10, I s.2.2.1), (11, I s.1)], [(0, some ⟨48, 2, [[.sl 1 (bytesE L), I s.2.2.2]]⟩), (1, some ⟨58, 1, jjE out⟩), (2, some ⟨64, 11, itE s.2.1⟩)]⟩) (fun s => s.2.1.length + s.1 ≤ 6 ∧ s.2.2.2 ≤ L.length ∧ (0 ≤ s.2.2.1 ∧ s.2.2.1 ≤ 306 * s.2.1.length) ∧ (∀ x ∈ s.2.1, x.rule = [] → (DrE x.ev ∧ x.ev.host = host ∧ x.ev.file = 5 + f) ∧ x.ev.frm < s.2.2.1) ∧ s.2.1.Pairwise fun x y => x.rule = [] → y.rule = [] → x.ev.frm < y.ev.frm) (fun s => s.1) (n, [], 0, a3) (mkWk [some 0, some 1, none] [] (by simp [wkEnv, lk, lkh, I, str, B, U8, U64, U32] <;> omega) (by first | (simp [wkHp, wkHp1, wkEnt, lkh]; done) | simp [wkHp, wkHp1, wkEnt, lkh, I, str])) ?_
   intro ⟨j, l, at', a4⟩ hI2 Y2 hY2
   obtain ⟨m1, m2, m3, m4, m5⟩ := hI2
   simp only at m1 m2 m3 m4 m5
   cases j with
   | succ j =>
     have d0 : decide (((j + 1 : Nat) : Int) > 0) = true := by simp
     have e1 : (((j + 1 : Nat) : Int) - 1) = (j : Int) := by omega
     have w2 := wrap64 (n := (j : Int)) (by omega)
     have w3 := wrap64 (n := 5 + (f : Int)) (by omega)
     obtain ⟨_, ⟨it, a5, rfl, k1, k2⟩, q3⟩ := item47 L hL a4 m2 host (5 + f) at' hh (by omega) (by omega)
     simp only at q3
     have hto := k1.to
     have hA : ∀ x ∈ l ++ [it], x.rule = [] → (DrE x.ev ∧ x.ev.host = host ∧ x.ev.file = 5 + f) ∧ x.ev.frm < it.ev.to := by
       intro x hx hr
       rcases List.mem_append.1 hx with hx | hx
       · have := m4 x hx hr
         exact ⟨this.1, by omega⟩
       · obtain rfl := List.mem_singleton.1 hx
         obtain ⟨y1, y2, y3, y4, y5, y6, y7⟩ := k1.good hr
         exact ⟨⟨⟨y1, y5, y6, y7⟩, y2, y3⟩, by omega⟩
     have hB : (l ++ [it]).Pairwise fun x y => x.rule = [] → y.rule = [] → x.ev.frm < y.ev.frm := by
       rw [List.pairwise_append]
       refine ⟨m5, by simp, fun x hx y hy h1 h2 => ?_⟩
       obtain rfl := List.mem_singleton.1 hy
       have := (m4 x hx h1).2
       have := (k1.good h2).2.2.2.1
       omega
     obtain ⟨l2, hl2⟩ : ∃ l2, l2 = l ++ [it] := ⟨_, rfl⟩
     have hll : l2.length = l.length + 1 := by rw [hl2]; simp
     rw [← hl2] at hA hB
     apply EX.step
     · intro xX C hN hk hqX
       refine nx ?_; refine rG hN hk noc [0] [0, 1, 2, 7, 8, 9, 10, 11, 24] fun K hK => ?_; simp only [go_sem, seval, d0]
       try simp (disch := omega) only [au]
       refine hK _ _ ?_; clear hK K; refine nx ?_
       exact hqX
     apply EX.step
     · intro xX C hN hk hqX
       refine nx ?_; refine cT ?_; refine nx ?_
       exact hqX
     apply EX.step
     · intro xX C hN hk hqX
       refine nx ?_; refine rG hN hk (onc 5 (ocq 0 q3) noc) [0] [0, 1, 2, 7, 8, 9, 11, 12] fun K hK => ?_; simp only [go_sem, seval, w3]
       try simp (disch := omega) only [au]
       refine obK (hK _ _ ?_); clear hK K; refine nx ?_
       exact hqX
     apply EX.step
     · intro xX C hN hk hqX
       refine nx ?_; refine rG hN hk noc [0] [0, 1, 2, 7, 8, 9, 11, 12] fun K hK => ?_; simp only [go_sem, seval]
       (first | with_reducible refine hK _ _ ?_ | refine obK (hK _ _ ?_)); clear hK K; refine nx ?_
       exact hqX
     apply EX.step
     · intro xX C hN hk hqX
       refine nx ?_; refine rG hN hk noc [0] [0, 1, 2, 7, 8, 9, 10, 11] fun K hK => ?_; simp only [go_sem, seval]; refine hK _ _ ?_
       clear hK K; refine nx ?_
       exact hqX
     apply EX.step
     · intro xX C hN hk hqX
       refine nx ?_; refine rG hN hk noc [0] [0, 1, 2, 7, 8, 9, 10, 11] fun K hK => ?_; simp only [go_sem, seval, e1, w2]
       try simp (disch := omega) only [au]
       refine hK _ _ ?_; clear hK K; refine nx ?_
       exact hqX
     refine eY hY2 ((j, l2, it.ev.to, a5)) (mkWk [some 0, some 1, some 2] [] (by simp [wkEnv, lk, lkh, I, str, B, U8, U64, U32, hll, hl2] <;> omega) (by first | (simp [wkHp, wkHp1, wkEnt, lkh, hll, hl2]; done) | simp [wkHp, wkHp1, wkEnt, lkh, I, str, hll, hl2]))
   | zero =>
     have d0 : decide (((0 : Nat) : Int) > 0) = false := by simp
     have hrow : RowG host (5 + f) l := ⟨fun x hx hr => (m4 x hx hr).1, m5, by omega⟩
     have hS : ∀ i (h : i < (out ++ [l]).length), RowG host (5 + i) (out ++ [l])[i] := by
       intro i hi
       simp only [List.length_append, List.length_singleton] at hi
       by_cases hl : i < out.length
       · rw [List.getElem_append_left hl]; exact g4 i hl
       · have : i = out.length := by omega
         subst this
         rw [List.getElem_append_right (Nat.le_refl _)]
         simp only [Nat.sub_self, List.getElem_cons_zero, g2]
         exact hrow
     obtain ⟨o2, ho2⟩ : ∃ o2, o2 = out ++ [l] := ⟨_, rfl⟩
     have hol : o2.length = out.length + 1 := by rw [ho2]; simp
     rw [← ho2] at hS
     apply EX.step
     · intro xX C hN hk hqX
       refine nx ?_; refine rG hN hk noc [0] [0, 1, 2, 7, 8, 9, 10, 11, 24] fun K hK => ?_; simp only [go_sem, seval, d0]
       try simp (disch := omega) only [au]
       refine hK _ _ ?_; clear hK K; refine nx ?_
       exact hqX
     apply EX.step
     · intro xX C hN hk hqX
       refine nx ?_; refine cF ?_; refine nx ?_
       exact hqX
     apply EX.step
     · intro xX C hN hk hqX
       refine nx ?_; refine rG hN hk noc [0] [0, 1, 2, 7, 8, 9] fun K hK => ?_; simp only [go_sem, seval]
       (first | with_reducible refine hK _ _ ?_ | refine obK (hK _ _ ?_)); clear hK K; refine nx ?_
       exact hqX
     apply EX.step
     · intro xX C hN hk hqX
       refine nx ?_; refine rG hN hk noc [0] [0, 1, 2, 7, 8, 9] fun K hK => ?_; simp only [go_sem, seval]
       try simp (disch := omega) only [au]
       refine hK _ _ ?_; clear hK K; refine nx ?_
       exact hqX
     refine eY hY ((f + 1, o2, a4)) (mkWk [some 0, some 1] [2] (by simp [wkEnv, lk, lkh, I, str, B, U8, U64, U32, hol, ho2] <;> omega) (by first | (simp [wkHp, wkHp1, wkEnt, lkh, hol, ho2]; done) | simp [wkHp, wkHp1, wkEnt, lkh, I, str, hol, ho2]))
 · have d0 := dLeF (a := (f : Int)) (b := (v : Int)) (by omega)
   apply EX.step
   · intro xX C hN hk hqX
     refine nx ?_; refine rG hN hk (onc 2 (ocq 0 q1) noc) [0] [0, 1, 2, 7, 8, 16] fun K hK => ?_; simp only [go_sem, seval, d0]
     try simp (disch := omega) only [au]
     refine obK (hK _ _ ?_); clear hK K; refine nx ?_
     exact hqX
   apply EX.step
   · intro xX C hN hk hqX
     refine nx ?_; refine cF ?_; refine nx ?_
     exact hqX
   apply EX.step
   · intro xX C hN hk hqX
     refine nx ?_; refine rG hN hk noc [0] [6] fun K hK => ?_; simp only [go_sem, seval]; refine hK _ _ ?_
     clear hK K; refine nx ?_
     exact hqX
   refine EX.ret (.osl 1 out.length 1) [some (cdE L a2), some ⟨58, 1, jjE out⟩] ?_ (fun C hN hk => AW.ret (mkRet [some 0, some 1] [] rfl (by simp [resOf, lk, lkh, I, str, B, U8, U64, U32, cdE] <;> omega) (by first | (simp [wkHp, wkHp1, wkEnt, lkh, cdE]; done) | simp [wkHp, wkHp1, wkEnt, lkh, I, str, cdE])))
   exact ⟨out, a2, rfl, ⟨by omega, g4⟩, h1⟩
end Go.Proofs.YtffchapiaampmaaGreatDoor
namespace Go.Proofs.YtffchapiaampmaaGreatDoor
open Go.Av
theorem lessF_iff (a b : Ev) : lessF a b = true ↔ a.time < b.time ∨ (a.time = b.time ∧ (a.host < b.host ∨ (a.host = b.host ∧ (a.file < b.file ∨ (a.file = b.file ∧ a.frm < b.frm))))) := by
 unfold lessF
 by_cases h1 : a.time = b.time
 · by_cases h2 : a.host = b.host
   · by_cases h3 : a.file = b.file
     · simp [h1, h2, h3]
     · simp [h1, h2, h3]
   · simp [h1, h2]
 · simp [h1]
theorem lessF_trans {a b c : Ev} (h : lessF a b = true) (k : lessF b c = true) : lessF a c = true := by
 rw [lessF_iff] at *; omega
theorem insGo_spec (l : List Ev) (e : Ev) : ∀ i, i ≤ l.length → (∀ j (h : j < l.length), insGo l e i ≤ j → j < i → lessF e l[j] = true) ∧ (∀ m (h : m < l.length), insGo l e i = m + 1 → lessF e l[m] = false)
 | 0, _ => ⟨fun j h h1 h2 => absurd h2 (by omega), fun m h h1 => by simp [insGo] at h1⟩
 | i + 1, hi => by
   have hx : l[i]? = some l[i] := List.getElem?_eq_getElem (by omega)
   obtain ⟨IH1, IH2⟩ := insGo_spec l e i (by omega)
   rw [insGo, hx]
   simp only
   split
   · next hl =>
     refine ⟨fun j h h1 h2 => ?_, IH2⟩
     by_cases hj : j = i
     · subst hj; exact hl
     · exact IH1 j h h1 (by omega)
   · next hl =>
     refine ⟨fun j h h1 h2 => absurd h1 (by omega), fun m h h1 => ?_⟩
     obtain rfl : i = m := by omega
     simpa using hl
theorem insF_asc {l : List Ev} {e : Ev} (ha : Asc l) (ht : ∀ y ∈ l, lessF e y = true ∨ lessF y e = true) : Asc (insF l e) := by
 obtain ⟨h1, h2⟩ := insGo_spec l e l.length (Nat.le_refl _)
 have hle := insGo_le l e l.length
 unfold insF
 generalize insGo l e l.length = i at *
 have hlt : ∀ x ∈ l.take i, lessF x e = true := by
   intro x hx
   obtain ⟨j, hj, rfl⟩ := List.getElem_of_mem hx
   simp only [List.length_take] at hj
   rw [List.getElem_take]
   cases i with
   | zero => omega
   | succ m =>
     have hm : m < l.length := by omega
     have he := h2 m hm rfl
     have hme : lessF l[m] e = true := by
       rcases ht _ (List.getElem_mem hm) with h | h
       · rw [he] at h; simp at h
       · exact h
     by_cases hjm : j = m
     · subst hjm; exact hme
     · exact lessF_trans (List.pairwise_iff_getElem.1 ha j m (by omega) hm (by omega)) hme
 have hgt : ∀ x ∈ l.drop i, lessF e x = true := by
   intro x hx
   obtain ⟨j, hj, rfl⟩ := List.getElem_of_mem hx
   simp only [List.length_drop] at hj
   rw [List.getElem_drop]
   exact h1 (i + j) (by omega) (by omega) (by omega)
 unfold Asc at *
 rw [List.append_assoc, List.pairwise_append]
 refine ⟨ha.sublist (List.take_sublist _ _), ?_, ?_⟩
 · simp only [List.singleton_append, List.pairwise_cons]
   exact ⟨hgt, ha.sublist (List.drop_sublist _ _)⟩
 · intro x hx y hy
   simp only [List.singleton_append, List.mem_cons] at hy
   rcases hy with rfl | hy
   · exact hlt x hx
   · exact lessF_trans (hlt x hx) (hgt y hy)
theorem mem_insF {l : List Ev} {e x : Ev} : x ∈ insF l e ↔ x = e ∨ x ∈ l := by
 unfold insF
 conv => rhs; rhs; rw [← List.take_append_drop (insGo l e l.length) l]
 simp only [List.mem_append, List.mem_singleton]
 constructor
 · rintro ((h | h) | h) <;> simp [h]
 · rintro (h | h | h) <;> simp [h]
theorem insF_len (l : List Ev) (e : Ev) : (insF l e).length = l.length + 1 := by
 have := insGo_le l e l.length
 unfold insF; simp; omega
end Go.Proofs.YtffchapiaampmaaGreatDoor
namespace Go.Proofs.YtffchapiaampmaaGreatDoor
open Go.Av
attribute [local irreducible] ACall
/-- An event that comes before the k-th item of a file. -/
def Bel (host file : Int) (l : List It) (k : Nat) (e : Ev) : Prop :=
 e.host < host ∨ (e.host = host ∧ (e.file < file ∨ (e.file = file ∧ ∀ j, k ≤ j → ∀ x, l[j]? = some x → x.rule = [] → e.frm < x.ev.frm)))
theorem Bel.up {host file : Int} {l : List It} {k : Nat} {e : Ev} (h : Bel host file l k e) : Bel host file l (k + 1) e := by
 rcases h with h | ⟨h1, h | ⟨h2, h⟩⟩
 · exact .inl h
 · exact .inr ⟨h1, .inl h⟩
 · exact .inr ⟨h1, .inr ⟨h2, fun j hj => h j (by omega)⟩⟩
/-- Events that are drawn, all on earlier places than (host, file). -/
structure OutG (out : List Ev) (P : Ev → Prop) : Prop where
 asc : Asc out
 ev : ∀ e ∈ out, DrE e ∧ P e
def Bef (host file : Int) (e : Ev) : Prop := e.host < host ∨ (e.host = host ∧ e.file < file)
theorem OutG.imp {out : List Ev} {P Q : Ev → Prop} (h : OutG out P) (hi : ∀ e, P e → Q e) : OutG out Q := ⟨h.asc, fun e he => ⟨(h.ev e he).1, hi e (h.ev e he).2⟩⟩
theorem OutG.ins {out : List Ev} {host file : Int} {l : List It} {k : Nat} (h : OutG out (Bel host file l k)) (hr : RowG host file l) {x : It} (hx : l[k]? = some x) (hr0 : x.rule = []) : OutG (insF out x.ev) (Bel host file l (k + 1)) := by
 obtain ⟨hk, rfl⟩ := List.getElem?_eq_some_iff.1 hx
 have hg := hr.each _ (List.getElem_mem hk) hr0
 refine ⟨insF_asc h.asc ?_, ?_⟩
 · intro y hy
   have := (h.ev y hy).2
   have hlt : y.host < l[k].ev.host ∨ (y.host = l[k].ev.host ∧ (y.file < l[k].ev.file ∨ (y.file = l[k].ev.file ∧ y.frm < l[k].ev.frm))) := by
     rcases this with h | ⟨h1, h | ⟨h2, h⟩⟩
     · left; omega
     · right; refine ⟨by omega, .inl (by omega)⟩
     · right; exact ⟨by omega, .inr ⟨by omega, h k (Nat.le_refl _) _ hx hr0⟩⟩
   rw [lessF_iff, lessF_iff]
   omega
 · intro e he
   rcases mem_insF.1 he with rfl | he
   · refine ⟨hg.1, .inr ⟨hg.2.1, .inr ⟨hg.2.2, fun j hj y hy hyr => ?_⟩⟩⟩
     obtain ⟨hj2, rfl⟩ := List.getElem?_eq_some_iff.1 hy
     exact List.pairwise_iff_getElem.1 hr.asc k j hk hj2 (by omega) hr0 hyr
   · exact ⟨(h.ev e he).1, (h.ev e he).2.up⟩
theorem events12 (L : List UInt8) (hL : L.length ≤ 2 ^ 20) (a : Nat) (ha : a ≤ L.length) (most : Nat) (hm : most ≤ 6) :
   ACallE Tryz.prog 7 [.ptr 0 2 0 0, I most] [some (cdE L a)] (fun x => ∃ (out : List Ev) (a' : Nat), x = (.sl 10 (evE out), [some (cdE L a')]) ∧ (Asc out ∧ (∀ e ∈ out, DrE e) ∧ out.length ≤ 36) ∧ a' ≤ L.length) := by
 refine acallE 56 1 Tryz.func7 rfl rfl rfl (by simp) rfl rfl ?_
 apply EX.step
 · intro xX C hN hk hqX
   refine nx ?_; refine rG hN hk noc [0] [0, 1] fun K hK => ?_; simp only [go_sem, seval]; refine hK _ _ ?_
   clear hK K; refine nx ?_
   exact hqX
 apply EX.step
 · intro xX C hN hk hqX
   refine nx ?_; refine rG hN hk noc [0] [0, 1, 5] fun K hK => ?_; simp only [go_sem, seval]; refine hK _ _ ?_
   clear hK K; refine nx ?_
   exact hqX
 apply EX.step
 · intro xX C hN hk hqX
   refine nx ?_; refine rG hN hk noc [0] [0, 1, 5, 6] fun K hK => ?_; simp only [go_sem, seval]; refine hK _ _ ?_
   clear hK K; refine nx ?_
   exact hqX
 have hnil : OutG [] (Bef ((0 + 1 : Nat) : Int) 5) := ⟨List.Pairwise.nil, fun e he => by simp at he⟩
 apply EX.step
 · intro xX C hN hk hqX
   refine nx ?_
   exact hqX
 refine lpX 1 (fun s : Nat × List Ev × Nat => ⟨[(0, .ptr 0 2 0 0), (1, I most), (5, .sl 10 (evE s.2.1)), (6, I (s.1 + 1 : Nat))], [(0, some ⟨48, 2, [[.sl 1 (bytesE L), I s.2.2]]⟩)]⟩) (fun s => s.1 ≤ 2 ∧ s.2.1.length ≤ 18 * s.1 ∧ s.2.2 ≤ L.length ∧ OutG s.2.1 (Bef (s.1 + 1 : Nat) 5)) (fun s => 2 - s.1) (0, [], a) (mkWk [some 0] [] (by simp [wkEnv, lk, lkh, I, str, B, U8, U64, U32] <;> omega) (by first | (simp [wkHp, wkHp1, wkEnt, lkh]; done) | simp [wkHp, wkHp1, wkEnt, lkh, I, str])) ?_
 intro ⟨h, out, a1⟩ hI Y hY
 obtain ⟨g1, g2, g3, g4⟩ := hI
 simp only at g1 g2 g3 g4
 obtain ⟨v, a2, h1, h2, q1⟩ := next13 L hL a1 2 g3 (by omega) (by omega)
 have w1 := wrap64 (n := 1 + (v : Int)) (by omega)
 by_cases hfv : h ≤ v
 · have d0 := dLeT (a := ((h + 1 : Nat) : Int)) (b := 1 + (v : Int)) (by omega)
   obtain ⟨_, ⟨fs, a3, rfl, ⟨k1, k2⟩, k3⟩, q2⟩ := files26 L hL a2 h1 ((h + 1 : Nat) : Int) most (by omega) hm
   simp only at q2
   apply EX.step
   · intro xX C hN hk hqX
     refine nx ?_; refine rG hN hk (onc 2 (ocq 0 q1) noc) [0] [0, 1, 5, 6, 14] fun K hK => ?_; simp only [go_sem, seval, d0, w1]
     try simp (disch := omega) only [au]
     refine obK (hK _ _ ?_); clear hK K; refine nx ?_
     exact hqX
   apply EX.step
   · intro xX C hN hk hqX
     refine nx ?_; refine cT ?_; refine nx ?_
     exact hqX
   apply EX.step
   · intro xX C hN hk hqX
     refine nx ?_; refine rG hN hk (onc 3 (ocq 0 q2) noc) [0] [0, 1, 5, 6, 7] fun K hK => ?_; simp only [go_sem, seval]; refine obK (hK _ _ ?_)
     clear hK K; refine nx ?_
     exact hqX
   apply EX.step
   · intro xX C hN hk hqX
     refine nx ?_; refine rG hN hk noc [0] [0, 1, 5, 6, 7, 8] fun K hK => ?_; simp only [go_sem, seval]; refine hK _ _ ?_
     clear hK K; refine nx ?_
     exact hqX
   clear q1 q2
   have hT : ∀ i, Bef ((h + 1 : Nat) : Int) (5 + (i + 1 : Nat)) = Bef ((h + 1 : Nat) : Int) (5 + (i : Nat) + 1) := by intro i; congr 1
   have g4' : OutG out (Bef ((h + 1 : Nat) : Int) (5 + (0 : Nat))) := g4
   apply EX.step
   · intro xX C hN hk hqX
     refine nx ?_
     exact hqX
   refine lpX 2 (fun s : Nat × List Ev => ⟨[(0, .ptr 0 2 0 0), (1, I most), (5, .sl 10 (evE s.2)), (6, I (h + 1 : Nat)), (7, .osl 1 fs.length 1), (8, I s.1)], [(0, some ⟨48, 2, [[.sl 1 (bytesE L), I a3]]⟩), (1, some ⟨58, 1, jjE fs⟩)]⟩) (fun s => s.1 ≤ fs.length ∧ s.2.length ≤ 18 * h + 6 * s.1 ∧ OutG s.2 (Bef (h + 1 : Nat) (5 + s.1))) (fun s => fs.length - s.1) (0, out) (mkWk [some 0, some 1] [] (by simp [wkEnv, lk, lkh, I, str, B, U8, U64, U32] <;> omega) (by first | (simp [wkHp, wkHp1, wkEnt, lkh]; done) | simp [wkHp, wkHp1, wkEnt, lkh, I, str])) ?_
   intro ⟨i, o2⟩ hI2 Y2 hY2
   obtain ⟨m1, m2, m3⟩ := hI2
   simp only at m1 m2 m3
   by_cases hi : i < fs.length
   · have hx := List.getElem?_eq_getElem hi
     have hrow := k2 i hi
     generalize fs[i] = l at *
     have hll := hrow.len
     have hb0 : OutG o2 (Bel ((h + 1 : Nat) : Int) (5 + i) l 0) := m3.imp (fun e he => by
       rcases he with he | ⟨e1, e2⟩
       · exact .inl he
       · exact .inr ⟨e1, .inl e2⟩)
     apply EX.step
     · intro xX C hN hk hqX
       refine nx ?_; refine rG hN hk noc [0] [0, 1, 5, 6, 7, 8, 24] fun K hK => ?_; simp only [go_sem, seval]
       try simp (disch := omega) only [au]
       (first | with_reducible refine hK _ _ ?_ | refine obK (hK _ _ ?_)); clear hK K; refine nx ?_
       exact hqX
     apply EX.step
     · intro xX C hN hk hqX
       refine nx ?_; refine cT ?_; refine nx ?_
       exact hqX
     apply EX.step
     · intro xX C hN hk hqX
       refine nx ?_; refine rG hN hk noc [0] [0, 1, 5, 6, 7, 8, 9] fun K hK => ?_; simp only [go_sem, seval]; refine hK _ _ ?_
       clear hK K; refine nx ?_
       exact hqX
     apply EX.step
     · intro xX C hN hk hqX
       refine nx ?_
       exact hqX
     refine lpX 2 (fun s : Nat × List Ev => ⟨[(0, .ptr 0 2 0 0), (1, I most), (5, .sl 10 (evE s.2)), (6, I (h + 1 : Nat)), (7, .osl 1 fs.length 1), (8, I i), (9, I s.1)], [(0, some ⟨48, 2, [[.sl 1 (bytesE L), I a3]]⟩), (1, some ⟨58, 1, jjE fs⟩)]⟩) (fun s => s.1 ≤ l.length ∧ s.2.length ≤ 18 * h + 6 * i + s.1 ∧ OutG s.2 (Bel (h + 1 : Nat) (5 + i) l s.1)) (fun s => l.length - s.1) (0, o2) (mkWk [some 0, some 1] [] (by simp [wkEnv, lk, lkh, I, str, B, U8, U64, U32] <;> omega) (by first | (simp [wkHp, wkHp1, wkEnt, lkh]; done) | simp [wkHp, wkHp1, wkEnt, lkh, I, str])) ?_
     intro ⟨k, o3⟩ hI3 Y3 hY3
     obtain ⟨n1, n2, n3⟩ := hI3
     simp only at n1 n2 n3
     by_cases hk2 : k < l.length
     · have hy := List.getElem?_eq_getElem hk2
       have hins := fun h => n3.ins hrow hy h
       generalize l[k] = x at *
       apply EX.step
       · intro xX C hN hk hqX
         refine nx ?_; refine rG hN hk noc [0] [0, 1, 5, 6, 7, 8, 9, 33] fun K hK => ?_; simp only [go_sem, seval, hx]
         try simp (disch := omega) only [au]
         (first | with_reducible refine hK _ _ ?_ | refine obK (hK _ _ ?_)); clear hK K; refine nx ?_
         exact hqX
       apply EX.step
       · intro xX C hN hk hqX
         refine nx ?_; refine cT ?_; refine nx ?_
         exact hqX
       rcases x with ⟨rl, e⟩
       cases rl with
       | nil =>
         have hi3 := hins rfl
         have q3 := insert29 o3 e (by omega)
         have hil := insF_len o3 e
         simp only at hi3
         generalize insF o3 e = o4 at *
         apply EX.step
         · intro xX C hN hk hqX
           refine nx ?_; refine rG hN hk noc [0] [0, 1, 5, 6, 7, 8, 9, 44] fun K hK => ?_; simp only [go_sem, seval, hx, hy]
           try simp (disch := omega) only [au]
           (first | with_reducible refine hK _ _ ?_ | refine obK (hK _ _ ?_)); clear hK K; refine nx ?_
           exact hqX
         apply EX.step
         · intro xX C hN hk hqX
           refine nx ?_; refine cT ?_; refine nx ?_
           exact hqX
         apply EX.step
         · intro xX C hN hk hqX
           refine nx ?_; refine rG hN hk (onc 9 (pcq q3) noc) [0] [0, 1, 5, 6, 7, 8, 9] fun K hK => ?_; simp only [go_sem, seval, hx, hy]; refine obK (hK _ _ ?_)
           clear hK K; refine nx ?_
           exact hqX
         apply EX.step
         · intro xX C hN hk hqX
           refine nx ?_; refine rG hN hk noc [0] [0, 1, 5, 6, 7, 8, 9] fun K hK => ?_; simp only [go_sem, seval]
           try simp (disch := omega) only [au]
           refine hK _ _ ?_; clear hK K; refine nx ?_
           exact hqX
         refine eY hY3 ((k + 1, o4)) (mkWk [some 0, some 2] [1] (by simp [wkEnv, lk, lkh, I, str, B, U8, U64, U32] <;> omega) (by first | (simp [wkHp, wkHp1, wkEnt, lkh]; done) | simp [wkHp, wkHp1, wkEnt, lkh, I, str]))
       | cons c rl =>
         have hup : OutG o3 (Bel ((h + 1 : Nat) : Int) (5 + i) l (k + 1)) := n3.imp (fun e he => he.up)
         have dc : ((c :: rl) == ([] : List UInt8)) = false := rfl
         apply EX.step
         · intro xX C hN hk hqX
           refine nx ?_; refine rG hN hk noc [0] [0, 1, 5, 6, 7, 8, 9, 44] fun K hK => ?_; simp only [go_sem, seval, hx, hy, dc]
           try simp (disch := omega) only [au]
           (first | with_reducible refine hK _ _ ?_ | refine obK (hK _ _ ?_)); clear hK K; refine nx ?_
           exact hqX
         apply EX.step
         · intro xX C hN hk hqX
           refine nx ?_; refine cF ?_; refine nx ?_
           exact hqX
         apply EX.step
         · intro xX C hN hk hqX
           refine nx ?_; refine rG hN hk noc [0] [0, 1, 5, 6, 7, 8, 9] fun K hK => ?_; simp only [go_sem, seval]
           try simp (disch := omega) only [au]
           refine hK _ _ ?_; clear hK K; refine nx ?_
           exact hqX
         refine eY hY3 ((k + 1, o3)) (mkWk [some 0, some 1] [] (by simp [wkEnv, lk, lkh, I, str, B, U8, U64, U32] <;> omega) (by first | (simp [wkHp, wkHp1, wkEnt, lkh]; done) | simp [wkHp, wkHp1, wkEnt, lkh, I, str]))
     · have : k = l.length := by omega
       subst this
       have hb : OutG o3 (Bef ((h + 1 : Nat) : Int) (5 + (i + 1 : Nat))) := n3.imp (fun e he => by
         rcases he with he | ⟨e1, e2 | ⟨e2, _⟩⟩
         · exact .inl he
         · exact .inr ⟨e1, by omega⟩
         · exact .inr ⟨e1, by omega⟩)
       apply EX.step
       · intro xX C hN hk hqX
         refine nx ?_; refine rG hN hk noc [0] [0, 1, 5, 6, 7, 8, 9, 33] fun K hK => ?_; simp only [go_sem, seval, hx]
         try simp (disch := omega) only [au]
         (first | with_reducible refine hK _ _ ?_ | refine obK (hK _ _ ?_)); clear hK K; refine nx ?_
         exact hqX
       apply EX.step
       · intro xX C hN hk hqX
         refine nx ?_; refine cF ?_; refine nx ?_
         exact hqX
       apply EX.step
       · intro xX C hN hk hqX
         refine nx ?_; refine rG hN hk noc [0] [0, 1, 5, 6, 7, 8] fun K hK => ?_; simp only [go_sem, seval]
         try simp (disch := omega) only [au]
         refine hK _ _ ?_; clear hK K; refine nx ?_
         exact hqX
       refine eY hY2 ((i + 1, o3)) (mkWk [some 0, some 1] [] (by simp [wkEnv, lk, lkh, I, str, B, U8, U64, U32] <;> omega) (by first | (simp [wkHp, wkHp1, wkEnt, lkh]; done) | simp [wkHp, wkHp1, wkEnt, lkh, I, str]))
   · have : i = fs.length := by omega
     subst this
     have hb : OutG o2 (Bef ((h + 1 + 1 : Nat) : Int) 5) := m3.imp (fun e he => by
       rcases he with he | ⟨e1, e2⟩
       · exact .inl (by omega)
       · exact .inl (by omega))
     apply EX.step
     · intro xX C hN hk hqX
       refine nx ?_; refine rG hN hk noc [0] [0, 1, 5, 6, 7, 8, 24] fun K hK => ?_; simp only [go_sem, seval]
       try simp (disch := omega) only [au]
       (first | with_reducible refine hK _ _ ?_ | refine obK (hK _ _ ?_)); clear hK K; refine nx ?_
       exact hqX
     apply EX.step
     · intro xX C hN hk hqX
       refine nx ?_; refine cF ?_; refine nx ?_
       exact hqX
     apply EX.step
     · intro xX C hN hk hqX
       refine nx ?_; refine rG hN hk noc [0] [0, 1, 5, 6] fun K hK => ?_; simp only [go_sem, seval]
       try simp (disch := omega) only [au]
       refine hK _ _ ?_; clear hK K; refine nx ?_
       exact hqX
     refine eY hY ((h + 1, o2, a3)) (mkWk [some 0] [] (by simp [wkEnv, lk, lkh, I, str, B, U8, U64, U32] <;> omega) (by first | (simp [wkHp, wkHp1, wkEnt, lkh]; done) | simp [wkHp, wkHp1, wkEnt, lkh, I, str]))
 · have d0 := dLeF (a := ((h + 1 : Nat) : Int)) (b := 1 + (v : Int)) (by omega)
   apply EX.step
   · intro xX C hN hk hqX
     refine nx ?_; refine rG hN hk (onc 2 (ocq 0 q1) noc) [0] [0, 1, 5, 6, 14] fun K hK => ?_; simp only [go_sem, seval, d0, w1]
     try simp (disch := omega) only [au]
     refine obK (hK _ _ ?_); clear hK K; refine nx ?_
     exact hqX
   apply EX.step
   · intro xX C hN hk hqX
     refine nx ?_; refine cF ?_; refine nx ?_
     exact hqX
   apply EX.step
   · intro xX C hN hk hqX
     refine nx ?_; refine rG hN hk noc [0] [4] fun K hK => ?_; simp only [go_sem, seval]; refine hK _ _ ?_
     clear hK K; refine nx ?_
     exact hqX
   refine EX.ret (.sl 10 (evE out)) [some (cdE L a2)] ?_ (fun C hN hk => AW.ret (mkRet [some 0] [] rfl (by simp [resOf, lk, lkh, I, str, B, U8, U64, U32, cdE] <;> omega) (by first | (simp [wkHp, wkHp1, wkEnt, lkh, cdE]; done) | simp [wkHp, wkHp1, wkEnt, lkh, I, str, cdE])))
   exact ⟨out, a2, rfl, ⟨g4.asc, fun e he => (g4.ev e he).1, by omega⟩, h1⟩
end Go.Proofs.YtffchapiaampmaaGreatDoor
