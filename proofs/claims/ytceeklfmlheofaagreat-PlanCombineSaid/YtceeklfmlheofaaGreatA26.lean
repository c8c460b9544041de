/-
  Part 26 of the proof that logtidelaw41.PlanCombine returns true for every list of bytes and leaves its argument as it was; no condition.
-/
import Derived.Test.YtceeklfmlheofaaGreatA25
set_option linter.unusedSimpArgs false
set_option linter.unusedVariables false
namespace Go.Proofs.YtceeklfmlheofaaGreat
open Go.Av
attribute [local irreducible] ACall
def orF (l : List Int) : Int := match l.find? fun x => x != 0 with
 | some x => x
 | none => 0
theorem cmpOr (l : List Int) (hl : l.length ≤ 2 ^ 30) : ACall Tryz.prog 41 [.sl 1 (intE l)] [] (I (orF l)) [] := by
 refine acall 18 0 Tryz.func41 rfl rfl rfl (by simp) rfl rfl ?_
 intro C hN hk
 refine nx ?_; refine rG hN hk noc [] [0] fun K hK => ?_; simp only [go_sem, seval]; refine hK _ _ ?_
 clear hK K; refine nx ?_
 refine rG hN hk noc [] [0, 3] fun K hK => ?_; simp only [go_sem, seval]; refine hK _ _ ?_
 clear hK K; refine nx ?_
 refine rG hN hk noc [] [3, 6, 7, 8] fun K hK => ?_; simp only [go_sem, seval]
 (first | with_reducible refine hK _ _ ?_ | refine obK (hK _ _ ?_)); clear hK K; refine nx ?_
 refine lpF hk 0 (fun i : Nat => ⟨[(3, I 0), (6, .sl 1 (intE l)), (7, I l.length), (8, I i)], []⟩) (fun i => i ≤ l.length ∧ ∀ x ∈ l.take i, (x != 0) = false) (fun i => l.length - i) 0 (mkWk [] [] (by simp [wkEnv, lk, lkh, I, str, B, U8, U64, U32] <;> omega) (by first | (simp [wkHp, wkHp1, wkEnt, lkh]; done) | simp [wkHp, wkHp1, wkEnt, lkh, I, str])) ?_
 rintro i ⟨h1, h2⟩
 by_cases hi : i < l.length
 · have hx := List.getElem?_eq_getElem hi
   rcases dqB (l[i] != 0) with e | e
   · have hg : orF l = l[i] := by unfold orF; rw [find_at hi h2 e]
     rw [hg]
     generalize l[i] = x at *
     refine nx ?_; refine rG hN hk noc [] [3, 6, 7, 8, 9] fun K hK => ?_; simp only [go_sem, seval, hx, e]
     try simp (disch := omega) only [au]
     refine hK _ _ ?_; clear hK K; refine nx ?_; refine cT ?_; refine nx ?_; refine rG hN hk noc [] [3, 5, 6, 7, 8] fun K hK => ?_; simp only [go_sem, seval, hx, e]
     (first | with_reducible refine hK _ _ ?_ | refine obK (hK _ _ ?_)); clear hK K; refine nx ?_
     refine rG hN hk noc [] [3, 5, 6, 7, 8, 14] fun K hK => ?_; simp only [go_sem, seval, hx, e]
     try simp (disch := omega) only [au]
     refine hK _ _ ?_; clear hK K; refine nx ?_; refine cT ?_; refine nx ?_; refine rG hN hk noc [] [2] fun K hK => ?_; simp only [go_sem, seval, hx, e]; refine hK _ _ ?_
     clear hK K; refine nx ?_
     refine AW.ret (mkRet [] [] rfl (by simp [resOf, lk, lkh, I, str, B, U8, U64, U32] <;> omega) (by first | (simp [wkHp, wkHp1, wkEnt, lkh]; done) | simp [wkHp, wkHp1, wkEnt, lkh, I, str]))
   · have h3 : ∀ x ∈ l.take (i + 1), (x != 0) = false := by
       rw [List.take_add_one, hx]
       intro x hx
       rcases List.mem_append.1 hx with hx | hx
       · exact h2 x hx
       · simp at hx; rw [hx]; exact e
     generalize l[i] = x at *
     refine nx ?_; refine rG hN hk noc [] [3, 6, 7, 8, 9] fun K hK => ?_; simp only [go_sem, seval, hx, e]
     try simp (disch := omega) only [au]
     refine hK _ _ ?_; clear hK K; refine nx ?_; refine cT ?_; refine nx ?_; refine rG hN hk noc [] [3, 5, 6, 7, 8] fun K hK => ?_; simp only [go_sem, seval, hx, e]
     (first | with_reducible refine hK _ _ ?_ | refine obK (hK _ _ ?_)); clear hK K; refine nx ?_
     refine rG hN hk noc [] [3, 5, 6, 7, 8, 14] fun K hK => ?_; simp only [go_sem, seval, hx, e]
     try simp (disch := omega) only [au]
     refine hK _ _ ?_; clear hK K; refine nx ?_; refine cF ?_; refine nx ?_; refine rG hN hk noc [] [3, 6, 7, 8] fun K hK => ?_; simp only [go_sem, seval, hx, e]
     try simp (disch := omega) only [au]
     refine hK _ _ ?_; clear hK K; refine nx ?_
     refine ⟨i + 1, (by first | assumption | omega | (simp; done) | ((repeat' apply And.intro) <;> first | assumption | omega | (simp; done) | (simp; omega))), (by first | omega | (simp; omega)), ⟨[], [], ⟨by simp [srcIds], by simp [srcIds], by simp⟩, by simp, by simp [wkEnv, lk, lkh, I, str, B, U8, U64, U32] <;> omega, by first | (simp [wkHp, wkHp1, wkEnt, lkh]; done) | (simp [wkHp, wkHp1, wkEnt, lkh, I, str]; done) | simp [wkHp, wkHp1, wkEnt, lkh, I, str]⟩⟩
 · have : i = l.length := by omega
   subst this
   rw [List.take_length] at h2
   have hg : orF l = 0 := by
     unfold orF
     rw [List.find?_eq_none.2 (fun x hx => by simp [h2 x hx])]
   rw [hg]
   refine nx ?_; refine rG hN hk noc [] [3, 6, 7, 8, 9] fun K hK => ?_; simp only [go_sem, seval]
   try simp (disch := omega) only [au]
   refine hK _ _ ?_; clear hK K; refine nx ?_; refine cF ?_; refine nx ?_; refine rG hN hk noc [] [2] fun K hK => ?_; simp only [go_sem, seval]; refine hK _ _ ?_
   clear hK K; refine nx ?_
   refine AW.ret (mkRet [] [] rfl (by simp [resOf, lk, lkh, I, str, B, U8, U64, U32] <;> omega) (by first | (simp [wkHp, wkHp1, wkEnt, lkh]; done) | simp [wkHp, wkHp1, wkEnt, lkh, I, str]))
theorem cmpI_lt {x y : Int} (h : x < y) : cmpI x y = -1 := by simp [cmpI, h]
theorem cmpI_gt {x y : Int} (h : y < x) : cmpI x y = 1 := by unfold cmpI; rw [if_neg (by omega), if_pos h]
theorem cmpI_eq (x : Int) : cmpI x x = 0 := by simp [cmpI]
theorem less_or (a b : Ev) : decide (orF [cmpI a.time b.time, cmpI a.host b.host, cmpI a.file b.file, cmpI a.frm b.frm] < 0) = lessF a b := by
 unfold orF lessF
 rcases Int.lt_trichotomy a.time b.time with h1 | h1 | h1
 · rw [cmpI_lt h1, if_pos (by omega)]; simp [h1]
 · rw [h1, cmpI_eq, if_neg (by simp)]
   rcases Int.lt_trichotomy a.host b.host with h2 | h2 | h2
   · rw [cmpI_lt h2, if_pos (by omega)]; simp [h2]
   · rw [h2, cmpI_eq, if_neg (by simp)]
     rcases Int.lt_trichotomy a.file b.file with h3 | h3 | h3
     · rw [cmpI_lt h3, if_pos (by omega)]; simp [h3]
     · rw [h3, cmpI_eq, if_neg (by simp)]
       rcases Int.lt_trichotomy a.frm b.frm with h4 | h4 | h4
       · rw [cmpI_lt h4]; simp [h4]
       · rw [h4, cmpI_eq]; simp
       · rw [cmpI_gt h4]; simp; omega
     · rw [cmpI_gt h3, if_pos (by omega)]; simp; omega
   · rw [cmpI_gt h2, if_pos (by omega)]; simp; omega
 · rw [cmpI_gt h1, if_pos (by omega)]; simp; omega
theorem eventLess (a b : Ev) : ACall Tryz.prog 20 [.agg (evC a), .agg (evC b)] [] (B (lessF a b)) [] := by
 refine acall 28 0 Tryz.func20 rfl rfl rfl (by simp) rfl rfl ?_
 intro C hN hk
 have q1 := compare1 a.time b.time
 have q2 := compare1 a.host b.host
 have q3 := compare1 a.file b.file
 have q4 := compare1 a.frm b.frm
 have q5 := cmpOr [cmpI a.time b.time, cmpI a.host b.host, cmpI a.file b.file, cmpI a.frm b.frm] (by simp)
 have he := less_or a b
 generalize orF _ = r at *
 generalize cmpI a.time b.time = c1 at *
 generalize cmpI a.host b.host = c2 at *
 generalize cmpI a.file b.file = c3 at *
 generalize cmpI a.frm b.frm = c4 at *
 rw [← he]
 refine nx ?_; refine rG hN hk noc [] [2, 3] fun K hK => ?_; simp only [go_sem, seval]; refine hK _ _ ?_
 clear hK K; refine nx ?_
 refine rD hN hk (onc 4 (pcq q1) (onc 9 (pcq q2) (onc 14 (pcq q3) (onc 19 (pcq q4) (onc 21 (bcq [162] q5) noc))))) [] [4] fun K tok htok hK => ?_
 simp only [go_sem, seval]
 try simp (disch := omega) only [au]
 refine ⟨htok _ (by decide +kernel), ?_⟩
 refine obK (hK _ _ ?_); clear hK K htok tok
 refine nx ?_
 refine AW.ret (mkRet [] [] rfl (by simp [resOf, lk, lkh, I, str, B, U8, U64, U32] <;> omega) (by first | (simp [wkHp, wkHp1, wkEnt, lkh]; done) | simp [wkHp, wkHp1, wkEnt, lkh, I, str]))
theorem addGo_len : ∀ (n : Nat) (a b out : List Ev), a.length + b.length ≤ n → (addGo a b out).length ≤ out.length + a.length + b.length := by
 intro n
 induction n with
 | zero =>
   intro a b out h
   have ha : a = [] := List.length_eq_zero_iff.1 (by omega)
   have hb : b = [] := List.length_eq_zero_iff.1 (by omega)
   subst ha hb
   simp [addGo]
 | succ n ih =>
   intro a b out h
   match a, b with
   | [], [] => simp [addGo]
   | x :: a, [] =>
     rw [addGo]
     have := ih a [] (pushF out x) (by simp at h ⊢; omega)
     have := pushF_len out x
     simp at *; omega
   | [], y :: b =>
     rw [addGo]
     have := ih [] b (pushF out y) (by simp at h ⊢; omega)
     have := pushF_len out y
     simp at *; omega
   | x :: a, y :: b =>
     rw [addGo]
     split
     · have := ih (x :: a) b (pushF out y) (by simp at h ⊢; omega)
       have := pushF_len out y
       simp at *; omega
     · have := ih a (y :: b) (pushF out x) (by simp at h ⊢; omega)
       have := pushF_len out x
       simp at *; omega
theorem addR_len (a b : List Ev) : (addR a b).length ≤ a.length + b.length := by
 have := addGo_len _ a b [] (Nat.le_refl _)
 simpa [addR] using this
def mgTo (ls : List (List Ev)) (i : Nat) : List Ev := (ls.take i).foldl addR []
theorem mgTo_s (ls : List (List Ev)) (i : Nat) (h : i < ls.length) : mgTo ls (i + 1) = addR (mgTo ls i) ls[i] := by
 unfold mgTo
 rw [List.take_add_one, List.getElem?_eq_getElem h, List.foldl_append]
 rfl
theorem mgTo_len (ls : List (List Ev)) (h : ∀ l ∈ ls, l.length ≤ 4096) : ∀ i, i ≤ ls.length → (mgTo ls i).length ≤ i * 4096
 | 0, _ => by simp [mgTo]
 | i + 1, hi => by
   have := mgTo_len ls h i (by omega)
   have := h ls[i] (List.getElem_mem _)
   have := addR_len (mgTo ls i) ls[i]
   rw [mgTo_s ls i (by omega)]; omega
theorem merge31 (ls : List (List Ev)) (hn : ls.length ≤ 4096) (hl : ∀ l ∈ ls, l.length ≤ 4096 ∧ Asc l) :
   ACall Tryz.prog 8 [.sl 1 (elE ls)] [] (.tup [.sl 10 (evE (mgTo ls ls.length)), I 0]) [] := by
 refine acall 32 0 Tryz.func8 rfl rfl rfl (by simp) rfl rfl ?_
 intro C hN hk
 have hml := mgTo_len ls (fun l h => (hl l h).1)
 refine nx ?_; refine rG hN hk noc [] [0] fun K hK => ?_; simp only [go_sem, seval]; refine hK _ _ ?_
 clear hK K; refine nx ?_
 refine rG hN hk noc [] [0, 4] fun K hK => ?_; simp only [go_sem, seval]; refine hK _ _ ?_
 clear hK K; refine nx ?_
 refine lpF hk 0 (fun i : Nat => ⟨[(0, .sl 1 (elE ls)), (4, I i)], []⟩) (fun i => i ≤ ls.length) (fun i => ls.length - i) 0 (mkWk [] [] (by simp [wkEnv, lk, lkh, I, str, B, U8, U64, U32] <;> omega) (by first | (simp [wkHp, wkHp1, wkEnt, lkh]; done) | simp [wkHp, wkHp1, wkEnt, lkh, I, str])) ?_
 intro i h1
 by_cases hi : i < ls.length
 · have hx := List.getElem?_eq_getElem hi
   have h2 := hl _ (List.getElem_mem hi)
   have q := ascending31 ls[i] (by omega) h2.2
   generalize ls[i] = l at *
   refine nx ?_; refine rG hN hk noc [] [0, 4, 10] fun K hK => ?_; simp only [go_sem, seval, hx]
   try simp (disch := omega) only [au]
   (first | with_reducible refine hK _ _ ?_ | refine obK (hK _ _ ?_)); clear hK K; refine nx ?_
   refine cT ?_; refine nx ?_; refine rG hN hk (onc 4 (pcq q) noc) [] [0, 4, 18] fun K hK => ?_; simp only [go_sem, seval, hx]; refine obK (hK _ _ ?_)
   clear hK K; refine nx ?_
   refine cF ?_; refine nx ?_; refine rG hN hk noc [] [0, 4] fun K hK => ?_; simp only [go_sem, seval, hx]
   try simp (disch := omega) only [au]
   refine hK _ _ ?_; clear hK K; refine nx ?_
   refine ⟨i + 1, (by first | assumption | omega | (simp; done) | ((repeat' apply And.intro) <;> first | assumption | omega | (simp; done) | (simp; omega))), (by first | omega | (simp; omega)), ⟨[], [], ⟨by simp [srcIds], by simp [srcIds], by simp⟩, by simp, by simp [wkEnv, lk, lkh, I, str, B, U8, U64, U32] <;> omega, by first | (simp [wkHp, wkHp1, wkEnt, lkh]; done) | (simp [wkHp, wkHp1, wkEnt, lkh, I, str]; done) | simp [wkHp, wkHp1, wkEnt, lkh, I, str]⟩⟩
 · refine nx ?_
   refine rG hN hk noc [] [0, 4, 10] fun K hK => ?_; simp only [go_sem, seval]
   try simp (disch := omega) only [au]
   (first | with_reducible refine hK _ _ ?_ | refine obK (hK _ _ ?_)); clear hK K; refine nx ?_
   refine cF ?_; refine nx ?_; refine rG hN hk noc [] [0, 5] fun K hK => ?_; simp only [go_sem, seval]; refine hK _ _ ?_
   clear hK K; refine nx ?_
   refine rG hN hk noc [] [0, 5, 6] fun K hK => ?_; simp only [go_sem, seval]; refine hK _ _ ?_
   clear hK K; refine nx ?_
   refine lpF hk 0 (fun i : Nat => ⟨[(0, .sl 1 (elE ls)), (5, .sl 10 (evE (mgTo ls i))), (6, I i)], []⟩) (fun i => i ≤ ls.length) (fun i => ls.length - i) 0 (mkWk [] [] (by simp [wkEnv, lk, lkh, I, str, B, U8, U64, U32, mgTo] <;> omega) (by first | (simp [wkHp, wkHp1, wkEnt, lkh, mgTo]; done) | simp [wkHp, wkHp1, wkEnt, lkh, I, str, mgTo])) ?_
   intro i h1
   have hmi := hml i h1
   by_cases hi : i < ls.length
   · have hx := List.getElem?_eq_getElem hi
     have h2 := hl _ (List.getElem_mem hi)
     have hs := mgTo_s ls i hi
     have q := add31 (mgTo ls i) ls[i] (by omega) (by omega)
     generalize addR (mgTo ls i) ls[i] = r at *
     generalize mgTo ls i = m at *
     generalize ls[i] = l at *
     refine nx ?_; refine rG hN hk noc [] [0, 5, 6, 22] fun K hK => ?_; simp only [go_sem, seval, hx]
     try simp (disch := omega) only [au]
     (first | with_reducible refine hK _ _ ?_ | refine obK (hK _ _ ?_)); clear hK K; refine nx ?_
     refine cT ?_; refine nx ?_; refine rG hN hk (onc 5 (pcq q) noc) [] [0, 5, 6] fun K hK => ?_; simp only [go_sem, seval, hx]; refine obK (hK _ _ ?_)
     clear hK K; refine nx ?_
     refine rG hN hk noc [] [0, 5, 6] fun K hK => ?_; simp only [go_sem, seval, hx]
     try simp (disch := omega) only [au]
     refine hK _ _ ?_; clear hK K; refine nx ?_
     refine ⟨i + 1, (by first | assumption | omega | (simp; done) | ((repeat' apply And.intro) <;> first | assumption | omega | (simp; done) | (simp; omega))), (by first | omega | (simp; omega)), ⟨[], [0], ⟨by simp [srcIds], by simp [srcIds], by simp⟩, by simp, by simp [wkEnv, lk, lkh, I, str, B, U8, U64, U32, hs] <;> omega, by first | (simp [wkHp, wkHp1, wkEnt, lkh, hs]; done) | (simp [wkHp, wkHp1, wkEnt, lkh, I, str, hs]; done) | simp [wkHp, wkHp1, wkEnt, lkh, I, str, hs]⟩⟩
   · have : i = ls.length := by omega
     subst this
     generalize mgTo ls ls.length = m at *
     refine nx ?_; refine rG hN hk noc [] [0, 5, 6, 22] fun K hK => ?_; simp only [go_sem, seval]
     try simp (disch := omega) only [au]
     (first | with_reducible refine hK _ _ ?_ | refine obK (hK _ _ ?_)); clear hK K; refine nx ?_
     refine cF ?_; refine nx ?_; refine rG hN hk noc [] [2, 3] fun K hK => ?_; simp only [go_sem, seval]; refine hK _ _ ?_
     clear hK K; refine nx ?_
     refine AW.ret (mkRet [] [] rfl (by simp [resOf, lk, lkh, I, str, B, U8, U64, U32] <;> omega) (by first | (simp [wkHp, wkHp1, wkEnt, lkh]; done) | simp [wkHp, wkHp1, wkEnt, lkh, I, str]))
def fnV (g : Nat) : AV := .val (.func (.func g) #[] #[])
attribute [go_sem] fnV
def merR (a b : List Ev) : List Ev := mergeGo a b []
theorem mergeGo_len : ∀ (n : Nat) (a b out : List Ev), a.length + b.length ≤ n → (mergeGo a b out).length ≤ out.length + a.length + b.length := by
 intro n
 induction n with
 | zero =>
   intro a b out h
   have ha : a = [] := List.length_eq_zero_iff.1 (by omega)
   have hb : b = [] := List.length_eq_zero_iff.1 (by omega)
   subst ha hb
   simp [mergeGo]
 | succ n ih =>
   intro a b out h
   match a, b with
   | [], b => simp [mergeGo]
   | x :: a, [] => simp [mergeGo]
   | x :: a, y :: b =>
     rw [mergeGo]
     split
     · have := ih a (y :: b) (out ++ [x]) (by simp at h ⊢; omega)
       simp at *; omega
     · split
       · have := ih (x :: a) b (out ++ [y]) (by simp at h ⊢; omega)
         simp at *; omega
       · have := ih a b (out ++ [x]) (by simp at h ⊢; omega)
         simp at *; omega
theorem merR_len (a b : List Ev) : (merR a b).length ≤ a.length + b.length := by
 have := mergeGo_len _ a b [] (Nat.le_refl _)
 simpa [merR] using this
theorem evE_cons (x : Ev) (l : List Ev) : evE (x :: l) = evC x :: evE l := rfl
theorem merged41 (a b : List Ev) (ha : a.length ≤ 2 ^ 30) (hb : b.length ≤ 2 ^ 30) : ACall Tryz.prog 19 [.sl 10 (evE a), .sl 10 (evE b), fnV 20] [] (.osl 0 (merR a b).length 10) [some ⟨48, 10, evE (merR a b)⟩] := by
 refine acall 65 0 Tryz.func19 rfl rfl rfl (by simp) rfl rfl ?_
 intro C hN hk
 unfold merR
 refine nx ?_; refine rG hN hk noc [] [0, 1, 2] fun K hK => ?_; simp only [go_sem, seval]; refine hK _ _ ?_
 clear hK K; refine nx ?_
 refine rG hN hk noc [] [0, 1, 2, 7] fun K hK => ?_; simp only [go_sem, seval]; refine hK _ _ ?_
 clear hK K; refine nx ?_
 refine lpF hk 1 (fun s : List Ev × List Ev × List Ev => ⟨[(0, .sl 10 (evE s.1)), (1, .sl 10 (evE s.2.1)), (2, fnV 20), (7, .osl 0 s.2.2.length 10)], [(0, some ⟨48, 10, evE s.2.2⟩)]⟩) (fun s => s.1.length + s.2.1.length + s.2.2.length ≤ a.length + b.length ∧ mergeGo s.1 s.2.1 s.2.2 = mergeGo a b []) (fun s => s.1.length + s.2.1.length) (a, b, []) (mkWk [none] [] (by simp [wkEnv, lk, lkh, I, str, B, U8, U64, U32, fnV] <;> omega) (by first | (simp [wkHp, wkHp1, wkEnt, lkh, fnV]; done) | simp [wkHp, wkHp1, wkEnt, lkh, I, str, fnV])) ?_
 rintro ⟨a', b', out⟩ ⟨h1, h2⟩
 simp only at h1 h2
 match a', b' with
 | [], b' =>
   have d0 : decide (((([] : List Ev).length : Nat) : Int) > 0) = false := by simp
   rw [mergeGo] at h2
   simp only [List.length_nil] at h1
   refine nx ?_; refine rG hN hk noc [] [0, 1, 2, 7, 15] fun K hK => ?_; simp only [go_sem, seval, d0]
   try simp (disch := omega) only [au]
   try simp only [go_sem, seval, d0]
   (first | with_reducible refine hK _ _ ?_ | refine obK (hK _ _ ?_)); clear hK K; refine nx ?_
   refine cF ?_; refine nx ?_; refine rG hN hk noc [] [6] fun K hK => ?_; simp only [go_sem, seval]
   (first | with_reducible refine hK _ _ ?_ | refine obK (hK _ _ ?_)); clear hK K; refine nx ?_
   rw [← h2]
   refine AW.ret (mkRet [some 0] [] rfl (by simp [resOf, lk, lkh, I, str, B, U8, U64, U32] <;> omega) (by first | (simp [wkHp, wkHp1, wkEnt, lkh]; done) | simp [wkHp, wkHp1, wkEnt, lkh, I, str]))
 | x :: a', [] =>
   have d0 : decide (((a'.length + 1 : Nat) : Int) > 0) = true := by simp
   have d1 : decide ((0 : Int) > 0) = false := by simp
   rw [mergeGo] at h2
   simp only [List.length_nil, List.length_cons] at h1
   refine nx ?_; refine rG hN hk noc [] [0, 1, 2, 7, 15] fun K hK => ?_; simp only [go_sem, seval, d0, evE_nil, List.length_nil]
   try simp (disch := omega) only [au]
   try simp only [go_sem, seval, d0, evE_nil, List.length_nil]
   (first | with_reducible refine hK _ _ ?_ | refine obK (hK _ _ ?_)); clear hK K; refine nx ?_
   refine cF ?_; refine nx ?_; refine rG hN hk noc [] [6] fun K hK => ?_; simp only [go_sem, seval, evE_nil]
   (first | with_reducible refine hK _ _ ?_ | refine obK (hK _ _ ?_)); clear hK K; refine nx ?_
   rw [← h2]
   refine AW.ret (mkRet [some 0] [] rfl (by simp [resOf, lk, lkh, I, str, B, U8, U64, U32] <;> omega) (by first | (simp [wkHp, wkHp1, wkEnt, lkh]; done) | simp [wkHp, wkHp1, wkEnt, lkh, I, str]))
 | x :: a', y :: b' =>
   have d0 : decide (((a'.length + 1 : Nat) : Int) > 0) = true := by simp
   have d1 : decide (((b'.length + 1 : Nat) : Int) > 0) = true := by simp
   have q1 := eventLess x y
   have q2 := eventLess y x
   rw [mergeGo] at h2
   simp only [List.length_cons] at h1
   cases hl : lessF x y with
   | true =>
     rw [hl] at q1
     rw [if_pos hl] at h2
     refine nx ?_; refine rG hN hk noc [] [0, 1, 2, 7, 15] fun K hK => ?_; simp only [go_sem, seval, d0, d1]
     try simp (disch := omega) only [au]
     try simp only [go_sem, seval, d0, d1]
     (first | with_reducible refine hK _ _ ?_ | refine obK (hK _ _ ?_)); clear hK K; refine nx ?_
     refine cT ?_; refine nx ?_
     refine rD hN hk (onc 7 (pcq q1) noc) [] [0, 1, 2, 7, 26] fun K tok htok hK => ?_
     simp only [go_sem, seval]
     refine ⟨htok _ (by decide +kernel), ?_⟩
     refine obK (hK _ _ ?_); clear hK K htok tok
     refine nx ?_; refine cT ?_; refine nx ?_
     refine rD hN hk noc [] [0, 1, 2, 7] fun K tok htok hK => ?_
     simp only [go_sem, seval, List.take_length]
     refine ⟨htok _ (by decide +kernel), ?_⟩
     (first | with_reducible refine hK _ _ ?_ | refine obK (hK _ _ ?_)); clear hK K htok tok
     refine nx ?_
     refine eE ((a', y :: b', out ++ [x])) (mkWk [some 0] [] (by simp [wkEnv, lk, lkh, I, str, B, U8, U64, U32, fnV] <;> omega) (by first | (simp [wkHp, wkHp1, wkEnt, lkh, fnV]; done) | simp [wkHp, wkHp1, wkEnt, lkh, I, str, fnV]))
   | false =>
     rw [hl] at q1
     rw [if_neg (by simp [hl])] at h2
     cases hl2 : lessF y x with
     | true =>
       rw [hl2] at q2
       rw [if_pos hl2] at h2
       refine nx ?_; refine rG hN hk noc [] [0, 1, 2, 7, 15] fun K hK => ?_; simp only [go_sem, seval, d0, d1]
       try simp (disch := omega) only [au]
       try simp only [go_sem, seval, d0, d1]
       (first | with_reducible refine hK _ _ ?_ | refine obK (hK _ _ ?_)); clear hK K; refine nx ?_
       refine cT ?_; refine nx ?_
       refine rD hN hk (onc 7 (pcq q1) noc) [] [0, 1, 2, 7, 26] fun K tok htok hK => ?_
       simp only [go_sem, seval]
       refine ⟨htok _ (by decide +kernel), ?_⟩
       refine obK (hK _ _ ?_); clear hK K htok tok
       refine nx ?_; refine cF ?_; refine nx ?_
       refine rD hN hk (onc 7 (pcq q2) noc) [] [0, 1, 2, 7, 43] fun K tok htok hK => ?_
       simp only [go_sem, seval]
       refine ⟨htok _ (by decide +kernel), ?_⟩
       refine obK (hK _ _ ?_); clear hK K htok tok
       refine nx ?_; refine cT ?_; refine nx ?_
       refine rD hN hk noc [] [0, 1, 2, 7] fun K tok htok hK => ?_
       simp only [go_sem, seval, List.take_length]
       refine ⟨htok _ (by decide +kernel), ?_⟩
       (first | with_reducible refine hK _ _ ?_ | refine obK (hK _ _ ?_)); clear hK K htok tok
       refine nx ?_
       refine eE ((x :: a', b', out ++ [y])) (mkWk [some 0] [] (by simp [wkEnv, lk, lkh, I, str, B, U8, U64, U32, fnV] <;> omega) (by first | (simp [wkHp, wkHp1, wkEnt, lkh, fnV]; done) | simp [wkHp, wkHp1, wkEnt, lkh, I, str, fnV]))
     | false =>
       rw [hl2] at q2
       rw [if_neg (by simp [hl2])] at h2
       refine nx ?_; refine rG hN hk noc [] [0, 1, 2, 7, 15] fun K hK => ?_; simp only [go_sem, seval, d0, d1]
       try simp (disch := omega) only [au]
       try simp only [go_sem, seval, d0, d1]
       (first | with_reducible refine hK _ _ ?_ | refine obK (hK _ _ ?_)); clear hK K; refine nx ?_
       refine cT ?_; refine nx ?_
       refine rD hN hk (onc 7 (pcq q1) noc) [] [0, 1, 2, 7, 26] fun K tok htok hK => ?_
       simp only [go_sem, seval]
       refine ⟨htok _ (by decide +kernel), ?_⟩
       refine obK (hK _ _ ?_); clear hK K htok tok
       refine nx ?_; refine cF ?_; refine nx ?_
       refine rD hN hk (onc 7 (pcq q2) noc) [] [0, 1, 2, 7, 43] fun K tok htok hK => ?_
       simp only [go_sem, seval]
       refine ⟨htok _ (by decide +kernel), ?_⟩
       refine obK (hK _ _ ?_); clear hK K htok tok
       refine nx ?_; refine cF ?_; refine nx ?_
       refine rD hN hk noc [] [0, 1, 2, 7] fun K tok htok hK => ?_
       simp only [go_sem, seval, List.take_length]
       refine ⟨htok _ (by decide +kernel), ?_⟩
       (first | with_reducible refine hK _ _ ?_ | refine obK (hK _ _ ?_)); clear hK K htok tok
       refine nx ?_
       refine eE ((a', b', out ++ [x])) (mkWk [some 0] [] (by simp [wkEnv, lk, lkh, I, str, B, U8, U64, U32, fnV] <;> omega) (by first | (simp [wkHp, wkHp1, wkEnt, lkh, fnV]; done) | simp [wkHp, wkHp1, wkEnt, lkh, I, str, fnV]))
def cbTo (ls : List (List Ev)) (i : Nat) : List Ev := (ls.take i).foldl merR []
theorem cbTo_s (ls : List (List Ev)) (i : Nat) (h : i < ls.length) : cbTo ls (i + 1) = merR (cbTo ls i) ls[i] := by
 unfold cbTo
 rw [List.take_add_one, List.getElem?_eq_getElem h, List.foldl_append]
 rfl
theorem cbTo_len (ls : List (List Ev)) (h : ∀ l ∈ ls, l.length ≤ 4096) : ∀ i, i ≤ ls.length → (cbTo ls i).length ≤ i * 4096
 | 0, _ => by simp [cbTo]
 | i + 1, hi => by
   have := cbTo_len ls h i (by omega)
   have := h ls[i] (List.getElem_mem _)
   have := merR_len (cbTo ls i) ls[i]
   rw [cbTo_s ls i (by omega)]; omega
theorem combine41 (ls : List (List Ev)) (hn : ls.length ≤ 4096) (hl : ∀ l ∈ ls, l.length ≤ 4096) : ACall Tryz.prog 7 [.sl 1 (elE ls)] [] (.sl 10 (evE (cbTo ls ls.length))) [] := by
 refine acall 17 0 Tryz.func7 rfl rfl rfl (by simp) rfl rfl ?_
 intro C hN hk
 have hml := cbTo_len ls hl
 refine nx ?_; refine rG hN hk noc [] [0] fun K hK => ?_; simp only [go_sem, seval]; refine hK _ _ ?_
 clear hK K; refine nx ?_
 refine rG hN hk noc [] [0, 3] fun K hK => ?_; simp only [go_sem, seval]; refine hK _ _ ?_
 clear hK K; refine nx ?_
 refine rG hN hk noc [] [3, 6, 7, 8] fun K hK => ?_; simp only [go_sem, seval]
 (first | with_reducible refine hK _ _ ?_ | refine obK (hK _ _ ?_)); clear hK K; refine nx ?_
 refine lpF hk 0 (fun i : Nat => ⟨[(3, .sl 10 (evE (cbTo ls i))), (6, .sl 1 (elE ls)), (7, I ls.length), (8, I i)], []⟩) (fun i => i ≤ ls.length) (fun i => ls.length - i) 0 (mkWk [] [] (by simp [wkEnv, lk, lkh, I, str, B, U8, U64, U32, cbTo] <;> omega) (by first | (simp [wkHp, wkHp1, wkEnt, lkh, cbTo]; done) | simp [wkHp, wkHp1, wkEnt, lkh, I, str, cbTo])) ?_
 intro i h1
 have hmi := hml i h1
 by_cases hi : i < ls.length
 · have hx := List.getElem?_eq_getElem hi
   have h2 := hl _ (List.getElem_mem hi)
   have hs := cbTo_s ls i hi
   have q := merged41 (cbTo ls i) ls[i] (by omega) (by omega)
   generalize merR (cbTo ls i) ls[i] = r at *
   generalize cbTo ls i = m at *
   generalize ls[i] = l at *
   refine nx ?_; refine rG hN hk noc [] [3, 6, 7, 8, 9] fun K hK => ?_; simp only [go_sem, seval, hx]
   try simp (disch := omega) only [au]
   refine hK _ _ ?_; clear hK K; refine nx ?_; refine cT ?_; refine nx ?_; refine rG hN hk noc [] [3, 5, 6, 7, 8] fun K hK => ?_; simp only [go_sem, seval, hx]
   (first | with_reducible refine hK _ _ ?_ | refine obK (hK _ _ ?_)); clear hK K; refine nx ?_
   refine rG hN hk (onc 2 (pcq q) noc) [] [3, 6, 7, 8] fun K hK => ?_; simp only [go_sem, seval, hx]; refine obK (hK _ _ ?_)
   clear hK K; refine nx ?_
   refine rG hN hk noc [] [3, 6, 7, 8] fun K hK => ?_; simp only [go_sem, seval, hx]
   try simp (disch := omega) only [au]
   refine hK _ _ ?_; clear hK K; refine nx ?_
   refine eE (i + 1) (mkWk [] [0] (by simp [wkEnv, lk, lkh, I, str, B, U8, U64, U32, hs] <;> omega) (by first | (simp [wkHp, wkHp1, wkEnt, lkh, hs]; done) | simp [wkHp, wkHp1, wkEnt, lkh, I, str, hs]))
 · have : i = ls.length := by omega
   subst this
   generalize cbTo ls ls.length = m at *
   refine nx ?_; refine rG hN hk noc [] [3, 6, 7, 8, 9] fun K hK => ?_; simp only [go_sem, seval]
   try simp (disch := omega) only [au]
   refine hK _ _ ?_; clear hK K; refine nx ?_; refine cF ?_; refine nx ?_; refine rG hN hk noc [] [2] fun K hK => ?_; simp only [go_sem, seval]; refine hK _ _ ?_
   clear hK K; refine nx ?_
   refine AW.ret (mkRet [] [] rfl (by simp [resOf, lk, lkh, I, str, B, U8, U64, U32] <;> omega) (by first | (simp [wkHp, wkHp1, wkEnt, lkh]; done) | simp [wkHp, wkHp1, wkEnt, lkh, I, str]))
theorem cb_sel (l : List Ev) (h : Asc l) : ∀ (ps : List (Nat → Bool)) (q : Nat → Bool), (ps.map (selF l)).foldl merR (selF l q) = selF l (fun i => q i || ps.any fun p => p i)
 | [], q => by simp
 | p :: ps, q => by
   have e : merR (selF l q) (selF l p) = selF l (fun i => q i || p i) := by
     unfold merR; rw [mergeGo_sel l q p [] h]; rfl
   simp only [List.map_cons, List.foldl_cons, e]
   rw [cb_sel l h ps]
   congr 1; funext i; simp [Bool.or_assoc]
theorem mg_sel (l : List Ev) (h : Asc l) : ∀ (ps : List (Nat → Bool)) (q : Nat → Bool), (ps.map (selF l)).foldl addR (selF l q) = selF l (fun i => q i || ps.any fun p => p i)
 | [], q => by simp
 | p :: ps, q => by
   have e : addR (selF l q) (selF l p) = selF l (fun i => q i || p i) := by
     unfold addR; rw [addGo_sel l q p [] h (by simp)]; rfl
   simp only [List.map_cons, List.foldl_cons, e]
   rw [mg_sel l h ps]
   congr 1; funext i; simp [Bool.or_assoc]
theorem cb_all (l : List Ev) (h : Asc l) (ps : List (Nat → Bool)) (hall : ∀ i, i < l.length → ps.any (fun p => p i) = true) : cbTo (ps.map (selF l)) (ps.map (selF l)).length = l := by
 unfold cbTo
 rw [List.take_length]
 have e : ([] : List Ev) = selF l (fun _ => false) := (selF_none l _ (fun _ _ => rfl)).symm
 rw [e, cb_sel l h ps]
 exact selF_all l _ (fun i hi => by simp [hall i hi])
theorem mg_all (l : List Ev) (h : Asc l) (ps : List (Nat → Bool)) (hall : ∀ i, i < l.length → ps.any (fun p => p i) = true) : mgTo (ps.map (selF l)) (ps.map (selF l)).length = l := by
 unfold mgTo
 rw [List.take_length]
 have e : ([] : List Ev) = selF l (fun _ => false) := (selF_none l _ (fun _ _ => rfl)).symm
 rw [e, mg_sel l h ps]
 exact selF_all l _ (fun i hi => by simp [hall i hi])
end Go.Proofs.YtceeklfmlheofaaGreat
