/-
  Part 22 of the proof that logtidelaw41.PlanCombine returns true for every list of bytes and leaves its argument as it was; no condition.
-/
import Derived.Test.YtceeklfmlheofaaGreatA21
set_option linter.unusedSimpArgs false
set_option linter.unusedVariables false
namespace Go.Proofs.YtceeklfmlheofaaGreat
open Go.Av
attribute [local irreducible] ACall
def getF (fs : List Fl) (n : S) : Option Fl := fs.find? fun f => f.name == n
def getR (fs : List Fl) (n : S) : AV := match getF fs n with
 | some f => .tup [str f.val, B true]
 | none => .tup [str [], B false]
theorem find_at {α : Type} {p : α → Bool} {l : List α} {i : Nat} (hi : i < l.length) (h : ∀ x ∈ l.take i, p x = false) (hp : p l[i] = true) : l.find? p = some l[i] := by
 have e : l = l.take i ++ l[i] :: l.drop (i + 1) := by simp
 have h2 : (l.take i).find? p = none := by simp only [List.find?_eq_none]; intro x hx; simp [h x hx]
 conv => lhs; rw [e]
 rw [List.find?_append, h2, List.find?_cons_of_pos (by simpa using hp)]; rfl
theorem get11 (fs : List Fl) (n : S) (hf : fs.length ≤ 2 ^ 30) : ACall Tryz.prog 99 [.sl 2 (flE fs), str n] [] (getR fs n) [] := by
 refine acall 25 0 Tryz.func99 rfl rfl rfl (by simp) rfl rfl ?_
 intro C hN hk
 refine nx ?_; refine rG hN hk noc [] [0, 1] fun K hK => ?_; simp only [go_sem, seval]; refine hK _ _ ?_
 clear hK K; refine nx ?_
 refine rG hN hk noc [] [0, 1, 6] fun K hK => ?_; simp only [go_sem, seval]; refine hK _ _ ?_
 clear hK K; refine nx ?_
 refine lpF hk 0 (fun i : Nat => ⟨[(0, .sl 2 (flE fs)), (1, str n), (6, I i)], []⟩) (fun i => i ≤ fs.length ∧ ∀ x ∈ fs.take i, (x.name == n) = false) (fun i => fs.length - i) 0 (mkWk [] [] (by simp [wkEnv, wk, wkL, wkE, lk, I, str, B, U8, U64, U32] <;> omega) (by first | (simp [wkHp, wkHp1, wkEnt, lkh]; done) | (simp [wkHp, wkHp1, wkEnt, lkh, idLtL, idLt, I, str]; done) | simp [wkHp, wkHp1, wkEnt, wkL, wk, wkE, lkh, I, str])) ?_
 rintro i ⟨h1, h2⟩
 by_cases hi : i < fs.length
 · have hx := List.getElem?_eq_getElem hi
   rcases dqB (fs[i].name == n) with e | e
   · have hg : getR fs n = .tup [str fs[i].val, B true] := by
       unfold getR getF; rw [find_at hi h2 (by exact e)]
     rw [hg]
     generalize fs[i] = f at *
     refine nx ?_; refine rG hN hk noc [] [0, 1, 6, 10] fun K hK => ?_; simp only [go_sem, seval, hx, e]
     try simp (disch := omega) only [au]
     (first | with_reducible refine hK _ _ ?_ | refine obK (hK _ _ ?_)); clear hK K; refine nx ?_
     refine cT ?_; refine nx ?_; refine rG hN hk noc [] [0, 1, 6, 19] fun K hK => ?_; simp only [go_sem, seval, hx, e]
     try simp (disch := omega) only [au]
     (first | with_reducible refine hK _ _ ?_ | refine obK (hK _ _ ?_)); clear hK K; refine nx ?_
     refine cT ?_; refine nx ?_; refine rG hN hk noc [] [4, 5] fun K hK => ?_; simp only [go_sem, seval, hx, e]
     (first | with_reducible refine hK _ _ ?_ | refine obK (hK _ _ ?_)); clear hK K; refine nx ?_
     refine AW.ret (mkRet [] [] rfl (by simp [resOf, lk, lkh, wk, wkL, wkE, I, str, B, U8, U64, U32] <;> omega) (by first | (simp [wkHp, wkHp1, wkEnt, lkh]; done) | (simp [wkHp, wkHp1, wkEnt, lkh, idLtL, idLt, I, str]; done) | simp [wkHp, wkHp1, wkEnt, wkL, wk, wkE, lkh, I, str]))
   · have h3 : ∀ x ∈ fs.take (i + 1), (x.name == n) = false := by
       rw [List.take_add_one, hx]
       intro x hx
       rcases List.mem_append.1 hx with hx | hx
       · exact h2 x hx
       · simp at hx; rw [hx]; exact e
     generalize fs[i] = f at *
     refine nx ?_; refine rG hN hk noc [] [0, 1, 6, 10] fun K hK => ?_; simp only [go_sem, seval, hx, e]
     try simp (disch := omega) only [au]
     (first | with_reducible refine hK _ _ ?_ | refine obK (hK _ _ ?_)); clear hK K; refine nx ?_
     refine cT ?_; refine nx ?_; refine rG hN hk noc [] [0, 1, 6, 19] fun K hK => ?_; simp only [go_sem, seval, hx, e]
     try simp (disch := omega) only [au]
     (first | with_reducible refine hK _ _ ?_ | refine obK (hK _ _ ?_)); clear hK K; refine nx ?_
     refine cF ?_; refine nx ?_; refine rG hN hk noc [] [0, 1, 6] fun K hK => ?_; simp only [go_sem, seval, hx, e]
     try simp (disch := omega) only [au]
     refine hK _ _ ?_; clear hK K; refine nx ?_
     refine ⟨i + 1, (by first | assumption | omega | (simp; done) | ((repeat' apply And.intro) <;> first | assumption | omega | (simp; done) | (simp; omega))), (by first | omega | (simp; omega)), ⟨[], [], ⟨by simp [srcIds], by simp [srcIds], by simp⟩, by simp, by simp [wkEnv, wk, wkL, wkE, lk, I, str, B, U8, U64, U32] <;> omega, by first | (simp [wkHp, wkHp1, wkEnt, lkh]; done) | (simp [wkHp, wkHp1, wkEnt, lkh, idLtL, idLt, I, str]; done) | simp [wkHp, wkHp1, wkEnt, wkL, wk, wkE, lkh, I, str]⟩⟩
 · have : i = fs.length := by omega
   subst this
   rw [List.take_length] at h2
   have hg : getR fs n = .tup [str [], B false] := by
     unfold getR getF
     rw [List.find?_eq_none.2 (fun x hx => by simp [h2 x hx])]
   rw [hg]
   refine nx ?_; refine rG hN hk noc [] [0, 1, 6, 10] fun K hK => ?_; simp only [go_sem, seval]
   try simp (disch := omega) only [au]
   (first | with_reducible refine hK _ _ ?_ | refine obK (hK _ _ ?_)); clear hK K; refine nx ?_
   refine cF ?_; refine nx ?_; refine rG hN hk noc [] [4, 5] fun K hK => ?_; simp only [go_sem, seval]; refine hK _ _ ?_
   clear hK K; refine nx ?_
   refine AW.ret (mkRet [] [] rfl (by simp [resOf, lk, lkh, wk, wkL, wkE, I, str, B, U8, U64, U32] <;> omega) (by first | (simp [wkHp, wkHp1, wkEnt, lkh]; done) | (simp [wkHp, wkHp1, wkEnt, lkh, idLtL, idLt, I, str]; done) | simp [wkHp, wkHp1, wkEnt, wkL, wk, wkE, lkh, I, str]))
def vlTo (l : List Ev) (n : S) : Nat → List Int × List S
 | 0 => ([], [])
 | i + 1 => match l[i]? with
   | some e => match getF e.fields n with
     | some f => ((vlTo l n i).1 ++ [(i : Int)], (vlTo l n i).2 ++ [f.val])
     | none => vlTo l n i
   | none => vlTo l n i
theorem vlTo_len (l : List Ev) (n : S) : ∀ i, (vlTo l n i).1.length ≤ i ∧ (vlTo l n i).2.length ≤ i
 | 0 => by simp [vlTo]
 | i + 1 => by
   have := vlTo_len l n i
   unfold vlTo
   split
   · split
     · simp; omega
     · omega
   · omega
theorem values27 (l : List Ev) (n : S) (hl : l.length ≤ 4096) (hf : ∀ e ∈ l, EvT e) : ACall Tryz.prog 83 [.sl 10 (evE l), str n] []
   (.tup [.osl 0 (vlTo l n l.length).1.length 1, .osl 1 (vlTo l n l.length).2.length 1]) [some ⟨3, 1, intE (vlTo l n l.length).1⟩, some ⟨9, 1, strE (vlTo l n l.length).2⟩] := by
 refine acall 38 0 Tryz.func83 rfl rfl rfl (by simp) rfl rfl ?_
 intro C hN hk
 refine nx ?_; refine rG hN hk noc [] [0, 1] fun K hK => ?_; simp only [go_sem, seval]; refine hK _ _ ?_
 clear hK K; refine nx ?_
 refine rG hN hk noc [] [0, 1, 6] fun K hK => ?_; simp only [go_sem, seval]; refine hK _ _ ?_
 clear hK K; refine nx ?_
 refine rG hN hk noc [] [0, 1, 6, 7] fun K hK => ?_; simp only [go_sem, seval]; refine hK _ _ ?_
 clear hK K; refine nx ?_
 refine rG hN hk noc [] [0, 1, 6, 7, 8] fun K hK => ?_; simp only [go_sem, seval]; refine hK _ _ ?_
 clear hK K; refine nx ?_
 refine lpF hk 2 (fun i : Nat => ⟨[(0, .sl 10 (evE l)), (1, str n), (6, .osl 0 (vlTo l n i).1.length 1), (7, .osl 1 (vlTo l n i).2.length 1), (8, I i)], [(0, some ⟨3, 1, intE (vlTo l n i).1⟩), (1, some ⟨9, 1, strE (vlTo l n i).2⟩)]⟩) (fun i => i ≤ l.length) (fun i => l.length - i) 0 (mkWk [none, none] [] (by simp [wkEnv, wk, wkL, wkE, lk, I, str, B, U8, U64, U32, vlTo] <;> omega) (by first | (simp [wkHp, wkHp1, wkEnt, lkh, vlTo]; done) | (simp [wkHp, wkHp1, wkEnt, lkh, idLtL, idLt, I, str, vlTo]; done) | simp [wkHp, wkHp1, wkEnt, wkL, wk, wkE, lkh, I, str, vlTo])) ?_
 intro i h1
 have hv := vlTo_len l n i
 by_cases hi : i < l.length
 · have hx := List.getElem?_eq_getElem hi
   have he := hf _ (List.getElem_mem hi)
   have hnf := he.nf
   have q := get11 l[i].fields n (by omega)
   have hs : vlTo l n (i + 1) = match getF l[i].fields n with | some f => ((vlTo l n i).1 ++ [(i : Int)], (vlTo l n i).2 ++ [f.val]) | none => vlTo l n i := by rw [vlTo, hx]
   unfold getR at q
   generalize l[i] = e at *
   generalize vlTo l n i = z at *
   obtain ⟨a, b⟩ := z
   simp only at hv
   cases hg : getF e.fields n with
   | some f =>
     simp only [hg] at q hs
     refine nx ?_; refine rG hN hk noc [] [0, 1, 6, 7, 8, 14] fun K hK => ?_; simp only [go_sem, seval, hx]
     try simp (disch := omega) only [au]
     (first | with_reducible refine hK _ _ ?_ | refine obK (hK _ _ ?_)); clear hK K; refine nx ?_
     refine cT ?_; refine nx ?_; refine rG hN hk (onc 6 (pcq q) noc) [] [0, 1, 6, 7, 8, 9, 10] fun K hK => ?_; simp only [go_sem, seval, hx]; refine obK (hK _ _ ?_)
     clear hK K; refine nx ?_
     refine rG hN hk noc [] [0, 1, 6, 7, 8, 9, 27] fun K hK => ?_; simp only [go_sem, seval, hx]; refine hK _ _ ?_
     clear hK K; refine nx ?_
     refine cT ?_; refine nx ?_; refine rG hN hk noc [] [0, 1, 6, 7, 8] fun K hK => ?_; simp only [go_sem, seval, hx]
     (first | with_reducible refine hK _ _ ?_ | refine obK (hK _ _ ?_)); clear hK K; refine nx ?_
     refine rG hN hk noc [] [0, 1, 6, 7, 8] fun K hK => ?_; simp only [go_sem, seval, hx]
     try simp (disch := omega) only [au]
     refine hK _ _ ?_; clear hK K; refine nx ?_
     refine ⟨i + 1, (by first | assumption | omega | (simp; done) | ((repeat' apply And.intro) <;> first | assumption | omega | (simp; done) | (simp; omega))), (by first | omega | (simp; omega)), ⟨[some 0, some 1], [], ⟨by simp [srcIds], by simp [srcIds], by simp⟩, by simp, by simp [wkEnv, wk, wkL, wkE, lk, I, str, B, U8, U64, U32, hs] <;> omega, by first | (simp [wkHp, wkHp1, wkEnt, lkh, hs]; done) | (simp [wkHp, wkHp1, wkEnt, lkh, idLtL, idLt, I, str, hs]; done) | simp [wkHp, wkHp1, wkEnt, wkL, wk, wkE, lkh, I, str, hs]⟩⟩
   | none =>
     simp only [hg] at q hs
     refine nx ?_; refine rG hN hk noc [] [0, 1, 6, 7, 8, 14] fun K hK => ?_; simp only [go_sem, seval, hx]
     try simp (disch := omega) only [au]
     (first | with_reducible refine hK _ _ ?_ | refine obK (hK _ _ ?_)); clear hK K; refine nx ?_
     refine cT ?_; refine nx ?_; refine rG hN hk (onc 6 (pcq q) noc) [] [0, 1, 6, 7, 8, 9, 10] fun K hK => ?_; simp only [go_sem, seval, hx]; refine obK (hK _ _ ?_)
     clear hK K; refine nx ?_
     refine rG hN hk noc [] [0, 1, 6, 7, 8, 9, 27] fun K hK => ?_; simp only [go_sem, seval, hx]; refine hK _ _ ?_
     clear hK K; refine nx ?_
     refine cF ?_; refine nx ?_; refine rG hN hk noc [] [0, 1, 6, 7, 8] fun K hK => ?_; simp only [go_sem, seval, hx]
     try simp (disch := omega) only [au]
     refine hK _ _ ?_; clear hK K; refine nx ?_
     refine ⟨i + 1, (by first | assumption | omega | (simp; done) | ((repeat' apply And.intro) <;> first | assumption | omega | (simp; done) | (simp; omega))), (by first | omega | (simp; omega)), ⟨[some 0, some 1], [], ⟨by simp [srcIds], by simp [srcIds], by simp⟩, by simp, by simp [wkEnv, wk, wkL, wkE, lk, I, str, B, U8, U64, U32, hs] <;> omega, by first | (simp [wkHp, wkHp1, wkEnt, lkh, hs]; done) | (simp [wkHp, wkHp1, wkEnt, lkh, idLtL, idLt, I, str, hs]; done) | simp [wkHp, wkHp1, wkEnt, wkL, wk, wkE, lkh, I, str, hs]⟩⟩
 · have : i = l.length := by omega
   subst this
   generalize vlTo l n l.length = z at *
   refine nx ?_; refine rG hN hk noc [] [0, 1, 6, 7, 8, 14] fun K hK => ?_; simp only [go_sem, seval]
   try simp (disch := omega) only [au]
   (first | with_reducible refine hK _ _ ?_ | refine obK (hK _ _ ?_)); clear hK K; refine nx ?_
   refine cF ?_; refine nx ?_; refine rG hN hk noc [] [4, 5] fun K hK => ?_; simp only [go_sem, seval]; refine hK _ _ ?_
   clear hK K; refine nx ?_
   refine AW.ret (mkRet [some 0, some 1] [] rfl (by simp [resOf, lk, lkh, wk, wkL, wkE, I, str, B, U8, U64, U32] <;> omega) (by first | (simp [wkHp, wkHp1, wkEnt, lkh]; done) | (simp [wkHp, wkHp1, wkEnt, lkh, idLtL, idLt, I, str]; done) | simp [wkHp, wkHp1, wkEnt, wkL, wk, wkE, lkh, I, str]))
def numF (e : Ev) (k : Nat) : Int := if k = 1 then e.host else if k = 2 then e.file else if k = 3 then e.frm else if k = 4 then e.to else if k = 5 then e.time else e.weight
theorem number27 (e : Ev) (k : Nat) (h1 : 1 ≤ k) (h6 : k ≤ 6) : ACall Tryz.prog 56 [.agg (evC e), I k] [] (I (numF e k)) [] := by
 refine acall 28 0 Tryz.func56 rfl rfl rfl (by simp) rfl rfl ?_
 intro C hN hk
 obtain rfl | rfl | rfl | rfl | rfl | rfl : k = 1 ∨ k = 2 ∨ k = 3 ∨ k = 4 ∨ k = 5 ∨ k = 6 := by omega
 · refine nx ?_
   refine rG hN hk noc [] [1, 2] fun K hK => ?_; simp only [go_sem, seval]; refine hK _ _ ?_
   clear hK K; refine nx ?_
   refine rG hN hk noc [] [2, 5] fun K hK => ?_; simp only [go_sem, seval]; refine hK _ _ ?_
   clear hK K; refine nx ?_
   refine rG hN hk noc [] [2, 5, 6] fun K hK => ?_; simp only [go_sem, seval]
   try simp (disch := omega) only [au]
   refine hK _ _ ?_; clear hK K; refine nx ?_; refine cT ?_; refine nx ?_; refine rG hN hk noc [] [4] fun K hK => ?_; simp only [go_sem, seval]; refine hK _ _ ?_
   clear hK K; refine nx ?_
   refine AW.ret (mkRet [] [] rfl (by simp [resOf, lk, lkh, wk, wkL, wkE, I, str, B, U8, U64, U32, numF] <;> omega) (by first | (simp [wkHp, wkHp1, wkEnt, lkh, numF]; done) | (simp [wkHp, wkHp1, wkEnt, lkh, idLtL, idLt, I, str, numF]; done) | simp [wkHp, wkHp1, wkEnt, wkL, wk, wkE, lkh, I, str, numF]))
 · refine nx ?_
   refine rG hN hk noc [] [1, 2] fun K hK => ?_; simp only [go_sem, seval]; refine hK _ _ ?_
   clear hK K; refine nx ?_
   refine rG hN hk noc [] [2, 5] fun K hK => ?_; simp only [go_sem, seval]; refine hK _ _ ?_
   clear hK K; refine nx ?_
   refine rG hN hk noc [] [2, 5, 6] fun K hK => ?_; simp only [go_sem, seval]
   try simp (disch := omega) only [au]
   refine hK _ _ ?_; clear hK K; refine nx ?_; refine cF ?_; refine nx ?_; refine rG hN hk noc [] [2, 5, 10] fun K hK => ?_; simp only [go_sem, seval]
   try simp (disch := omega) only [au]
   refine hK _ _ ?_; clear hK K; refine nx ?_; refine cT ?_; refine nx ?_; refine rG hN hk noc [] [4] fun K hK => ?_; simp only [go_sem, seval]; refine hK _ _ ?_
   clear hK K; refine nx ?_
   refine AW.ret (mkRet [] [] rfl (by simp [resOf, lk, lkh, wk, wkL, wkE, I, str, B, U8, U64, U32, numF] <;> omega) (by first | (simp [wkHp, wkHp1, wkEnt, lkh, numF]; done) | (simp [wkHp, wkHp1, wkEnt, lkh, idLtL, idLt, I, str, numF]; done) | simp [wkHp, wkHp1, wkEnt, wkL, wk, wkE, lkh, I, str, numF]))
 · refine nx ?_
   refine rG hN hk noc [] [1, 2] fun K hK => ?_; simp only [go_sem, seval]; refine hK _ _ ?_
   clear hK K; refine nx ?_
   refine rG hN hk noc [] [2, 5] fun K hK => ?_; simp only [go_sem, seval]; refine hK _ _ ?_
   clear hK K; refine nx ?_
   refine rG hN hk noc [] [2, 5, 6] fun K hK => ?_; simp only [go_sem, seval]
   try simp (disch := omega) only [au]
   refine hK _ _ ?_; clear hK K; refine nx ?_; refine cF ?_; refine nx ?_; refine rG hN hk noc [] [2, 5, 10] fun K hK => ?_; simp only [go_sem, seval]
   try simp (disch := omega) only [au]
   refine hK _ _ ?_; clear hK K; refine nx ?_; refine cF ?_; refine nx ?_; refine rG hN hk noc [] [2, 5, 14] fun K hK => ?_; simp only [go_sem, seval]
   try simp (disch := omega) only [au]
   refine hK _ _ ?_; clear hK K; refine nx ?_; refine cT ?_; refine nx ?_; refine rG hN hk noc [] [4] fun K hK => ?_; simp only [go_sem, seval]; refine hK _ _ ?_
   clear hK K; refine nx ?_
   refine AW.ret (mkRet [] [] rfl (by simp [resOf, lk, lkh, wk, wkL, wkE, I, str, B, U8, U64, U32, numF] <;> omega) (by first | (simp [wkHp, wkHp1, wkEnt, lkh, numF]; done) | (simp [wkHp, wkHp1, wkEnt, lkh, idLtL, idLt, I, str, numF]; done) | simp [wkHp, wkHp1, wkEnt, wkL, wk, wkE, lkh, I, str, numF]))
 · refine nx ?_
   refine rG hN hk noc [] [1, 2] fun K hK => ?_; simp only [go_sem, seval]; refine hK _ _ ?_
   clear hK K; refine nx ?_
   refine rG hN hk noc [] [2, 5] fun K hK => ?_; simp only [go_sem, seval]; refine hK _ _ ?_
   clear hK K; refine nx ?_
   refine rG hN hk noc [] [2, 5, 6] fun K hK => ?_; simp only [go_sem, seval]
   try simp (disch := omega) only [au]
   refine hK _ _ ?_; clear hK K; refine nx ?_; refine cF ?_; refine nx ?_; refine rG hN hk noc [] [2, 5, 10] fun K hK => ?_; simp only [go_sem, seval]
   try simp (disch := omega) only [au]
   refine hK _ _ ?_; clear hK K; refine nx ?_; refine cF ?_; refine nx ?_; refine rG hN hk noc [] [2, 5, 14] fun K hK => ?_; simp only [go_sem, seval]
   try simp (disch := omega) only [au]
   refine hK _ _ ?_; clear hK K; refine nx ?_; refine cF ?_; refine nx ?_; refine rG hN hk noc [] [2, 5, 18] fun K hK => ?_; simp only [go_sem, seval]
   try simp (disch := omega) only [au]
   refine hK _ _ ?_; clear hK K; refine nx ?_; refine cT ?_; refine nx ?_; refine rG hN hk noc [] [4] fun K hK => ?_; simp only [go_sem, seval]; refine hK _ _ ?_
   clear hK K; refine nx ?_
   refine AW.ret (mkRet [] [] rfl (by simp [resOf, lk, lkh, wk, wkL, wkE, I, str, B, U8, U64, U32, numF] <;> omega) (by first | (simp [wkHp, wkHp1, wkEnt, lkh, numF]; done) | (simp [wkHp, wkHp1, wkEnt, lkh, idLtL, idLt, I, str, numF]; done) | simp [wkHp, wkHp1, wkEnt, wkL, wk, wkE, lkh, I, str, numF]))
 · refine nx ?_
   refine rG hN hk noc [] [1, 2] fun K hK => ?_; simp only [go_sem, seval]; refine hK _ _ ?_
   clear hK K; refine nx ?_
   refine rG hN hk noc [] [2, 5] fun K hK => ?_; simp only [go_sem, seval]; refine hK _ _ ?_
   clear hK K; refine nx ?_
   refine rG hN hk noc [] [2, 5, 6] fun K hK => ?_; simp only [go_sem, seval]
   try simp (disch := omega) only [au]
   refine hK _ _ ?_; clear hK K; refine nx ?_; refine cF ?_; refine nx ?_; refine rG hN hk noc [] [2, 5, 10] fun K hK => ?_; simp only [go_sem, seval]
   try simp (disch := omega) only [au]
   refine hK _ _ ?_; clear hK K; refine nx ?_; refine cF ?_; refine nx ?_; refine rG hN hk noc [] [2, 5, 14] fun K hK => ?_; simp only [go_sem, seval]
   try simp (disch := omega) only [au]
   refine hK _ _ ?_; clear hK K; refine nx ?_; refine cF ?_; refine nx ?_; refine rG hN hk noc [] [2, 5, 18] fun K hK => ?_; simp only [go_sem, seval]
   try simp (disch := omega) only [au]
   refine hK _ _ ?_; clear hK K; refine nx ?_; refine cF ?_; refine nx ?_; refine rG hN hk noc [] [2, 22] fun K hK => ?_; simp only [go_sem, seval]
   try simp (disch := omega) only [au]
   refine hK _ _ ?_; clear hK K; refine nx ?_; refine cT ?_; refine nx ?_; refine rG hN hk noc [] [4] fun K hK => ?_; simp only [go_sem, seval]; refine hK _ _ ?_
   clear hK K; refine nx ?_
   refine AW.ret (mkRet [] [] rfl (by simp [resOf, lk, lkh, wk, wkL, wkE, I, str, B, U8, U64, U32, numF] <;> omega) (by first | (simp [wkHp, wkHp1, wkEnt, lkh, numF]; done) | (simp [wkHp, wkHp1, wkEnt, lkh, idLtL, idLt, I, str, numF]; done) | simp [wkHp, wkHp1, wkEnt, wkL, wk, wkE, lkh, I, str, numF]))
 · refine nx ?_
   refine rG hN hk noc [] [1, 2] fun K hK => ?_; simp only [go_sem, seval]; refine hK _ _ ?_
   clear hK K; refine nx ?_
   refine rG hN hk noc [] [2, 5] fun K hK => ?_; simp only [go_sem, seval]; refine hK _ _ ?_
   clear hK K; refine nx ?_
   refine rG hN hk noc [] [2, 5, 6] fun K hK => ?_; simp only [go_sem, seval]
   try simp (disch := omega) only [au]
   refine hK _ _ ?_; clear hK K; refine nx ?_; refine cF ?_; refine nx ?_; refine rG hN hk noc [] [2, 5, 10] fun K hK => ?_; simp only [go_sem, seval]
   try simp (disch := omega) only [au]
   refine hK _ _ ?_; clear hK K; refine nx ?_; refine cF ?_; refine nx ?_; refine rG hN hk noc [] [2, 5, 14] fun K hK => ?_; simp only [go_sem, seval]
   try simp (disch := omega) only [au]
   refine hK _ _ ?_; clear hK K; refine nx ?_; refine cF ?_; refine nx ?_; refine rG hN hk noc [] [2, 5, 18] fun K hK => ?_; simp only [go_sem, seval]
   try simp (disch := omega) only [au]
   refine hK _ _ ?_; clear hK K; refine nx ?_; refine cF ?_; refine nx ?_; refine rG hN hk noc [] [2, 22] fun K hK => ?_; simp only [go_sem, seval]
   try simp (disch := omega) only [au]
   refine hK _ _ ?_; clear hK K; refine nx ?_; refine cF ?_; refine nx ?_; refine rG hN hk noc [] [4] fun K hK => ?_; simp only [go_sem, seval]; refine hK _ _ ?_
   clear hK K; refine nx ?_
   refine AW.ret (mkRet [] [] rfl (by simp [resOf, lk, lkh, wk, wkL, wkE, I, str, B, U8, U64, U32, numF] <;> omega) (by first | (simp [wkHp, wkHp1, wkEnt, lkh, numF]; done) | (simp [wkHp, wkHp1, wkEnt, lkh, idLtL, idLt, I, str, numF]; done) | simp [wkHp, wkHp1, wkEnt, wkL, wk, wkE, lkh, I, str, numF]))
theorem check23_dist (l : List S) (h1 : l.length ≤ 32768) (h2 : ∀ s ∈ l, s.length ≤ 2048) : check23F (distF l) = 0 := by
 have := distF_len l
 have h3 : longS (distF l) = false := by
   unfold longS
   rw [List.any_eq_false]
   intro x hx
   have := h2 x ((distF_mem l x).1 hx)
   simp; omega
 unfold check23F
 rw [if_neg (by omega), h3, unord_of_sorted _ (distF_sorted l)]
 simp
theorem longS_of (d : List S) (h : check23F d = 0) : longS d = false ∧ d.length ≤ 32768 := by
 unfold check23F at h
 split at h
 · simp at h
 · split at h
   · simp at h
   · next h1 h2 => exact ⟨by simpa using h2, by omega⟩
theorem enc23F_len (d : List S) (h : check23F d = 0) : (enc23F d).length ≤ 11 + d.length * 2070 := enc23To_len d (longS_of d h).1 _ (Nat.le_refl _)
theorem short_of (d : List S) (h : check23F d = 0) : ∀ s ∈ d, s.length ≤ 2 ^ 40 := by
 have h1 := (longS_of d h).1
 unfold longS at h1
 rw [List.any_eq_false] at h1
 intro s hs
 have := h1 s hs
 simp at this; omega
theorem blockF_len (x : List UInt8) : (blockF x).length ≤ x.length + 11 := by
 have := varint_len x.length
 simp only [blockF, List.length_append]; omega
theorem enc24_len (v : List Int) (hl : v.length ≤ 16384) : (enc24 v).length ≤ 24 + v.length * 22 := encAs_len v _ (bestTo_le v 3) hl
def ixTo (ts : List S) (i : Nat) : List Int := (ts.take i).map fun t => (idxF (distF ts) t : Int)
theorem ixTo_s (ts : List S) (i : Nat) (h : i < ts.length) : ixTo ts (i + 1) = ixTo ts i ++ [(idxF (distF ts) ts[i] : Int)] := by
 unfold ixTo
 rw [List.take_add_one, List.getElem?_eq_getElem h]
 simp only [Option.toList, List.map_append, List.map_cons, List.map_nil]
def ixF (ts : List S) : List UInt8 := blockF (enc23F (distF ts)) ++ blockF (enc24 (ixTo ts ts.length))
theorem indexed27 (ts : List S) (hl : ts.length ≤ 4096) (hs : ∀ s ∈ ts, s.length ≤ 2048) : ACall Tryz.prog 51 [.sl 1 (strE ts)] [] (.osl 0 (ixF ts).length 1) [some ⟨5, 1, bytesE (ixF ts)⟩] := by
 refine acall 35 0 Tryz.func51 rfl rfl rfl (by simp) rfl rfl ?_
 intro C hN hk
 have hc := check23_dist ts (by omega) hs
 have hdl := distF_len ts
 have q0 := distinct1 _ ts (Nat.le_refl _) (by omega)
 have q1 := dictionary27 (distF ts) hc (by omega) (short_of _ hc)
 have hel := enc23F_len _ hc
 have q2 := putBlockN (enc23F (distF ts)) (by omega)
 have hbl := blockF_len (enc23F (distF ts))
 have qi := fun w => index1 (distF ts) w (by omega)
 have hss := ixTo_s ts
 have h0 : ixTo ts 0 = [] := rfl
 have hlen : ∀ i, (ixTo ts i).length ≤ i := by intro i; simp [ixTo]; omega
 unfold ixF
 generalize ixTo ts = ix at *
 generalize blockF (enc23F (distF ts)) = bl at *
 generalize enc23F (distF ts) = en at *
 generalize distF ts = d at *
 refine nx ?_; refine rG hN hk noc [] [0] fun K hK => ?_; simp only [go_sem, seval]; refine hK _ _ ?_
 clear hK K; refine nx ?_
 refine rG hN hk (onc 1 (pcq q0) noc) [] [0, 3] fun K hK => ?_; simp only [go_sem, seval]; refine obK (hK _ _ ?_)
 clear hK K; refine nx ?_
 refine rG hN hk noc [] [0, 3, 4] fun K hK => ?_; simp only [go_sem, seval]; refine hK _ _ ?_
 clear hK K; refine nx ?_
 refine rG hN hk noc [] [0, 3, 4, 5] fun K hK => ?_; simp only [go_sem, seval]; refine hK _ _ ?_
 clear hK K; refine nx ?_
 clear q0
 refine nx ?_
 refine lpF hk 2 (fun i : Nat => ⟨[(0, .sl 1 (strE ts)), (3, .osl 0 d.length 1), (4, .osl 1 (ix i).length 1), (5, I i)], [(0, some ⟨9, 1, strE d⟩), (1, some ⟨3, 1, intE (ix i)⟩)]⟩) (fun i => i ≤ ts.length) (fun i => ts.length - i) 0 (mkWk [some 0, none] [] (by simp [wkEnv, wk, wkL, wkE, lk, I, str, B, U8, U64, U32, h0] <;> omega) (by first | (simp [wkHp, wkHp1, wkEnt, lkh, h0]; done) | (simp [wkHp, wkHp1, wkEnt, lkh, idLtL, idLt, I, str, h0]; done) | simp [wkHp, wkHp1, wkEnt, wkL, wk, wkE, lkh, I, str, h0])) ?_
 intro i h1
 have hli := hlen i
 by_cases hi : i < ts.length
 · have hx := List.getElem?_eq_getElem hi
   have hs' := hss i hi
   have q3 := qi ts[i]
   generalize idxF d ts[i] = k at *
   generalize idxB d ts[i] = kb at *
   generalize ts[i] = t at *
   generalize ix i = o at *
   refine nx ?_; refine rG hN hk noc [] [0, 3, 4, 5, 13] fun K hK => ?_; simp only [go_sem, seval, hx]
   try simp (disch := omega) only [au]
   (first | with_reducible refine hK _ _ ?_ | refine obK (hK _ _ ?_)); clear hK K; refine nx ?_
   refine cT ?_; refine nx ?_; refine rG hN hk (onc 5 (bcq [0] q3) noc) [] [0, 3, 4, 5, 6] fun K hK => ?_; simp only [go_sem, seval, hx]; refine obK (hK _ _ ?_)
   clear hK K; refine nx ?_
   refine rG hN hk noc [] [0, 3, 4, 5] fun K hK => ?_; simp only [go_sem, seval, hx]
   (first | with_reducible refine hK _ _ ?_ | refine obK (hK _ _ ?_)); clear hK K; refine nx ?_
   refine rG hN hk noc [] [0, 3, 4, 5] fun K hK => ?_; simp only [go_sem, seval, hx]
   try simp (disch := omega) only [au]
   refine hK _ _ ?_; clear hK K; refine nx ?_
   refine ⟨i + 1, (by first | assumption | omega | (simp; done) | ((repeat' apply And.intro) <;> first | assumption | omega | (simp; done) | (simp; omega))), (by first | omega | (simp; omega)), ⟨[some 0, some 1], [], ⟨by simp [srcIds], by simp [srcIds], by simp⟩, by simp, by simp [wkEnv, wk, wkL, wkE, lk, I, str, B, U8, U64, U32, hs'] <;> omega, by first | (simp [wkHp, wkHp1, wkEnt, lkh, hs']; done) | (simp [wkHp, wkHp1, wkEnt, lkh, idLtL, idLt, I, str, hs']; done) | simp [wkHp, wkHp1, wkEnt, wkL, wk, wkE, lkh, I, str, hs']⟩⟩
 · have : i = ts.length := by omega
   subst this
   have q3 := column27 (ix ts.length) (by omega)
   have hcl := enc24_len (ix ts.length) (by omega)
   have q4 := putBlock bl (enc24 (ix ts.length)) (by omega) (by omega)
   have hb2 := blockF_len (enc24 (ix ts.length))
   generalize blockF (enc24 (ix ts.length)) = b2 at *
   generalize enc24 (ix ts.length) = cl at *
   generalize ix ts.length = o at *
   refine nx ?_; refine rG hN hk noc [] [0, 3, 4, 5, 13] fun K hK => ?_; simp only [go_sem, seval]
   try simp (disch := omega) only [au]
   (first | with_reducible refine hK _ _ ?_ | refine obK (hK _ _ ?_)); clear hK K; refine nx ?_
   refine cF ?_; refine nx ?_; refine rG hN hk (onc 1 (bcq [0] q1) (onc 2 (bcq [10] q2) (onc 4 (bcq [1] q3) (onc 5 (obcq 18 [34] q4) noc)))) [] [2] fun K hK => ?_; simp only [go_sem, seval]; refine obK (hK _ _ ?_)
   clear hK K; refine nx ?_
   refine AW.ret (mkRet [some 0] [] rfl (by simp [resOf, lk, lkh, wk, wkL, wkE, I, str, B, U8, U64, U32] <;> omega) (by first | (simp [wkHp, wkHp1, wkEnt, lkh]; done) | (simp [wkHp, wkHp1, wkEnt, lkh, idLtL, idLt, I, str]; done) | simp [wkHp, wkHp1, wkEnt, wkL, wk, wkE, lkh, I, str]))
def trTo (e : Ev) (i : Nat) : List S := wordsF (textF e) ++ (e.fields.take i).map fun f => f.name ++ [61] ++ f.val
theorem trTo_s (e : Ev) (i : Nat) (h : i < e.fields.length) : trTo e (i + 1) = trTo e i ++ [e.fields[i].name ++ [61] ++ e.fields[i].val] := by
 unfold trTo
 rw [List.take_add_one, List.getElem?_eq_getElem h]
 simp only [Option.toList, List.map_append, List.map_cons, List.map_nil, List.append_assoc]
def termsF (e : Ev) : List S := distF (trTo e e.fields.length)
theorem terms27 (e : Ev) (he : EvT e) : ACall Tryz.prog 85 [.agg (evC e)] [] (.osl 0 (termsF e).length 1) [some ⟨9, 1, strE (termsF e)⟩] := by
 refine acall 39 0 Tryz.func85 rfl rfl rfl (by simp) rfl rfl ?_
 intro C hN hk
 have q0 := text12 e he.nl he.tx
 have hw := wordsF_len (textF e)
 have ht := textF_len e he
 have q1 := words27 (textF e) (by omega)
 have hnf := he.nf
 have h0 : trTo e 0 = wordsF (textF e) := by simp [trTo]
 have hlen : ∀ i, (trTo e i).length ≤ 80041 + i := by intro i; simp [trTo]; omega
 have hss := trTo_s e
 unfold termsF
 generalize wordsF (textF e) = ws at *
 generalize trTo e = tr at *
 refine nx ?_; refine rG hN hk noc [] [1] fun K hK => ?_; simp only [go_sem, seval]; refine hK _ _ ?_
 clear hK K; refine nx ?_
 refine rG hN hk (onc 1 (pcq q0) (onc 2 (pcq q1) noc)) [] [1, 3] fun K hK => ?_; simp only [go_sem, seval]; refine obK (hK _ _ ?_)
 clear hK K; refine nx ?_
 refine rG hN hk noc [] [1, 3, 4] fun K hK => ?_; simp only [go_sem, seval]; refine hK _ _ ?_
 clear hK K; refine nx ?_
 clear q0 q1
 refine nx ?_
 refine lpF hk 2 (fun i : Nat => ⟨[(1, .ptr 0 10 0 0), (3, .osl 1 (tr i).length 1), (4, I i)], [(0, some ⟨48, 10, [evC e]⟩), (1, some ⟨9, 1, strE (tr i)⟩)]⟩) (fun i => i ≤ e.fields.length) (fun i => e.fields.length - i) 0 (mkWk [some 0, some 1] [] (by simp [wkEnv, wk, wkL, wkE, lk, I, str, B, U8, U64, U32, h0, evC] <;> omega) (by first | (simp [wkHp, wkHp1, wkEnt, lkh, h0, evC]; done) | (simp [wkHp, wkHp1, wkEnt, lkh, idLtL, idLt, I, str, h0, evC]; done) | simp [wkHp, wkHp1, wkEnt, wkL, wk, wkE, lkh, I, str, h0, evC])) ?_
 intro i h1
 have hli := hlen i
 by_cases hi : i < e.fields.length
 · have hx := List.getElem?_eq_getElem hi
   have hs' := hss i hi
   have hv := he.fv _ (List.getElem_mem hi)
   generalize e.fields[i] = f at *
   generalize tr i = o at *
   have hlf : (f.name ++ [61] ++ f.val).length ≤ 2048 := by simp; omega
   have hlf2 := dLeT (a := ((f.name ++ [61] ++ f.val).length : Int)) (b := 2048) (by omega)
   refine nx ?_; refine rG hN hk noc [] [1, 3, 4, 13] fun K hK => ?_; simp only [go_sem, seval, hx]
   try simp (disch := omega) only [au]
   (first | with_reducible refine hK _ _ ?_ | refine obK (hK _ _ ?_)); clear hK K; refine nx ?_
   refine cT ?_; refine nx ?_
   refine rD hN hk noc [] [1, 3, 4, 5] fun K tok htok hK => ?_
   simp only [go_sem, seval, hx]
   try simp (disch := omega) only [au]
   refine ⟨htok _ (by decide +kernel), ?_⟩
   (first | with_reducible refine hK _ _ ?_ | refine obK (hK _ _ ?_)); clear hK K htok tok
   refine nx ?_; refine rG hN hk noc [] [1, 3, 4, 5, 32] fun K hK => ?_; simp only [go_sem, seval, hx]
   try simp (disch := omega) only [au]
   (first | with_reducible refine hK _ _ ?_ | refine obK (hK _ _ ?_)); clear hK K; refine nx ?_
   refine cT ?_; refine nx ?_; refine rG hN hk noc [] [1, 3, 4] fun K hK => ?_; simp only [go_sem, seval, hx]
   (first | with_reducible refine hK _ _ ?_ | refine obK (hK _ _ ?_)); clear hK K; refine nx ?_
   refine rG hN hk noc [] [1, 3, 4] fun K hK => ?_; simp only [go_sem, seval, hx]
   try simp (disch := omega) only [au]
   refine hK _ _ ?_; clear hK K; refine nx ?_
   refine ⟨i + 1, (by first | assumption | omega | (simp; done) | ((repeat' apply And.intro) <;> first | assumption | omega | (simp; done) | (simp; omega))), (by first | omega | (simp; omega)), ⟨[some 0, some 1], [], ⟨by simp [srcIds], by simp [srcIds], by simp⟩, by simp, by simp [wkEnv, wk, wkL, wkE, lk, I, str, B, U8, U64, U32, hs', evC] <;> omega, by first | (simp [wkHp, wkHp1, wkEnt, lkh, hs', evC]; done) | (simp [wkHp, wkHp1, wkEnt, lkh, idLtL, idLt, I, str, hs', evC]; done) | simp [wkHp, wkHp1, wkEnt, wkL, wk, wkE, lkh, I, str, hs', evC]⟩⟩
 · have : i = e.fields.length := by omega
   subst this
   have hli := hlen e.fields.length
   generalize tr e.fields.length = o at *
   have q := distinct1 _ o (Nat.le_refl _) (by omega)
   refine nx ?_; refine rG hN hk noc [] [1, 3, 4, 13] fun K hK => ?_; simp only [go_sem, seval]
   try simp (disch := omega) only [au]
   (first | with_reducible refine hK _ _ ?_ | refine obK (hK _ _ ?_)); clear hK K; refine nx ?_
   refine cF ?_; refine nx ?_; refine rG hN hk (onc 1 (bcq [1] q) noc) [] [2] fun K hK => ?_; simp only [go_sem, seval]; refine obK (hK _ _ ?_)
   clear hK K; refine nx ?_
   refine AW.ret (mkRet [some 0] [] rfl (by simp [resOf, lk, lkh, wk, wkL, wkE, I, str, B, U8, U64, U32] <;> omega) (by first | (simp [wkHp, wkHp1, wkEnt, lkh]; done) | (simp [wkHp, wkHp1, wkEnt, lkh, idLtL, idLt, I, str]; done) | simp [wkHp, wkHp1, wkEnt, wkL, wk, wkE, lkh, I, str]))
theorem u64E_set (l : List Int) (i : Nat) (s : Int) : (u64E l).set i [AV.val (.int .u64 s)] = u64E (l.set i s) := by simp [u64E, List.map_set, U64]
attribute [go_sem] u64E_set
theorem build26 (ts : List S) (ht : ts.length ≤ 2 ^ 30) (hw : ∀ w ∈ ts, w.length ≤ 2 ^ 40) :
   ACallE Tryz.prog 86 [.sl 1 (strE ts), I 10] [] (fun x => ∃ b : List Int, x = (.tup [.agg [I 3, .osl 0 b.length 1], I 0], [some ⟨85, 1, u64E b⟩]) ∧ 1 ≤ b.length ∧ b.length ≤ 1024) := by
 refine acallE 64 0 Tryz.func86 rfl rfl rfl (by simp) rfl rfl ?_
 obtain ⟨m, hm, m1, m2⟩ : ∃ m : Nat, (if (if (ts.length : Int) > 1 then (ts.length : Int) else 1) * 10 < 65536 then (if (ts.length : Int) > 1 then (ts.length : Int) else 1) * 10 else 65536) = (m : Int) ∧ 1 ≤ m ∧ m ≤ 65536 := by
   refine ⟨(if (if (ts.length : Int) > 1 then (ts.length : Int) else 1) * 10 < 65536 then (if (ts.length : Int) > 1 then (ts.length : Int) else 1) * 10 else 65536).toNat, ?_, ?_, ?_⟩ <;> (split <;> split <;> omega)
 have q0 := new26 m m1 m2
 obtain ⟨z, hz⟩ : ∃ z, List.replicate ((m + 63) / 64) (0 : Int) = z := ⟨_, rfl⟩
 have hzl : z.length = (m + 63) / 64 := by rw [← hz]; simp
 rw [hz, ← hzl] at q0
 have hw1 : IntKind.i64.wrap ((if (ts.length : Int) > 1 then (ts.length : Int) else 1) * 10) = (if (ts.length : Int) > 1 then (ts.length : Int) else 1) * 10 := wrap64 (by split <;> omega)
 apply EX.step
 · intro xX C hN hk hqX
   refine nx ?_; refine rG hN hk noc [] [0, 1, 4] fun K hK => ?_; simp only [go_sem, seval]; refine hK _ _ ?_
   clear hK K; refine nx ?_
   exact hqX
 apply EX.step
 · intro xX C hN hk hqX
   refine nx ?_; refine rG hN hk noc [] [0, 1, 4, 16] fun K hK => ?_; simp only [go_sem, seval]
   try simp (disch := omega) only [au]
   try simp only [go_sem, seval]
   refine hK _ _ ?_; clear hK K; refine nx ?_
   exact hqX
 apply EX.step
 · intro xX C hN hk hqX
   refine cF ?_; refine nx ?_
   exact hqX
 apply EX.step
 · intro xX C hN hk hqX
   refine nx ?_; refine rG hN hk (onc 6 (pcq q0) noc) [] [0, 4, 6] fun K hK => ?_; simp only [go_sem, seval, hw1, hm]
   try simp (disch := omega) only [au]
   refine obK (hK _ _ ?_); clear hK K; refine nx ?_
   exact hqX
 apply EX.step
 · intro xX C hN hk hqX
   refine nx ?_; refine rG hN hk noc [] [0, 4, 6, 8] fun K hK => ?_; simp only [go_sem, seval]; refine hK _ _ ?_
   clear hK K; refine nx ?_
   exact hqX
 clear q0 hm hw1
 apply EX.step
 · intro xX C hN hk hqX
   refine nx ?_
   exact hqX
 refine lpX 3 (fun s : Nat × List Int => ⟨[(0, .sl 1 (strE ts)), (4, .ptr 0 2 0 0), (6, .ptr 1 2 0 0), (8, I s.1)], [(0, some ⟨151, 2, [[I 0, .val (.slice none 0 0)]]⟩), (1, some ⟨151, 2, [[I 3, .osl 2 s.2.length 1]]⟩), (2, some ⟨85, 1, u64E s.2⟩)]⟩) (fun s => s.1 ≤ ts.length ∧ s.2.length = z.length) (fun s => ts.length - s.1) (0, z) (mkWk [some 0, some 1, some 2] [] (by simp [wkEnv, wk, wkL, wkE, lk, I, str, B, U8, U64, U32] <;> omega) (by first | (simp [wkHp, wkHp1, wkEnt, lkh]; done) | (simp [wkHp, wkHp1, wkEnt, lkh, idLtL, idLt, I, str]; done) | simp [wkHp, wkHp1, wkEnt, wkL, wk, wkE, lkh, I, str])) ?_
 intro ⟨i, b⟩ hI Y hY
 obtain ⟨h1, h2⟩ := hI
 simp only at h1 h2
 by_cases hi : i < ts.length
 · have hx := List.getElem?_eq_getElem hi
   have hwi := hw _ (List.getElem_mem hi)
   generalize ts[i] = t at *
   obtain ⟨_, ⟨p, rfl, hp8, hp⟩, q1⟩ := positions 3 (by omega) b (by omega) (by omega) t hwi
   apply EX.step
   · intro xX C hN hk hqX
     refine nx ?_; refine rG hN hk noc [] [0, 4, 6, 8, 31] fun K hK => ?_; simp only [go_sem, seval, hx]
     try simp (disch := omega) only [au]
     (first | with_reducible refine hK _ _ ?_ | refine obK (hK _ _ ?_)); clear hK K; refine nx ?_
     exact hqX
   apply EX.step
   · intro xX C hN hk hqX
     refine cT ?_; refine nx ?_
     exact hqX
   apply EX.step
   · intro xX C hN hk hqX
     refine nx ?_
     refine rD hN hk (onc 5 (bcq [2] q1) noc) [] [0, 4, 6, 8, 9] fun K tok htok hK => ?_
     simp only [go_sem, seval, hx]
     refine ⟨htok _ (by decide +kernel), ?_⟩
     refine obK (hK _ _ ?_); clear hK K htok tok
     refine nx ?_
     exact hqX
   apply EX.step
   · intro xX C hN hk hqX
     refine nx ?_; refine rG hN hk noc [] [0, 4, 6, 8, 9, 10] fun K hK => ?_; simp only [go_sem, seval, hx]; refine hK _ _ ?_
     clear hK K; refine nx ?_
     exact hqX
   apply EX.step
   · intro xX C hN hk hqX
     refine nx ?_
     exact hqX
   refine lpX 4 (fun s : Nat × List Int => ⟨[(0, .sl 1 (strE ts)), (4, .ptr 0 2 0 0), (6, .ptr 1 2 0 0), (8, I i), (9, .osl 3 p.length 1), (10, I s.1)], [(0, some ⟨151, 2, [[I 0, .val (.slice none 0 0)]]⟩), (1, some ⟨151, 2, [[I 3, .osl 2 s.2.length 1]]⟩), (2, some ⟨85, 1, u64E s.2⟩), (3, some ⟨3, 1, intE p⟩)]⟩) (fun s => s.1 ≤ p.length ∧ s.2.length = z.length) (fun s => p.length - s.1) (0, b) (mkWk [some 0, some 1, some 2, some 3] [] (by simp [wkEnv, wk, wkL, wkE, lk, I, str, B, U8, U64, U32] <;> omega) (by first | (simp [wkHp, wkHp1, wkEnt, lkh]; done) | (simp [wkHp, wkHp1, wkEnt, lkh, idLtL, idLt, I, str]; done) | simp [wkHp, wkHp1, wkEnt, wkL, wk, wkE, lkh, I, str])) ?_
   intro ⟨k, b2⟩ hI2 Y2 hY2
   obtain ⟨h3, h4⟩ := hI2
   simp only at h3 h4
   by_cases hk : k < p.length
   · have hy := List.getElem?_eq_getElem hk
     have hpk := hp _ (List.getElem_mem hk)
     generalize p[k] = v at *
     have hd : v.tdiv 64 = v / 64 := Int.tdiv_eq_ediv_of_nonneg hpk.1
     have hr : v.tmod 64 = v % 64 := Int.tmod_eq_emod_of_nonneg hpk.1
     have hlt : (v / 64).toNat < b2.length := by omega
     have hw2 := wrap64 (n := v / 64) (by omega)
     have hz2 := List.getElem?_eq_getElem hlt
     generalize b2[(v / 64).toNat] = c at *
     apply EX.step
     · intro xX C hN hk hqX
       refine nx ?_; refine rG hN hk noc [] [0, 4, 6, 8, 9, 10, 43] fun K hK => ?_; simp only [go_sem, seval]
       try simp (disch := omega) only [au]
       (first | with_reducible refine hK _ _ ?_ | refine obK (hK _ _ ?_)); clear hK K; refine nx ?_
       exact hqX
     apply EX.step
     · intro xX C hN hk hqX
       refine cT ?_; refine nx ?_
       exact hqX
     apply EX.step
     · intro xX C hN hk hqX
       refine nx ?_
       refine rD hN hk noc [] [0, 4, 6, 8, 9, 10] fun K tok htok hK => ?_
       simp only [go_sem, seval, hy, hd, hr, hw2, hz2]
       try simp (disch := omega) only [au]
       refine ⟨htok _ (by decide +kernel), ?_⟩
       (first | with_reducible refine hK _ _ ?_ | refine obK (hK _ _ ?_)); clear hK K htok tok
       refine nx ?_
       exact hqX
     generalize bitsOf BinOp.or IntKind.u64 c _ = c'
     apply EX.step
     · intro xX C hN hk hqX
       refine nx ?_; refine rG hN hk noc [] [0, 4, 6, 8, 9, 10] fun K hK => ?_; simp only [go_sem, seval]
       try simp (disch := omega) only [au]
       refine hK _ _ ?_; clear hK K; refine nx ?_
       exact hqX
     refine hY2 (k + 1, b2.set (v / 64).toNat c') (by first | assumption | omega | (simp; done) | ((repeat' apply And.intro) <;> first | assumption | omega | (simp; done) | (simp; omega))) (by first | omega | (simp; omega)) _ _ ⟨[some 0, some 1, some 2, some 3], [], ⟨by simp [srcIds], by simp [srcIds], by simp⟩, by simp, by simp [wkEnv, wk, wkL, wkE, lk, I, str, B, U8, U64, U32] <;> omega, by first | (simp [wkHp, wkHp1, wkEnt, lkh]; done) | (simp [wkHp, wkHp1, wkEnt, lkh, idLtL, idLt, I, str]; done) | simp [wkHp, wkHp1, wkEnt, wkL, wk, wkE, lkh, I, str]⟩
   · apply EX.step
     · intro xX C hN hk hqX
       refine nx ?_; refine rG hN hk noc [] [0, 4, 6, 8, 9, 10, 43] fun K hK => ?_; simp only [go_sem, seval]
       try simp (disch := omega) only [au]
       (first | with_reducible refine hK _ _ ?_ | refine obK (hK _ _ ?_)); clear hK K; refine nx ?_
       exact hqX
     apply EX.step
     · intro xX C hN hk hqX
       refine cF ?_; refine nx ?_
       exact hqX
     apply EX.step
     · intro xX C hN hk hqX
       refine nx ?_; refine rG hN hk noc [] [0, 4, 6, 8] fun K hK => ?_; simp only [go_sem, seval]
       try simp (disch := omega) only [au]
       refine hK _ _ ?_; clear hK K; refine nx ?_
       exact hqX
     refine hY (i + 1, b2) (by first | assumption | omega | (simp; done) | ((repeat' apply And.intro) <;> first | assumption | omega | (simp; done) | (simp; omega))) (by first | omega | (simp; omega)) _ _ ⟨[some 0, some 1, some 2], [], ⟨by simp [srcIds], by simp [srcIds], by simp⟩, by simp, by simp [wkEnv, wk, wkL, wkE, lk, I, str, B, U8, U64, U32] <;> omega, by first | (simp [wkHp, wkHp1, wkEnt, lkh]; done) | (simp [wkHp, wkHp1, wkEnt, lkh, idLtL, idLt, I, str]; done) | simp [wkHp, wkHp1, wkEnt, wkL, wk, wkE, lkh, I, str]⟩
 · apply EX.step
   · intro xX C hN hk hqX
     refine nx ?_; refine rG hN hk noc [] [0, 4, 6, 8, 31] fun K hK => ?_; simp only [go_sem, seval]
     try simp (disch := omega) only [au]
     (first | with_reducible refine hK _ _ ?_ | refine obK (hK _ _ ?_)); clear hK K; refine nx ?_
     exact hqX
   apply EX.step
   · intro xX C hN hk hqX
     refine cF ?_; refine nx ?_
     exact hqX
   apply EX.step
   · intro xX C hN hk hqX
     refine nx ?_; refine rG hN hk noc [] [4, 5] fun K hK => ?_; simp only [go_sem, seval]; refine hK _ _ ?_
     clear hK K; refine nx ?_
     exact hqX
   refine EX.ret (.tup [.agg [I 3, .osl 0 b.length 1], I 0]) [some ⟨85, 1, u64E b⟩] ?_ (fun C hN hk => AW.ret (mkRet [some 1] [] (by simp only [resList, go_sem, seval]; rfl) (by simp [resOf, lk, lkh, wk, wkL, wkE, I, str, B, U8, U64, U32] <;> omega) (by first | (simp [wkHp, wkHp1, wkEnt, lkh]; done) | (simp [wkHp, wkHp1, wkEnt, lkh, idLtL, idLt, I, str]; done) | simp [wkHp, wkHp1, wkEnt, wkL, wk, wkE, lkh, I, str])))
   exact ⟨b, rfl, by omega, by omega⟩
theorem byteE_ex (x : Int) : ∃ u : UInt8, [AV.val (.int .u8 (IntKind.u8.wrap x))] = byteE u := by
 have h1 : 0 ≤ IntKind.u8.wrap x := Int.emod_nonneg _ (by decide)
 have h2 : IntKind.u8.wrap x < 256 := Int.emod_lt_of_pos _ (by decide)
 refine ⟨UInt8.ofNat (IntKind.u8.wrap x).toNat, ?_⟩
 rw [← byteE_of _ (by omega)]
 congr; omega
theorem byteE_ex' (x : Int) : ∃ u : UInt8, IntKind.u8.wrap x = (u.toNat : Int) := by
 obtain ⟨u, h⟩ := byteE_ex x
 exact ⟨u, by simpa [byteE] using h⟩
theorem encode26 (b : List Int) (h1 : 1 ≤ b.length) (h2 : b.length ≤ 1024) :
   ACallE Tryz.prog 87 [.agg [I 3, .sl 1 (u64E b)]] [] (fun x => ∃ o : List UInt8, x = (.tup [.osl 0 o.length 1, I 0], [some ⟨5, 1, bytesE o⟩]) ∧ o.length = 3 + 8 * b.length) := by
 refine acallE 50 0 Tryz.func87 rfl rfl rfl (by simp) rfl rfl ?_
 have q0 := check26 3 b (by omega) (by omega) h1 h2
 obtain ⟨u1, hu1⟩ := byteE_ex' ((b.length : Int).fdiv (2 ^ min 8 64))
 obtain ⟨u2, hu2⟩ := byteE_ex' (b.length : Int)
 have hu0 : IntKind.u8.wrap 3 = ((3 : UInt8).toNat : Int) := rfl
 apply EX.step
 · intro xX C hN hk hqX
   refine nx ?_; refine rG hN hk noc [] [1] fun K hK => ?_; simp only [go_sem, seval]; refine hK _ _ ?_
   clear hK K; refine nx ?_
   exact hqX
 apply EX.step
 · intro xX C hN hk hqX
   refine nx ?_; refine rG hN hk (onc 1 (pcq q0) noc) [] [1, 4] fun K hK => ?_; simp only [go_sem, seval]; refine obK (hK _ _ ?_)
   clear hK K; refine nx ?_
   exact hqX
 apply EX.step
 · intro xX C hN hk hqX
   refine nx ?_; refine rG hN hk noc [] [1, 4, 11] fun K hK => ?_; simp only [go_sem, seval, bne_self_eq_false]
   try simp (disch := omega) only [au]
   refine hK _ _ ?_; clear hK K; refine nx ?_
   exact hqX
 apply EX.step
 · intro xX C hN hk hqX
   refine cF ?_; refine nx ?_
   exact hqX
 apply EX.step
 · intro xX C hN hk hqX
   refine nx ?_; refine rG hN hk noc [] [1, 5] fun K hK => ?_; simp only [go_sem, seval, hu1, hu2, hu0]
   try simp (disch := omega) only [au]
   (first | with_reducible refine hK _ _ ?_ | refine obK (hK _ _ ?_)); clear hK K; refine nx ?_
   exact hqX
 have hb3 : [[AV.val (.int .u8 3)], [AV.val (.int .u8 (u1.toNat : Int))], [AV.val (.int .u8 (u2.toNat : Int))]] = bytesE [3, u1, u2] := rfl
 rw [hb3]
 apply EX.step
 · intro xX C hN hk hqX
   refine nx ?_; refine rG hN hk noc [] [1, 5, 6] fun K hK => ?_; simp only [go_sem, seval]; refine hK _ _ ?_
   clear hK K; refine nx ?_
   exact hqX
 apply EX.step
 · intro xX C hN hk hqX
   refine nx ?_
   exact hqX
 refine lpX 2 (fun s : Nat × List UInt8 => ⟨[(1, .ptr 0 2 0 0), (5, .osl 1 s.2.length 1), (6, I s.1)], [(0, some ⟨151, 2, [[I 3, .sl 1 (u64E b)]]⟩), (1, some ⟨5, 1, bytesE s.2⟩)]⟩) (fun s => s.1 ≤ b.length ∧ s.2.length = 3 + 8 * s.1) (fun s => b.length - s.1) (0, [3, u1, u2]) (mkWk [some 0, some 1] [] (by simp [wkEnv, wk, wkL, wkE, lk, I, str, B, U8, U64, U32] <;> omega) (by first | (simp [wkHp, wkHp1, wkEnt, lkh]; done) | (simp [wkHp, wkHp1, wkEnt, lkh, idLtL, idLt, I, str]; done) | simp [wkHp, wkHp1, wkEnt, wkL, wk, wkE, lkh, I, str])) ?_
 intro ⟨i, o⟩ hI Y hY
 obtain ⟨h3, h4⟩ := hI
 simp only at h3 h4
 by_cases hi : i < b.length
 · have hx := List.getElem?_eq_getElem hi
   generalize b[i] = c at *
   apply EX.step
   · intro xX C hN hk hqX
     refine nx ?_; refine rG hN hk noc [] [1, 5, 6, 30] fun K hK => ?_; simp only [go_sem, seval]
     try simp (disch := omega) only [au]
     (first | with_reducible refine hK _ _ ?_ | refine obK (hK _ _ ?_)); clear hK K; refine nx ?_
     exact hqX
   apply EX.step
   · intro xX C hN hk hqX
     refine cT ?_; refine nx ?_
     exact hqX
   apply EX.step
   · intro xX C hN hk hqX
     refine nx ?_; refine rG hN hk noc [] [1, 5, 6, 7] fun K hK => ?_; simp only [go_sem, seval]; refine hK _ _ ?_
     clear hK K; refine nx ?_
     exact hqX
   apply EX.step
   · intro xX C hN hk hqX
     refine nx ?_
     exact hqX
   refine lpX 2 (fun s : Nat × List UInt8 => ⟨[(1, .ptr 0 2 0 0), (5, .osl 1 s.2.length 1), (6, I i), (7, I s.1)], [(0, some ⟨151, 2, [[I 3, .sl 1 (u64E b)]]⟩), (1, some ⟨5, 1, bytesE s.2⟩)]⟩) (fun s => s.1 ≤ 8 ∧ s.2.length = 3 + 8 * i + s.1) (fun s => 8 - s.1) (0, o) (mkWk [some 0, some 1] [] (by simp [wkEnv, wk, wkL, wkE, lk, I, str, B, U8, U64, U32] <;> omega) (by first | (simp [wkHp, wkHp1, wkEnt, lkh]; done) | (simp [wkHp, wkHp1, wkEnt, lkh, idLtL, idLt, I, str]; done) | simp [wkHp, wkHp1, wkEnt, wkL, wk, wkE, lkh, I, str])) ?_
   intro ⟨k, o2⟩ hI2 Y2 hY2
   obtain ⟨h5, h6⟩ := hI2
   simp only at h5 h6
   by_cases hk : k < 8
   · obtain ⟨u, hu⟩ := byteE_ex' (c.fdiv (2 ^ min (8 * k) 64))
     have e2 : (8 * (k : Int)).toNat = 8 * k := by omega
     apply EX.step
     · intro xX C hN hk hqX
       refine nx ?_; refine rG hN hk noc [] [1, 5, 6, 7, 34] fun K hK => ?_; simp only [go_sem, seval]
       try simp (disch := omega) only [au]
       refine hK _ _ ?_; clear hK K; refine nx ?_
       exact hqX
     apply EX.step
     · intro xX C hN hk hqX
       refine cT ?_; refine nx ?_
       exact hqX
     apply EX.step
     · intro xX C hN hk hqX
       refine nx ?_; refine rG hN hk noc [] [1, 5, 6, 7] fun K hK => ?_; simp only [go_sem, seval, hx]
       try simp (disch := omega) only [au, e2, hu]
       (first | with_reducible refine hK _ _ ?_ | refine obK (hK _ _ ?_)); clear hK K; refine nx ?_
       exact hqX
     apply EX.step
     · intro xX C hN hk hqX
       refine nx ?_; refine rG hN hk noc [] [1, 5, 6, 7] fun K hK => ?_; simp only [go_sem, seval]
       try simp (disch := omega) only [au]
       refine hK _ _ ?_; clear hK K; refine nx ?_
       exact hqX
     refine hY2 (k + 1, o2 ++ [u]) (by first | assumption | omega | (simp; done) | ((repeat' apply And.intro) <;> first | assumption | omega | (simp; done) | (simp; omega))) (by first | omega | (simp; omega)) _ _ ⟨[some 0, some 1], [], ⟨by simp [srcIds], by simp [srcIds], by simp⟩, by simp, by simp [wkEnv, wk, wkL, wkE, lk, I, str, B, U8, U64, U32] <;> omega, by first | (simp [wkHp, wkHp1, wkEnt, lkh]; done) | (simp [wkHp, wkHp1, wkEnt, lkh, idLtL, idLt, I, str]; done) | simp [wkHp, wkHp1, wkEnt, wkL, wk, wkE, lkh, I, str]⟩
   · apply EX.step
     · intro xX C hN hk hqX
       refine nx ?_; refine rG hN hk noc [] [1, 5, 6, 7, 34] fun K hK => ?_; simp only [go_sem, seval]
       try simp (disch := omega) only [au]
       refine hK _ _ ?_; clear hK K; refine nx ?_
       exact hqX
     apply EX.step
     · intro xX C hN hk hqX
       refine cF ?_; refine nx ?_
       exact hqX
     apply EX.step
     · intro xX C hN hk hqX
       refine nx ?_; refine rG hN hk noc [] [1, 5, 6] fun K hK => ?_; simp only [go_sem, seval]
       try simp (disch := omega) only [au]
       refine hK _ _ ?_; clear hK K; refine nx ?_
       exact hqX
     refine hY (i + 1, o2) (by first | assumption | omega | (simp; done) | ((repeat' apply And.intro) <;> first | assumption | omega | (simp; done) | (simp; omega))) (by first | omega | (simp; omega)) _ _ ⟨[some 0, some 1], [], ⟨by simp [srcIds], by simp [srcIds], by simp⟩, by simp, by simp [wkEnv, wk, wkL, wkE, lk, I, str, B, U8, U64, U32] <;> omega, by first | (simp [wkHp, wkHp1, wkEnt, lkh]; done) | (simp [wkHp, wkHp1, wkEnt, lkh, idLtL, idLt, I, str]; done) | simp [wkHp, wkHp1, wkEnt, wkL, wk, wkE, lkh, I, str]⟩
 · apply EX.step
   · intro xX C hN hk hqX
     refine nx ?_; refine rG hN hk noc [] [1, 5, 6, 30] fun K hK => ?_; simp only [go_sem, seval]
     try simp (disch := omega) only [au]
     (first | with_reducible refine hK _ _ ?_ | refine obK (hK _ _ ?_)); clear hK K; refine nx ?_
     exact hqX
   apply EX.step
   · intro xX C hN hk hqX
     refine cF ?_; refine nx ?_
     exact hqX
   apply EX.step
   · intro xX C hN hk hqX
     refine nx ?_; refine rG hN hk noc [] [2, 3] fun K hK => ?_; simp only [go_sem, seval]; refine hK _ _ ?_
     clear hK K; refine nx ?_
     exact hqX
   refine EX.ret (.tup [.osl 0 o.length 1, I 0]) [some ⟨5, 1, bytesE o⟩] ?_ (fun C hN hk => AW.ret (mkRet [some 0] [] rfl (by simp [resOf, lk, lkh, wk, wkL, wkE, I, str, B, U8, U64, U32] <;> omega) (by first | (simp [wkHp, wkHp1, wkEnt, lkh]; done) | (simp [wkHp, wkHp1, wkEnt, lkh, idLtL, idLt, I, str]; done) | simp [wkHp, wkHp1, wkEnt, wkL, wk, wkE, lkh, I, str])))
   exact ⟨o, rfl, by omega⟩
theorem wTo_short (t : S) : ∀ i, i ≤ t.length + 1 → ∀ w ∈ (wTo t i).1, 0 < w.length ∧ w.length ≤ 40
 | 0, _ => by simp [wTo]
 | i + 1, h => by
   have := wTo_short t i (by omega)
   rw [wTo_s t i (by simp [lowL]; omega)]
   unfold wStep
   split
   · exact this
   · split
     · next h1 =>
       intro w hw
       rcases List.mem_append.1 hw with hw | hw
       · exact this w hw
       · rw [List.mem_singleton.1 hw]; exact h1
     · exact this
theorem wordsF_short (t : S) : ∀ w ∈ wordsF t, 0 < w.length ∧ w.length ≤ 40 := fun w hw => wTo_short t _ (Nat.le_refl _) w ((distF_mem _ _).1 hw)
theorem termsF_short (e : Ev) (he : EvT e) : ∀ w ∈ termsF e, w.length ≤ 2048 := by
 intro w hw
 have hw := (distF_mem _ _).1 hw
 unfold trTo at hw
 rcases List.mem_append.1 hw with hw | hw
 · have := wordsF_short _ w hw; omega
 · simp only [List.take_length, List.mem_map] at hw
   obtain ⟨f, hf, rfl⟩ := hw
   have := he.fv f hf
   simp; omega
theorem termsF_len (e : Ev) (he : EvT e) : (termsF e).length ≤ 80073 := by
 have h1 := distF_len (trTo e e.fields.length)
 have h2 := wordsF_len (textF e)
 have h3 := textF_len e he
 have h4 := he.nf
 have h5 : (trTo e e.fields.length).length = (wordsF (textF e)).length + e.fields.length := by simp [trTo]
 unfold termsF; omega
def tmTo (l : List Ev) (i : Nat) : List S := (l.take i).flatMap termsF
theorem tmTo_s (l : List Ev) (i : Nat) (h : i < l.length) : tmTo l (i + 1) = tmTo l i ++ termsF l[i] := by
 unfold tmTo
 rw [List.take_add_one, List.getElem?_eq_getElem h, List.flatMap_append]
 simp only [Option.toList, List.flatMap_cons, List.flatMap_nil, List.append_nil]
theorem tmTo_len (l : List Ev) (h : ∀ e ∈ l, EvT e) : ∀ i, i ≤ l.length → (tmTo l i).length ≤ i * 80073
 | 0, _ => by simp [tmTo]
 | i + 1, hi => by
   have := tmTo_len l h i (by omega)
   have := termsF_len l[i] (h _ (List.getElem_mem _))
   rw [tmTo_s l i (by omega)]
   simp only [List.length_append]; omega
theorem filter27X (l : List Ev) (hl : l.length ≤ 4096) (h : ∀ e ∈ l, EvT e) : ∃ o : List UInt8, o.length ≤ 8195 ∧ ACall Tryz.prog 55 [.sl 10 (evE l)] [] (.osl 0 o.length 1) [some ⟨5, 1, bytesE o⟩] := by
 have hL := tmTo_len l h l.length (Nat.le_refl _)
 have q1 := distinct1 _ (tmTo l l.length) (Nat.le_refl _) (by omega)
 have hdl := distF_len (tmTo l l.length)
 obtain ⟨_, ⟨b, rfl, b1, b2⟩, q2⟩ := build26 (distF (tmTo l l.length)) (by omega) (by
   intro w hw
   have hw := (distF_mem _ _).1 hw
   unfold tmTo at hw
   obtain ⟨e, he, hw⟩ := List.mem_flatMap.1 hw
   have := termsF_short e (h e (List.mem_of_mem_take he)) w hw
   omega)
 obtain ⟨_, ⟨o, rfl, ho⟩, q3⟩ := encode26 b b1 b2
 refine ⟨o, by omega, ?_⟩
 simp only at q2 q3
 refine acall 34 0 Tryz.func55 rfl rfl rfl (by simp) rfl rfl ?_
 intro C hN hk
 refine nx ?_; refine rG hN hk noc [] [0] fun K hK => ?_; simp only [go_sem, seval]; refine hK _ _ ?_
 clear hK K; refine nx ?_
 refine rG hN hk noc [] [0, 3] fun K hK => ?_; simp only [go_sem, seval]; refine hK _ _ ?_
 clear hK K; refine nx ?_
 refine rG hN hk noc [] [0, 3, 4] fun K hK => ?_; simp only [go_sem, seval]; refine hK _ _ ?_
 clear hK K; refine nx ?_
 refine lpF hk 1 (fun i : Nat => ⟨[(0, .sl 10 (evE l)), (3, .osl 0 (tmTo l i).length 1), (4, I i)], [(0, some ⟨9, 1, strE (tmTo l i)⟩)]⟩) (fun i => i ≤ l.length) (fun i => l.length - i) 0 (mkWk [none] [] (by simp [wkEnv, wk, wkL, wkE, lk, I, str, B, U8, U64, U32, tmTo] <;> omega) (by first | (simp [wkHp, wkHp1, wkEnt, lkh, tmTo]; done) | (simp [wkHp, wkHp1, wkEnt, lkh, idLtL, idLt, I, str, tmTo]; done) | simp [wkHp, wkHp1, wkEnt, wkL, wk, wkE, lkh, I, str, tmTo])) ?_
 intro i h1
 have hl2 := tmTo_len l h i h1
 by_cases hi : i < l.length
 · have hx := List.getElem?_eq_getElem hi
   have hs := tmTo_s l i hi
   have he := h _ (List.getElem_mem hi)
   have q0 := terms27 l[i] he
   have hw := termsF_len l[i] he
   generalize termsF l[i] = ws at *
   generalize l[i] = e at *
   generalize tmTo l i = o2 at *
   refine nx ?_; refine rG hN hk noc [] [0, 3, 4, 12] fun K hK => ?_; simp only [go_sem, seval, hx]
   try simp (disch := omega) only [au]
   (first | with_reducible refine hK _ _ ?_ | refine obK (hK _ _ ?_)); clear hK K; refine nx ?_
   refine cT ?_; refine nx ?_; refine rG hN hk (onc 5 (pcq q0) noc) [] [0, 3, 4] fun K hK => ?_; simp only [go_sem, seval, hx]; refine obK (hK _ _ ?_)
   clear hK K; refine nx ?_
   refine rG hN hk noc [] [0, 3, 4] fun K hK => ?_; simp only [go_sem, seval, hx]
   try simp (disch := omega) only [au]
   refine hK _ _ ?_; clear hK K; refine nx ?_
   refine ⟨i + 1, (by first | assumption | omega | (simp; done) | ((repeat' apply And.intro) <;> first | assumption | omega | (simp; done) | (simp; omega))), (by first | omega | (simp; omega)), ⟨[some 0], [], ⟨by simp [srcIds], by simp [srcIds], by simp⟩, by simp, by simp [wkEnv, wk, wkL, wkE, lk, I, str, B, U8, U64, U32, hs] <;> omega, by first | (simp [wkHp, wkHp1, wkEnt, lkh, hs]; done) | (simp [wkHp, wkHp1, wkEnt, lkh, idLtL, idLt, I, str, hs]; done) | simp [wkHp, wkHp1, wkEnt, wkL, wk, wkE, lkh, I, str, hs]⟩⟩
 · have : i = l.length := by omega
   subst this
   generalize distF (tmTo l l.length) = d at *
   generalize tmTo l l.length = o2 at *
   refine nx ?_; refine rG hN hk noc [] [0, 3, 4, 12] fun K hK => ?_; simp only [go_sem, seval]
   try simp (disch := omega) only [au]
   (first | with_reducible refine hK _ _ ?_ | refine obK (hK _ _ ?_)); clear hK K; refine nx ?_
   refine cF ?_; refine nx ?_; refine rG hN hk (onc 1 (bcq [0] q1) (onc 2 (bcq [9] q2) noc)) [] [5] fun K hK => ?_; simp only [go_sem, seval]; refine obK (hK _ _ ?_)
   clear hK K; refine nx ?_
   refine rG hN hk (onc 1 (bcq [1] q3) noc) [] [7] fun K hK => ?_; simp only [go_sem, seval]; refine obK (hK _ _ ?_)
   clear hK K; refine nx ?_
   refine rG hN hk noc [] [2] fun K hK => ?_; simp only [go_sem, seval]; refine hK _ _ ?_
   clear hK K; refine nx ?_
   refine AW.ret (mkRet [some 0] [] rfl (by simp [resOf, lk, lkh, wk, wkL, wkE, I, str, B, U8, U64, U32] <;> omega) (by first | (simp [wkHp, wkHp1, wkEnt, lkh]; done) | (simp [wkHp, wkHp1, wkEnt, lkh, idLtL, idLt, I, str]; done) | simp [wkHp, wkHp1, wkEnt, wkL, wk, wkE, lkh, I, str]))
open Classical in
noncomputable def filtF (l : List Ev) : List UInt8 := if h : l.length ≤ 4096 ∧ ∀ e ∈ l, EvT e then (filter27X l h.1 h.2).choose else []
theorem filter27 (l : List Ev) (hl : l.length ≤ 4096) (h : ∀ e ∈ l, EvT e) : ACall Tryz.prog 55 [.sl 10 (evE l)] [] (.osl 0 (filtF l).length 1) [some ⟨5, 1, bytesE (filtF l)⟩] := by
 have := (filter27X l hl h).choose_spec.2
 have e : filtF l = (filter27X l hl h).choose := by unfold filtF; rw [dif_pos ⟨hl, h⟩]
 rw [e]; exact this
theorem filtF_len (l : List Ev) : (filtF l).length ≤ 8195 := by
 unfold filtF
 split
 · next h => exact (filter27X l h.1 h.2).choose_spec.1
 · simp
end Go.Proofs.YtceeklfmlheofaaGreat
