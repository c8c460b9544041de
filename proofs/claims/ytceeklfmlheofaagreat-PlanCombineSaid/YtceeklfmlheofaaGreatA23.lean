/-
  Part 23 of the proof that logtidelaw41.PlanCombine returns true for every list of bytes and leaves its argument as it was; no condition.
-/
import Derived.Test.YtceeklfmlheofaaGreatA22
set_option linter.unusedSimpArgs false
set_option linter.unusedVariables false
namespace Go.Proofs.YtceeklfmlheofaaGreat
open Go.Av
attribute [local irreducible] ACall
def lo (L : List Ln) : List Int := L.map Ln.off
def le (L : List Ln) : List Int := L.map Ln.len
def lz (L : List Ln) : List Int := L.map fun x => (x.text.length : Int)
def lt (L : List Ln) : S := L.flatMap Ln.text
theorem lo_s (L : List Ln) (x : Ln) : lo (L ++ [x]) = lo L ++ [x.off] := by simp [lo]
theorem le_s (L : List Ln) (x : Ln) : le (L ++ [x]) = le L ++ [x.len] := by simp [le]
theorem lz_s (L : List Ln) (x : Ln) : lz (L ++ [x]) = lz L ++ [(x.text.length : Int)] := by simp [lz]
theorem lt_s (L : List Ln) (x : Ln) : lt (L ++ [x]) = lt L ++ x.text := by simp [lt]
theorem lt_len : ∀ (L : List Ln), (∀ x ∈ L, x.text.length ≤ 2000) → (lt L).length ≤ L.length * 2000
 | [], _ => by simp [lt]
 | x :: L, h => by
   have := lt_len L (fun y hy => h y (by simp [hy]))
   have := h x (by simp)
   simp only [lt, List.flatMap_cons, List.length_append, List.length_cons] at *; omega
def cnTo (l : List Ev) (i : Nat) : List Int := (l.take i).map fun e => (e.lines.length : Int)
def lnTo (l : List Ev) (i : Nat) : List Ln := (l.take i).flatMap Ev.lines
theorem cnTo_s (l : List Ev) (i : Nat) (h : i < l.length) : cnTo l (i + 1) = cnTo l i ++ [(l[i].lines.length : Int)] := by
 unfold cnTo
 rw [List.take_add_one, List.getElem?_eq_getElem h]
 simp only [Option.toList, List.map_append, List.map_cons, List.map_nil]
theorem lnTo_s (l : List Ev) (i : Nat) (h : i < l.length) : lnTo l (i + 1) = lnTo l i ++ l[i].lines := by
 unfold lnTo
 rw [List.take_add_one, List.getElem?_eq_getElem h, List.flatMap_append]
 simp only [Option.toList, List.flatMap_cons, List.flatMap_nil, List.append_nil]
theorem lnTo_mono (l : List Ev) (i : Nat) : (lnTo l i).length ≤ (l.flatMap Ev.lines).length := by
 have : l.flatMap Ev.lines = lnTo l i ++ (l.drop i).flatMap Ev.lines := by unfold lnTo; rw [← List.flatMap_append, List.take_append_drop]
 rw [this]; simp
theorem lnTo_all (l : List Ev) : lnTo l l.length = l.flatMap Ev.lines := by simp [lnTo]
def linesF (l : List Ev) : List UInt8 := blockF (enc24 (cnTo l l.length)) ++ blockF (enc24 (lo (lnTo l l.length))) ++ blockF (enc24 (le (lnTo l l.length))) ++ blockF (enc24 (lz (lnTo l l.length))) ++ lt (lnTo l l.length)
theorem bcol (v : List Int) (hl : v.length ≤ 16384) : (enc24 v).length ≤ 2 ^ 20 ∧ (blockF (enc24 v)).length ≤ 2 ^ 20 := by
 have := enc24_len v hl
 have := blockF_len (enc24 v)
 omega
theorem lines27 (l : List Ev) (hl : l.length ≤ 4096) (h : ∀ e ∈ l, EvT e) (hL : (l.flatMap Ev.lines).length ≤ 16384) : ACall Tryz.prog 52 [.sl 10 (evE l)] [] (.osl 0 (linesF l).length 1) [some ⟨5, 1, bytesE (linesF l)⟩] := by
 refine acall 80 0 Tryz.func52 rfl rfl rfl (by simp) rfl rfl ?_
 intro C hN hk
 have htx : ∀ i, ∀ x ∈ lnTo l i, x.text.length ≤ 2000 := by
   intro i x hx
   unfold lnTo at hx
   obtain ⟨e, he, hx⟩ := List.mem_flatMap.1 hx
   exact (h e (List.mem_of_mem_take he)).tx x hx
 have e0 : cnTo l 0 = [] := by simp [cnTo]
 have e1 : lnTo l 0 = [] := by simp [lnTo]
 refine nx ?_; refine rG hN hk noc [] [0] fun K hK => ?_; simp only [go_sem, seval]; refine hK _ _ ?_
 clear hK K; refine nx ?_
 refine rG hN hk noc [] [0, 3, 4, 5, 6] fun K hK => ?_; simp only [go_sem, seval]; refine hK _ _ ?_
 clear hK K; refine nx ?_
 refine rG hN hk noc [] [0, 3, 4, 5, 6, 7] fun K hK => ?_; simp only [go_sem, seval]; refine hK _ _ ?_
 clear hK K; refine nx ?_
 refine rG hN hk noc [] [0, 3, 4, 5, 6, 7, 8] fun K hK => ?_; simp only [go_sem, seval]; refine hK _ _ ?_
 clear hK K; refine nx ?_
 refine lpF hk 5 (fun i : Nat => ⟨[(0, .sl 10 (evE l)), (3, .osl 0 (cnTo l i).length 1), (4, .osl 1 (lo (lnTo l i)).length 1), (5, .osl 2 (le (lnTo l i)).length 1), (6, .osl 3 (lz (lnTo l i)).length 1), (7, .osl 4 (lt (lnTo l i)).length 1), (8, I i)], [(0, some ⟨3, 1, intE (cnTo l i)⟩), (1, some ⟨3, 1, intE (lo (lnTo l i))⟩), (2, some ⟨3, 1, intE (le (lnTo l i))⟩), (3, some ⟨3, 1, intE (lz (lnTo l i))⟩), (4, some ⟨5, 1, bytesE (lt (lnTo l i))⟩)]⟩) (fun i => i ≤ l.length) (fun i => l.length - i) 0 (mkWk [none, none, none, none, none] [] (by simp [wkEnv, wk, wkL, wkE, lk, I, str, B, U8, U64, U32, e0, e1, lo, le, lz, lt] <;> omega) (by first | (simp [wkHp, wkHp1, wkEnt, lkh, e0, e1, lo, le, lz, lt]; done) | (simp [wkHp, wkHp1, wkEnt, lkh, idLtL, idLt, I, str, e0, e1, lo, le, lz, lt]; done) | simp [wkHp, wkHp1, wkEnt, wkL, wk, wkE, lkh, I, str, e0, e1, lo, le, lz, lt])) ?_
 intro i h1
 have hcl : (cnTo l i).length ≤ 4096 := by simp [cnTo]; omega
 have hll := lnTo_mono l i
 have htl := lt_len _ (htx i)
 by_cases hi : i < l.length
 · have hx := List.getElem?_eq_getElem hi
   have hs := cnTo_s l i hi
   have hs2 := lnTo_s l i hi
   have hll2 := lnTo_mono l (i + 1)
   have htx2 := htx (i + 1)
   have hc0 : (cnTo l (i + 1)).length ≤ 4096 := by simp [cnTo]; omega
   generalize cnTo l i = c at *
   generalize lnTo l i = A at *
   generalize l[i] = e at *
   rw [hs2] at hll2 htx2
   refine nx ?_; refine rG hN hk noc [] [0, 3, 4, 5, 6, 7, 8, 15] fun K hK => ?_; simp only [go_sem, seval, hx]
   try simp (disch := omega) only [au]
   (first | with_reducible refine hK _ _ ?_ | refine obK (hK _ _ ?_)); clear hK K; refine nx ?_
   refine cT ?_; refine nx ?_; refine rG hN hk noc [] [0, 3, 4, 5, 6, 7, 8] fun K hK => ?_; simp only [go_sem, seval, hx]
   (first | with_reducible refine hK _ _ ?_ | refine obK (hK _ _ ?_)); clear hK K; refine nx ?_
   refine rG hN hk noc [] [0, 3, 4, 5, 6, 7, 8, 9] fun K hK => ?_; simp only [go_sem, seval, hx]; refine hK _ _ ?_
   clear hK K; refine nx ?_
   obtain ⟨c2, hc2⟩ : ∃ c2, c ++ [(e.lines.length : Int)] = c2 := ⟨_, rfl⟩
   have hs3 : (c.length + 1) = c2.length := by rw [← hc2]; simp
   rw [hc2, hs3]
   rw [hc2] at hs
   refine nx ?_
   refine lpF hk 5 (fun k : Nat => ⟨[(0, .sl 10 (evE l)), (3, .osl 0 c2.length 1), (4, .osl 1 (lo (A ++ e.lines.take k)).length 1), (5, .osl 2 (le (A ++ e.lines.take k)).length 1), (6, .osl 3 (lz (A ++ e.lines.take k)).length 1), (7, .osl 4 (lt (A ++ e.lines.take k)).length 1), (8, I i), (9, I k)], [(0, some ⟨3, 1, intE c2⟩), (1, some ⟨3, 1, intE (lo (A ++ e.lines.take k))⟩), (2, some ⟨3, 1, intE (le (A ++ e.lines.take k))⟩), (3, some ⟨3, 1, intE (lz (A ++ e.lines.take k))⟩), (4, some ⟨5, 1, bytesE (lt (A ++ e.lines.take k))⟩)]⟩) (fun k => k ≤ e.lines.length) (fun k => e.lines.length - k) 0 (mkWk [some 0, some 1, some 2, some 3, some 4] [] (by simp [wkEnv, wk, wkL, wkE, lk, I, str, B, U8, U64, U32] <;> omega) (by first | (simp [wkHp, wkHp1, wkEnt, lkh]; done) | (simp [wkHp, wkHp1, wkEnt, lkh, idLtL, idLt, I, str]; done) | simp [wkHp, wkHp1, wkEnt, wkL, wk, wkE, lkh, I, str])) ?_
   intro k h2
   have hek : e.lines.length ≤ 16384 := by rw [List.length_append] at hll2; omega
   have hLk : (A ++ e.lines.take k).length ≤ 16384 := by
     rw [List.length_append] at hll2 ⊢
     rw [List.length_take]; omega
   have htk := lt_len (A ++ e.lines.take k) (fun x hx => htx2 x (by
     rcases List.mem_append.1 hx with hx | hx
     · simp [hx]
     · simp [List.mem_of_mem_take hx]))
   have ho : ∀ B, (lo B).length = B.length := by intro B; simp [lo]
   have he : ∀ B, (le B).length = B.length := by intro B; simp [le]
   have hz : ∀ B, (lz B).length = B.length := by intro B; simp [lz]
   have ho := ho (A ++ e.lines.take k)
   have he := he (A ++ e.lines.take k)
   have hz := hz (A ++ e.lines.take k)
   by_cases hk2 : k < e.lines.length
   · have hy := List.getElem?_eq_getElem hk2
     have htt := htx2 e.lines[k] (by simp)
     have hs5 : A ++ e.lines.take (k + 1) = (A ++ e.lines.take k) ++ [e.lines[k]] := by
       rw [List.take_add_one, hy]
       simp only [Option.toList, List.append_assoc]
     generalize e.lines[k] = x at *
     have s1 := lo_s (A ++ e.lines.take k) x
     have s2 := le_s (A ++ e.lines.take k) x
     have s3 := lz_s (A ++ e.lines.take k) x
     have s4 := lt_s (A ++ e.lines.take k) x
     rw [← hs5] at s1 s2 s3 s4
     generalize lo (A ++ e.lines.take k) = v1 at *
     generalize le (A ++ e.lines.take k) = v2 at *
     generalize lz (A ++ e.lines.take k) = v3 at *
     generalize lt (A ++ e.lines.take k) = v4 at *
     refine nx ?_; refine rG hN hk noc [] [0, 3, 4, 5, 6, 7, 8, 9, 34] fun K hK => ?_; simp only [go_sem, seval, hx, hy]
     try simp (disch := omega) only [au]
     (first | with_reducible refine hK _ _ ?_ | refine obK (hK _ _ ?_)); clear hK K; refine nx ?_
     refine cT ?_; refine nx ?_; refine rG hN hk noc [] [0, 3, 4, 5, 6, 7, 8, 9, 10] fun K hK => ?_; simp only [go_sem, seval, hx, hy]
     (first | with_reducible refine hK _ _ ?_ | refine obK (hK _ _ ?_)); clear hK K; refine nx ?_
     refine rD hN hk noc [] [0, 3, 4, 5, 6, 7, 8, 9, 10] fun K tok htok hK => ?_
     simp only [go_sem, seval, hx, hy]
     refine ⟨htok _ (by decide +kernel), ?_⟩
     (first | with_reducible refine hK _ _ ?_ | refine obK (hK _ _ ?_)); clear hK K htok tok
     refine nx ?_; refine rG hN hk noc [] [0, 3, 4, 5, 6, 7, 8, 9] fun K hK => ?_; simp only [go_sem, seval, hx, hy]
     (first | with_reducible refine hK _ _ ?_ | refine obK (hK _ _ ?_)); clear hK K; refine nx ?_
     refine rG hN hk noc [] [0, 3, 4, 5, 6, 7, 8, 9] fun K hK => ?_; simp only [go_sem, seval, hx, hy]
     try simp (disch := omega) only [au]
     refine hK _ _ ?_; clear hK K; refine nx ?_
     refine ⟨k + 1, (by first | assumption | omega | (simp; done) | ((repeat' apply And.intro) <;> first | assumption | omega | (simp; done) | (simp; omega))), (by first | omega | (simp; omega)), ⟨[some 0, some 1, some 2, some 3, some 4], [], ⟨by simp [srcIds], by simp [srcIds], by simp⟩, by simp, by simp [wkEnv, wk, wkL, wkE, lk, I, str, B, U8, U64, U32, s1, s2, s3, s4] <;> omega, by first | (simp [wkHp, wkHp1, wkEnt, lkh, s1, s2, s3, s4]; done) | (simp [wkHp, wkHp1, wkEnt, lkh, idLtL, idLt, I, str, s1, s2, s3, s4]; done) | simp [wkHp, wkHp1, wkEnt, wkL, wk, wkE, lkh, I, str, s1, s2, s3, s4]⟩⟩
   · have : k = e.lines.length := by omega
     subst this
     rw [List.take_length, ← hs2]
     rw [List.take_length, ← hs2] at ho he hz htk
     refine nx ?_; refine rG hN hk noc [] [0, 3, 4, 5, 6, 7, 8, 9, 34] fun K hK => ?_; simp only [go_sem, seval, hx]
     try simp (disch := omega) only [au]
     (first | with_reducible refine hK _ _ ?_ | refine obK (hK _ _ ?_)); clear hK K; refine nx ?_
     refine cF ?_; refine nx ?_; refine rG hN hk noc [] [0, 3, 4, 5, 6, 7, 8] fun K hK => ?_; simp only [go_sem, seval, hx]
     try simp (disch := omega) only [au]
     refine hK _ _ ?_; clear hK K; refine nx ?_
     refine ⟨i + 1, (by first | assumption | omega | (simp; done) | ((repeat' apply And.intro) <;> first | assumption | omega | (simp; done) | (simp; omega))), (by first | omega | (simp; omega)), ⟨[some 0, some 1, some 2, some 3, some 4], [], ⟨by simp [srcIds], by simp [srcIds], by simp⟩, by simp, by simp [wkEnv, wk, wkL, wkE, lk, I, str, B, U8, U64, U32, hs] <;> omega, by first | (simp [wkHp, wkHp1, wkEnt, lkh, hs]; done) | (simp [wkHp, wkHp1, wkEnt, lkh, idLtL, idLt, I, str, hs]; done) | simp [wkHp, wkHp1, wkEnt, wkL, wk, wkE, lkh, I, str, hs]⟩⟩
 · have : i = l.length := by omega
   subst this
   unfold linesF
   generalize cnTo l l.length = c at *
   generalize lnTo l l.length = L at *
   have ho : (lo L).length = L.length := by simp [lo]
   have he : (le L).length = L.length := by simp [le]
   have hz : (lz L).length = L.length := by simp [lz]
   generalize lo L = v1 at *
   generalize le L = v2 at *
   generalize lz L = v3 at *
   generalize lt L = v4 at *
   have q1 := column27 c (by omega)
   have q2 := column27 v1 (by omega)
   have q3 := column27 v2 (by omega)
   have q4 := column27 v3 (by omega)
   have b1 := bcol c (by omega)
   have b2 := bcol v1 (by omega)
   have b3 := bcol v2 (by omega)
   have b4 := bcol v3 (by omega)
   have p1 := putBlockN (enc24 c) (by omega)
   have p2 := putBlock (blockF (enc24 c)) (enc24 v1) (by omega) (by omega)
   have p3 := putBlock (blockF (enc24 c) ++ blockF (enc24 v1)) (enc24 v2) (by simp; omega) (by omega)
   have p4 := putBlock (blockF (enc24 c) ++ blockF (enc24 v1) ++ blockF (enc24 v2)) (enc24 v3) (by simp; omega) (by omega)
   generalize blockF (enc24 c) = x1 at *
   generalize blockF (enc24 v1) = x2 at *
   generalize blockF (enc24 v2) = x3 at *
   generalize blockF (enc24 v3) = x4 at *
   generalize enc24 c = y1 at *
   generalize enc24 v1 = y2 at *
   generalize enc24 v2 = y3 at *
   generalize enc24 v3 = y4 at *
   have hsum : ((x1 ++ x2 ++ x3 ++ x4).length + v4.length) ≤ 2 ^ 30 := by simp; omega
   generalize x1 ++ x2 ++ x3 ++ x4 = x6 at *
   generalize x1 ++ x2 ++ x3 = x7 at *
   generalize x1 ++ x2 = x8 at *
   refine nx ?_; refine rG hN hk noc [] [0, 3, 4, 5, 6, 7, 8, 15] fun K hK => ?_; simp only [go_sem, seval]
   try simp (disch := omega) only [au]
   (first | with_reducible refine hK _ _ ?_ | refine obK (hK _ _ ?_)); clear hK K; refine nx ?_
   refine cF ?_; refine nx ?_; refine rG hN hk (onc 1 (bcq [0] q1) (onc 2 (bcq [13] p1) (onc 4 (bcq [1] q2) (onc 5 (obcq 21 [37] p2) (onc 7 (bcq [2] q3) (onc 8 (obcq 45 [61] p3) (onc 10 (bcq [3] q4) (onc 11 (obcq 69 [85] p4) noc)))))))) [] [7, 11] fun K hK => ?_; simp only [go_sem, seval]; refine obK (hK _ _ ?_)
   clear hK K; refine nx ?_
   refine rG hN hk noc [] [2] fun K hK => ?_; simp only [go_sem, seval]
   (first | with_reducible refine hK _ _ ?_ | refine obK (hK _ _ ?_)); clear hK K; refine nx ?_
   refine AW.ret (mkRet [some 0] [] rfl (by simp [resOf, lk, lkh, wk, wkL, wkE, I, str, B, U8, U64, U32] <;> omega) (by first | (simp [wkHp, wkHp1, wkEnt, lkh]; done) | (simp [wkHp, wkHp1, wkEnt, lkh, idLtL, idLt, I, str]; done) | simp [wkHp, wkHp1, wkEnt, wkL, wk, wkE, lkh, I, str]))
theorem vlTo_lt (l : List Ev) (n : S) : ∀ i, ∀ x ∈ (vlTo l n i).1, 0 ≤ x ∧ x < (i : Int)
 | 0 => by simp [vlTo]
 | i + 1 => by
   have := vlTo_lt l n i
   unfold vlTo
   split
   · split
     · intro x hx
       rcases List.mem_append.1 hx with hx | hx
       · have := this x hx; omega
       · rw [List.mem_singleton.1 hx]; omega
     · intro x hx; have := this x hx; omega
   · intro x hx; have := this x hx; omega
theorem vlTo_asc (l : List Ev) (n : S) : ∀ i, (vlTo l n i).1.Pairwise (· < ·)
 | 0 => by simp [vlTo]
 | i + 1 => by
   have := vlTo_asc l n i
   unfold vlTo
   split
   · split
     · rw [List.pairwise_append]
       exact ⟨this, by simp, fun a ha b hb => by rw [List.mem_singleton.1 hb]; exact (vlTo_lt l n i a ha).2⟩
     · exact this
   · exact this
theorem vlTo_eq (l : List Ev) (n : S) : ∀ i, (vlTo l n i).1.length = (vlTo l n i).2.length
 | 0 => by simp [vlTo]
 | i + 1 => by
   have := vlTo_eq l n i
   unfold vlTo
   split
   · split
     · simp [this]
     · exact this
   · exact this
theorem vlTo_short (l : List Ev) (n : S) (h : ∀ e ∈ l, EvT e) : ∀ i, ∀ s ∈ (vlTo l n i).2, s.length ≤ 2048
 | 0 => by simp [vlTo]
 | i + 1 => by
   have := vlTo_short l n h i
   unfold vlTo
   split
   · next e he =>
     split
     · next f hf =>
       intro s hs
       rcases List.mem_append.1 hs with hs | hs
       · exact this s hs
       · rw [List.mem_singleton.1 hs]
         have := (h e (List.mem_of_getElem? he)).fv f (List.mem_of_find?_eq_some hf)
         omega
     · exact this
   · exact this
theorem vlTo_post (l : List Ev) (n : S) (hl : l.length ≤ 4096) : Post (vlTo l n l.length).1 := by
 refine ⟨by have := (vlTo_len l n l.length).1; omega, fun i hi => ?_, fun i hi => ?_⟩
 · have := vlTo_lt l n l.length _ (List.getElem_mem hi); omega
 · exact List.pairwise_iff_getElem.1 (vlTo_asc l n l.length) i (i + 1) (by omega) hi (by omega)
theorem check23_dist2 (l : List S) (h1 : (distF l).length ≤ 32768) (h2 : ∀ s ∈ l, s.length ≤ 2048) : check23F (distF l) = 0 := by
 have h3 : longS (distF l) = false := by
   unfold longS
   rw [List.any_eq_false]
   intro x hx
   have := h2 x ((distF_mem l x).1 hx)
   simp; omega
 unfold check23F
 rw [if_neg (by omega), h3, unord_of_sorted _ (distF_sorted l)]
 simp
theorem ixF_len (ts : List S) (hl : ts.length ≤ 4096) (hs : ∀ s ∈ ts, s.length ≤ 2048) : (ixF ts).length ≤ 2 ^ 24 := by
 have h1 := enc23F_len _ (check23_dist ts (by omega) hs)
 have h2 := distF_len ts
 have h3 := blockF_len (enc23F (distF ts))
 have h4 : (ixTo ts ts.length).length = ts.length := by simp [ixTo]
 have h5 := enc24_len (ixTo ts ts.length) (by omega)
 have h6 := blockF_len (enc24 (ixTo ts ts.length))
 unfold ixF
 rw [List.length_append]; omega
def fdP (l : List Ev) (n : S) : List UInt8 := blockF (enc25 (vlTo l n l.length).1) ++ ixF (vlTo l n l.length).2
def fdTo (l : List Ev) (d : List S) (i : Nat) : List UInt8 := blockF (enc23F d) ++ (d.take i).flatMap (fdP l)
theorem fdTo_s (l : List Ev) (d : List S) (i : Nat) (h : i < d.length) : fdTo l d (i + 1) = fdTo l d i ++ fdP l d[i] := by
 unfold fdTo
 rw [List.take_add_one, List.getElem?_eq_getElem h, List.flatMap_append]
 simp only [Option.toList, List.flatMap_cons, List.flatMap_nil, List.append_nil, List.append_assoc]
theorem fdP_len (l : List Ev) (n : S) (hl : l.length ≤ 4096) (h : ∀ e ∈ l, EvT e) : (fdP l n).length ≤ 2 ^ 24 + 100011 := by
 have h1 := enc25_len _ (vlTo_post l n hl)
 have h2 := blockF_len (enc25 (vlTo l n l.length).1)
 have h3 := ixF_len (vlTo l n l.length).2 (by have := (vlTo_len l n l.length).2; omega) (vlTo_short l n h _)
 unfold fdP
 rw [List.length_append]; omega
theorem fdTo_len (l : List Ev) (d : List S) (hl : l.length ≤ 4096) (h : ∀ e ∈ l, EvT e) (hc : check23F d = 0) : ∀ i, i ≤ d.length → (fdTo l d i).length ≤ 70000000 + i * (2 ^ 24 + 100011)
 | 0, _ => by
   have h1 := enc23F_len d hc
   have h2 := blockF_len (enc23F d)
   have h3 := (longS_of d hc).2
   simp [fdTo]; omega
 | i + 1, hi => by
   have := fdTo_len l d hl h hc i (by omega)
   have := fdP_len l d[i] hl h
   rw [fdTo_s l d i (by omega), List.length_append]; omega
def fieldsF (l : List Ev) : List UInt8 := fdTo l (allNames l) (allNames l).length
theorem nmTo_short (l : List Ev) (h : ∀ e ∈ l, EvT e) : ∀ i, ∀ s ∈ nmTo l i, s.length ≤ 2048 := by
 intro i s hs
 unfold nmTo at hs
 obtain ⟨e, he, hs⟩ := List.mem_flatMap.1 hs
 obtain ⟨f, hf, rfl⟩ := List.mem_map.1 hs
 have := (h e (List.mem_of_mem_take he)).fv f hf
 omega
theorem fields27 (l : List Ev) (hl : l.length ≤ 4096) (h : ∀ e ∈ l, EvT e) (hn : (allNames l).length ≤ 32768) : ACall Tryz.prog 53 [.sl 10 (evE l)] [] (.osl 0 (fieldsF l).length 1) [some ⟨5, 1, bytesE (fieldsF l)⟩] := by
 refine acall 36 0 Tryz.func53 rfl rfl rfl (by simp) rfl rfl ?_
 intro C hN hk
 have hc : check23F (allNames l) = 0 := check23_dist2 _ hn (nmTo_short l h _)
 have q0 := names27 l hl h
 have q1 := dictionary27 (allNames l) hc (by omega) (short_of _ hc)
 have hel := enc23F_len _ hc
 have q2 := putBlockN (enc23F (allNames l)) (by omega)
 have hbl := blockF_len (enc23F (allNames l))
 have hfl := fdTo_len l (allNames l) hl h hc
 have hfs := fdTo_s l (allNames l)
 have h0 : fdTo l (allNames l) 0 = blockF (enc23F (allNames l)) := by simp [fdTo]
 unfold fieldsF
 generalize fdTo l (allNames l) = fd at *
 generalize blockF (enc23F (allNames l)) = bl at *
 generalize enc23F (allNames l) = en at *
 generalize allNames l = d at *
 refine nx ?_; refine rG hN hk noc [] [0] fun K hK => ?_; simp only [go_sem, seval]; refine hK _ _ ?_
 clear hK K; refine nx ?_
 refine rG hN hk (onc 1 (pcq q0) noc) [] [0, 3] fun K hK => ?_; simp only [go_sem, seval]; refine obK (hK _ _ ?_)
 clear hK K; refine nx ?_
 refine rG hN hk (onc 1 (bcq [0] q1) (onc 2 (bcq [9] q2) noc)) [] [0, 3, 4] fun K hK => ?_; simp only [go_sem, seval]; refine obK (hK _ _ ?_)
 clear hK K; refine nx ?_
 refine rG hN hk noc [] [0, 3, 4, 5] fun K hK => ?_; simp only [go_sem, seval]; refine hK _ _ ?_
 clear hK K; refine nx ?_
 clear q0 q1 q2
 refine nx ?_
 refine lpF hk 2 (fun i : Nat => ⟨[(0, .sl 10 (evE l)), (3, .osl 0 d.length 1), (4, .osl 1 (fd i).length 1), (5, I i)], [(0, some ⟨9, 1, strE d⟩), (1, some ⟨5, 1, bytesE (fd i)⟩)]⟩) (fun i => i ≤ d.length) (fun i => d.length - i) 0 (mkWk [some 0, some 1] [] (by simp [wkEnv, wk, wkL, wkE, lk, I, str, B, U8, U64, U32, h0] <;> omega) (by first | (simp [wkHp, wkHp1, wkEnt, lkh, h0]; done) | (simp [wkHp, wkHp1, wkEnt, lkh, idLtL, idLt, I, str, h0]; done) | simp [wkHp, wkHp1, wkEnt, wkL, wk, wkE, lkh, I, str, h0])) ?_
 intro i h1
 have hli := hfl i h1
 by_cases hi : i < d.length
 · have hx := List.getElem?_eq_getElem hi
   have hs := hfs i hi
   have q3 := values27 l d[i] hl h
   have hp := vlTo_post l d[i] hl
   have hvl := vlTo_len l d[i] l.length
   have hvs := vlTo_short l d[i] h l.length
   unfold fdP at hs
   generalize d[i] = n at *
   generalize vlTo l n l.length = z at *
   obtain ⟨a, b⟩ := z
   simp only at hp hvl hvs hs q3
   have q4 := postings27 a hp
   have e1 := enc25_len a hp
   have q5 := putBlock (fd i) (enc25 a) (by omega) (by omega)
   have e2 := blockF_len (enc25 a)
   have q6 := indexed27 b (by omega) hvs
   have e3 := ixF_len b (by omega) hvs
   generalize ixF b = x1 at *
   generalize blockF (enc25 a) = x2 at *
   generalize enc25 a = x3 at *
   generalize fd i = x4 at *
   have hsum : (x4 ++ x2).length + x1.length ≤ 2 ^ 42 := by simp; omega
   refine nx ?_; refine rG hN hk noc [] [0, 3, 4, 5, 16] fun K hK => ?_; simp only [go_sem, seval, hx]
   try simp (disch := omega) only [au]
   (first | with_reducible refine hK _ _ ?_ | refine obK (hK _ _ ?_)); clear hK K; refine nx ?_
   refine cT ?_; refine nx ?_; refine rG hN hk (onc 5 (pcq q3) noc) [] [0, 3, 4, 5, 6, 7] fun K hK => ?_; simp only [go_sem, seval, hx]; refine obK (hK _ _ ?_)
   clear hK K; refine nx ?_
   refine rG hN hk (onc 2 (bcq [2] q4) (onc 3 (obcq 1 [20] q5) (onc 5 (bcq [3] q6) noc))) [] [0, 3, 4, 5] fun K hK => ?_; simp only [go_sem, seval, hx]; refine obK (hK _ _ ?_)
   clear hK K; refine nx ?_
   refine rG hN hk noc [] [0, 3, 4, 5] fun K hK => ?_; simp only [go_sem, seval, hx]
   try simp (disch := omega) only [au]
   refine hK _ _ ?_; clear hK K; refine nx ?_
   refine ⟨i + 1, (by first | assumption | omega | (simp; done) | ((repeat' apply And.intro) <;> first | assumption | omega | (simp; done) | (simp; omega))), (by first | omega | (simp; omega)), ⟨[some 0, some 1], [], ⟨by simp [srcIds], by simp [srcIds], by simp⟩, by simp, by simp [wkEnv, wk, wkL, wkE, lk, I, str, B, U8, U64, U32, hs] <;> omega, by first | (simp [wkHp, wkHp1, wkEnt, lkh, hs]; done) | (simp [wkHp, wkHp1, wkEnt, lkh, idLtL, idLt, I, str, hs]; done) | simp [wkHp, wkHp1, wkEnt, wkL, wk, wkE, lkh, I, str, hs]⟩⟩
 · have : i = d.length := by omega
   subst this
   refine nx ?_; refine rG hN hk noc [] [0, 3, 4, 5, 16] fun K hK => ?_; simp only [go_sem, seval]
   try simp (disch := omega) only [au]
   (first | with_reducible refine hK _ _ ?_ | refine obK (hK _ _ ?_)); clear hK K; refine nx ?_
   refine cF ?_; refine nx ?_; refine rG hN hk noc [] [2] fun K hK => ?_; simp only [go_sem, seval]; refine hK _ _ ?_
   clear hK K; refine nx ?_
   refine AW.ret (mkRet [some 0] [] rfl (by simp [resOf, lk, lkh, wk, wkL, wkE, I, str, B, U8, U64, U32] <;> omega) (by first | (simp [wkHp, wkHp1, wkEnt, lkh]; done) | (simp [wkHp, wkHp1, wkEnt, lkh, idLtL, idLt, I, str]; done) | simp [wkHp, wkHp1, wkEnt, wkL, wk, wkE, lkh, I, str]))
theorem mid_eq {α : Type} {B A M R : List α} {i j : Nat} (hB : B = A ++ M ++ R) (hA : A.length = i) (hM : A.length + M.length = j) : (B.take j).drop i = M := by
 subst hB hA hM
 rw [List.take_append, List.take_of_length_le (by simp)]
 simp
theorem getTo_be (v : Nat) : ∀ k, v < 256 ^ k → getTo (beTo v k) = v := by
 have key : ∀ k acc, (beTo v k).foldl (fun x b => x * 256 + b.toNat) acc = acc * 256 ^ k + v % 256 ^ k := by
   intro k
   induction k with
   | zero => intro acc; simp [beTo, Nat.mod_one]
   | succ k ih =>
     intro acc
     have e1 : (UInt8.ofNat (v / 2 ^ (8 * k) % 256)).toNat = v / 256 ^ k % 256 := by
       have : (2 : Nat) ^ (8 * k) = 256 ^ k := by rw [Nat.pow_mul]
       rw [this]; simp
     have e2 := Nat.mod_mul (x := v) (a := 256 ^ k) (b := 256)
     simp only [beTo, List.foldl_cons, ih, e1]
     rw [Nat.pow_succ, e2, Nat.add_mul, Nat.mul_assoc, Nat.mul_comm 256 (256 ^ k), Nat.mul_comm (v / 256 ^ k % 256)]
     omega
 intro k h
 unfold getTo
 rw [key, Nat.zero_mul, Nat.zero_add, Nat.mod_eq_of_lt h]
noncomputable def dirS (s : List UInt8) : List UInt8 := beTo s.length 4 ++ beTo (crcF s) 4
noncomputable def dirF (ss : List (List UInt8)) : List UInt8 := ss.flatMap dirS
def hd24F (c a z : Nat) : List UInt8 := [76, 84, 83, 49] ++ beTo c 4 ++ beTo a 8 ++ beTo z 8
noncomputable def hdF (c a z : Nat) (ss : List (List UInt8)) : List UInt8 := hd24F c a z ++ dirF ss
noncomputable def segF (c a z : Nat) (ss : List (List UInt8)) : List UInt8 := hdF c a z ss ++ beTo (crcF (hdF c a z ss)) 4 ++ ss.flatten
theorem dirS_len (s : List UInt8) : (dirS s).length = 8 := by simp [dirS, beTo_len]
theorem dirF_len : ∀ ss, (dirF ss).length = 8 * ss.length
 | [] => rfl
 | s :: r => by
   have := dirF_len r
   have h2 := dirS_len s
   simp only [dirF, List.flatMap_cons, List.length_append, List.length_cons] at *; omega
theorem hd24F_len (c a z : Nat) : (hd24F c a z).length = 24 := by simp [hd24F, beTo_len]
theorem hdF_len (c a z : Nat) (ss : List (List UInt8)) : (hdF c a z ss).length = 24 + 8 * ss.length := by simp [hdF, hd24F_len, dirF_len]
theorem dirF_at (ss : List (List UInt8)) (k : Nat) (h : k < ss.length) : dirF ss = dirF (ss.take k) ++ dirS ss[k] ++ dirF (ss.drop (k + 1)) := by
 have e : ss = ss.take k ++ ss[k] :: ss.drop (k + 1) := by simp
 conv => lhs; rw [e]
 unfold dirF
 rw [List.flatMap_append, List.flatMap_cons, List.append_assoc]
def offF (ss : List (List UInt8)) (k : Nat) : Nat := ((ss.take k).flatten).length
theorem offF_s (ss : List (List UInt8)) (k : Nat) (h : k < ss.length) : offF ss (k + 1) = offF ss k + ss[k].length := by
 unfold offF
 rw [List.take_add_one, List.getElem?_eq_getElem h, List.flatten_append]
 simp
theorem offF_le (ss : List (List UInt8)) (k : Nat) : offF ss k ≤ ss.flatten.length := by
 have : ss.flatten = (ss.take k).flatten ++ (ss.drop k).flatten := by rw [← List.flatten_append, List.take_append_drop]
 unfold offF; rw [this]; simp
section seg
variable (c a z : Nat) (ss : List (List UInt8))
theorem seg_len (hs : ss.length = 12) : (segF c a z ss).length = 124 + ss.flatten.length := by simp only [segF, List.length_append, hdF_len, beTo_len, hs]
theorem seg_lenAt (k : Nat) (hs : ss.length = 12) (h : k < ss.length) : ((segF c a z ss).take (28 + 8 * k)).drop (24 + 8 * k) = beTo ss[k].length 4 := by
 refine mid_eq (A := hd24F c a z ++ dirF (ss.take k)) (R := beTo (crcF ss[k]) 4 ++ dirF (ss.drop (k + 1)) ++ beTo (crcF (hdF c a z ss)) 4 ++ ss.flatten) ?_ ?_ ?_
 · unfold segF
   rw [show hdF c a z ss = hd24F c a z ++ (dirF (ss.take k) ++ dirS ss[k] ++ dirF (ss.drop (k + 1))) by rw [← dirF_at ss k h]; rfl]
   simp only [dirS, List.append_assoc]
 · rw [List.length_append, hd24F_len, dirF_len, List.length_take]; omega
 · rw [List.length_append, hd24F_len, dirF_len, List.length_take, beTo_len]; omega
theorem seg_crcAt (k : Nat) (hs : ss.length = 12) (h : k < ss.length) : ((segF c a z ss).take (32 + 8 * k)).drop (28 + 8 * k) = beTo (crcF ss[k]) 4 := by
 refine mid_eq (A := hd24F c a z ++ dirF (ss.take k) ++ beTo ss[k].length 4) (R := dirF (ss.drop (k + 1)) ++ beTo (crcF (hdF c a z ss)) 4 ++ ss.flatten) ?_ ?_ ?_
 · unfold segF
   rw [show hdF c a z ss = hd24F c a z ++ (dirF (ss.take k) ++ dirS ss[k] ++ dirF (ss.drop (k + 1))) by rw [← dirF_at ss k h]; rfl]
   simp only [dirS, List.append_assoc]
 · rw [List.length_append, List.length_append, hd24F_len, dirF_len, List.length_take, beTo_len]; omega
 · rw [List.length_append, List.length_append, hd24F_len, dirF_len, List.length_take, beTo_len, beTo_len]; omega
theorem seg_sec (k : Nat) (hs : ss.length = 12) (h : k < ss.length) : ((segF c a z ss).take (124 + offF ss k + ss[k].length)).drop (124 + offF ss k) = ss[k] := by
 refine mid_eq (A := hdF c a z ss ++ beTo (crcF (hdF c a z ss)) 4 ++ (ss.take k).flatten) (R := (ss.drop (k + 1)).flatten) ?_ ?_ ?_
 · have e : ss.flatten = (ss.take k).flatten ++ ss[k] ++ (ss.drop (k + 1)).flatten := by
     have e : ss = ss.take k ++ ss[k] :: ss.drop (k + 1) := by simp
     conv => lhs; rw [e]
     rw [List.flatten_append, List.flatten_cons, List.append_assoc]
   unfold segF
   conv => lhs; rw [e]
   simp only [List.append_assoc]
 · simp only [List.length_append, hdF_len, beTo_len, offF]; omega
 · simp only [List.length_append, hdF_len, beTo_len, offF]; omega
theorem seg_hd (hs : ss.length = 12) : (segF c a z ss).take 120 = hdF c a z ss := by
 unfold segF
 rw [List.append_assoc, List.take_append_of_le_length (by rw [hdF_len]; omega), List.take_of_length_le (by rw [hdF_len]; omega)]
theorem seg_hcrc (hs : ss.length = 12) : ((segF c a z ss).take 124).drop 120 = beTo (crcF (hdF c a z ss)) 4 := by
 refine mid_eq (A := hdF c a z ss) (R := ss.flatten) rfl ?_ ?_
 · rw [hdF_len]; omega
 · rw [hdF_len, beTo_len]; omega
theorem seg_magic : (segF c a z ss).take 4 = [76, 84, 83, 49] := by simp [segF, hdF, hd24F]
theorem seg_count : ((segF c a z ss).take 8).drop 4 = beTo c 4 := by
 refine mid_eq (A := [76, 84, 83, 49]) (R := beTo a 8 ++ beTo z 8 ++ dirF ss ++ beTo (crcF (hdF c a z ss)) 4 ++ ss.flatten) ?_ rfl ?_
 · simp only [segF, hdF, hd24F, List.append_assoc]
 · simp [beTo_len]
theorem seg_first : ((segF c a z ss).take 16).drop 8 = beTo a 8 := by
 refine mid_eq (A := [76, 84, 83, 49] ++ beTo c 4) (R := beTo z 8 ++ dirF ss ++ beTo (crcF (hdF c a z ss)) 4 ++ ss.flatten) ?_ ?_ ?_
 · simp only [segF, hdF, hd24F, List.append_assoc]
 · simp [beTo_len]
 · simp [beTo_len]
theorem seg_last : ((segF c a z ss).take 24).drop 16 = beTo z 8 := by
 refine mid_eq (A := [76, 84, 83, 49] ++ beTo c 4 ++ beTo a 8) (R := dirF ss ++ beTo (crcF (hdF c a z ss)) 4 ++ ss.flatten) ?_ ?_ ?_
 · simp only [segF, hdF, hd24F, List.append_assoc]
 · simp [beTo_len]
 · simp [beTo_len]
end seg
structure SegB (c a z : Nat) (ss : List (List UInt8)) : Prop where
 n : ss.length = 12
 each : ∀ s ∈ ss, s.length < 2 ^ 32
 total : ss.flatten.length ≤ 2 ^ 36
 c : c < 2 ^ 32
 a : a < 2 ^ 63
 z : z < 2 ^ 63
theorem getK (v k : Nat) (hk : k ≤ 8) (h : v < 256 ^ k) : ACall Tryz.prog 34 [.sl 1 (bytesE (beTo v k))] [] (U64 v) [] := by
 have := get27 (beTo v k) (by rw [beTo_len]; exact hk)
 rwa [getTo_be v k h] at this
theorem get4 (v : Nat) (h : v < 2 ^ 32) : ACall Tryz.prog 34 [.sl 1 (bytesE (beTo v 4))] [] (U64 v) [] := getK v 4 (by omega) (by simpa using h)
theorem get8 (v : Nat) (h : v < 2 ^ 63) : ACall Tryz.prog 34 [.sl 1 (bytesE (beTo v 8))] [] (U64 v) [] := getK v 8 (by omega) (by simp; simp at h; omega)
structure SegV (bs : List UInt8) (c a z : Nat) (ss : List (List UInt8)) : Prop where
 b : SegB c a z ss
 len : bs.length = 124 + ss.flatten.length
 lenAt : ∀ j (h : j - 1 < ss.length), 1 ≤ j → (bs.take (20 + 8 * j)).drop (16 + 8 * j) = beTo ss[j - 1].length 4
 crcAt : ∀ j (h : j - 1 < ss.length), 1 ≤ j → (bs.take (24 + 8 * j)).drop (20 + 8 * j) = beTo (crcF ss[j - 1]) 4
 sec : ∀ j (h : j < ss.length), (bs.take (124 + offF ss j + ss[j].length)).drop (124 + offF ss j) = ss[j]
 hcrc : (bs.take 124).drop 120 = beTo (crcF (bs.take 120)) 4
 magic : bs.take 4 = [76, 84, 83, 49]
 count : (bs.take 8).drop 4 = beTo c 4
 first : (bs.take 16).drop 8 = beTo a 8
 last : (bs.take 24).drop 16 = beTo z 8
theorem segV {c a z : Nat} {ss : List (List UInt8)} (H : SegB c a z ss) : SegV (segF c a z ss) c a z ss := by
 refine ⟨H, seg_len c a z ss H.n, fun j h h1 => ?_, fun j h h1 => ?_, fun j h => seg_sec c a z ss j H.n h, ?_, seg_magic c a z ss, seg_count c a z ss, seg_first c a z ss, seg_last c a z ss⟩
 · have := seg_lenAt c a z ss (j - 1) H.n h
   rwa [show 28 + 8 * (j - 1) = 20 + 8 * j by omega, show 24 + 8 * (j - 1) = 16 + 8 * j by omega] at this
 · have := seg_crcAt c a z ss (j - 1) H.n h
   rwa [show 32 + 8 * (j - 1) = 24 + 8 * j by omega, show 28 + 8 * (j - 1) = 20 + 8 * j by omega] at this
 · rw [seg_hd c a z ss H.n]; exact seg_hcrc c a z ss H.n
section
variable {bs : List UInt8} {c a z : Nat} {ss : List (List UInt8)}
theorem place27 (V : SegV bs c a z ss) (k : Nat) (h1 : 1 ≤ k) (h2 : k - 1 < ss.length) : ACall Tryz.prog 35 [.sl 1 (bytesE bs), I k] [] (.tup [I (124 + offF ss (k - 1) : Nat), I ss[k - 1].length]) [] := by
 have hn := V.b.n
 have hT := V.b.total
 have hl := V.len
 refine acall 36 0 Tryz.func35 rfl rfl rfl (by simp) rfl rfl ?_
 intro C hN hk
 have hat := V.lenAt
 obtain ⟨o, ho⟩ : ∃ o : Nat → Nat, ∀ j, o j = 124 + offF ss (j - 1) := ⟨fun j => 124 + offF ss (j - 1), fun _ => rfl⟩
 have hof : ∀ j (h : j - 1 < ss.length), 1 ≤ j → o (j + 1) = o j + ss[j - 1].length := by
   intro j h hj
   rw [ho, ho, show j + 1 - 1 = (j - 1) + 1 by omega, offF_s ss (j - 1) h]; omega
 have hol : ∀ j, o j ≤ 124 + ss.flatten.length := by intro j; rw [ho]; have := offF_le ss (j - 1); omega
 have ho0 : o 1 = 124 := by rw [ho]; simp [offF]
 have hge : ∀ j (hj : j < ss.length), ss[j].length < 2 ^ 32 := fun j hj => V.b.each _ (List.getElem_mem hj)
 rw [← ho k]
 clear ho
 refine nx ?_; refine rG hN hk noc [] [0, 1] fun K hK => ?_; simp only [go_sem, seval]; refine hK _ _ ?_
 clear hK K; refine nx ?_
 refine rG hN hk noc [] [0, 1, 6] fun K hK => ?_; simp only [go_sem, seval]; refine hK _ _ ?_
 clear hK K; refine nx ?_
 refine rG hN hk noc [] [0, 1, 6, 7] fun K hK => ?_; simp only [go_sem, seval]; refine hK _ _ ?_
 clear hK K; refine nx ?_
 refine lpF hk 0 (fun j : Nat => ⟨[(0, .sl 1 (bytesE bs)), (1, I k), (6, I (o j)), (7, I j)], []⟩) (fun j => 1 ≤ j ∧ j ≤ k) (fun j => k - j) 1 (mkWk [] [] (by simp [wkEnv, wk, wkL, wkE, lk, I, str, B, U8, U64, U32, ho0] <;> omega) (by first | (simp [wkHp, wkHp1, wkEnt, lkh, ho0]; done) | (simp [wkHp, wkHp1, wkEnt, lkh, idLtL, idLt, I, str, ho0]; done) | simp [wkHp, wkHp1, wkEnt, wkL, wk, wkE, lkh, I, str, ho0])) ?_
 rintro j ⟨h0, h3⟩
 have e1 : (16 + 8 * (j : Int)).toNat = 16 + 8 * j := by omega
 have e2 : (20 + 8 * (j : Int)).toNat = 20 + 8 * j := by omega
 have w1 := wrap64 (n := 8 * (j : Int)) (by omega)
 have w2 := wrap64 (n := 16 + 8 * (j : Int)) (by omega)
 have w3 := wrap64 (n := 20 + 8 * (j : Int)) (by omega)
 have h5 := hol j
 have hx := hat j (by omega) h0
 have h6 := hge (j - 1) (by omega)
 have q := get4 _ h6
 by_cases hj : j < k
 · have h4 := hof j (by omega) h0
   generalize ss[j - 1].length = v at *
   refine nx ?_; refine rG hN hk noc [] [0, 1, 6, 7, 10] fun K hK => ?_; simp only [go_sem, seval]
   try simp (disch := omega) only [au]
   refine hK _ _ ?_; clear hK K; refine nx ?_; refine cT ?_; refine nx ?_; refine rG hN hk (onc 9 (pcq q) noc) [] [0, 1, 6, 7] fun K hK => ?_; simp only [go_sem, seval, w1, w2, w3, e1, e2, hx]
   try simp (disch := omega) only [au]
   refine obK (hK _ _ ?_); clear hK K; refine nx ?_; refine rG hN hk noc [] [0, 1, 6, 7] fun K hK => ?_; simp only [go_sem, seval]
   try simp (disch := omega) only [au]
   refine hK _ _ ?_; clear hK K; refine nx ?_
   refine ⟨j + 1, (by first | assumption | omega | (simp; done) | ((repeat' apply And.intro) <;> first | assumption | omega | (simp; done) | (simp; omega))), (by first | omega | (simp; omega)), ⟨[], [], ⟨by simp [srcIds], by simp [srcIds], by simp⟩, by simp, by simp [wkEnv, wk, wkL, wkE, lk, I, str, B, U8, U64, U32, h4] <;> omega, by first | (simp [wkHp, wkHp1, wkEnt, lkh, h4]; done) | (simp [wkHp, wkHp1, wkEnt, lkh, idLtL, idLt, I, str, h4]; done) | simp [wkHp, wkHp1, wkEnt, wkL, wk, wkE, lkh, I, str, h4]⟩⟩
 · have : k = j := by omega
   subst this
   generalize ss[k - 1].length = v at *
   refine nx ?_; refine rG hN hk noc [] [0, 1, 6, 7, 10] fun K hK => ?_; simp only [go_sem, seval]
   try simp (disch := omega) only [au]
   refine hK _ _ ?_; clear hK K; refine nx ?_; refine cF ?_; refine nx ?_; refine rG hN hk (onc 9 (pcq q) noc) [] [4, 5] fun K hK => ?_; simp only [go_sem, seval, w1, w2, w3, e1, e2, hx]
   try simp (disch := omega) only [au]
   refine obK (hK _ _ ?_); clear hK K; refine nx ?_
   refine AW.ret (mkRet [] [] rfl (by simp [resOf, lk, lkh, wk, wkL, wkE, I, str, B, U8, U64, U32] <;> omega) (by first | (simp [wkHp, wkHp1, wkEnt, lkh]; done) | (simp [wkHp, wkHp1, wkEnt, lkh, idLtL, idLt, I, str]; done) | simp [wkHp, wkHp1, wkEnt, wkL, wk, wkE, lkh, I, str]))
theorem get27s (V : SegV bs c a z ss) (k : Nat) (h0 : 1 ≤ k) (h2 : k - 1 < ss.length) : ACall Tryz.prog 37 [.sl 1 (bytesE bs), I k] [] (.sl 1 (bytesE ss[k - 1])) [] := by
 have hl := V.len
 have hT := V.b.total
 have q := place27 V k h0 h2
 have hs := V.sec (k - 1) h2
 have h1 := offF_s ss (k - 1) h2
 have h3 := offF_le ss (k - 1 + 1)
 have hb : 124 + offF ss (k - 1) + ss[k - 1].length ≤ bs.length := by omega
 have hb2 : bs.length ≤ 2 ^ 37 := by omega
 have e1 : (((124 + offF ss (k - 1) : Nat) : Int)).toNat = 124 + offF ss (k - 1) := by omega
 have e2 : (((124 + offF ss (k - 1) : Nat) : Int) + (ss[k - 1].length : Int)).toNat = 124 + offF ss (k - 1) + ss[k - 1].length := by omega
 refine acall 19 0 Tryz.func37 rfl rfl rfl (by simp) rfl rfl ?_
 intro C hN hk
 generalize 124 + offF ss (k - 1) = o at *
 refine nx ?_; refine rG hN hk noc [] [0, 1] fun K hK => ?_; simp only [go_sem, seval]; refine hK _ _ ?_
 clear hK K; refine nx ?_
 refine rG hN hk (onc 2 (pcq q) noc) [] [0, 5, 6] fun K hK => ?_; simp only [go_sem, seval]; refine obK (hK _ _ ?_)
 clear hK K; refine nx ?_
 refine rG hN hk noc [] [4] fun K hK => ?_; simp only [go_sem, seval]
 try simp (disch := omega) only [au, e1, e2, hs]
 (first | with_reducible refine hK _ _ ?_ | refine obK (hK _ _ ?_)); clear hK K; refine nx ?_
 refine AW.ret (mkRet [] [] rfl (by simp [resOf, lk, lkh, wk, wkL, wkE, I, str, B, U8, U64, U32] <;> omega) (by first | (simp [wkHp, wkHp1, wkEnt, lkh]; done) | (simp [wkHp, wkHp1, wkEnt, lkh, idLtL, idLt, I, str]; done) | simp [wkHp, wkHp1, wkEnt, wkL, wk, wkE, lkh, I, str]))
theorem right27 (V : SegV bs c a z ss) (k : Nat) (h0 : 1 ≤ k) (h2 : k - 1 < ss.length) : ACall Tryz.prog 33 [.sl 1 (bytesE bs), I k] [] (B true) [] := by
 have hn := V.b.n
 have hl := V.len
 have hT := V.b.total
 have q := place27 V k h0 h2
 have hs := V.sec (k - 1) h2
 have h1 := offF_s ss (k - 1) h2
 have h3 := offF_le ss (k - 1 + 1)
 have hc := V.crcAt k h2 h0
 have h5 := crcF_lt ss[k - 1]
 have q2 := get4 (crcF ss[k - 1]) h5
 have q3 := crc27 ss[k - 1] (by omega)
 have hb : 124 + offF ss (k - 1) + ss[k - 1].length ≤ bs.length := by omega
 have hb2 : bs.length ≤ 2 ^ 37 := by omega
 have e1 : (((124 + offF ss (k - 1) : Nat) : Int)).toNat = 124 + offF ss (k - 1) := by omega
 have e2 : (((124 + offF ss (k - 1) : Nat) : Int) + (ss[k - 1].length : Int)).toNat = 124 + offF ss (k - 1) + ss[k - 1].length := by omega
 have e3 : (20 + 8 * (k : Int)).toNat = 20 + 8 * k := by omega
 have e4 : (24 + 8 * (k : Int)).toNat = 24 + 8 * k := by omega
 generalize crcF ss[k - 1] = cr at *
 generalize ss[k - 1] = sk at *
 refine acall 31 0 Tryz.func33 rfl rfl rfl (by simp) rfl rfl ?_
 intro C hN hk
 generalize 124 + offF ss (k - 1) = o at *
 refine nx ?_; refine rG hN hk noc [] [0, 1] fun K hK => ?_; simp only [go_sem, seval]; refine hK _ _ ?_
 clear hK K; refine nx ?_
 refine rG hN hk (onc 2 (pcq q) noc) [] [0, 1, 5, 6] fun K hK => ?_; simp only [go_sem, seval]; refine obK (hK _ _ ?_)
 clear hK K; refine nx ?_
 refine rD hN hk (onc 8 (pcq q2) (onc 15 (pcq q3) noc)) [] [4] fun K tok htok hK => ?_
 simp only [go_sem, seval]
 try simp (disch := omega) only [au, e1, e2, e3, e4, hs, hc]
 refine ⟨htok _ (by decide +kernel), ?_⟩
 refine obK (hK _ _ ?_); clear hK K htok tok
 refine nx ?_
 refine AW.ret (mkRet [] [] rfl (by simp [resOf, lk, lkh, wk, wkL, wkE, I, str, B, U8, U64, U32] <;> omega) (by first | (simp [wkHp, wkHp1, wkEnt, lkh]; done) | (simp [wkHp, wkHp1, wkEnt, lkh, idLtL, idLt, I, str]; done) | simp [wkHp, wkHp1, wkEnt, wkL, wk, wkE, lkh, I, str]))
end
section
variable {bs : List UInt8} {c a z : Nat} {ss : List (List UInt8)}
theorem off_end (ss : List (List UInt8)) (h : ss.length = 12) : offF ss 11 + (ss[11]'(by omega)).length = ss.flatten.length := by
 rw [← offF_s ss 11 (by omega)]
 unfold offF
 rw [List.take_of_length_le (by omega)]
theorem isByte_one (l : List UInt8) : ∀ c ∈ bytesE l, isByte c = true := isByte_bytesE l
theorem summary27 (V : SegV bs c a z ss) : ACall Tryz.prog 16 [.sl 1 (bytesE bs)] [] (.tup [.agg [I c, I a, I z], I 0]) [] := by
 have hn := V.b.n
 have hl := V.len
 have hT := V.b.total
 have q1 := place27 V 12 (by omega) (by omega)
 have he := off_end ss hn
 have hm := V.magic
 have hh := V.hcrc
 have h5 := crcF_lt (bs.take 120)
 have q2 := get4 (crcF (bs.take 120)) h5
 have q3 := crc27 (bs.take 120) (by simp; omega)
 have hc := V.count
 have hf := V.first
 have hz := V.last
 have q4 := get4 c V.b.c
 have q5 := get8 a V.b.a
 have q6 := get8 z V.b.z
 have b1 := V.b.c
 have b2 := V.b.a
 have b3 := V.b.z
 clear V
 simp only [show 12 - 1 = 11 from rfl] at q1
 obtain ⟨o, ho⟩ : ∃ o, o = 124 + offF ss 11 := ⟨_, rfl⟩
 obtain ⟨x, hx⟩ : ∃ x, x = (ss[11]'(by omega)).length := ⟨_, rfl⟩
 rw [← ho, ← hx] at q1
 have hsum : ((o : Int) + (x : Int)) = (bs.length : Int) := by omega
 have hw := wrap64 (n := (bs.length : Int)) (by omega)
 obtain ⟨h120, hE⟩ : ∃ h, bs.take 120 = h := ⟨_, rfl⟩
 rw [hE] at hh h5 q2 q3
 generalize crcF h120 = cr at *
 have w1 := wrap64 (n := (c : Int)) (by omega)
 have w2 := wrap64 (n := (a : Int)) (by omega)
 have w3 := wrap64 (n := (z : Int)) (by omega)
 refine acall 49 0 Tryz.func16 rfl rfl rfl (by simp) rfl rfl ?_
 intro C hN hk
 refine nx ?_; refine rG hN hk noc [] [0, 2] fun K hK => ?_; simp only [go_sem, seval]; refine hK _ _ ?_
 clear hK K; refine nx ?_
 refine rG hN hk noc [] [0, 2, 8] fun K hK => ?_; simp only [go_sem, seval]
 try simp (disch := omega) only [au]
 (first | with_reducible refine hK _ _ ?_ | refine obK (hK _ _ ?_)); clear hK K; refine nx ?_
 refine cF ?_; refine nx ?_; refine rG hN hk noc [] [0, 2, 13] fun K hK => ?_; simp only [go_sem, seval, hm, bne_self_eq_false]
 try simp (disch := omega) only [au]
 (first | with_reducible refine hK _ _ ?_ | refine obK (hK _ _ ?_)); clear hK K; refine nx ?_
 refine cF ?_; refine nx ?_
 refine rD hN hk (onc 2 (pcq q2) (onc 5 (pcq q3) noc)) [] [0, 2, 22] fun K tok htok hK => ?_
 simp only [go_sem, seval, hh, hE, bne_self_eq_false]
 try simp (disch := omega) only [au]
 refine ⟨htok _ (by decide +kernel), ?_⟩
 refine obK (hK _ _ ?_); clear hK K htok tok
 refine nx ?_; refine cF ?_; refine nx ?_; refine rG hN hk (onc 1 (pcq q1) noc) [] [0, 2, 4, 5] fun K hK => ?_; simp only [go_sem, seval]; refine obK (hK _ _ ?_)
 clear hK K; refine nx ?_
 refine rG hN hk noc [] [0, 2, 34] fun K hK => ?_; simp only [go_sem, seval, hsum, hw, bne_self_eq_false]
 try simp (disch := omega) only [au]
 (first | with_reducible refine hK _ _ ?_ | refine obK (hK _ _ ?_)); clear hK K; refine nx ?_
 refine cF ?_; refine nx ?_
 refine rD hN hk (onc 2 (pcq q4) (onc 6 (pcq q5) (onc 10 (pcq q6) noc))) [] [2, 3] fun K tok htok hK => ?_
 simp only [go_sem, seval, hc, hf, hz, w1, w2, w3]
 try simp (disch := omega) only [au]
 refine ⟨htok _ (by decide +kernel), ?_⟩
 refine obK (hK _ _ ?_); clear hK K htok tok
 refine nx ?_
 refine AW.ret (mkRet [] [] (by simp only [resList, go_sem, seval]; rfl) (by simp [resOf, lk, lkh, wk, wkL, wkE, I, str, B, U8, U64, U32] <;> omega) (by first | (simp [wkHp, wkHp1, wkEnt, lkh]; done) | (simp [wkHp, wkHp1, wkEnt, lkh, idLtL, idLt, I, str]; done) | simp [wkHp, wkHp1, wkEnt, wkL, wk, wkE, lkh, I, str]))
theorem damaged27 (V : SegV bs c a z ss) : ACall Tryz.prog 15 [.sl 1 (bytesE bs)] [] (.tup [.val (.slice none 0 0), I 0]) [] := by
 have q0 := summary27 V
 have hn := V.b.n
 refine acall 29 0 Tryz.func15 rfl rfl rfl (by simp) rfl rfl ?_
 intro C hN hk
 refine nx ?_; refine rG hN hk noc [] [0] fun K hK => ?_; simp only [go_sem, seval]; refine hK _ _ ?_
 clear hK K; refine nx ?_
 refine rG hN hk (onc 1 (pcq q0) noc) [] [0, 5] fun K hK => ?_; simp only [go_sem, seval]; refine obK (hK _ _ ?_)
 clear hK K; refine nx ?_
 refine rG hN hk noc [] [0, 5, 14] fun K hK => ?_; simp only [go_sem, seval, bne_self_eq_false]
 try simp (disch := omega) only [au]
 refine hK _ _ ?_; clear hK K; refine nx ?_; refine cF ?_; refine nx ?_; refine rG hN hk noc [] [0, 6] fun K hK => ?_; simp only [go_sem, seval]; refine hK _ _ ?_
 clear hK K; refine nx ?_
 refine rG hN hk noc [] [0, 6, 7] fun K hK => ?_; simp only [go_sem, seval]; refine hK _ _ ?_
 clear hK K; refine nx ?_
 refine lpF hk 0 (fun j : Nat => ⟨[(0, .sl 1 (bytesE bs)), (6, .val (.slice none 0 0)), (7, I j)], []⟩) (fun j => 1 ≤ j ∧ j ≤ 13) (fun j => 13 - j) 1 (mkWk [] [] (by simp [wkEnv, wk, wkL, wkE, lk, I, str, B, U8, U64, U32] <;> omega) (by first | (simp [wkHp, wkHp1, wkEnt, lkh]; done) | (simp [wkHp, wkHp1, wkEnt, lkh, idLtL, idLt, I, str]; done) | simp [wkHp, wkHp1, wkEnt, wkL, wk, wkE, lkh, I, str])) ?_
 rintro j ⟨h0, h1⟩
 by_cases hj : j ≤ 12
 · have q := right27 V j h0 (by omega)
   refine nx ?_; refine rG hN hk noc [] [0, 6, 7, 17] fun K hK => ?_; simp only [go_sem, seval]
   try simp (disch := omega) only [au]
   refine hK _ _ ?_; clear hK K; refine nx ?_; refine cT ?_; refine nx ?_; refine rG hN hk (onc 2 (pcq q) noc) [] [0, 6, 7, 23] fun K hK => ?_; simp only [go_sem, seval]; refine obK (hK _ _ ?_)
   clear hK K; refine nx ?_
   refine cF ?_; refine nx ?_; refine rG hN hk noc [] [0, 6, 7] fun K hK => ?_; simp only [go_sem, seval]
   try simp (disch := omega) only [au]
   refine hK _ _ ?_; clear hK K; refine nx ?_
   refine ⟨j + 1, (by first | assumption | omega | (simp; done) | ((repeat' apply And.intro) <;> first | assumption | omega | (simp; done) | (simp; omega))), (by first | omega | (simp; omega)), ⟨[], [], ⟨by simp [srcIds], by simp [srcIds], by simp⟩, by simp, by simp [wkEnv, wk, wkL, wkE, lk, I, str, B, U8, U64, U32] <;> omega, by first | (simp [wkHp, wkHp1, wkEnt, lkh]; done) | (simp [wkHp, wkHp1, wkEnt, lkh, idLtL, idLt, I, str]; done) | simp [wkHp, wkHp1, wkEnt, wkL, wk, wkE, lkh, I, str]⟩⟩
 · refine nx ?_
   refine rG hN hk noc [] [0, 6, 7, 17] fun K hK => ?_; simp only [go_sem, seval]
   try simp (disch := omega) only [au]
   refine hK _ _ ?_; clear hK K; refine nx ?_; refine cF ?_; refine nx ?_; refine rG hN hk noc [] [2, 3] fun K hK => ?_; simp only [go_sem, seval]; refine hK _ _ ?_
   clear hK K; refine nx ?_
   refine AW.ret (mkRet [] [] rfl (by simp [resOf, lk, lkh, wk, wkL, wkE, I, str, B, U8, U64, U32] <;> omega) (by first | (simp [wkHp, wkHp1, wkEnt, lkh]; done) | (simp [wkHp, wkHp1, wkEnt, lkh, idLtL, idLt, I, str]; done) | simp [wkHp, wkHp1, wkEnt, wkL, wk, wkE, lkh, I, str]))
end
theorem getBlock (s : List UInt8) (o : Nat) (x : List UInt8) (hs : ∃ A R, s = A ++ blockF x ++ R ∧ A.length = o) (hl : s.length ≤ 2 ^ 40) :
   ACall Tryz.prog 63 [.sl 1 (bytesE s), I o] [] (.tup [.sl 1 (bytesE x), I (o + (blockF x).length : Nat), B true]) [] := by
 obtain ⟨A, R, hs, hA⟩ := hs
 have hv : getVarF s o = some ((x.length : Int), o + (varint x.length).length) := by
   have hxl : x.length < 2 ^ 64 := by rw [hs] at hl; simp [blockF] at hl; omega
   have := getVar_varint A (x ++ R) x.length hxl
   rw [← hA, ← this, hs]; simp [blockF]
 have hlen : s.length = o + (varint x.length).length + x.length + R.length := by rw [hs]; simp [blockF, hA]; omega
 have q := getVarint1 s o hl (by omega)
 rw [hv] at q
 simp only [getRes] at q
 have hbl : (blockF x).length = (varint x.length).length + x.length := by simp [blockF]
 have hmid : (s.take (o + (varint x.length).length + x.length)).drop (o + (varint x.length).length) = x := by
   refine mid_eq (A := A ++ varint x.length) (R := R) ?_ ?_ ?_
   · rw [hs]; simp [blockF]
   · simp [hA]
   · simp [hA]
 rw [hbl]
 clear hbl hv hs hA
 rw [← Nat.add_assoc]
 generalize o + (varint x.length).length = o1 at *
 have w1 := wrap64 (n := (x.length : Int)) (by omega)
 have w2 := wrap64 (n := (o1 : Int) + (x.length : Int)) (by omega)
 have w3 := wrap64 (n := (s.length : Int) - (o1 : Int)) (by omega)
 have w4 := wrapU64 (n := (s.length : Int) - (o1 : Int)) (by omega)
 have e1 : ((o1 : Int) + (x.length : Int)).toNat = o1 + x.length := by omega
 have d1 := dGtF (a := (x.length : Int)) (b := (s.length : Int) - (o1 : Int)) (by omega)
 refine acall 38 0 Tryz.func63 rfl rfl rfl (by simp) rfl rfl ?_
 intro C hN hk
 refine nx ?_; refine rG hN hk noc [] [0, 1] fun K hK => ?_; simp only [go_sem, seval]; refine hK _ _ ?_
 clear hK K; refine nx ?_
 refine rG hN hk (onc 2 (pcq q) noc) [] [0, 1, 7, 8] fun K hK => ?_; simp only [go_sem, seval]; refine obK (hK _ _ ?_)
 clear hK K; refine nx ?_
 refine rG hN hk noc [] [0, 1, 7, 26] fun K hK => ?_; simp only [go_sem, seval, w3, w4, d1]
 try simp (disch := omega) only [au]
 try simp only [go_sem, seval, w3, w4, d1]
 (first | with_reducible refine hK _ _ ?_ | refine obK (hK _ _ ?_)); clear hK K; refine nx ?_
 refine cF ?_; refine nx ?_; refine rG hN hk noc [] [4, 5, 6] fun K hK => ?_; simp only [go_sem, seval, w1, w2, e1, hmid]
 try simp (disch := omega) only [au]
 (first | with_reducible refine hK _ _ ?_ | refine obK (hK _ _ ?_)); clear hK K; refine nx ?_
 refine AW.ret (mkRet [] [] rfl (by simp [resOf, lk, lkh, wk, wkL, wkE, I, str, B, U8, U64, U32] <;> omega) (by first | (simp [wkHp, wkHp1, wkEnt, lkh]; done) | (simp [wkHp, wkHp1, wkEnt, lkh, idLtL, idLt, I, str]; done) | simp [wkHp, wkHp1, wkEnt, wkL, wk, wkE, lkh, I, str]))
theorem ixTo_get (ts : List S) (i : Nat) (h : i < ts.length) : ∃ k : Nat, (ixTo ts ts.length)[i]? = some (k : Int) ∧ (distF ts)[k]? = some ts[i] ∧ k < (distF ts).length := by
 have h1 := idxF_get (distF ts) ts[i] (distF_sorted ts) ((distF_mem _ _).2 (List.getElem_mem h))
 exact ⟨idxF (distF ts) ts[i], by simp [ixTo, h], h1.1, h1.2⟩
theorem texts27 (s : List UInt8) (o : Nat) (ts : List S) (hl : ts.length ≤ 4096) (hsh : ∀ t ∈ ts, t.length ≤ 2048) (hs : ∃ A R, s = A ++ ixF ts ++ R ∧ A.length = o) (hsl : s.length ≤ 2 ^ 40) :
   ACall Tryz.prog 38 [.sl 1 (bytesE s), I o] [] (.tup [.osl 0 ts.length 1, I (o + (ixF ts).length : Nat), B true]) [some ⟨9, 1, strE ts⟩] := by
 obtain ⟨A, R, hs, hA⟩ := hs
 have hc := check23_dist ts (by omega) hsh
 have q1 := getBlock s o (enc23F (distF ts)) ⟨A, blockF (enc24 (ixTo ts ts.length)) ++ R, by rw [hs]; simp [ixF], hA⟩ hsl
 have q2 := getBlock s (o + (blockF (enc23F (distF ts))).length) (enc24 (ixTo ts ts.length)) ⟨A ++ blockF (enc23F (distF ts)), R, by rw [hs]; simp [ixF], by simp [hA]⟩ hsl
 have q3 := decode23 (distF ts) hc
 have hil : (ixTo ts ts.length).length = ts.length := by simp [ixTo]
 have hig := ixTo_get ts
 have q4 := decode24 (ixTo ts ts.length) (bestTo (ixTo ts ts.length) 3) (bestTo_le _ 3) (by omega) (by
   intro x hx
   obtain ⟨i, hi, rfl⟩ := List.getElem_of_mem hx
   obtain ⟨k, h1, h2, h3⟩ := hig i (by omega)
   rw [List.getElem?_eq_getElem hi] at h1
   have h1 : (ixTo ts ts.length)[i] = (k : Int) := by simpa using h1
   have := (longS_of _ hc).2
   rw [h1]; unfold In64; omega)
 have hlx : (ixF ts).length = (blockF (enc23F (distF ts))).length + (blockF (enc24 (ixTo ts ts.length))).length := by simp [ixF]
 have e0 : o + (ixF ts).length = o + (blockF (enc23F (distF ts))).length + (blockF (enc24 (ixTo ts ts.length))).length := by rw [hlx]; omega
 have hle : o + (ixF ts).length ≤ s.length := by rw [hs]; simp [hA]
 have hdl := (longS_of _ hc).2
 rw [e0]
 unfold enc24 at *
 clear hs hA hsh hc
 generalize encAs (ixTo ts ts.length) (bestTo (ixTo ts ts.length) 3) = x1 at *
 generalize enc23F (distF ts) = x2 at *
 generalize o + (blockF x2).length = o2 at *
 generalize o2 + (blockF x1).length = o3 at *
 generalize ixTo ts ts.length = ix at *
 generalize distF ts = d at *
 refine acall 82 0 Tryz.func38 rfl rfl rfl (by simp) rfl rfl ?_
 intro C hN hk
 refine nx ?_; refine rG hN hk noc [] [0, 1] fun K hK => ?_; simp only [go_sem, seval]; refine hK _ _ ?_
 clear hK K; refine nx ?_
 refine rG hN hk (onc 2 (pcq q1) noc) [] [0, 1, 7, 8] fun K hK => ?_; simp only [go_sem, seval, bne_self_eq_false]; refine obK (hK _ _ ?_)
 clear hK K; refine nx ?_
 refine rG hN hk noc [] [0, 1, 7, 24] fun K hK => ?_; simp only [go_sem, seval, bne_self_eq_false]
 (first | with_reducible refine hK _ _ ?_ | refine obK (hK _ _ ?_)); clear hK K; refine nx ?_
 refine cF ?_; refine nx ?_; refine rG hN hk (onc 2 (pcq q2) noc) [] [1, 7, 8, 9] fun K hK => ?_; simp only [go_sem, seval, bne_self_eq_false]; refine obK (hK _ _ ?_)
 clear hK K; refine nx ?_
 refine rG hN hk noc [] [1, 7, 9, 33] fun K hK => ?_; simp only [go_sem, seval, bne_self_eq_false]
 (first | with_reducible refine hK _ _ ?_ | refine obK (hK _ _ ?_)); clear hK K; refine nx ?_
 refine cF ?_; refine nx ?_; refine rG hN hk (onc 1 (pcq q3) noc) [] [1, 9, 10, 11] fun K hK => ?_; simp only [go_sem, seval, bne_self_eq_false]; refine obK (hK _ _ ?_)
 clear hK K; refine nx ?_
 refine rG hN hk (onc 1 (pcq q4) noc) [] [1, 10, 11, 12, 13] fun K hK => ?_; simp only [go_sem, seval, bne_self_eq_false]; refine obK (hK _ _ ?_)
 clear hK K; refine nx ?_
 refine rG hN hk noc [] [1, 10, 12, 49] fun K hK => ?_; simp only [go_sem, seval, bne_self_eq_false]
 try simp (disch := omega) only [au]
 try simp only [go_sem, seval, bne_self_eq_false]
 refine hK _ _ ?_; clear hK K; refine nx ?_; refine cF ?_; refine nx ?_; refine rG hN hk noc [] [1, 10, 12, 14] fun K hK => ?_; simp only [go_sem, seval, bne_self_eq_false]; refine hK _ _ ?_
 clear hK K; refine nx ?_
 refine rG hN hk noc [] [1, 10, 12, 14, 15] fun K hK => ?_; simp only [go_sem, seval, bne_self_eq_false]; refine hK _ _ ?_
 clear hK K; refine nx ?_
 clear q1 q2 q3 q4
 refine nx ?_
 refine lpF hk 3 (fun i : Nat => ⟨[(1, I o3), (10, .osl 0 d.length 1), (12, .osl 1 ix.length 1), (14, .osl 2 (ts.take i).length 1), (15, I i)], [(0, some ⟨9, 1, strE d⟩), (1, some ⟨3, 1, intE ix⟩), (2, some ⟨9, 1, strE (ts.take i)⟩)]⟩) (fun i => i ≤ ts.length) (fun i => ts.length - i) 0 (mkWk [some 0, some 1, none] [] (by simp [wkEnv, wk, wkL, wkE, lk, I, str, B, U8, U64, U32] <;> omega) (by first | (simp [wkHp, wkHp1, wkEnt, lkh]; done) | (simp [wkHp, wkHp1, wkEnt, lkh, idLtL, idLt, I, str]; done) | simp [wkHp, wkHp1, wkEnt, wkL, wk, wkE, lkh, I, str])) ?_
 intro i h1
 by_cases hi : i < ts.length
 · obtain ⟨k, g1, g2, g3⟩ := hig i hi
   have hs : ts.take (i + 1) = ts.take i ++ [ts[i]] := by simp [List.take_append_getElem]
   have hli : (ts.take i).length ≤ i := by simp; omega
   generalize ts[i] = t at *
   generalize ts.take i = o4 at *
   have d1 := dLtF (a := (k : Int)) (b := 0) (by omega)
   have d2 := dGeF (a := (k : Int)) (b := (d.length : Int)) (by omega)
   refine nx ?_; refine rG hN hk noc [] [1, 10, 12, 14, 15, 53] fun K hK => ?_; simp only [go_sem, seval]
   try simp (disch := omega) only [au]
   (first | with_reducible refine hK _ _ ?_ | refine obK (hK _ _ ?_)); clear hK K; refine nx ?_
   refine cT ?_; refine nx ?_; refine rG hN hk noc [] [1, 10, 12, 14, 15, 69] fun K hK => ?_; simp only [go_sem, seval, g1, d1, d2]
   try simp (disch := omega) only [au]
   try simp only [go_sem, seval, g1, d1, d2]
   (first | with_reducible refine hK _ _ ?_ | refine obK (hK _ _ ?_)); clear hK K; refine nx ?_
   refine cF ?_; refine nx ?_; refine rG hN hk noc [] [1, 10, 12, 14, 15] fun K hK => ?_; simp only [go_sem, seval, g1, g2]
   (first | with_reducible refine hK _ _ ?_ | refine obK (hK _ _ ?_)); clear hK K; refine nx ?_
   refine rG hN hk noc [] [1, 10, 12, 14, 15] fun K hK => ?_; simp only [go_sem, seval]
   try simp (disch := omega) only [au]
   refine hK _ _ ?_; clear hK K; refine nx ?_
   refine ⟨i + 1, (by first | assumption | omega | (simp; done) | ((repeat' apply And.intro) <;> first | assumption | omega | (simp; done) | (simp; omega))), (by first | omega | (simp; omega)), ⟨[some 0, some 1, some 2], [], ⟨by simp [srcIds], by simp [srcIds], by simp⟩, by simp, by simp [wkEnv, wk, wkL, wkE, lk, I, str, B, U8, U64, U32, hs] <;> omega, by first | (simp [wkHp, wkHp1, wkEnt, lkh, hs]; done) | (simp [wkHp, wkHp1, wkEnt, lkh, idLtL, idLt, I, str, hs]; done) | simp [wkHp, wkHp1, wkEnt, wkL, wk, wkE, lkh, I, str, hs]⟩⟩
 · have : i = ts.length := by omega
   subst this
   rw [List.take_length]
   refine nx ?_; refine rG hN hk noc [] [1, 10, 12, 14, 15, 53] fun K hK => ?_; simp only [go_sem, seval]
   try simp (disch := omega) only [au]
   (first | with_reducible refine hK _ _ ?_ | refine obK (hK _ _ ?_)); clear hK K; refine nx ?_
   refine cF ?_; refine nx ?_; refine rG hN hk noc [] [4, 5, 6] fun K hK => ?_; simp only [go_sem, seval]; refine hK _ _ ?_
   clear hK K; refine nx ?_
   refine AW.ret (mkRet [some 0] [] rfl (by simp [resOf, lk, lkh, wk, wkL, wkE, I, str, B, U8, U64, U32] <;> omega) (by first | (simp [wkHp, wkHp1, wkEnt, lkh]; done) | (simp [wkHp, wkHp1, wkEnt, lkh, idLtL, idLt, I, str]; done) | simp [wkHp, wkHp1, wkEnt, wkL, wk, wkE, lkh, I, str]))
end Go.Proofs.YtceeklfmlheofaaGreat
