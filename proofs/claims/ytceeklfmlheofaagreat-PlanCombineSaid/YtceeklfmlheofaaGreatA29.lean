/-
  Part 29 of the proof that logtidelaw41.PlanCombine returns true for every list of bytes and leaves its argument as it was; no condition.
-/
import Derived.Test.YtceeklfmlheofaaGreatA28
set_option linter.unusedSimpArgs false
set_option linter.unusedVariables false
namespace Go.Proofs.YtceeklfmlheofaaGreat
open Go.Av
attribute [local irreducible] ACall
theorem flEs_plain (X : List (List Fl)) : ∀ L ∈ X.map flE, idLtE 0 L = true := by
 intro L hL
 obtain ⟨v, _, rfl⟩ := List.mem_map.1 hL
 simp
theorem ofZ_big (n : S) (X : List (List Fl)) (b : Nat) (hX : ∀ p, (X.getD p []).length ≤ b) : ∀ (z : List (Int × S)) p, ((ofZ n X z).getD p []).length ≤ b + z.length := by
 intro z
 induction z generalizing X b with
 | nil => intro p; simpa [ofZ] using hX p
 | cons q z ih =>
   intro p
   have := ih (addFl X q.1.toNat ⟨n, q.2⟩) (b + 1) (by
     intro r
     by_cases hr : q.1.toNat = r
     · subst hr
       by_cases hl : q.1.toNat < X.length
       · rw [addFl_at _ _ _ hl, List.length_append]; have := hX q.1.toNat; simp only [List.length_singleton]; omega
       · have : (addFl X q.1.toNat ⟨n, q.2⟩).getD q.1.toNat [] = [] := by simp [List.getD, List.getElem?_eq_none (show (addFl X q.1.toNat ⟨n, q.2⟩).length ≤ q.1.toNat by rw [addFl_len]; omega)]
         rw [this]; simp
     · rw [addFl_ne _ _ _ _ hr]; have := hX r; omega) p
   simp only [ofZ, List.foldl_cons, List.length_cons] at this ⊢; omega
theorem fdAt_big (l : List Ev) (d : List S) (i : Nat) (p : Nat) : ((fdAt l d i).getD p []).length ≤ i := by
 unfold fdAt
 by_cases hp : p < l.length
 · have h1 := List.length_filterMap_le (getF l[p].fields) (d.take i)
   simp only [List.getD, List.getElem?_map, List.getElem?_eq_getElem hp, Option.map_some, Option.getD_some]
   simp at h1; omega
 · simp [List.getD, List.getElem?_eq_none (Nat.le_of_not_lt hp)]
theorem fdTo_split (l : List Ev) (d : List S) (i : Nat) (h : i < d.length) : ∃ R, fdTo l d d.length = fdTo l d i ++ (blockF (enc25 (vlTo l d[i] l.length).1) ++ ixF (vlTo l d[i] l.length).2) ++ R := by
 refine ⟨(d.drop (i + 1)).flatMap (fdP l), ?_⟩
 have e : d = d.take i ++ d[i] :: d.drop (i + 1) := by simp
 have e2 : d.flatMap (fdP l) = (d.take i).flatMap (fdP l) ++ ((blockF (enc25 (vlTo l d[i] l.length).1) ++ ixF (vlTo l d[i] l.length).2) ++ (d.drop (i + 1)).flatMap (fdP l)) := by
   conv => lhs; rw [e]
   rw [List.flatMap_append, List.flatMap_cons]
   rfl
 unfold fdTo
 rw [List.take_length, e2]
 simp only [List.append_assoc]
theorem readFields27 (l : List Ev) (s : List UInt8) (hs : s = fieldsF l) (h : SegG l) :
   ACall Tryz.prog 40 [.sl 1 (bytesE s), I l.length] [] (.tup [.osl 0 l.length 1, B true]) [some ⟨46, 1, ffE (l.map Ev.fields)⟩] := by
 have H := h.ok
 have hl := h.len
 have hall := fdAt_all l (fun e he => (h.ev e he).fs)
 have hc : check23F (allNames l) = 0 := check23_dist2 _ (by have := h.names; unfold allNames at this; omega) (nmTo_short l H.ev _)
 have hdl := h.names
 have hsl : s.length ≤ 2 ^ 36 := by
   have := fdTo_len l (allNames l) H.len H.ev hc (allNames l).length (Nat.le_refl _)
   have h100 : (allNames l).length * (2 ^ 24 + 100011) ≤ 100 * (2 ^ 24 + 100011) := Nat.mul_le_mul_right _ hdl
   rw [hs]; unfold fieldsF; omega
 have hs0 : s = fdTo l (allNames l) (allNames l).length := hs
 have hspl := fdTo_split l (allNames l)
 have hfs := fdTo_s l (allNames l)
 have q1 := getBlock s 0 (enc23F (allNames l)) ⟨[], (allNames l).flatMap (fdP l), by rw [hs0]; unfold fdTo; rw [List.take_length]; simp, rfl⟩ (by omega)
 have q2 := decode23 (allNames l) hc
 have ho0 : 0 + (blockF (enc23F (allNames l))).length = (fdTo l (allNames l) 0).length := by simp [fdTo]
 rw [ho0] at q1
 rw [← hs0] at hspl
 have hx0 := fdAt_0 l (allNames l)
 have hxs := fdAt_s l (allNames l)
 have hxb := fdAt_big l (allNames l)
 have hxl0 := fdAt_len l (allNames l)
 rw [← hall]
 clear hall hs0 ho0
 generalize fdTo l (allNames l) = fd at *
 generalize enc23F (allNames l) = en at *
 generalize fdAt l (allNames l) = fa at *
 generalize allNames l = d at *
 clear hs
 refine acall 117 0 Tryz.func40 rfl rfl rfl (by simp) rfl rfl ?_
 intro C hN hk
 refine nx ?_; refine rG hN hk noc [] [0, 1] fun K hK => ?_; simp only [go_sem, seval]; refine hK _ _ ?_
 clear hK K; refine nx ?_
 refine rG hN hk (onc 1 (pcq q1) noc) [] [0, 1, 6, 7, 8] fun K hK => ?_; simp only [go_sem, seval]; refine obK (hK _ _ ?_)
 clear hK K; refine nx ?_
 refine rG hN hk (onc 1 (pcq q2) noc) [] [0, 1, 7, 8, 9, 10] fun K hK => ?_; simp only [go_sem, seval]; refine obK (hK _ _ ?_)
 clear hK K; refine nx ?_
 refine rG hN hk noc [] [0, 1, 7, 9, 36] fun K hK => ?_; simp only [go_sem, seval, bne_self_eq_false]
 try simp (disch := omega) only [au]
 try simp only [go_sem, seval, bne_self_eq_false]
 (first | with_reducible refine hK _ _ ?_ | refine obK (hK _ _ ?_)); clear hK K; refine nx ?_
 refine cF ?_; refine nx ?_; refine rG hN hk noc [] [0, 1, 7, 9, 11] fun K hK => ?_; simp only [go_sem, seval]
 (first | with_reducible refine hK _ _ ?_ | refine obK (hK _ _ ?_)); clear hK K; refine nx ?_
 refine rG hN hk noc [] [0, 1, 7, 9, 11, 12] fun K hK => ?_; simp only [go_sem, seval]; refine hK _ _ ?_
 clear hK K; refine nx ?_
 clear q1 q2
 have FC : ∀ env : List (Nat × AV), envLt 2 env = true → FamC 1 env [(0, some ⟨9, 1, strE d⟩)] := fun env he => ⟨rfl, by simp [entsLt], he⟩
 refine AW.famNew (o := 1) (sz := 2) (ty := 131) (oty := 46) (m := l.length) (hp := [(0, some ⟨9, 1, strE d⟩)]) hk (by omega) (FC _ rfl) ?_
 refine AW.loopS (k := 0) (fun i : Nat => SO [(0, .sl 1 (bytesE s)), (1, I l.length), (7, I (fd i).length), (9, .osl 0 d.length 1), (11, .osl 1 l.length 1), (12, I i)] [(0, some ⟨9, 1, strE d⟩)] 1 2 131 46 ((fa i).map flE)) (fun i => i ≤ d.length) (fun i => d.length - i) 0 (by omega) (by simp [hx0, I]) ?_
 intro i h1
 have hpl := flEs_plain (fa i)
 have hxl := hxl0 i
 have hm : 1 + 1 + l.length = 1 + 1 + ((fa i).map flE).length := by simp [hxl]
 have hno : ((fa i).map flE)[l.length]? = none := by simp [hxl]
 by_cases hi : i < d.length
 · have hx := List.getElem?_eq_getElem hi
   obtain ⟨R, hR⟩ := hspl i hi
   have hvp := vlTo_post l d[i] H.len
   have hvl := vlTo_len l d[i] l.length
   have hvs := vlTo_short l d[i] H.ev l.length
   have hve := vlTo_eq l d[i] l.length
   have hvlt := vlTo_lt l d[i] l.length
   have hfi := hfs i hi
   have q3 := getBlock s (fd i).length (enc25 (vlTo l d[i] l.length).1) ⟨fd i, ixF (vlTo l d[i] l.length).2 ++ R, by rw [hR]; simp, rfl⟩ (by omega)
   have q4 := decode25 (vlTo l d[i] l.length).1 hvp
   have q5 := texts27 s ((fd i).length + (blockF (enc25 (vlTo l d[i] l.length).1)).length) (vlTo l d[i] l.length).2 (by omega) hvs ⟨fd i ++ blockF (enc25 (vlTo l d[i] l.length).1), R, by rw [hR]; simp, by simp⟩ (by omega)
   have hon : (fd i).length + (blockF (enc25 (vlTo l d[i] l.length).1)).length + (ixF (vlTo l d[i] l.length).2).length = (fd (i + 1)).length := by
     rw [hfi]; simp [fdP]; omega
   rw [hon] at q5
   have hfa := hxs i hi
   unfold vlZ at hfa
   have hbig := hxb i
   generalize vlTo l d[i] l.length = z at *
   obtain ⟨ids, vals⟩ := z
   simp only at hvp hvl hvs hve hvlt q3 q4 q5 hfa
   generalize enc25 ids = e1 at *
   generalize blockF e1 = e2 at *
   generalize (fd i).length + e2.length = o1 at *
   obtain ⟨o2, ho2⟩ : ∃ o2, (fd (i + 1)).length = o2 := ⟨_, rfl⟩
   rw [ho2] at q5
   clear hon hfi
   generalize (fd i).length = o0 at *
   generalize d[i] = n at *
   generalize fa i = X at *
   have d1 : ((vals.length : Int) != (ids.length : Int)) = false := by simp; omega
   refine nx ?_
   rw [hm]
   refine AW.famE hN hk (l.length) (.normal) [(0, .sl 1 (bytesE s)), (1, I l.length), (7, I o0), (9, .osl 0 d.length 1), (11, .osl 1 l.length 1), (12, I i), (42, B true)] [(0, some ⟨9, 1, strE d⟩)] 1 (none) (by omega) (FC _ rfl) hpl (by omega) (FC _ rfl) (by simp) (by first | (simp; done) | (simp [hxl]; done) | (simp [hxl]; omega)) ?_ ?_
   · intro C vs hN hk hvl
     rw [hno]
     simp only [Go.Av.ST, tcell, Option.map_none, List.cons_append, List.nil_append, Nat.reduceAdd]
     refine nx ?_
     refine AW.rcK mixed hN hk (noc) [0, 1, 2] [0, 1, 7, 9, 11, 12, 42] 3 (by omega) rfl (by decide +kernel) (fun K hK => ?_)
     simp only [go_sem, seval]
     try simp (disch := omega) only [au]
     (first | with_reducible refine hK _ _ ?_ | refine obK (hK _ _ ?_)); clear hK K; refine nx ?_
     refine ⟨rfl, [some 0, some 1], [], ⟨by simp [srcIds], by simp [srcIds], by simp⟩, by simp, by simp [wkEnv, lk, lkh, I, str, B, U8, U64, U32] <;> omega, by first | (simp [wkHp, wkHp1, wkEnt, lkh]; done) | (simp [wkHp, wkHp1, wkEnt, lkh, I, str]; done) | simp [wkHp, wkHp1, wkEnt, lkh, I, str]⟩
   rw [← hm]
   refine qNext ?_
   refine AW.condT rfl (AW.skip (qNext ?_))
   simp only [famPut]
   refine nx ?_
   rw [hm]
   refine AW.famE hN hk (l.length) (.normal) [(0, .sl 1 (bytesE s)), (1, I l.length), (9, .osl 0 d.length 1), (11, .osl 1 l.length 1), (12, I i), (13, .sl 1 (bytesE e1)), (14, I o1), (15, B true)] [(0, some ⟨9, 1, strE d⟩)] 1 (none) (by omega) (FC _ rfl) hpl (by omega) (FC _ rfl) (by simp) (by first | (simp; done) | (simp [hxl]; done) | (simp [hxl]; omega)) ?_ ?_
   · intro C vs hN hk hvl
     rw [hno]
     simp only [Go.Av.ST, tcell, Option.map_none, List.cons_append, List.nil_append, Nat.reduceAdd]
     refine nx ?_
     refine AW.rcK mixed hN hk (onc 2 (pcq q3) noc) [0, 1, 2] [0, 1, 9, 11, 12, 13, 14, 15] 3 (by omega) rfl (by decide +kernel) (fun K hK => ?_)
     simp only [go_sem, seval]; refine obK (hK _ _ ?_)
     clear hK K; refine nx ?_
     refine ⟨rfl, [some 0, some 1], [], ⟨by simp [srcIds], by simp [srcIds], by simp⟩, by simp, by simp [wkEnv, lk, lkh, I, str, B, U8, U64, U32] <;> omega, by first | (simp [wkHp, wkHp1, wkEnt, lkh]; done) | (simp [wkHp, wkHp1, wkEnt, lkh, I, str]; done) | simp [wkHp, wkHp1, wkEnt, lkh, I, str]⟩
   rw [← hm]
   refine qNext ?_
   simp only [famPut]
   refine nx ?_
   rw [hm]
   refine AW.famE hN hk (l.length) (.normal) [(0, .sl 1 (bytesE s)), (1, I l.length), (9, .osl 0 d.length 1), (11, .osl 1 l.length 1), (12, I i), (13, .sl 1 (bytesE e1)), (14, I o1), (53, B false)] [(0, some ⟨9, 1, strE d⟩)] 1 (none) (by omega) (FC _ rfl) hpl (by omega) (FC _ rfl) (by simp) (by first | (simp; done) | (simp [hxl]; done) | (simp [hxl]; omega)) ?_ ?_
   · intro C vs hN hk hvl
     rw [hno]
     simp only [Go.Av.ST, tcell, Option.map_none, List.cons_append, List.nil_append, Nat.reduceAdd]
     refine nx ?_
     refine AW.rcK mixed hN hk (noc) [0, 1, 2] [0, 1, 9, 11, 12, 13, 14, 53] 3 (by omega) rfl (by decide +kernel) (fun K hK => ?_)
     simp only [go_sem, seval]
     (first | with_reducible refine hK _ _ ?_ | refine obK (hK _ _ ?_)); clear hK K; refine nx ?_
     refine ⟨rfl, [some 0, some 1], [], ⟨by simp [srcIds], by simp [srcIds], by simp⟩, by simp, by simp [wkEnv, lk, lkh, I, str, B, U8, U64, U32] <;> omega, by first | (simp [wkHp, wkHp1, wkEnt, lkh]; done) | (simp [wkHp, wkHp1, wkEnt, lkh, I, str]; done) | simp [wkHp, wkHp1, wkEnt, lkh, I, str]⟩
   rw [← hm]
   refine qNext ?_
   refine AW.condF rfl (AW.skip (qNext ?_))
   simp only [famPut]
   refine nx ?_
   rw [hm]
   refine AW.famE hN hk (l.length) (.normal) [(0, .sl 1 (bytesE s)), (1, I l.length), (9, .osl 0 d.length 1), (11, .osl 1 l.length 1), (12, I i), (14, I o1), (16, .sl 1 (intE ids)), (17, I 0)] [(0, some ⟨9, 1, strE d⟩)] 1 (none) (by omega) (FC _ rfl) hpl (by omega) (FC _ rfl) (by simp) (by first | (simp; done) | (simp [hxl]; done) | (simp [hxl]; omega)) ?_ ?_
   · intro C vs hN hk hvl
     rw [hno]
     simp only [Go.Av.ST, tcell, Option.map_none, List.cons_append, List.nil_append, Nat.reduceAdd]
     refine nx ?_
     refine AW.rcK mixed hN hk (onc 1 (pcq q4) noc) [0, 1, 2] [0, 1, 9, 11, 12, 14, 16, 17] 3 (by omega) rfl (by decide +kernel) (fun K hK => ?_)
     simp only [go_sem, seval]; refine obK (hK _ _ ?_)
     clear hK K; refine nx ?_
     refine ⟨rfl, [some 0, some 1], [3], ⟨by simp [srcIds], by simp [srcIds], by simp⟩, by simp, by simp [wkEnv, lk, lkh, I, str, B, U8, U64, U32] <;> omega, by first | (simp [wkHp, wkHp1, wkEnt, lkh]; done) | (simp [wkHp, wkHp1, wkEnt, lkh, I, str]; done) | simp [wkHp, wkHp1, wkEnt, lkh, I, str]⟩
   rw [← hm]
   refine qNext ?_
   simp only [famPut]
   refine nx ?_
   rw [hm]
   refine AW.famE hN hk (l.length) (.normal) [(0, .sl 1 (bytesE s)), (1, I l.length), (9, .osl 0 d.length 1), (11, .osl 1 l.length 1), (12, I i), (14, I o2), (15, B true), (16, .sl 1 (intE ids)), (17, I 0), (18, .sl 1 (strE vals))] [(0, some ⟨9, 1, strE d⟩)] 1 (none) (by omega) (FC _ rfl) hpl (by omega) (FC _ rfl) (by simp) (by first | (simp; done) | (simp [hxl]; done) | (simp [hxl]; omega)) ?_ ?_
   · intro C vs hN hk hvl
     rw [hno]
     simp only [Go.Av.ST, tcell, Option.map_none, List.cons_append, List.nil_append, Nat.reduceAdd]
     refine nx ?_
     refine AW.rcK mixed hN hk (onc 2 (pcq q5) noc) [0, 1, 2] [0, 1, 9, 11, 12, 14, 15, 16, 17, 18] 3 (by omega) rfl (by decide +kernel) (fun K hK => ?_)
     simp only [go_sem, seval]; refine obK (hK _ _ ?_)
     clear hK K; refine nx ?_
     refine ⟨rfl, [some 0, some 1], [3], ⟨by simp [srcIds], by simp [srcIds], by simp⟩, by simp, by simp [wkEnv, lk, lkh, I, str, B, U8, U64, U32] <;> omega, by first | (simp [wkHp, wkHp1, wkEnt, lkh]; done) | (simp [wkHp, wkHp1, wkEnt, lkh, I, str]; done) | simp [wkHp, wkHp1, wkEnt, lkh, I, str]⟩
   rw [← hm]
   refine qNext ?_
   simp only [famPut]
   refine nx ?_
   rw [hm]
   refine AW.famE hN hk (l.length) (.normal) [(0, .sl 1 (bytesE s)), (1, I l.length), (9, .osl 0 d.length 1), (11, .osl 1 l.length 1), (12, I i), (14, I o2), (16, .sl 1 (intE ids)), (18, .sl 1 (strE vals)), (78, B false)] [(0, some ⟨9, 1, strE d⟩)] 1 (none) (by omega) (FC _ rfl) hpl (by omega) (FC _ rfl) (by simp) (by first | (simp; done) | (simp [hxl]; done) | (simp [hxl]; omega)) ?_ ?_
   · intro C vs hN hk hvl
     rw [hno]
     simp only [Go.Av.ST, tcell, Option.map_none, List.cons_append, List.nil_append, Nat.reduceAdd]
     refine nx ?_
     refine AW.rcK mixed hN hk (noc) [0, 1, 2] [0, 1, 9, 11, 12, 14, 16, 18, 78] 3 (by omega) rfl (by decide +kernel) (fun K hK => ?_)
     simp only [go_sem, seval, d1, bne_self_eq_false]
     try simp (disch := omega) only [au]
     try simp only [go_sem, seval, d1, bne_self_eq_false]
     iterate 2 try (simp (disch := omega) only [au]; try simp only [go_sem, seval, d1, bne_self_eq_false])
     (first | with_reducible refine hK _ _ ?_ | refine obK (hK _ _ ?_)); clear hK K; refine nx ?_
     refine ⟨rfl, [some 0, some 1], [], ⟨by simp [srcIds], by simp [srcIds], by simp⟩, by simp, by simp [wkEnv, lk, lkh, I, str, B, U8, U64, U32] <;> omega, by first | (simp [wkHp, wkHp1, wkEnt, lkh]; done) | (simp [wkHp, wkHp1, wkEnt, lkh, I, str]; done) | simp [wkHp, wkHp1, wkEnt, lkh, I, str]⟩
   rw [← hm]
   refine qNext ?_
   refine AW.condF rfl (AW.skip (qNext ?_))
   simp only [famPut]
   refine nx ?_
   rw [hm]
   refine AW.famE hN hk (l.length) (.normal) [(0, .sl 1 (bytesE s)), (1, I l.length), (7, I o2), (9, .osl 0 d.length 1), (11, .osl 1 l.length 1), (12, I i), (16, .sl 1 (intE ids)), (18, .sl 1 (strE vals))] [(0, some ⟨9, 1, strE d⟩)] 1 (none) (by omega) (FC _ rfl) hpl (by omega) (FC _ rfl) (by simp) (by first | (simp; done) | (simp [hxl]; done) | (simp [hxl]; omega)) ?_ ?_
   · intro C vs hN hk hvl
     rw [hno]
     simp only [Go.Av.ST, tcell, Option.map_none, List.cons_append, List.nil_append, Nat.reduceAdd]
     refine nx ?_
     refine AW.rcK mixed hN hk (noc) [0, 1, 2] [0, 1, 7, 9, 11, 12, 16, 18] 3 (by omega) rfl (by decide +kernel) (fun K hK => ?_)
     simp only [go_sem, seval]; refine hK _ _ ?_
     clear hK K; refine nx ?_
     refine ⟨rfl, [some 0, some 1], [], ⟨by simp [srcIds], by simp [srcIds], by simp⟩, by simp, by simp [wkEnv, lk, lkh, I, str, B, U8, U64, U32] <;> omega, by first | (simp [wkHp, wkHp1, wkEnt, lkh]; done) | (simp [wkHp, wkHp1, wkEnt, lkh, I, str]; done) | simp [wkHp, wkHp1, wkEnt, lkh, I, str]⟩
   rw [← hm]
   refine qNext ?_
   simp only [famPut]
   refine nx ?_
   rw [hm]
   refine AW.famE hN hk (l.length) (.normal) [(0, .sl 1 (bytesE s)), (1, I l.length), (7, I o2), (9, .osl 0 d.length 1), (11, .osl 1 l.length 1), (12, I i), (16, .sl 1 (intE ids)), (18, .sl 1 (strE vals)), (19, I 0)] [(0, some ⟨9, 1, strE d⟩)] 1 (none) (by omega) (FC _ rfl) hpl (by omega) (FC _ rfl) (by simp) (by first | (simp; done) | (simp [hxl]; done) | (simp [hxl]; omega)) ?_ ?_
   · intro C vs hN hk hvl
     rw [hno]
     simp only [Go.Av.ST, tcell, Option.map_none, List.cons_append, List.nil_append, Nat.reduceAdd]
     refine nx ?_
     refine AW.rcK mixed hN hk (noc) [0, 1, 2] [0, 1, 7, 9, 11, 12, 16, 18, 19] 3 (by omega) rfl (by decide +kernel) (fun K hK => ?_)
     simp only [go_sem, seval]; refine hK _ _ ?_
     clear hK K; refine nx ?_
     refine ⟨rfl, [some 0, some 1], [], ⟨by simp [srcIds], by simp [srcIds], by simp⟩, by simp, by simp [wkEnv, lk, lkh, I, str, B, U8, U64, U32] <;> omega, by first | (simp [wkHp, wkHp1, wkEnt, lkh]; done) | (simp [wkHp, wkHp1, wkEnt, lkh, I, str]; done) | simp [wkHp, wkHp1, wkEnt, lkh, I, str]⟩
   rw [← hm]
   refine qNext ?_
   simp only [famPut]
   clear hpl hno hm q3 q4 q5
   refine nx ?_
   refine AW.loopS (k := 0) (fun k : Nat => SO [(0, .sl 1 (bytesE s)), (1, I l.length), (7, I o2), (9, .osl 0 d.length 1), (11, .osl 1 l.length 1), (12, I i), (16, .sl 1 (intE ids)), (18, .sl 1 (strE vals)), (19, I k)] [(0, some ⟨9, 1, strE d⟩)] 1 2 131 46 ((ofZ n X ((ids.zip vals).take k)).map flE)) (fun k => k ≤ ids.length) (fun k => ids.length - k) 0 (by omega) (by simp [ofZ]) ?_
   intro k h2
   have hpl := flEs_plain (ofZ n X ((ids.zip vals).take k))
   have hxl2 := ofZ_len n ((ids.zip vals).take k) X
   have hm : 1 + 1 + l.length = 1 + 1 + ((ofZ n X ((ids.zip vals).take k)).map flE).length := by simp [hxl2, hxl]
   have hno : ((ofZ n X ((ids.zip vals).take k)).map flE)[l.length]? = none := by simp [hxl2, hxl]
   by_cases hk2 : k < ids.length
   · have hkv : k < vals.length := by omega
     have hy0 := List.getElem?_eq_getElem hk2
     have hyv := List.getElem?_eq_getElem hkv
     have hzk : (ids.zip vals).take (k + 1) = (ids.zip vals).take k ++ [(ids[k], vals[k])] := by
       rw [List.take_add_one, List.getElem?_eq_getElem (show k < (ids.zip vals).length by simp; omega)]
       simp
     obtain ⟨p, hp⟩ := Int.eq_ofNat_of_zero_le (hvlt _ (List.getElem_mem hk2)).1
     have hpl0 := (hvlt _ (List.getElem_mem hk2)).2
     rw [hp] at hpl0 hzk hy0
     have hzb := ofZ_big n X i hbig ((ids.zip vals).take k) p
     have hzl : ((ids.zip vals).take k).length ≤ 256 := by simp; omega
     have hsn := ofZ_snoc n X ((ids.zip vals).take k) ((p : Int), vals[k])
     rw [← hzk] at hsn
     simp only [Int.toNat_natCast] at hsn
     generalize vals[k] = v at *
     generalize ofZ n X ((ids.zip vals).take k) = Y at *
     have hpl2 : p < Y.length := by omega
     have hat : (Y.map flE)[p]? = some (flE (Y.getD p [])) := by simp [List.getD, hpl2]
     unfold addFl at hsn
     have hZl : (Y.getD p []).length ≤ 1000 := by omega
     generalize Y.getD p [] = Z at *
     have d2 := dGeF (a := (p : Int)) (b := (l.length : Int)) (by omega)
     rw [hm]
     refine AW.famE hN hk p .normal [(0, .sl 1 (bytesE s)), (1, I l.length), (7, I o2), (9, .osl 0 d.length 1), (11, .osl 1 l.length 1), (12, I i), (16, .sl 1 (intE ids)), (18, .sl 1 (strE vals)), (19, I (k + 1 : Nat))] [(0, some ⟨9, 1, strE d⟩)] 1 (some (flE (Z ++ [⟨n, v⟩]))) (by omega) (FC _ rfl) hpl (by omega) (FC _ rfl) (by simp) (by simp; omega) ?_ ?_
     · intro C vs hN hk hvl
       rw [hat]
       simp only [Go.Av.ST, tcell, Option.map_some, List.cons_append, List.nil_append, Nat.reduceAdd]
       have hvp : p < vs.length := by rw [hvl]; simpa using hpl2
       have hv0 := fun c => valC_self (c := c) hvp
       refine nx ?_
       refine AW.rcK mixed hN hk (noc) [0, 1, 2] [0, 1, 7, 9, 11, 12, 16, 18, 19, 83] 3 (by omega) rfl (by decide +kernel) (fun K hK => ?_)
       simp only [go_sem, seval]
       try simp (disch := omega) only [au]
       (first | with_reducible refine hK _ _ ?_ | refine obK (hK _ _ ?_)); clear hK K; refine nx ?_
       refine cT ?_; refine nx ?_
       refine AW.rcK mixed hN hk (noc) [0, 1, 2] [0, 1, 7, 9, 11, 12, 16, 18, 19, 91] 3 (by omega) rfl (by decide +kernel) (fun K hK => ?_)
       simp only [go_sem, seval, hy0, d2]
       try simp (disch := omega) only [au]
       (first | with_reducible refine hK _ _ ?_ | refine obK (hK _ _ ?_)); clear hK K; refine nx ?_
       refine cF ?_; refine nx ?_
       refine AW.rcdK mixed hN hk (noc) [0, 1, 2] [0, 1, 7, 9, 11, 12, 16, 18, 19, 114] 3 (by omega) rfl (by decide +kernel) (fun K tok htok hK => ?_)
       simp only [go_sem, seval, hv0, hy0, hx, hyv]
       refine ⟨htok _ (by decide +kernel), ?_⟩
       (first | with_reducible refine hK _ _ ?_ | refine obK (hK _ _ ?_)); clear hK K htok tok
       refine nx ?_
       refine AW.rcK mixed hN hk (noc) [0, 1, 2] [0, 1, 7, 9, 11, 12, 16, 18, 19, 114] 3 (by omega) rfl (by decide +kernel) (fun K hK => ?_)
       simp only [go_sem, seval]
       try simp (disch := omega) only [au]
       refine hK _ _ ?_; clear hK K; refine nx ?_
       have hfe : flE (Z ++ [⟨n, v⟩]) = flE Z ++ [[.val (.string ⟨n.toArray⟩), .val (.string ⟨v.toArray⟩)]] := by simp [flE, flC, str]
       refine ⟨rfl, [some 0, some 1, some 3], [], ⟨by simp [srcIds], by simp [srcIds], by simp⟩, by simp, by simp [wkEnv, lk, lkh, I, str, B, U8, U64, U32, wkE_valC_iff hvp, hfe, idLtL, idLt] <;> omega, by first | (simp [wkHp, wkHp1, wkEnt, lkh, wkE_valC_iff hvp, hfe, idLtL, idLt]; done) | (simp [wkHp, wkHp1, wkEnt, lkh, I, str, wkE_valC_iff hvp, hfe, idLtL, idLt]; done) | simp [wkHp, wkHp1, wkEnt, lkh, I, str, wkE_valC_iff hvp, hfe, idLtL, idLt]⟩
     · refine qNext ⟨by first | rfl | exact hm.symm, k + 1, by omega, by omega, ?_⟩
       simp only [famPut]
       rw [hsn, List.map_set]
   · have hke : k = ids.length := by omega
     rw [hm]
     refine AW.famE hN hk l.length (.exit 2) [(0, .sl 1 (bytesE s)), (1, I l.length), (7, I o2), (9, .osl 0 d.length 1), (11, .osl 1 l.length 1), (12, I i)] [(0, some ⟨9, 1, strE d⟩)] 1 none (by omega) (FC _ rfl) hpl (by omega) (FC _ rfl) (by simp) (by simp [hxl2, hxl]) ?_ ?_
     · intro C vs hN hk hvl
       rw [hno]
       simp only [Go.Av.ST, tcell, Option.map_none, List.cons_append, List.nil_append, Nat.reduceAdd]
       refine nx ?_
       refine AW.rcK mixed hN hk (noc) [0, 1, 2] [0, 1, 7, 9, 11, 12, 16, 18, 19, 83] 3 (by omega) rfl (by decide +kernel) (fun K hK => ?_)
       simp only [go_sem, seval]
       try simp (disch := omega) only [au]
       (first | with_reducible refine hK _ _ ?_ | refine obK (hK _ _ ?_)); clear hK K; refine nx ?_
       refine cF ?_; refine nx ?_
       refine ⟨rfl, [some 0, some 1], [], ⟨by simp [srcIds], by simp [srcIds], by simp⟩, by simp, by simp [wkEnv, lk, lkh, I, str, B, U8, U64, U32] <;> omega, by first | (simp [wkHp, wkHp1, wkEnt, lkh]; done) | (simp [wkHp, wkHp1, wkEnt, lkh, I, str]; done) | simp [wkHp, wkHp1, wkEnt, lkh, I, str]⟩
     · refine nx ?_
       simp only [famPut]
       refine AW.famE hN hk l.length .normal [(0, .sl 1 (bytesE s)), (1, I l.length), (7, I o2), (9, .osl 0 d.length 1), (11, .osl 1 l.length 1), (12, I (i + 1 : Nat))] [(0, some ⟨9, 1, strE d⟩)] 1 none (by omega) (FC _ rfl) hpl (by omega) (FC _ rfl) (by simp) (by simp [hxl2, hxl]) ?_ ?_
       · intro C vs hN hk hvl
         rw [hno]
         simp only [Go.Av.ST, tcell, Option.map_none, List.cons_append, List.nil_append, Nat.reduceAdd]
         refine nx ?_
         refine AW.rcK mixed hN hk (noc) [0, 1, 2] [0, 1, 7, 9, 11, 12] 3 (by omega) rfl (by decide +kernel) (fun K hK => ?_)
         simp only [go_sem, seval]
         try simp (disch := omega) only [au]
         refine hK _ _ ?_; clear hK K; refine nx ?_
         refine ⟨rfl, [some 0, some 1], [], ⟨by simp [srcIds], by simp [srcIds], by simp⟩, by simp, by simp [wkEnv, lk, lkh, I, str, B, U8, U64, U32] <;> omega, by first | (simp [wkHp, wkHp1, wkEnt, lkh]; done) | (simp [wkHp, wkHp1, wkEnt, lkh, I, str]; done) | simp [wkHp, wkHp1, wkEnt, lkh, I, str]⟩
       · refine qNext ⟨by first | rfl | exact hm.symm, i + 1, by omega, by omega, ?_⟩
         simp only [famPut]
         rw [ho2, hfa, hke, List.take_of_length_le (by simp; omega)]
 · have hie : i = d.length := by omega
   rw [hm]
   refine AW.famE hN hk l.length (.exit 0) [(11, .osl 1 l.length 1)] [(0, some ⟨9, 1, strE d⟩)] 1 none (by omega) (FC _ rfl) hpl (by omega) (FC _ rfl) (by simp) (by simp [hxl]) ?_ ?_
   · intro C vs hN hk hvl
     rw [hno]
     simp only [Go.Av.ST, tcell, Option.map_none, List.cons_append, List.nil_append, Nat.reduceAdd]
     refine nx ?_
     refine AW.rcK mixed hN hk (noc) [0, 1, 2] [0, 1, 7, 9, 11, 12, 42] 3 (by omega) rfl (by decide +kernel) (fun K hK => ?_)
     simp only [go_sem, seval]
     try simp (disch := omega) only [au]
     (first | with_reducible refine hK _ _ ?_ | refine obK (hK _ _ ?_)); clear hK K; refine nx ?_
     refine cF ?_; refine nx ?_
     refine ⟨rfl, [some 0, some 1], [], ⟨by simp [srcIds], by simp [srcIds], by simp⟩, by simp, by simp [wkEnv, lk, lkh, I, str, B, U8, U64, U32] <;> omega, by first | (simp [wkHp, wkHp1, wkEnt, lkh]; done) | (simp [wkHp, wkHp1, wkEnt, lkh, I, str]; done) | simp [wkHp, wkHp1, wkEnt, lkh, I, str]⟩
   refine nx ?_
   simp only [famPut]
   rw [← hm, hie]
   subst hie
   generalize fa d.length = X at *
   have FO := SO_ok (sz := 2) (ty := 131) (oty := 46) (FC [(11, .osl 1 l.length 1)] rfl) hpl
   refine AW.wk hk 2 ⟨[(11, .osl 1 l.length 1)], [(0, some ⟨9, 1, strE d⟩), (1, some ⟨46, 1, ffE X⟩)]⟩ ⟨[some 0, some 1], List.range' 2 X.length, ⟨by simp [srcIds], by simp [srcIds], by simp⟩, by simp, by simp [wkEnv, lk, SO], ?_⟩ ?_
   · refine ⟨.inl ⟨0, ⟨9, 1, strE d⟩, rfl, rfl, rfl, rfl, .inl ⟨rfl, by simp⟩⟩, .inl ⟨1, ⟨46, 1, famC 2 2 (X.map flE)⟩, rfl, rfl, rfl, rfl, .inr ?_⟩, trivial⟩
     have := famC_wk (hp := lkh (SO [(11, .osl 1 l.length 1)] [(0, some ⟨9, 1, strE d⟩)] 1 2 131 46 (X.map flE)).hp) (ids := [some 0, some 1]) (D := List.range' 2 X.length) (ty := 131) (sz := 2) (X.map flE) 2 (fun j hj => by simp at hj ⊢; omega) (fun j L hj => FO.inn j L hj) hpl
     rw [List.map_map] at this
     exact this
   refine nx ?_; refine rG hN hk noc [] [4, 5] fun K hK => ?_; simp only [go_sem, seval]; refine hK _ _ ?_
   clear hK K; refine nx ?_
   refine AW.ret (mkRet [some 0] [] rfl (by simp [resOf, lk, lkh, I, str, B, U8, U64, U32] <;> omega) (by first | (simp [wkHp, wkHp1, wkEnt, lkh]; done) | simp [wkHp, wkHp1, wkEnt, lkh, I, str]))
@[go_sem] theorem E93 : Av.elemOf (tabOf Tryz.prog) 93 = none := by kernel_rfl
@[go_sem] theorem R93 : Av.arrOf (tabOf Tryz.prog) 93 = some (7, ⟨1, 24, (.slice 3), [.slice none 0 0]⟩) := by kernel_rfl
theorem In64_weight {w : Int} (h : weightB w = true) : In64 w := by
 unfold weightB at h
 simp only [Bool.and_eq_true, decide_eq_true_eq] at h
 unfold In64; omega
theorem evE_snocC (o : List Ev) (e : Ev) : evE (o ++ [e]) = evE o ++ [[.val (.int .i64 e.host), .val (.int .i64 e.file), .val (.int .i64 e.frm), .val (.int .i64 e.to), .sl 3 (lnE e.lines), .val (.int .i64 e.time), .val (.int .i64 e.weight), .val (.string ⟨e.trace.toArray⟩), .val (.string ⟨e.stream.toArray⟩), .sl 2 (flE e.fields)]] := by simp [evE, evC, I, str]
theorem read27 {l : List Ev} {bs : List UInt8} {a z : Nat} (V : SegV bs l.length a z (secs l)) (h : SegG l) :
   ACall Tryz.prog 17 [.sl 1 (bytesE bs), I l.length] [] (.tup [.osl 0 l.length 10, B true]) [some ⟨48, 10, evE l⟩] := by
 have H := h.ok
 have hl := h.len
 have hss := secs_n l
 have hg : ∀ k : Nat, 1 ≤ k → k ≤ 12 → ACall Tryz.prog 37 [.sl 1 (bytesE bs), I k] [] (.sl 1 (bytesE (secF l k))) [] := by
   intro k h1 h2
   have := get27s V k h1 (by omega)
   rwa [secs_at, show k - 1 + 1 = k by omega] at this
 obtain ⟨v, hv⟩ : ∃ v : Nat → List Int, ∀ k, v k = l.map fun e => numF e k := ⟨fun k => l.map fun e => numF e k, fun _ => rfl⟩
 have hvl : ∀ k, (v k).length = l.length := by intro k; rw [hv]; simp
 have hvx : ∀ k i (hi : i < l.length), (v k)[i]? = some (numF l[i] k) := by intro k i hi; rw [hv]; simp [hi]
 have hs1 : ∀ k, 1 ≤ k → k ≤ 6 → secF l k = enc24 (v k) := by
   intro k h1 h6
   rw [hv]; unfold secF; rw [if_neg (by omega), if_neg (by omega), if_neg (by omega), if_neg (by omega), if_neg (by omega), if_neg (by omega)]
 have qd : ∀ k, ACall Tryz.prog 36 [.sl 1 (bytesE (enc24 (v k)))] [] (.tup [.osl 0 (v k).length 1, I 0]) [some ⟨3, 1, intE (v k)⟩] := by
   intro k
   refine decode24 (v k) (bestTo (v k) 3) (bestTo_le _ 3) (by rw [hvl]; omega) ?_
   intro x hx
   rw [hv] at hx
   obtain ⟨e, he, rfl⟩ := List.mem_map.1 hx
   have g := h.ev e he
   have g1 := g.host
   have g2 := g.file
   have g3 := g.frm
   have g4 := g.to
   have g5 := g.time
   have g6 := In64_weight g.weight
   unfold numF
   repeat' split
   all_goals first | exact g6 | (unfold In64; omega)
 have q9 := texts27 (ixF (l.map Ev.trace)) 0 (l.map Ev.trace) (by simp; omega) (by
   intro s hs; obtain ⟨e, he, rfl⟩ := List.mem_map.1 hs; exact (H.tr e he).1) ⟨[], [], by simp, rfl⟩ (by
   have := ixF_len (l.map Ev.trace) (by simp; omega) (by intro s hs; obtain ⟨e, he, rfl⟩ := List.mem_map.1 hs; exact (H.tr e he).1)
   omega)
 have q10 := texts27 (ixF (l.map Ev.stream)) 0 (l.map Ev.stream) (by simp; omega) (by
   intro s hs; obtain ⟨e, he, rfl⟩ := List.mem_map.1 hs; exact (H.tr e he).2) ⟨[], [], by simp, rfl⟩ (by
   have := ixF_len (l.map Ev.stream) (by simp; omega) (by intro s hs; obtain ⟨e, he, rfl⟩ := List.mem_map.1 hs; exact (H.tr e he).2)
   omega)
 have q11 := readLines27 l (linesF l) rfl H.len H.ev H.lines (by
   intro x hx
   obtain ⟨e, he, hx⟩ := List.mem_flatMap.1 hx
   have g := h.ev e he
   obtain ⟨i, hi, rfl⟩ := List.getElem_of_mem hx
   have hm := atTo_mono e.frm e.lines (fun i hi => (g.off i hi).2)
   have o1 := g.off i hi
   have m1 := hm 0 i (by omega)
   have m2 := hm (i + 1) (e.lines.length - (i + 1)) (by omega)
   rw [show i + 1 + (e.lines.length - (i + 1)) = e.lines.length by omega, List.take_length, g.all, atTo_s _ _ _ hi] at m2
   have g0 : atTo e.frm (e.lines.take 0) = e.frm := by simp [atTo]
   rw [Nat.zero_add, g0] at m1
   have g3 := g.frm
   have g4 := g.to
   unfold In64; omega)
 have q12 := readFields27 l (fieldsF l) rfl h
 have g7 := hg 7 (by omega) (by omega)
 have g8 := hg 8 (by omega) (by omega)
 have g9 := hg 9 (by omega) (by omega)
 have g10 := hg 10 (by omega) (by omega)
 rw [show secF l 7 = ixF (l.map Ev.trace) from rfl] at g7
 rw [show secF l 8 = ixF (l.map Ev.stream) from rfl] at g8
 rw [show secF l 9 = linesF l from rfl] at g9
 rw [show secF l 10 = fieldsF l from rfl] at g10
 have htx : ∀ i (hi : i < l.length), (l.map Ev.trace)[i]? = some l[i].trace := by intro i hi; simp [hi]
 have hsx : ∀ i (hi : i < l.length), (l.map Ev.stream)[i]? = some l[i].stream := by intro i hi; simp [hi]
 have hlx : ∀ i (hi : i < l.length), (l.map Ev.lines)[i]? = some l[i].lines := by intro i hi; simp [hi]
 have hfx : ∀ i (hi : i < l.length), (l.map Ev.fields)[i]? = some l[i].fields := by intro i hi; simp [hi]
 have htl : (l.map Ev.trace).length = l.length := by simp
 have hsl : (l.map Ev.stream).length = l.length := by simp
 have hll : (l.map Ev.lines).length = l.length := by simp
 have hfl : (l.map Ev.fields).length = l.length := by simp
 generalize 0 + (ixF (l.map Ev.trace)).length = o1 at *
 generalize 0 + (ixF (l.map Ev.stream)).length = o2 at *
 generalize ixF (l.map Ev.trace) = x7 at *
 generalize ixF (l.map Ev.stream) = x8 at *
 generalize linesF l = x9 at *
 generalize fieldsF l = x10 at *
 generalize l.map Ev.trace = T at *
 generalize l.map Ev.stream = M at *
 generalize l.map Ev.lines = L at *
 generalize l.map Ev.fields = F at *
 have hgk : ∀ k : Nat, 1 ≤ k → k ≤ 6 → ACall Tryz.prog 37 [.sl 1 (bytesE bs), I k] [] (.sl 1 (bytesE (enc24 (v k)))) [] := by
   intro k h1 h6
   rw [← hs1 k h1 h6]; exact hg k h1 (by omega)
 obtain ⟨en, hen⟩ : ∃ en : Nat → List UInt8, ∀ k, enc24 (v k) = en k := ⟨fun k => enc24 (v k), fun _ => rfl⟩
 simp only [hen] at hgk qd
 clear hen hs1 hg V hv H
 refine acall 154 0 Tryz.func17 rfl rfl rfl (by simp) rfl rfl ?_
 intro C hN hk
 refine nx ?_; refine rG hN hk noc [] [0, 1] fun K hK => ?_; simp only [go_sem, seval]; refine hK _ _ ?_
 clear hK K; refine nx ?_
 refine rG hN hk noc [] [0, 1, 6] fun K hK => ?_; simp only [go_sem, seval]; refine hK _ _ ?_
 clear hK K; refine nx ?_
 refine rG hN hk noc [] [0, 1, 6, 7] fun K hK => ?_; simp only [go_sem, seval]; refine hK _ _ ?_
 clear hK K; refine nx ?_
 refine lpF hk 1 (fun k : Nat => ⟨[(0, .sl 1 (bytesE bs)), (1, I l.length), (6, .ptr 0 7 0 0), (7, I k)], [(0, some ⟨93, 7, [[nilV, celA v k 1, celA v k 2, celA v k 3, celA v k 4, celA v k 5, celA v k 6]]⟩)]⟩) (fun k => 1 ≤ k ∧ k ≤ 7) (fun k => 7 - k) 1 (mkWk [some 0] [] (by simp [wkEnv, lk, lkh, I, str, B, U8, U64, U32, celA, nilV] <;> omega) (by first | (simp [wkHp, wkHp1, wkEnt, lkh, celA, nilV]; done) | simp [wkHp, wkHp1, wkEnt, lkh, I, str, celA, nilV])) ?_
 rintro k ⟨h1, h7⟩
 by_cases hk6 : k ≤ 6
 · have q1 := hgk k h1 hk6
   have q2 := qd k
   have q3 := hvl k
   have d1 : ((((v k).length : Nat) : Int) != (l.length : Int)) = false := iNeF (by omega)
   obtain ⟨k', hk'⟩ : ∃ k', k' = k + 1 := ⟨_, rfl⟩
   obtain rfl | rfl | rfl | rfl | rfl | rfl : k = 1 ∨ k = 2 ∨ k = 3 ∨ k = 4 ∨ k = 5 ∨ k = 6 := by omega
   all_goals
     refine nx ?_; refine rG hN hk noc [] [0, 1, 6, 7, 22] fun K hK => ?_; simp only [go_sem, seval, celA, bne_self_eq_false, nilV, d1]
     try simp (disch := omega) only [au]
     refine hK _ _ ?_; clear hK K; refine nx ?_; refine cT ?_; refine nx ?_; refine rG hN hk noc [] [0, 1, 6, 7] fun K hK => ?_; simp only [go_sem, seval, celA, bne_self_eq_false, nilV, d1]; refine hK _ _ ?_
     clear hK K; refine nx ?_
     refine rG hN hk (onc 3 (pcq q1) (onc 4 (pcq q2) noc)) [] [0, 1, 6, 7, 8] fun K hK => ?_; simp only [go_sem, seval, celA, bne_self_eq_false, nilV, d1]; refine obK (hK _ _ ?_)
     clear hK K; refine nx ?_
     refine rG hN hk noc [] [0, 1, 6, 7, 43] fun K hK => ?_; simp only [go_sem, seval, celA, bne_self_eq_false, nilV, d1]
     try simp (disch := omega) only [au]
     try simp only [go_sem, seval, celA, bne_self_eq_false, nilV, d1]
     (first | with_reducible refine hK _ _ ?_ | refine obK (hK _ _ ?_)); clear hK K; refine nx ?_
     refine cF ?_; refine nx ?_; refine rG hN hk noc [] [0, 1, 6, 7] fun K hK => ?_; simp only [go_sem, seval, celA, bne_self_eq_false, nilV, d1]
     try simp (disch := omega) only [au]
     refine hK _ _ ?_; clear hK K; refine nx ?_
     refine eE (k') (mkWk [some 0] [1] (by simp [wkEnv, lk, lkh, I, str, B, U8, U64, U32, hk', celA, nilV] <;> omega) (by first | (simp [wkHp, wkHp1, wkEnt, lkh, hk', celA, nilV]; done) | simp [wkHp, wkHp1, wkEnt, lkh, I, str, hk', celA, nilV]))
 · have : k = 7 := by omega
   subst this
   clear hgk qd
   have d1 : ((T.length : Int) != (l.length : Int)) = false := iNeF (by omega)
   have d2 : ((M.length : Int) != (l.length : Int)) = false := iNeF (by omega)
   refine nx ?_; refine rG hN hk noc [] [0, 1, 6, 7, 22] fun K hK => ?_; simp only [go_sem, seval, celA, nilV, d1, d2]
   try simp (disch := omega) only [au]
   refine hK _ _ ?_; clear hK K; refine nx ?_; refine cF ?_; refine nx ?_; refine rG hN hk (onc 1 (pcq g7) (onc 2 (pcq q9) noc)) [] [0, 1, 6, 9, 11] fun K hK => ?_; simp only [go_sem, seval, celA, nilV, d1, d2]; refine obK (hK _ _ ?_)
   clear hK K; refine nx ?_
   refine rG hN hk (onc 1 (pcq g8) (onc 2 (pcq q10) noc)) [] [0, 1, 6, 9, 11, 12, 14] fun K hK => ?_; simp only [go_sem, seval, celA, nilV, d1, d2]; refine obK (hK _ _ ?_)
   clear hK K; refine nx ?_
   refine rG hN hk (onc 1 (pcq g9) (onc 3 (pcq q11) noc)) [] [0, 1, 6, 9, 11, 12, 14, 15, 16] fun K hK => ?_; simp only [go_sem, seval, celA, nilV, d1, d2]; refine obK (hK _ _ ?_)
   clear hK K; refine nx ?_
   refine rG hN hk (onc 1 (pcq g10) (onc 3 (pcq q12) noc)) [] [1, 6, 9, 11, 12, 14, 15, 16, 17, 18] fun K hK => ?_; simp only [go_sem, seval, celA, nilV, d1, d2]; refine obK (hK _ _ ?_)
   clear hK K; refine nx ?_
   refine rG hN hk noc [] [1, 6, 9, 12, 15, 17, 97] fun K hK => ?_; simp only [go_sem, seval, celA, nilV, d1, d2]
   try simp (disch := omega) only [au]
   try simp only [go_sem, seval, celA, nilV, d1, d2]
   iterate 5 try (simp (disch := omega) only [au]; try simp only [go_sem, seval, celA, nilV, d1, d2])
   (first | with_reducible refine hK _ _ ?_ | refine obK (hK _ _ ?_)); clear hK K; refine nx ?_
   refine cF ?_; refine nx ?_; refine rG hN hk noc [] [1, 6, 9, 12, 15, 17, 19] fun K hK => ?_; simp only [go_sem, seval, celA, nilV, d1, d2]; refine hK _ _ ?_
   clear hK K; refine nx ?_
   refine rG hN hk noc [] [1, 6, 9, 12, 15, 17, 19, 20] fun K hK => ?_; simp only [go_sem, seval, celA, nilV, d1, d2]; refine hK _ _ ?_
   clear hK K; refine nx ?_
   clear q9 q10 q11 q12 g7 g8 g9 g10
   refine nx ?_
   refine lpF hk 6 (fun i : Nat => ⟨[(1, I l.length), (6, .ptr 0 7 0 0), (9, .osl 1 T.length 1), (12, .osl 2 M.length 1), (15, .osl 3 l.length 1), (17, .osl 4 l.length 1), (19, .osl 5 (l.take i).length 10), (20, I i)], [(0, some ⟨93, 7, [[nilV, .sl 1 (intE (v 1)), .sl 1 (intE (v 2)), .sl 1 (intE (v 3)), .sl 1 (intE (v 4)), .sl 1 (intE (v 5)), .sl 1 (intE (v 6))]]⟩), (1, some ⟨9, 1, strE T⟩), (2, some ⟨9, 1, strE M⟩), (3, some ⟨45, 1, llE L⟩), (4, some ⟨46, 1, ffE F⟩), (5, some ⟨48, 10, evE (l.take i)⟩)]⟩) (fun i => i ≤ l.length) (fun i => l.length - i) 0 (mkWk [some 0, some 1, some 2, some 3, some 4, none] [] (by simp [wkEnv, lk, lkh, I, str, B, U8, U64, U32, nilV] <;> omega) (by first | (simp [wkHp, wkHp1, wkEnt, lkh, nilV]; done) | simp [wkHp, wkHp1, wkEnt, lkh, I, str, nilV])) ?_
   intro i hi0
   by_cases hi : i < l.length
   · have x1 : (v 1)[i]? = some l[i].host := hvx 1 i hi
     have x2 : (v 2)[i]? = some l[i].file := hvx 2 i hi
     have x3 : (v 3)[i]? = some l[i].frm := hvx 3 i hi
     have x4 : (v 4)[i]? = some l[i].to := hvx 4 i hi
     have x5 : (v 5)[i]? = some l[i].time := hvx 5 i hi
     have x6 : (v 6)[i]? = some l[i].weight := hvx 6 i hi
     have x7 := htx i hi
     have x8 := hsx i hi
     have x9 := hlx i hi
     have x10 := hfx i hi
     have hsn : l.take (i + 1) = l.take i ++ [l[i]] := by simp [List.take_append_getElem]
     have hli : (l.take i).length ≤ 256 := by simp; omega
     have hev := evE_snocC (l.take i) l[i]
     generalize l[i] = e at *
     generalize l.take i = o at *
     refine nx ?_; refine rG hN hk noc [] [1, 6, 9, 12, 15, 17, 19, 20, 100] fun K hK => ?_; simp only [go_sem, seval]
     try simp (disch := omega) only [au]
     refine hK _ _ ?_; clear hK K; refine nx ?_; refine cT ?_; refine nx ?_
     refine rD hN hk noc [] [1, 6, 9, 12, 15, 17, 19, 20] fun K tok htok hK => ?_
     simp only [go_sem, seval, x1, x2, x3, x4, x5, x6, x7, x8, x9, x10]
     refine ⟨htok _ (by decide +kernel), ?_⟩
     (first | with_reducible refine hK _ _ ?_ | refine obK (hK _ _ ?_)); clear hK K htok tok
     refine nx ?_; refine rG hN hk noc [] [1, 6, 9, 12, 15, 17, 19, 20] fun K hK => ?_; simp only [go_sem, seval]
     try simp (disch := omega) only [au]
     refine hK _ _ ?_; clear hK K; refine nx ?_
     refine eE (i + 1) (mkWk [some 0, some 1, some 2, some 3, some 4, some 5] [] (by simp [wkEnv, lk, lkh, I, str, B, U8, U64, U32, hsn, hev, nilV, idLtL, idLt] <;> omega) (by first | (simp [wkHp, wkHp1, wkEnt, lkh, hsn, hev, nilV, idLtL, idLt]; done) | simp [wkHp, wkHp1, wkEnt, lkh, I, str, hsn, hev, nilV, idLtL, idLt]))
   · have : i = l.length := by omega
     subst this
     rw [List.take_length]
     refine nx ?_; refine rG hN hk noc [] [1, 6, 9, 12, 15, 17, 19, 20, 100] fun K hK => ?_; simp only [go_sem, seval]
     try simp (disch := omega) only [au]
     refine hK _ _ ?_; clear hK K; refine nx ?_; refine cF ?_; refine nx ?_; refine rG hN hk noc [] [4, 5] fun K hK => ?_; simp only [go_sem, seval]; refine hK _ _ ?_
     clear hK K; refine nx ?_
     refine AW.ret (mkRet [some 0] [] rfl (by simp [resOf, lk, lkh, I, str, B, U8, U64, U32] <;> omega) (by first | (simp [wkHp, wkHp1, wkEnt, lkh]; done) | simp [wkHp, wkHp1, wkEnt, lkh, I, str]))
theorem decode27 (l : List Ev) (h : SegG l) : ACall Tryz.prog 6 [.sl 1 (bytesE (segE l))] [] (.tup [.osl 0 l.length 10, I 0]) [some ⟨48, 10, evE l⟩] := by
 have V := segE_V h
 have hl := h.len
 have q1 := damaged27 V
 have q2 := summary27 V
 have q3 := read27 V h
 have q4 := encode27 l h
 have hbl : (segE l).length ≤ 2 ^ 40 := by have := V.len; have := V.b.total; omega
 have q5 := sameBytes (segE l) (segE l) hbl hbl
 rw [decide_eq_true rfl] at q5
 have d1 := dGtF (a := (l.length : Int)) (b := 256) (by omega)
 clear V hbl
 generalize segE l = bs at *
 generalize tmAt l 0 = a at *
 generalize tmAt l (l.length - 1) = z at *
 refine acall 53 0 Tryz.func6 rfl rfl rfl (by simp) rfl rfl ?_
 intro C hN hk
 refine nx ?_; refine rG hN hk noc [] [0] fun K hK => ?_; simp only [go_sem, seval]; refine hK _ _ ?_
 clear hK K; refine nx ?_
 refine rG hN hk (onc 1 (pcq q1) noc) [] [0, 4, 5] fun K hK => ?_; simp only [go_sem, seval]; refine obK (hK _ _ ?_)
 clear hK K; refine nx ?_
 refine rG hN hk noc [] [0, 4, 5, 17] fun K hK => ?_; simp only [go_sem, seval, bne_self_eq_false]
 try simp (disch := omega) only [au]
 refine hK _ _ ?_; clear hK K; refine nx ?_; refine cF ?_; refine nx ?_; refine rG hN hk noc [] [0, 21] fun K hK => ?_; simp only [go_sem, seval]
 try simp (disch := omega) only [au]
 (first | with_reducible refine hK _ _ ?_ | refine obK (hK _ _ ?_)); clear hK K; refine nx ?_
 refine cF ?_; refine nx ?_; refine rG hN hk (onc 1 (pcq q2) noc) [] [0, 6] fun K hK => ?_; simp only [go_sem, seval]; refine obK (hK _ _ ?_)
 clear hK K; refine nx ?_
 refine rG hN hk noc [] [0, 6, 29] fun K hK => ?_; simp only [go_sem, seval, d1]
 try simp (disch := omega) only [au]
 refine hK _ _ ?_; clear hK K; refine nx ?_; refine cF ?_; refine nx ?_; refine rG hN hk (onc 3 (pcq q3) noc) [] [0, 8, 9] fun K hK => ?_; simp only [go_sem, seval]; refine obK (hK _ _ ?_)
 clear hK K; refine nx ?_
 refine rG hN hk noc [] [0, 8, 38] fun K hK => ?_; simp only [go_sem, seval]
 (first | with_reducible refine hK _ _ ?_ | refine obK (hK _ _ ?_)); clear hK K; refine nx ?_
 refine cF ?_; refine nx ?_; refine rG hN hk (onc 1 (bcq [0] q4) noc) [] [0, 5, 8, 10] fun K hK => ?_; simp only [go_sem, seval]; refine obK (hK _ _ ?_)
 clear hK K; refine nx ?_
 refine rG hN hk (onc 5 (bcq [1] q5) noc) [] [8, 51] fun K hK => ?_; simp only [go_sem, seval, bne_self_eq_false]
 try simp (disch := omega) only [au]
 try simp only [go_sem, seval, bne_self_eq_false]
 refine obK (hK _ _ ?_); clear hK K; refine nx ?_; refine cF ?_; refine nx ?_; refine rG hN hk noc [] [2, 3] fun K hK => ?_; simp only [go_sem, seval]; refine hK _ _ ?_
 clear hK K; refine nx ?_
 refine AW.ret (mkRet [some 0] [] rfl (by simp [resOf, lk, lkh, I, str, B, U8, U64, U32] <;> omega) (by first | (simp [wkHp, wkHp1, wkEnt, lkh]; done) | simp [wkHp, wkHp1, wkEnt, lkh, I, str]))
/-- The choices that are left. -/
def cdE (L : List UInt8) (a : Nat) : Ent := ⟨70, 2, [[.sl 1 (bytesE L), I a]]⟩
attribute [go_sem] cdE
@[simp] theorem idLtL_cons (k : Nat) (c : AV) (r : List AV) : idLtL k (c :: r) = (idLt k c && idLtL k r) := rfl
@[simp] theorem idLtL_nil (k : Nat) : idLtL k [] = true := rfl
@[simp] theorem idLt_sl (k sz : Nat) (es : List (List AV)) : idLt k (.sl sz es) = true := rfl
@[simp] theorem idLt_val (k : Nat) (v : Value) : idLt k (.val v) = true := rfl
theorem left28 (L : List UInt8) (a : Nat) : ACall Tryz.prog 28 [.ptr 0 2 0 0] [some (cdE L a)] (B (decide ((a : Int) < L.length))) [some (cdE L a)] := by
 refine acall 13 1 Tryz.func28 rfl rfl rfl (by simp) rfl rfl ?_
 intro C hN hk
 refine nx ?_; refine rG hN hk noc [0] [0] fun K hK => ?_; simp only [go_sem, seval]; refine hK _ _ ?_
 clear hK K; refine nx ?_
 refine rD hN hk noc [0] [2] fun K tok htok hK => ?_
 simp only [go_sem, seval]
 try simp (disch := omega) only [au]
 refine ⟨htok _ (by decide +kernel), ?_⟩
 (first | with_reducible refine hK _ _ ?_ | refine obK (hK _ _ ?_)); clear hK K htok tok
 refine nx ?_
 refine AW.ret (mkRet [some 0] [] rfl (by simp [resOf, lk, lkh, I, str, B, U8, U64, U32, cdE] <;> omega) (by first | (simp [wkHp, wkHp1, wkEnt, lkh, cdE]; done) | simp [wkHp, wkHp1, wkEnt, lkh, I, str, cdE]))
theorem next13 (L : List UInt8) (hL : L.length ≤ 2 ^ 20) (a n : Nat) (ha : a ≤ L.length) (hn : n ≤ 2 ^ 30) (hn1 : 1 ≤ n) :
   ∃ v a' : Nat, a' ≤ L.length ∧ v < n ∧ ACall Tryz.prog 13 [.ptr 0 2 0 0, I n] [some (cdE L a)] (I v) [some (cdE L a')] := by
 have q := left28 L a
 have d1 := dLtF (a := (n : Int)) (b := 1) (by omega)
 by_cases h : a < L.length
 · rw [dLtT (by omega)] at q
   have hx := List.getElem?_eq_getElem h
   generalize L[a] = b at *
   have hb := b.toNat_lt
   have hm : b.toNat * n ≤ 255 * n := Nat.mul_le_mul_right _ (by omega)
   have e1 : ((b.toNat : Int) * (n : Int)).tdiv 256 = ((b.toNat * n / 256 : Nat) : Int) := by
     rw [Int.tdiv_eq_ediv_of_nonneg (Int.mul_nonneg (by omega) (by omega)), Int.natCast_ediv, Int.natCast_mul]
     rfl
   have w1 := wrap64 (n := (b.toNat : Int) * (n : Int)) (by
     have : ((b.toNat : Int) * (n : Int)) = ((b.toNat * n : Nat) : Int) := by rw [Int.natCast_mul]
     omega)
   have w2 := wrap64 (n := (b.toNat : Int)) (by omega)
   have w3 := wrap64 (n := ((b.toNat * n / 256 : Nat) : Int)) (by omega)
   refine ⟨b.toNat * n / 256, a + 1, by omega, by omega, ?_⟩
   refine acall 35 1 Tryz.func13 rfl rfl rfl (by simp) rfl rfl ?_
   intro C hN hk
   refine nx ?_; refine rG hN hk noc [0] [0, 1] fun K hK => ?_; simp only [go_sem, seval]; refine hK _ _ ?_
   clear hK K; refine nx ?_
   refine rG hN hk (onc 1 (ocq 0 q) noc) [0] [0, 1, 12] fun K hK => ?_; simp only [go_sem, seval, d1]
   try simp (disch := omega) only [au]
   try simp only [go_sem, seval, d1]
   refine obK (hK _ _ ?_); clear hK K; refine nx ?_; refine cF ?_; refine nx ?_
   refine rD hN hk noc [0] [0, 1, 5] fun K tok htok hK => ?_
   simp only [go_sem, seval, hx, w2]
   try simp (disch := omega) only [au]
   refine ⟨htok _ (by decide +kernel), ?_⟩
   (first | with_reducible refine hK _ _ ?_ | refine obK (hK _ _ ?_)); clear hK K htok tok
   refine nx ?_; refine rG hN hk noc [0] [1, 5] fun K hK => ?_; simp only [go_sem, seval]
   try simp (disch := omega) only [au]
   (first | with_reducible refine hK _ _ ?_ | refine obK (hK _ _ ?_)); clear hK K; refine nx ?_
   refine rG hN hk noc [0] [4] fun K hK => ?_; simp only [go_sem, seval, w1, e1, w3]
   try simp (disch := omega) only [au]
   (first | with_reducible refine hK _ _ ?_ | refine obK (hK _ _ ?_)); clear hK K; refine nx ?_
   refine AW.ret (mkRet [some 0] [] rfl (by simp [resOf, lk, lkh, I, str, B, U8, U64, U32, cdE] <;> omega) (by first | (simp [wkHp, wkHp1, wkEnt, lkh, cdE]; done) | simp [wkHp, wkHp1, wkEnt, lkh, I, str, cdE]))
 · rw [dLtF (by omega)] at q
   refine ⟨0, a, ha, by omega, ?_⟩
   refine acall 35 1 Tryz.func13 rfl rfl rfl (by simp) rfl rfl ?_
   intro C hN hk
   refine nx ?_; refine rG hN hk noc [0] [0, 1] fun K hK => ?_; simp only [go_sem, seval]; refine hK _ _ ?_
   clear hK K; refine nx ?_
   refine rG hN hk (onc 1 (ocq 0 q) noc) [0] [0, 1, 12] fun K hK => ?_; simp only [go_sem, seval]
   try simp (disch := omega) only [au]
   try simp only [go_sem, seval]
   refine obK (hK _ _ ?_); clear hK K; refine nx ?_; refine cT ?_; refine nx ?_; refine rG hN hk noc [0] [4] fun K hK => ?_; simp only [go_sem, seval]; refine hK _ _ ?_
   clear hK K; refine nx ?_
   refine AW.ret (mkRet [some 0] [] rfl (by simp [resOf, lk, lkh, I, str, B, U8, U64, U32, cdE] <;> omega) (by first | (simp [wkHp, wkHp1, wkEnt, lkh, cdE]; done) | simp [wkHp, wkHp1, wkEnt, lkh, I, str, cdE]))
theorem getD_len {l : List S} {b : Nat} (h : ∀ w ∈ l, w.length ≤ b) (i : Nat) : (l.getD i []).length ≤ b := by
 by_cases hi : i < l.length
 · rw [getD_of hi]; exact h _ (List.getElem_mem hi)
 · simp [List.getD, List.getElem?_eq_none (Nat.le_of_not_lt hi)]
def wordL : List S := [[103, 101, 116], [101, 114, 114, 111, 114], [119, 97, 114, 110], [97, 49], [117, 115, 101, 114, 95, 55], [120], [84, 105, 109, 101, 111, 117, 116], [50, 48, 48], [71, 69, 84], [101, 114, 114, 111], [122], [], [255], [97, 46, 98]]
theorem wordL_len (i : Nat) : (wordL.getD i []).length ≤ 19 := getD_len (by decide) i
def nameL : List S := [[108, 101, 118, 101, 108], [109, 115], [117, 115, 101, 114], [99, 111, 100, 101]]
theorem nameL_len (i : Nat) : (nameL.getD i []).length ≤ 19 := getD_len (by decide) i
def valL : List S := [[119, 97, 114, 110], [105, 110, 102, 111], [55], [45, 51], [51, 49], [], [120, 32, 121], [57, 57, 57, 57, 57, 57, 57, 57, 57, 57, 57, 57, 57, 57, 57, 57, 57, 57], [49, 48, 48, 48, 48, 48, 48, 48, 48, 48, 48, 48, 48, 48, 48, 48, 48, 48, 48], [48, 55], [45]]
theorem valL_len (i : Nat) : (valL.getD i []).length ≤ 19 := getD_len (by decide) i
theorem word95 (L : List UInt8) (hL : L.length ≤ 2 ^ 20) (a : Nat) (ha : a ≤ L.length) :
   ∃ v a' : Nat, a' ≤ L.length ∧ ACall Tryz.prog 95 [.ptr 0 2 0 0] [some (cdE L a)] (str (wordL.getD v [])) [some (cdE L a')] := by
 obtain ⟨v, a', h1, h2, q⟩ := next13 L hL a 14 ha (by omega) (by omega)
 refine ⟨v, a', h1, ?_⟩
 obtain rfl | rfl | rfl | rfl | rfl | rfl | rfl | rfl | rfl | rfl | rfl | rfl | rfl | rfl : v = 0 ∨ v = 1 ∨ v = 2 ∨ v = 3 ∨ v = 4 ∨ v = 5 ∨ v = 6 ∨ v = 7 ∨ v = 8 ∨ v = 9 ∨ v = 10 ∨ v = 11 ∨ v = 12 ∨ v = 13 := by omega
 all_goals
   refine acall 12 1 Tryz.func95 rfl rfl rfl (by simp) rfl rfl ?_
   intro C hN hk
   refine nx ?_; refine rG hN hk noc [0] [0] fun K hK => ?_; simp only [go_sem, seval]; refine hK _ _ ?_
   clear hK K; refine nx ?_
   refine rG hN hk noc [0] [0, 3] fun K hK => ?_; simp only [go_sem, seval]
   (first | with_reducible refine hK _ _ ?_ | refine obK (hK _ _ ?_)); clear hK K; refine nx ?_
   refine rG hN hk (onc 4 (ocq 0 q) noc) [0] [2] fun K hK => ?_; simp only [go_sem, seval]; refine obK (hK _ _ ?_)
   clear hK K; refine nx ?_
   refine AW.ret (mkRet [some 0] [] rfl (by simp [resOf, lk, lkh, I, str, B, U8, U64, U32, cdE, wordL] <;> omega) (by first | (simp [wkHp, wkHp1, wkEnt, lkh, cdE, wordL]; done) | simp [wkHp, wkHp1, wkEnt, lkh, I, str, cdE, wordL]))
theorem name45 (L : List UInt8) (hL : L.length ≤ 2 ^ 20) (a : Nat) (ha : a ≤ L.length) :
   ∃ v a' : Nat, a' ≤ L.length ∧ ACall Tryz.prog 45 [.ptr 0 2 0 0] [some (cdE L a)] (str (nameL.getD v [])) [some (cdE L a')] := by
 obtain ⟨v, a', h1, h2, q⟩ := next13 L hL a 4 ha (by omega) (by omega)
 refine ⟨v, a', h1, ?_⟩
 obtain rfl | rfl | rfl | rfl : v = 0 ∨ v = 1 ∨ v = 2 ∨ v = 3 := by omega
 all_goals
   refine acall 8 1 Tryz.func45 rfl rfl rfl (by simp) rfl rfl ?_
   intro C hN hk
   refine nx ?_; refine rG hN hk noc [0] [0] fun K hK => ?_; simp only [go_sem, seval]; refine hK _ _ ?_
   clear hK K; refine nx ?_
   refine rG hN hk (onc 2 (ocq 0 q) noc) [0] [2] fun K hK => ?_; simp only [go_sem, seval]; refine obK (hK _ _ ?_)
   clear hK K; refine nx ?_
   refine AW.ret (mkRet [some 0] [] rfl (by simp [resOf, lk, lkh, I, str, B, U8, U64, U32, cdE, nameL] <;> omega) (by first | (simp [wkHp, wkHp1, wkEnt, lkh, cdE, nameL]; done) | simp [wkHp, wkHp1, wkEnt, lkh, I, str, cdE, nameL]))
theorem value46 (L : List UInt8) (hL : L.length ≤ 2 ^ 20) (a : Nat) (ha : a ≤ L.length) :
   ∃ v a' : Nat, a' ≤ L.length ∧ ACall Tryz.prog 46 [.ptr 0 2 0 0] [some (cdE L a)] (str (valL.getD v [])) [some (cdE L a')] := by
 obtain ⟨v, a', h1, h2, q⟩ := next13 L hL a 11 ha (by omega) (by omega)
 refine ⟨v, a', h1, ?_⟩
 obtain rfl | rfl | rfl | rfl | rfl | rfl | rfl | rfl | rfl | rfl | rfl : v = 0 ∨ v = 1 ∨ v = 2 ∨ v = 3 ∨ v = 4 ∨ v = 5 ∨ v = 6 ∨ v = 7 ∨ v = 8 ∨ v = 9 ∨ v = 10 := by omega
 all_goals
   refine acall 12 1 Tryz.func46 rfl rfl rfl (by simp) rfl rfl ?_
   intro C hN hk
   refine nx ?_; refine rG hN hk noc [0] [0] fun K hK => ?_; simp only [go_sem, seval]; refine hK _ _ ?_
   clear hK K; refine nx ?_
   refine rG hN hk noc [0] [0, 3] fun K hK => ?_; simp only [go_sem, seval]
   (first | with_reducible refine hK _ _ ?_ | refine obK (hK _ _ ?_)); clear hK K; refine nx ?_
   refine rG hN hk (onc 4 (ocq 0 q) noc) [0] [2] fun K hK => ?_; simp only [go_sem, seval]; refine obK (hK _ _ ?_)
   clear hK K; refine nx ?_
   refine AW.ret (mkRet [some 0] [] rfl (by simp [resOf, lk, lkh, I, str, B, U8, U64, U32, cdE, valL] <;> omega) (by first | (simp [wkHp, wkHp1, wkEnt, lkh, cdE, valL]; done) | simp [wkHp, wkHp1, wkEnt, lkh, I, str, cdE, valL]))
def weL : List Int := [1, 1, 2, 5, 10, 5040]
theorem weight71 (L : List UInt8) (hL : L.length ≤ 2 ^ 20) (a : Nat) (ha : a ≤ L.length) :
   ∃ (w : Int) (a' : Nat), weightB w = true ∧ a' ≤ L.length ∧ ACall Tryz.prog 71 [.ptr 0 2 0 0] [some (cdE L a)] (I w) [some (cdE L a')] := by
 obtain ⟨v, a', h1, h2, q⟩ := next13 L hL a 6 ha (by omega) (by omega)
 refine ⟨weL.getD v 1, a', ?_, h1, ?_⟩
 · exact (by decide : ∀ i < 6, weightB (weL.getD i 1) = true) v h2
 obtain rfl | rfl | rfl | rfl | rfl | rfl : v = 0 ∨ v = 1 ∨ v = 2 ∨ v = 3 ∨ v = 4 ∨ v = 5 := by omega
 all_goals
   refine acall 8 1 Tryz.func71 rfl rfl rfl (by simp) rfl rfl ?_
   intro C hN hk
   refine nx ?_; refine rG hN hk noc [0] [0] fun K hK => ?_; simp only [go_sem, seval]; refine hK _ _ ?_
   clear hK K; refine nx ?_
   refine rG hN hk (onc 2 (ocq 0 q) noc) [0] [2] fun K hK => ?_; simp only [go_sem, seval]; refine obK (hK _ _ ?_)
   clear hK K; refine nx ?_
   refine AW.ret (mkRet [some 0] [] rfl (by simp [resOf, lk, lkh, I, str, B, U8, U64, U32, cdE, weL] <;> omega) (by first | (simp [wkHp, wkHp1, wkEnt, lkh, cdE, weL]; done) | simp [wkHp, wkHp1, wkEnt, lkh, I, str, cdE, weL]))
theorem time70 (L : List UInt8) (hL : L.length ≤ 2 ^ 20) (a : Nat) (ha : a ≤ L.length) :
   ∃ (t : Int) (a' : Nat), (0 ≤ t ∧ t ≤ 253402300799999) ∧ a' ≤ L.length ∧ ACall Tryz.prog 70 [.ptr 0 2 0 0] [some (cdE L a)] (I t) [some (cdE L a')] := by
 obtain ⟨v, a', h1, h2, q⟩ := next13 L hL a 4 ha (by omega) (by omega)
 obtain rfl | hv : v = 0 ∨ v ≠ 0 := by omega
 · obtain ⟨v2, a2, g1, g2, q2⟩ := next13 L hL a' 40 h1 (by omega) (by omega)
   have w1 := wrap64 (n := (v2 : Int) * 86400000) (by omega)
   refine ⟨(v2 : Int) * 86400000, a2, by omega, g1, ?_⟩
   refine acall 19 1 Tryz.func70 rfl rfl rfl (by simp) rfl rfl ?_
   intro C hN hk
   refine nx ?_; refine rG hN hk noc [0] [0] fun K hK => ?_; simp only [go_sem, seval]; refine hK _ _ ?_
   clear hK K; refine nx ?_
   refine rG hN hk (onc 1 (ocq 0 q) noc) [0] [0, 4] fun K hK => ?_; simp only [go_sem, seval]; refine obK (hK _ _ ?_)
   clear hK K; refine nx ?_
   refine rG hN hk noc [0] [0, 4, 5] fun K hK => ?_; simp only [go_sem, seval]
   try simp (disch := omega) only [au]
   refine hK _ _ ?_; clear hK K; refine nx ?_; refine cT ?_; refine nx ?_; refine rG hN hk (onc 1 (ocq 0 q2) noc) [0] [2] fun K hK => ?_; simp only [go_sem, seval, w1]
   try simp (disch := omega) only [au]
   refine obK (hK _ _ ?_); clear hK K; refine nx ?_
   refine AW.ret (mkRet [some 0] [] rfl (by simp [resOf, lk, lkh, I, str, B, U8, U64, U32, cdE] <;> omega) (by first | (simp [wkHp, wkHp1, wkEnt, lkh, cdE]; done) | simp [wkHp, wkHp1, wkEnt, lkh, I, str, cdE]))
 · have d0 : ((v : Int) == 0) = false := by simp; omega
   obtain rfl | hv1 : v = 1 ∨ v ≠ 1 := by omega
   · obtain ⟨v2, a2, g1, g2, q2⟩ := next13 L hL a' 3 h1 (by omega) (by omega)
     have w1 := wrap64 (n := (v2 : Int) * 86400000) (by omega)
     have w2 := wrap64 (n := 253402300799999 - (v2 : Int) * 86400000) (by omega)
     refine ⟨253402300799999 - (v2 : Int) * 86400000, a2, by omega, g1, ?_⟩
     refine acall 19 1 Tryz.func70 rfl rfl rfl (by simp) rfl rfl ?_
     intro C hN hk
     refine nx ?_; refine rG hN hk noc [0] [0] fun K hK => ?_; simp only [go_sem, seval]; refine hK _ _ ?_
     clear hK K; refine nx ?_
     refine rG hN hk (onc 1 (ocq 0 q) noc) [0] [0, 4] fun K hK => ?_; simp only [go_sem, seval]; refine obK (hK _ _ ?_)
     clear hK K; refine nx ?_
     refine rG hN hk noc [0] [0, 4, 5] fun K hK => ?_; simp only [go_sem, seval]
     try simp (disch := omega) only [au]
     refine hK _ _ ?_; clear hK K; refine nx ?_; refine cF ?_; refine nx ?_; refine rG hN hk noc [0] [0, 10] fun K hK => ?_; simp only [go_sem, seval]
     try simp (disch := omega) only [au]
     refine hK _ _ ?_; clear hK K; refine nx ?_; refine cT ?_; refine nx ?_; refine rG hN hk (onc 1 (ocq 0 q2) noc) [0] [2] fun K hK => ?_; simp only [go_sem, seval, w1, w2]
     try simp (disch := omega) only [au]
     refine obK (hK _ _ ?_); clear hK K; refine nx ?_
     refine AW.ret (mkRet [some 0] [] rfl (by simp [resOf, lk, lkh, I, str, B, U8, U64, U32, cdE] <;> omega) (by first | (simp [wkHp, wkHp1, wkEnt, lkh, cdE]; done) | simp [wkHp, wkHp1, wkEnt, lkh, I, str, cdE]))
   · obtain ⟨v2, a2, g1, g2, q2⟩ := next13 L hL a' 60 h1 (by omega) (by omega)
     have d1 : ((v : Int) == 1) = false := by simp; omega
     have w1 := wrap64 (n := 1000 + (v2 : Int)) (by omega)
     refine ⟨1000 + (v2 : Int), a2, by omega, g1, ?_⟩
     refine acall 19 1 Tryz.func70 rfl rfl rfl (by simp) rfl rfl ?_
     intro C hN hk
     refine nx ?_; refine rG hN hk noc [0] [0] fun K hK => ?_; simp only [go_sem, seval]; refine hK _ _ ?_
     clear hK K; refine nx ?_
     refine rG hN hk (onc 1 (ocq 0 q) noc) [0] [0, 4] fun K hK => ?_; simp only [go_sem, seval]; refine obK (hK _ _ ?_)
     clear hK K; refine nx ?_
     refine rG hN hk noc [0] [0, 4, 5] fun K hK => ?_; simp only [go_sem, seval, d0]
     try simp (disch := omega) only [au]
     refine hK _ _ ?_; clear hK K; refine nx ?_; refine cF ?_; refine nx ?_; refine rG hN hk noc [0] [0, 10] fun K hK => ?_; simp only [go_sem, seval, d1]
     try simp (disch := omega) only [au]
     refine hK _ _ ?_; clear hK K; refine nx ?_; refine cF ?_; refine nx ?_; refine rG hN hk (onc 1 (ocq 0 q2) noc) [0] [2] fun K hK => ?_; simp only [go_sem, seval, w1]
     try simp (disch := omega) only [au]
     refine obK (hK _ _ ?_); clear hK K; refine nx ?_
     refine AW.ret (mkRet [some 0] [] rfl (by simp [resOf, lk, lkh, I, str, B, U8, U64, U32, cdE] <;> omega) (by first | (simp [wkHp, wkHp1, wkEnt, lkh, cdE]; done) | simp [wkHp, wkHp1, wkEnt, lkh, I, str, cdE]))
def sepL : List S := [[32], [32], [44, 32], [61], []]
theorem sepL_len (i : Nat) : (sepL.getD i []).length ≤ 2 := getD_len (by decide) i
theorem text69 (L : List UInt8) (hL : L.length ≤ 2 ^ 20) (a : Nat) (ha : a ≤ L.length) :
   ACallE Tryz.prog 69 [.ptr 0 2 0 0] [some (cdE L a)] (fun x => ∃ (t : S) (a' : Nat), x = (str t, [some (cdE L a')]) ∧ t.length ≤ 100 ∧ a' ≤ L.length) := by
 obtain ⟨v, a1, h1, q1⟩ := word95 L hL a ha
 obtain ⟨n, a2, h2, h3, q2⟩ := next13 L hL a1 4 h1 (by omega) (by omega)
 have hw := wordL_len v
 generalize wordL.getD v [] = w at *
 refine acallE 24 1 Tryz.func69 rfl rfl rfl (by simp) rfl rfl ?_
 apply EX.step
 · intro xX C hN hk hqX
   refine nx ?_; refine rG hN hk noc [0] [0] fun K hK => ?_; simp only [go_sem, seval]; refine hK _ _ ?_
   clear hK K; refine nx ?_
   exact hqX
 apply EX.step
 · intro xX C hN hk hqX
   refine nx ?_; refine rG hN hk (onc 1 (ocq 0 q1) noc) [0] [0, 3] fun K hK => ?_; simp only [go_sem, seval]; refine obK (hK _ _ ?_)
   clear hK K; refine nx ?_
   exact hqX
 apply EX.step
 · intro xX C hN hk hqX
   refine nx ?_; refine rG hN hk (onc 1 (ocq 0 q2) noc) [0] [0, 3, 4] fun K hK => ?_; simp only [go_sem, seval]; refine obK (hK _ _ ?_)
   clear hK K; refine nx ?_
   exact hqX
 apply EX.step
 · intro xX C hN hk hqX
   refine nx ?_
   exact hqX
 refine lpX 1 (fun s : Nat × S × Nat => ⟨[(0, .ptr 0 2 0 0), (3, str s.2.1), (4, I s.1)], [(0, some ⟨70, 2, [[.sl 1 (bytesE L), I s.2.2]]⟩)]⟩) (fun s => s.1 ≤ 3 ∧ s.2.1.length + 21 * s.1 ≤ 100 ∧ s.2.2 ≤ L.length) (fun s => s.1) (n, w, a2) (mkWk [some 0] [] (by simp [wkEnv, lk, lkh, I, str, B, U8, U64, U32] <;> omega) (by first | (simp [wkHp, wkHp1, wkEnt, lkh]; done) | simp [wkHp, wkHp1, wkEnt, lkh, I, str])) ?_
 intro ⟨j, t, a3⟩ hI Y hY
 obtain ⟨g1, g2, g3⟩ := hI
 simp only at g1 g2 g3
 cases j with
 | zero =>
   have d0 : decide (((0 : Nat) : Int) > 0) = false := by simp
   apply EX.step
   · intro xX C hN hk hqX
     refine nx ?_; refine rG hN hk noc [0] [0, 3, 4, 10] fun K hK => ?_; simp only [go_sem, seval, d0]
     try simp (disch := omega) only [au]
     refine hK _ _ ?_; clear hK K; refine nx ?_
     exact hqX
   apply EX.step
   · intro xX C hN hk hqX
     refine nx ?_; refine cF ?_; refine nx ?_
     exact hqX
   apply EX.step
   · intro xX C hN hk hqX
     refine nx ?_; refine rG hN hk noc [0] [2] fun K hK => ?_; simp only [go_sem, seval]; refine hK _ _ ?_
     clear hK K; refine nx ?_
     exact hqX
   refine EX.ret (str t) [some (cdE L a3)] ?_ (fun C hN hk => AW.ret (mkRet [some 0] [] rfl (by simp [resOf, lk, lkh, I, str, B, U8, U64, U32, cdE] <;> omega) (by first | (simp [wkHp, wkHp1, wkEnt, lkh, cdE]; done) | simp [wkHp, wkHp1, wkEnt, lkh, I, str, cdE])))
   exact ⟨t, a3, rfl, by omega, g3⟩
 | succ j =>
   obtain ⟨v3, a4, k1, k2, q3⟩ := next13 L hL a3 5 g3 (by omega) (by omega)
   obtain ⟨v4, a5, k3, q4⟩ := word95 L hL a4 k1
   have d0 : decide (((j + 1 : Nat) : Int) > 0) = true := by simp
   have e1 : (((j + 1 : Nat) : Int) - 1) = (j : Int) := by omega
   have w1 := wrap64 (n := (j : Int)) (by omega)
   have hw4 := wordL_len v4
   have hs3 := sepL_len v3
   generalize wordL.getD v4 [] = u at *
   obtain ⟨t', ht'⟩ : ∃ t', t' = t ++ (sepL.getD v3 [] ++ u) := ⟨_, rfl⟩
   have hlen : t'.length ≤ t.length + 21 := by rw [ht']; simp only [List.length_append]; omega
   obtain rfl | rfl | rfl | rfl | rfl : v3 = 0 ∨ v3 = 1 ∨ v3 = 2 ∨ v3 = 3 ∨ v3 = 4 := by omega
   all_goals
     apply EX.step
     · intro xX C hN hk hqX
       refine nx ?_; refine rG hN hk noc [0] [0, 3, 4, 10] fun K hK => ?_; simp only [go_sem, seval, d0]
       try simp (disch := omega) only [au]
       refine hK _ _ ?_; clear hK K; refine nx ?_
       exact hqX
     apply EX.step
     · intro xX C hN hk hqX
       refine nx ?_; refine cT ?_; refine nx ?_
       exact hqX
     apply EX.step
     · intro xX C hN hk hqX
       refine nx ?_
       refine rD hN hk (onc 3 (ocq 0 q3) (onc 7 (ocq 0 q4) noc)) [0] [0, 3, 4] fun K tok htok hK => ?_
       simp only [go_sem, seval]
       try simp (disch := omega) only [au]
       refine ⟨htok _ (by decide +kernel), ?_⟩
       refine obK (hK _ _ ?_); clear hK K htok tok
       refine nx ?_
       exact hqX
     apply EX.step
     · intro xX C hN hk hqX
       refine nx ?_; refine rG hN hk noc [0] [0, 3, 4] fun K hK => ?_; simp only [go_sem, seval, e1, w1]
       try simp (disch := omega) only [au]
       refine hK _ _ ?_; clear hK K; refine nx ?_
       exact hqX
     refine eY hY ((j, t', a5)) (mkWk [some 0] [] (by simp [wkEnv, lk, lkh, I, str, B, U8, U64, U32, ht', sepL] <;> omega) (by first | (simp [wkHp, wkHp1, wkEnt, lkh, ht', sepL]; done) | simp [wkHp, wkHp1, wkEnt, lkh, I, str, ht', sepL]))
end Go.Proofs.YtceeklfmlheofaaGreat
