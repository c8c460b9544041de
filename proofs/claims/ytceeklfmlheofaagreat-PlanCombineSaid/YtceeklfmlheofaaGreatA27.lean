/-
  Part 27 of the proof that logtidelaw41.PlanCombine returns true for every list of bytes and leaves its argument as it was; no condition.
-/
import Derived.Test.YtceeklfmlheofaaGreatA12
import Derived.Test.YtceeklfmlheofaaGreatA26
set_option linter.unusedSimpArgs false
set_option linter.unusedVariables false
namespace Go.Proofs.YtceeklfmlheofaaGreat
open Go.Av
attribute [local irreducible] ACall
/-- The posting lists while they are made. -/
def addAt (X : List (List Int)) (p : Nat) (i : Int) : List (List Int) := X.set p (X.getD p [] ++ [i])
theorem addAt_len (X : List (List Int)) (p : Nat) (i : Int) : (addAt X p i).length = X.length := by simp [addAt]
def pkTo (d : List S) (ws : List S) (i : Nat) (X : List (List Int)) : Nat → List (List Int)
 | 0 => X
 | k + 1 => addAt (pkTo d ws i X k) (idxF d (ws.getD k [])) i
def pxTo (d : List S) (l : List Ev) : Nat → List (List Int)
 | 0 => List.replicate d.length []
 | i + 1 => pkTo d (wordsF (textF (l.getD i ⟨0, 0, 0, 0, [], 0, 0, [], [], []⟩))) i (pxTo d l i) (wordsF (textF (l.getD i ⟨0, 0, 0, 0, [], 0, 0, [], [], []⟩))).length
theorem pkTo_len (d ws : List S) (i : Nat) (X : List (List Int)) : ∀ k, (pkTo d ws i X k).length = X.length
 | 0 => rfl
 | k + 1 => by simp [pkTo, addAt_len, pkTo_len d ws i X k]
theorem pxTo_len (d : List S) (l : List Ev) : ∀ i, (pxTo d l i).length = d.length
 | 0 => by simp [pxTo]
 | i + 1 => by simp [pxTo, pkTo_len, pxTo_len d l i]
theorem addAt_get (Y : List (List Int)) (p q : Nat) (i : Int) : ((addAt Y p i).getD q []).length ≤ (Y.getD q []).length + 1 := by
 unfold addAt
 by_cases h : q < Y.length
 · by_cases hp : p = q
   · subst hp; simp [List.getD, h]
   · simp [List.getD, h, hp, List.getElem?_set_ne hp]
 · simp [List.getD, List.getElem?_eq_none (Nat.le_of_not_lt h), List.getElem?_eq_none (show (Y.set p ((Y[p]?).getD [] ++ [i])).length ≤ q by simp; omega)]
theorem pkTo_big (d ws : List S) (i : Nat) (X : List (List Int)) (b : Nat) (hX : ∀ p, (X.getD p []).length ≤ b) : ∀ k p, ((pkTo d ws i X k).getD p []).length ≤ b + k
 | 0, p => hX p
 | k + 1, p => by
   have h1 := pkTo_big d ws i X b hX k p
   have h2 := addAt_get (pkTo d ws i X k) (idxF d (ws.getD k [])) p i
   rw [pkTo]; omega
theorem pxTo_big (d : List S) (l : List Ev) (h : ∀ e ∈ l, (wordsF (textF e)).length ≤ 80041) : ∀ i, i ≤ l.length → ∀ p, ((pxTo d l i).getD p []).length ≤ i * 80041
 | 0, _, p => by
   simp only [pxTo, List.getD, List.getElem?_replicate]
   split <;> simp
 | i + 1, hi, p => by
   have h1 := pxTo_big d l h i (by omega)
   have e : l.getD i ⟨0, 0, 0, 0, [], 0, 0, [], [], []⟩ = l[i] := by simp [List.getD, show i < l.length by omega]
   have h2 := pkTo_big d (wordsF (textF l[i])) i (pxTo d l i) _ h1 (wordsF (textF l[i])).length p
   have h3 := h l[i] (List.getElem_mem _)
   rw [pxTo, e]; omega
theorem intEs_plain (X : List (List Int)) : ∀ L ∈ X.map intE, idLtE 0 L = true := by
 intro L hL
 obtain ⟨v, _, rfl⟩ := List.mem_map.1 hL
 simp
def LOk (b : Nat) (L : List Int) : Prop := L.Pairwise (· < ·) ∧ ∀ x ∈ L, 0 ≤ x ∧ x < (b : Int)
theorem LOk.up {b b' : Nat} {L : List Int} (h : b ≤ b') (hl : LOk b L) : LOk b' L := ⟨hl.1, fun x hx => by have := hl.2 x hx; omega⟩
theorem LOk.snoc {b : Nat} {L : List Int} (hl : LOk b L) : LOk (b + 1) (L ++ [(b : Int)]) := by
 refine ⟨?_, ?_⟩
 · rw [List.pairwise_append]
   exact ⟨hl.1, by simp, fun a ha c hc => by rw [List.mem_singleton.1 hc]; exact (hl.2 a ha).2⟩
 · intro x hx
   rcases List.mem_append.1 hx with hx | hx
   · have := hl.2 x hx; omega
   · rw [List.mem_singleton.1 hx]; omega
theorem asc_len : ∀ (L : List Int) (a b : Int), L.Pairwise (· < ·) → (∀ x ∈ L, a ≤ x ∧ x < b) → (L.length : Int) ≤ max 0 (b - a)
 | [], a, b, _, _ => by simp; omega
 | x :: L, a, b, h, hr => by
   have h1 := List.pairwise_cons.1 h
   have h2 := asc_len L (x + 1) b h1.2 (fun y hy => ⟨by have := h1.1 y hy; omega, (hr y (by simp [hy])).2⟩)
   have h3 := hr x (by simp)
   simp only [List.length_cons]; omega
theorem LOk.post {b : Nat} {L : List Int} (h : LOk b L) (hb : b ≤ 4096) : Post L := by
 have := asc_len L 0 b h.1 h.2
 refine ⟨by omega, fun i hi => ?_, fun i hi => ?_⟩
 · have := h.2 _ (List.getElem_mem hi); omega
 · exact List.pairwise_iff_getElem.1 h.1 i (i + 1) (by omega) hi (by omega)
theorem addAt_at (Y : List (List Int)) (p : Nat) (i : Int) (h : p < Y.length) : (addAt Y p i).getD p [] = Y.getD p [] ++ [i] := by
 unfold addAt; simp [List.getD, h]
theorem addAt_ne (Y : List (List Int)) (p q : Nat) (i : Int) (h : p ≠ q) : (addAt Y p i).getD q [] = Y.getD q [] := by
 unfold addAt; simp [List.getD, List.getElem?_set_ne h]
theorem pkTo_ok (d ws : List S) (i : Nat) (X : List (List Int)) (hd : d.Pairwise ltS) (hws : ws.Pairwise ltS) (hm : ∀ w ∈ ws, w ∈ d) (hX : X.length = d.length) (h0 : ∀ p, LOk i (X.getD p [])) :
   ∀ k, k ≤ ws.length → ∀ p, LOk (i + 1) ((pkTo d ws i X k).getD p []) ∧ ((∀ j, j < k → idxF d (ws.getD j []) ≠ p) → LOk i ((pkTo d ws i X k).getD p []))
 | 0, _, p => ⟨(h0 p).up (by omega), fun _ => h0 p⟩
 | k + 1, hk, p => by
   have IH := pkTo_ok d ws i X hd hws hm hX h0 k (by omega)
   have hwk : ws.getD k [] = ws[k] := by simp [List.getD, show k < ws.length by omega]
   have hg := idxF_get d ws[k] hd (hm _ (List.getElem_mem _))
   rw [pkTo]
   by_cases hp : idxF d (ws.getD k []) = p
   · subst hp
     have hfresh : ∀ j, j < k → idxF d (ws.getD j []) ≠ idxF d (ws.getD k []) := by
       intro j hj he
       have hwj : ws.getD j [] = ws[j] := by simp [List.getD, show j < ws.length by omega]
       have hgj := idxF_get d ws[j] hd (hm _ (List.getElem_mem _))
       rw [hwj, hwk] at he
       rw [he, hg.1] at hgj
       have hlt := List.pairwise_iff_getElem.1 hws j k (by omega) (by omega) hj
       have : ws[k] = ws[j] := by simpa using hgj.1
       rw [this] at hlt
       exact ltS_irrefl _ hlt
     rw [addAt_at _ _ _ (by rw [pkTo_len, hX, hwk]; exact hg.2)]
     exact ⟨((IH _).2 hfresh).snoc, fun h => absurd rfl (h k (by omega))⟩
   · rw [addAt_ne _ _ _ _ hp]
     exact ⟨(IH p).1, fun h => (IH p).2 (fun j hj => h j (by omega))⟩
theorem pxTo_ok (d : List S) (l : List Ev) (hd : d.Pairwise ltS) (hww : ∀ e ∈ l, ∀ w ∈ wordsF (textF e), w ∈ d) : ∀ i, i ≤ l.length → ∀ p, LOk i ((pxTo d l i).getD p [])
 | 0, _, p => by
   simp only [pxTo, List.getD, List.getElem?_replicate]
   split <;> exact ⟨by simp, by simp⟩
 | i + 1, hi, p => by
   have IH := pxTo_ok d l hd hww i (by omega)
   have e : l.getD i ⟨0, 0, 0, 0, [], 0, 0, [], [], []⟩ = l[i] := by simp [List.getD, show i < l.length by omega]
   rw [pxTo, e]
   exact (pkTo_ok d _ i _ hd (distF_sorted _) (hww l[i] (List.getElem_mem _)) (pxTo_len d l i) IH _ (Nat.le_refl _) p).1
theorem pxTo_post (d : List S) (l : List Ev) (hl : l.length ≤ 4096) (hd : d.Pairwise ltS) (hww : ∀ e ∈ l, ∀ w ∈ wordsF (textF e), w ∈ d) : ∀ L ∈ pxTo d l l.length, Post L := by
 intro L hL
 obtain ⟨p, hp, rfl⟩ := List.getElem_of_mem hL
 have := pxTo_ok d l hd hww l.length (Nat.le_refl _) p
 rw [show (pxTo d l l.length).getD p [] = (pxTo d l l.length)[p] by simp [List.getD, hp]] at this
 exact this.post hl
theorem words_all (l : List Ev) : ∀ e ∈ l, ∀ w ∈ wordsF (textF e), w ∈ allWords l := by
 intro e he w hw
 refine (distF_mem _ _).2 ?_
 unfold wsTo
 rw [List.take_length]
 exact List.mem_flatMap.2 ⟨e, he, hw⟩
def xbTo (d : List S) (X : List (List Int)) (i : Nat) : List UInt8 := blockF (enc23F d) ++ (X.take i).flatMap fun L => blockF (enc25 L)
theorem xbTo_s (d : List S) (X : List (List Int)) (i : Nat) (h : i < X.length) : xbTo d X (i + 1) = xbTo d X i ++ blockF (enc25 X[i]) := by
 unfold xbTo
 rw [List.take_add_one, List.getElem?_eq_getElem h, List.flatMap_append]
 simp only [Option.toList, List.flatMap_cons, List.flatMap_nil, List.append_nil, List.append_assoc]
theorem xbTo_len (d : List S) (X : List (List Int)) (hc : check23F d = 0) (hX : ∀ L ∈ X, Post L) : ∀ i, i ≤ X.length → (xbTo d X i).length ≤ 70000000 + i * 100011
 | 0, _ => by
   have h1 := enc23F_len d hc
   have h2 := blockF_len (enc23F d)
   have h3 := (longS_of d hc).2
   simp [xbTo]; omega
 | i + 1, hi => by
   have := xbTo_len d X hc hX i (by omega)
   have h1 := enc25_len X[i] (hX _ (List.getElem_mem _))
   have h2 := blockF_len (enc25 X[i])
   rw [xbTo_s d X i (by omega), List.length_append]; omega
def indexF (l : List Ev) : List UInt8 := xbTo (allWords l) (pxTo (allWords l) l l.length) (pxTo (allWords l) l l.length).length
theorem wsTo_short (l : List Ev) : ∀ s ∈ wsTo l l.length, s.length ≤ 2048 := by
 intro s hs
 unfold wsTo at hs
 obtain ⟨e, he, hs⟩ := List.mem_flatMap.1 hs
 have := wordsF_short _ s hs; omega
theorem index27 (l : List Ev) (hl : l.length ≤ 4096) (h : ∀ e ∈ l, EvT e) (hw : (allWords l).length ≤ 32768) : ACall Tryz.prog 54 [.sl 10 (evE l)] [] (.osl 0 (indexF l).length 1) [some ⟨5, 1, bytesE (indexF l)⟩] := by
 have hww := words_all l
 have hds0 : (allWords l).Pairwise ltS := distF_sorted _
 have hpost := pxTo_post (allWords l) l hl hds0 hww
 have hc : check23F (allWords l) = 0 := check23_dist2 _ hw (wsTo_short l)
 have hxb := xbTo_len (allWords l) (pxTo (allWords l) l l.length) hc hpost
 have hxs := xbTo_s (allWords l) (pxTo (allWords l) l l.length)
 have q5 := dictionary27 (allWords l) hc (by omega) (short_of _ hc)
 have hel := enc23F_len _ hc
 have q6 := putBlockN (enc23F (allWords l)) (by omega)
 have hbl := blockF_len (enc23F (allWords l))
 have hx0 : xbTo (allWords l) (pxTo (allWords l) l l.length) 0 = blockF (enc23F (allWords l)) := by simp [xbTo]
 have hxL := pxTo_len (allWords l) l l.length
 unfold indexF
 clear hc hds0
 refine acall 71 0 Tryz.func54 rfl rfl rfl (by simp) rfl rfl ?_
 intro C hN hk
 have q0 := words27a l hl h
 have hwl0 : ∀ e ∈ l, (wordsF (textF e)).length ≤ 80041 := by
   intro e he
   have h1 := wordsF_len (textF e)
   have h2 := textF_len e (h e he)
   omega
 have hds : (allWords l).Pairwise ltS := distF_sorted _
 generalize xbTo (allWords l) (pxTo (allWords l) l l.length) = xb at *
 generalize blockF (enc23F (allWords l)) = bd at *
 generalize enc23F (allWords l) = ed at *
 generalize allWords l = d at *
 refine nx ?_; refine rG hN hk noc [] [0] fun K hK => ?_; simp only [go_sem, seval]; refine hK _ _ ?_
 clear hK K; refine nx ?_
 refine rG hN hk (onc 1 (pcq q0) noc) [] [0, 3] fun K hK => ?_; simp only [go_sem, seval]; refine obK (hK _ _ ?_)
 clear hK K; refine nx ?_
 refine rG hN hk noc [] [0, 3, 4] fun K hK => ?_; simp only [go_sem, seval]
 (first | with_reducible refine hK _ _ ?_ | refine obK (hK _ _ ?_)); clear hK K; refine nx ?_
 refine rG hN hk noc [] [0, 3, 4, 5] fun K hK => ?_; simp only [go_sem, seval]; refine hK _ _ ?_
 clear hK K; refine nx ?_
 have FC : ∀ env : List (Nat × AV), envLt 2 env = true → FamC 1 env [(0, some ⟨9, 1, strE d⟩)] := fun env he => ⟨rfl, by simp [entsLt], he⟩
 refine AW.famNew (o := 1) (sz := 1) (ty := 3) (oty := 55) (m := d.length) (hp := [(0, some ⟨9, 1, strE d⟩)]) hk (by omega) (FC _ rfl) ?_
 refine AW.loopS (k := 0) (fun i : Nat => SO [(0, .sl 10 (evE l)), (3, .osl 0 d.length 1), (4, .osl 1 d.length 1), (5, I i)] [(0, some ⟨9, 1, strE d⟩)] 1 1 3 55 ((pxTo d l i).map intE)) (fun i => i ≤ l.length) (fun i => l.length - i) 0 (by omega) (by simp [pxTo, I]) ?_
 intro i h1
 have hpl := intEs_plain (pxTo d l i)
 have hxl := pxTo_len d l i
 have hm : 1 + 1 + d.length = 1 + 1 + ((pxTo d l i).map intE).length := by simp [hxl]
 have hno : ((pxTo d l i).map intE)[d.length]? = none := by simp [hxl]
 by_cases hi : i < l.length
 · have hx := List.getElem?_eq_getElem hi
   have he := h _ (List.getElem_mem hi)
   have q0 := text12 l[i] he.nl he.tx
   have hwl := wordsF_len (textF l[i])
   have ht := textF_len l[i] he
   have q1 := words27 (textF l[i]) (by omega)
   have hpx : pxTo d l (i + 1) = pkTo d (wordsF (textF l[i])) i (pxTo d l i) (wordsF (textF l[i])).length := by
     rw [pxTo, show l.getD i ⟨0, 0, 0, 0, [], 0, 0, [], [], []⟩ = l[i] by simp [List.getD, hi]]
   have hmem : ∀ w ∈ wordsF (textF l[i]), w ∈ d := hww l[i] (List.getElem_mem hi)
   generalize wordsF (textF l[i]) = ws at *
   generalize textF l[i] = tx at *
   generalize l[i] = ev at *
   generalize hXe : pxTo d l i = X at *
   refine nx ?_
   rw [hm]
   refine AW.famE hN hk (d.length) (.normal) [(0, .sl 10 (evE l)), (3, .osl 0 d.length 1), (4, .osl 1 d.length 1), (5, I i), (20, B true)] [(0, some ⟨9, 1, strE d⟩)] 1 (none) (by omega) (FC _ rfl) hpl (by omega) (FC _ rfl) (by simp) (by first | (simp; done) | (simp [hxl]; done) | (simp [hxl]; omega)) ?_ ?_
   · intro C vs hN hk hvl
     rw [hno]
     simp only [Go.Av.ST, tcell, Option.map_none, List.cons_append, List.nil_append, Nat.reduceAdd]
     refine nx ?_
     refine AW.rcK mixed hN hk (noc) [0, 1, 2] [0, 3, 4, 5, 20] 3 (by omega) rfl (by decide +kernel) (fun K hK => ?_)
     simp only [go_sem, seval]
     try simp (disch := omega) only [au]
     (first | with_reducible refine hK _ _ ?_ | refine obK (hK _ _ ?_)); clear hK K; refine nx ?_
     refine ⟨rfl, [some 0, some 1], [], ⟨by simp [srcIds], by simp [srcIds], by simp⟩, by simp, by simp [wkEnv, lk, lkh, I, str, B, U8, U64, U32] <;> omega, by first | (simp [wkHp, wkHp1, wkEnt, lkh]; done) | (simp [wkHp, wkHp1, wkEnt, lkh, I, str]; done) | simp [wkHp, wkHp1, wkEnt, lkh, I, str]⟩
   rw [← hm]
   refine qNext ?_
   refine AW.condT rfl (AW.skip (qNext ?_))
   simp only [famPut]
   refine nx ?_
   rw [hm]
   refine AW.famE hN hk (d.length) (.normal) [(0, .sl 10 (evE l)), (3, .osl 0 d.length 1), (4, .osl 1 d.length 1), (5, I i), (6, .sl 1 (strE ws))] [(0, some ⟨9, 1, strE d⟩)] 1 (none) (by omega) (FC _ rfl) hpl (by omega) (FC _ rfl) (by simp) (by first | (simp; done) | (simp [hxl]; done) | (simp [hxl]; omega)) ?_ ?_
   · intro C vs hN hk hvl
     rw [hno]
     simp only [Go.Av.ST, tcell, Option.map_none, List.cons_append, List.nil_append, Nat.reduceAdd]
     refine nx ?_
     refine AW.rcK mixed hN hk (onc 4 (pcq q0) (onc 5 (pcq q1) noc)) [0, 1, 2] [0, 3, 4, 5, 6] 3 (by omega) rfl (by decide +kernel) (fun K hK => ?_)
     simp only [go_sem, seval, hx]; refine obK (hK _ _ ?_)
     clear hK K; refine nx ?_
     refine ⟨rfl, [some 0, some 1], [3], ⟨by simp [srcIds], by simp [srcIds], by simp⟩, by simp, by simp [wkEnv, lk, lkh, I, str, B, U8, U64, U32] <;> omega, by first | (simp [wkHp, wkHp1, wkEnt, lkh]; done) | (simp [wkHp, wkHp1, wkEnt, lkh, I, str]; done) | simp [wkHp, wkHp1, wkEnt, lkh, I, str]⟩
   rw [← hm]
   refine qNext ?_
   simp only [famPut]
   refine nx ?_
   rw [hm]
   refine AW.famE hN hk (d.length) (.normal) [(0, .sl 10 (evE l)), (3, .osl 0 d.length 1), (4, .osl 1 d.length 1), (5, I i), (6, .sl 1 (strE ws)), (7, I 0)] [(0, some ⟨9, 1, strE d⟩)] 1 (none) (by omega) (FC _ rfl) hpl (by omega) (FC _ rfl) (by simp) (by first | (simp; done) | (simp [hxl]; done) | (simp [hxl]; omega)) ?_ ?_
   · intro C vs hN hk hvl
     rw [hno]
     simp only [Go.Av.ST, tcell, Option.map_none, List.cons_append, List.nil_append, Nat.reduceAdd]
     refine nx ?_
     refine AW.rcK mixed hN hk (noc) [0, 1, 2] [0, 3, 4, 5, 6, 7] 3 (by omega) rfl (by decide +kernel) (fun K hK => ?_)
     simp only [go_sem, seval]; refine hK _ _ ?_
     clear hK K; refine nx ?_
     refine ⟨rfl, [some 0, some 1], [], ⟨by simp [srcIds], by simp [srcIds], by simp⟩, by simp, by simp [wkEnv, lk, lkh, I, str, B, U8, U64, U32] <;> omega, by first | (simp [wkHp, wkHp1, wkEnt, lkh]; done) | (simp [wkHp, wkHp1, wkEnt, lkh, I, str]; done) | simp [wkHp, wkHp1, wkEnt, lkh, I, str]⟩
   rw [← hm]
   refine qNext ?_
   simp only [famPut]
   clear hpl hno hm
   refine nx ?_
   refine AW.loopS (k := 0) (fun k : Nat => SO [(0, .sl 10 (evE l)), (3, .osl 0 d.length 1), (4, .osl 1 d.length 1), (5, I i), (6, .sl 1 (strE ws)), (7, I k)] [(0, some ⟨9, 1, strE d⟩)] 1 1 3 55 ((pkTo d ws i X k).map intE)) (fun k => k ≤ ws.length) (fun k => ws.length - k) 0 (by omega) (by simp [pkTo]) ?_
   intro k h2
   have hpl := intEs_plain (pkTo d ws i X k)
   have hxl2 := pkTo_len d ws i X k
   have hm : 1 + 1 + d.length = 1 + 1 + ((pkTo d ws i X k).map intE).length := by simp [hxl2, hxl]
   have hno : ((pkTo d ws i X k).map intE)[d.length]? = none := by simp [hxl2, hxl]
   by_cases hk2 : k < ws.length
   · have hy := List.getElem?_eq_getElem hk2
     have hget := idxF_get d ws[k] hds (hmem _ (List.getElem_mem hk2))
     have q2 := index1 d ws[k] (by omega)
     have hpk : pkTo d ws i X (k + 1) = addAt (pkTo d ws i X k) (idxF d ws[k]) i := by
       rw [pkTo, show ws.getD k [] = ws[k] by simp [List.getD, hk2]]
     generalize ws[k] = wd at *
     generalize hpe : idxF d wd = p at *
     generalize idxB d wd = pb at *
     generalize hYe : pkTo d ws i X k = Y at *
     have hpl2 : p < Y.length := by omega
     have hat : (Y.map intE)[p]? = some (intE (Y.getD p [])) := by simp [List.getD, hpl2]
     have hYl : (Y.getD p []).length ≤ i * 80041 + k := by rw [← hYe, ← hXe]; exact pkTo_big d ws i _ _ (pxTo_big d l hwl0 i h1) k p
     generalize hZe : Y.getD p [] = Z at *
     rw [hm]
     refine AW.famE hN hk p .normal [(0, .sl 10 (evE l)), (3, .osl 0 d.length 1), (4, .osl 1 d.length 1), (5, I i), (6, .sl 1 (strE ws)), (7, I (k + 1 : Nat))] [(0, some ⟨9, 1, strE d⟩)] 1 (some (intE (Z ++ [(i : Int)]))) (by omega) (FC _ rfl) hpl (by omega) (FC _ rfl) (by simp) (by simp; omega) ?_ ?_
     · intro C vs hN hk hvl
       rw [hat]
       simp only [Go.Av.ST, tcell, Option.map_some, List.cons_append, List.nil_append, Nat.reduceAdd]
       have hvp : p < vs.length := by rw [hvl]; simpa using hpl2
       have hv0 := fun c => valC_self (c := c) hvp
       refine nx ?_
       refine AW.rcK mixed hN hk (noc) [0, 1, 2] [0, 3, 4, 5, 6, 7, 32] 3 (by omega) rfl (by decide +kernel) (fun K hK => ?_)
       simp only [go_sem, seval]
       try simp (disch := omega) only [au]
       (first | with_reducible refine hK _ _ ?_ | refine obK (hK _ _ ?_)); clear hK K; refine nx ?_
       refine cT ?_; refine nx ?_
       refine AW.rcK mixed hN hk (onc 5 (bcq [0] q2) noc) [0, 1, 2] [0, 3, 4, 5, 6, 7, 8] 3 (by omega) rfl (by decide +kernel) (fun K hK => ?_)
       simp only [go_sem, seval, hy]; refine obK (hK _ _ ?_)
       clear hK K; refine nx ?_
       refine AW.rcK mixed hN hk (noc) [0, 1, 2] [0, 3, 4, 5, 6, 7, 52] 3 (by omega) rfl (by decide +kernel) (fun K hK => ?_)
       simp only [go_sem, seval, hv0]
       (first | with_reducible refine hK _ _ ?_ | refine obK (hK _ _ ?_)); clear hK K; refine nx ?_
       refine AW.rcK mixed hN hk (noc) [0, 1, 2] [0, 3, 4, 5, 6, 7, 52] 3 (by omega) rfl (by decide +kernel) (fun K hK => ?_)
       simp only [go_sem, seval]
       try simp (disch := omega) only [au]
       refine hK _ _ ?_; clear hK K; refine nx ?_
       refine ⟨rfl, [some 0, some 1, some 3], [], ⟨by simp [srcIds], by simp [srcIds], by simp⟩, by simp, by simp [wkEnv, lk, lkh, I, str, B, U8, U64, U32, wkE_valC_iff hvp] <;> omega, by first | (simp [wkHp, wkHp1, wkEnt, lkh, wkE_valC_iff hvp]; done) | (simp [wkHp, wkHp1, wkEnt, lkh, I, str, wkE_valC_iff hvp]; done) | simp [wkHp, wkHp1, wkEnt, lkh, I, str, wkE_valC_iff hvp]⟩
     · refine qNext ⟨by first | rfl | exact hm.symm, k + 1, by omega, by omega, ?_⟩
       simp only [famPut]
       rw [hpk]
       unfold addAt
       rw [hZe, List.map_set]
   · have hke : k = ws.length := by omega
     rw [hm]
     refine AW.famE hN hk d.length (.exit 2) [(0, .sl 10 (evE l)), (3, .osl 0 d.length 1), (4, .osl 1 d.length 1), (5, I i)] [(0, some ⟨9, 1, strE d⟩)] 1 none (by omega) (FC _ rfl) hpl (by omega) (FC _ rfl) (by simp) (by simp [hxl2, hxl]) ?_ ?_
     · intro C vs hN hk hvl
       rw [hno]
       simp only [Go.Av.ST, tcell, Option.map_none, List.cons_append, List.nil_append, Nat.reduceAdd]
       refine nx ?_
       refine AW.rcK mixed hN hk (noc) [0, 1, 2] [0, 3, 4, 5, 6, 7, 32] 3 (by omega) rfl (by decide +kernel) (fun K hK => ?_)
       simp only [go_sem, seval]
       try simp (disch := omega) only [au]
       (first | with_reducible refine hK _ _ ?_ | refine obK (hK _ _ ?_)); clear hK K; refine nx ?_
       refine cF ?_; refine nx ?_
       refine ⟨rfl, [some 0, some 1], [], ⟨by simp [srcIds], by simp [srcIds], by simp⟩, by simp, by simp [wkEnv, lk, lkh, I, str, B, U8, U64, U32] <;> omega, by first | (simp [wkHp, wkHp1, wkEnt, lkh]; done) | (simp [wkHp, wkHp1, wkEnt, lkh, I, str]; done) | simp [wkHp, wkHp1, wkEnt, lkh, I, str]⟩
     · refine nx ?_
       simp only [famPut]
       refine AW.famE hN hk d.length .normal [(0, .sl 10 (evE l)), (3, .osl 0 d.length 1), (4, .osl 1 d.length 1), (5, I (i + 1 : Nat))] [(0, some ⟨9, 1, strE d⟩)] 1 none (by omega) (FC _ rfl) hpl (by omega) (FC _ rfl) (by simp) (by simp [hxl2, hxl]) ?_ ?_
       · intro C vs hN hk hvl
         rw [hno]
         simp only [Go.Av.ST, tcell, Option.map_none, List.cons_append, List.nil_append, Nat.reduceAdd]
         refine nx ?_
         refine AW.rcK mixed hN hk (noc) [0, 1, 2] [0, 3, 4, 5] 3 (by omega) rfl (by decide +kernel) (fun K hK => ?_)
         simp only [go_sem, seval]
         try simp (disch := omega) only [au]
         refine hK _ _ ?_; clear hK K; refine nx ?_
         refine ⟨rfl, [some 0, some 1], [], ⟨by simp [srcIds], by simp [srcIds], by simp⟩, by simp, by simp [wkEnv, lk, lkh, I, str, B, U8, U64, U32] <;> omega, by first | (simp [wkHp, wkHp1, wkEnt, lkh]; done) | (simp [wkHp, wkHp1, wkEnt, lkh, I, str]; done) | simp [wkHp, wkHp1, wkEnt, lkh, I, str]⟩
       · refine qNext ⟨by first | rfl | exact hm.symm, i + 1, by omega, by omega, ?_⟩
         simp only [famPut]
         rw [hpx, hke]
 · have hie : i = l.length := by omega
   rw [hm]
   refine AW.famE hN hk d.length (.exit 0) [(3, .osl 0 d.length 1), (4, .osl 1 d.length 1)] [(0, some ⟨9, 1, strE d⟩)] 1 none (by omega) (FC _ rfl) hpl (by omega) (FC _ rfl) (by simp) (by simp [hxl]) ?_ ?_
   · intro C vs hN hk hvl
     rw [hno]
     simp only [Go.Av.ST, tcell, Option.map_none, List.cons_append, List.nil_append, Nat.reduceAdd]
     refine nx ?_
     refine AW.rcK mixed hN hk (noc) [0, 1, 2] [0, 3, 4, 5, 20] 3 (by omega) rfl (by decide +kernel) (fun K hK => ?_)
     simp only [go_sem, seval]
     try simp (disch := omega) only [au]
     (first | with_reducible refine hK _ _ ?_ | refine obK (hK _ _ ?_)); clear hK K; refine nx ?_
     refine cF ?_; refine nx ?_
     refine ⟨rfl, [some 0, some 1], [], ⟨by simp [srcIds], by simp [srcIds], by simp⟩, by simp, by simp [wkEnv, lk, lkh, I, str, B, U8, U64, U32] <;> omega, by first | (simp [wkHp, wkHp1, wkEnt, lkh]; done) | (simp [wkHp, wkHp1, wkEnt, lkh, I, str]; done) | simp [wkHp, wkHp1, wkEnt, lkh, I, str]⟩
   refine nx ?_
   simp only [famPut]
   rw [← hm, hie]
   subst hie
   generalize pxTo d l l.length = X at *
   have FO := SO_ok (sz := 1) (ty := 3) (oty := 55) (FC [(3, .osl 0 d.length 1), (4, .osl 1 d.length 1)] rfl) hpl
   refine AW.wk hk 2 ⟨[(3, .osl 0 d.length 1), (4, .osl 1 d.length 1)], [(0, some ⟨9, 1, strE d⟩), (1, some ⟨55, 1, iiE X⟩)]⟩ ⟨[some 0, some 1], List.range' 2 X.length, ⟨by simp [srcIds], by simp [srcIds], by simp⟩, by simp, by simp [wkEnv, lk, SO], ?_⟩ ?_
   · refine ⟨.inl ⟨0, ⟨9, 1, strE d⟩, rfl, rfl, rfl, rfl, .inl ⟨rfl, by simp⟩⟩, .inl ⟨1, ⟨55, 1, famC 2 1 (X.map intE)⟩, rfl, rfl, rfl, rfl, .inr ?_⟩, trivial⟩
     have := famC_wk (hp := lkh (SO [(3, .osl 0 d.length 1), (4, .osl 1 d.length 1)] [(0, some ⟨9, 1, strE d⟩)] 1 1 3 55 (X.map intE)).hp) (ids := [some 0, some 1]) (D := List.range' 2 X.length) (ty := 3) (sz := 1) (X.map intE) 2 (fun j hj => by simp at hj ⊢; omega) (fun j L hj => FO.inn j L hj) hpl
     rw [List.map_map] at this
     exact this
   refine AW.wk hk 1 ⟨[(3, .osl 0 d.length 1), (4, .sl 1 (iiE X))], [(0, some ⟨9, 1, strE d⟩)]⟩ ⟨[some 0], [1], ⟨by simp [srcIds], by simp [srcIds], by simp⟩, by simp, by simp [wkEnv, lk, lkh, hxL], by simp [wkHp, wkHp1, wkEnt, lkh]⟩ ?_
   refine nx ?_; refine rG hN hk (onc 1 (bcq [0] q5) (onc 2 (bcq [9] q6) noc)) [] [3, 4, 10] fun K hK => ?_; simp only [go_sem, seval]; refine obK (hK _ _ ?_)
   clear hK K; refine nx ?_
   refine rG hN hk noc [] [3, 4, 10, 11] fun K hK => ?_; simp only [go_sem, seval]; refine hK _ _ ?_
   clear hK K; refine nx ?_
   refine lpF hk 2 (fun i : Nat => ⟨[(3, .osl 0 d.length 1), (4, .sl 1 (iiE X)), (10, .osl 1 (xb i).length 1), (11, I i)], [(0, some ⟨9, 1, strE d⟩), (1, some ⟨5, 1, bytesE (xb i)⟩)]⟩) (fun i => i ≤ X.length) (fun i => X.length - i) 0 (mkWk [some 0, some 1] [] (by simp [wkEnv, lk, lkh, I, str, B, U8, U64, U32, hx0] <;> omega) (by first | (simp [wkHp, wkHp1, wkEnt, lkh, hx0]; done) | simp [wkHp, wkHp1, wkEnt, lkh, I, str, hx0])) ?_
   intro i h1
   have hbi := hxb i h1
   by_cases hi : i < X.length
   · have hx := List.getElem?_eq_getElem hi
     have hp := hpost _ (List.getElem_mem hi)
     have hs := hxs i hi
     have q7 := postings27 X[i] hp
     have e1 := enc25_len X[i] hp
     have q8 := putBlock (xb i) (enc25 X[i]) (by omega) (by omega)
     have e2 := blockF_len (enc25 X[i])
     generalize blockF (enc25 X[i]) = x1 at *
     generalize enc25 X[i] = x2 at *
     generalize X[i] = L at *
     generalize xb i = x3 at *
     refine nx ?_; refine rG hN hk noc [] [3, 4, 10, 11, 60] fun K hK => ?_; simp only [go_sem, seval]
     try simp (disch := omega) only [au]
     (first | with_reducible refine hK _ _ ?_ | refine obK (hK _ _ ?_)); clear hK K; refine nx ?_
     refine cT ?_; refine nx ?_; refine rG hN hk (onc 5 (pcq q7) (onc 6 (obcq 1 [42] q8) noc)) [] [3, 4, 10, 11] fun K hK => ?_; simp only [go_sem, seval, hx]; refine obK (hK _ _ ?_)
     clear hK K; refine nx ?_
     refine rG hN hk noc [] [3, 4, 10, 11] fun K hK => ?_; simp only [go_sem, seval]
     try simp (disch := omega) only [au]
     refine hK _ _ ?_; clear hK K; refine nx ?_
     refine eE (i + 1) (mkWk [some 0, some 1] [] (by simp [wkEnv, lk, lkh, I, str, B, U8, U64, U32, hs] <;> omega) (by first | (simp [wkHp, wkHp1, wkEnt, lkh, hs]; done) | simp [wkHp, wkHp1, wkEnt, lkh, I, str, hs]))
   · have : i = X.length := by omega
     subst this
     refine nx ?_; refine rG hN hk noc [] [3, 4, 10, 11, 60] fun K hK => ?_; simp only [go_sem, seval]
     try simp (disch := omega) only [au]
     (first | with_reducible refine hK _ _ ?_ | refine obK (hK _ _ ?_)); clear hK K; refine nx ?_
     refine cF ?_; refine nx ?_; refine rG hN hk noc [] [2] fun K hK => ?_; simp only [go_sem, seval]; refine hK _ _ ?_
     clear hK K; refine nx ?_
     refine AW.ret (mkRet [some 0] [] rfl (by simp [resOf, lk, lkh, I, str, B, U8, U64, U32] <;> omega) (by first | (simp [wkHp, wkHp1, wkEnt, lkh]; done) | simp [wkHp, wkHp1, wkEnt, lkh, I, str]))
/-- What the sections of a list of events need. -/
structure SegOk (l : List Ev) : Prop where
 len : l.length ≤ 4096
 ev : ∀ e ∈ l, EvT e
 tr : ∀ e ∈ l, e.trace.length ≤ 2048 ∧ e.stream.length ≤ 2048
 lines : (l.flatMap Ev.lines).length ≤ 16384
 names : (allNames l).length ≤ 32768
 words : (allWords l).length ≤ 32768
def mapTo {β : Type} (f : Ev → β) (l : List Ev) (i : Nat) : List β := (l.take i).map f
theorem mapTo_s {β : Type} (f : Ev → β) (l : List Ev) (i : Nat) (h : i < l.length) : mapTo f l (i + 1) = mapTo f l i ++ [f l[i]] := by
 unfold mapTo
 rw [List.take_add_one, List.getElem?_eq_getElem h]
 simp only [Option.toList, List.map_append, List.map_cons, List.map_nil]
theorem mapTo_len {β : Type} (f : Ev → β) (l : List Ev) (i : Nat) : (mapTo f l i).length ≤ l.length := by simp [mapTo]; omega
theorem mapTo_all {β : Type} (f : Ev → β) (l : List Ev) : mapTo f l l.length = l.map f := by simp [mapTo]
noncomputable def secF (l : List Ev) (k : Nat) : List UInt8 :=
 if k = 7 then ixF (l.map Ev.trace) else if k = 8 then ixF (l.map Ev.stream) else if k = 9 then linesF l else if k = 10 then fieldsF l else if k = 11 then indexF l else if k = 12 then filtF l
 else enc24 (l.map fun e => numF e k)
theorem section27 (l : List Ev) (H : SegOk l) (k : Nat) (h1 : 1 ≤ k) (h12 : k ≤ 12) : ACall Tryz.prog 31 [.sl 10 (evE l), I k] [] (.osl 0 (secF l k).length 1) [some ⟨5, 1, bytesE (secF l k)⟩] := by
 refine acall 72 0 Tryz.func31 rfl rfl rfl (by simp) rfl rfl ?_
 intro C hN hk
 have hl := H.len
 by_cases h6 : k ≤ 6
 · have e : secF l k = enc24 (l.map fun e => numF e k) := by
     unfold secF; rw [if_neg (by omega), if_neg (by omega), if_neg (by omega), if_neg (by omega), if_neg (by omega), if_neg (by omega)]
   rw [e]
   have hm0 : mapTo (fun e => numF e k) l 0 = [] := rfl
   refine nx ?_; refine rG hN hk noc [] [0, 1] fun K hK => ?_; simp only [go_sem, seval]; refine hK _ _ ?_
   clear hK K; refine nx ?_
   refine rG hN hk noc [] [0, 1, 5] fun K hK => ?_; simp only [go_sem, seval]; refine hK _ _ ?_
   clear hK K; refine nx ?_
   refine rG hN hk noc [] [0, 1, 5, 9] fun K hK => ?_; simp only [go_sem, seval]; refine hK _ _ ?_
   clear hK K; refine nx ?_
   refine rG hN hk noc [] [0, 1, 5, 9, 10] fun K hK => ?_; simp only [go_sem, seval]
   try simp (disch := omega) only [au]
   refine hK _ _ ?_; clear hK K; refine nx ?_; refine cF ?_; refine nx ?_; refine rG hN hk noc [] [0, 1, 5, 9, 10] fun K hK => ?_; simp only [go_sem, seval]
   try simp (disch := omega) only [au]
   refine hK _ _ ?_; clear hK K; refine nx ?_; refine cF ?_; refine nx ?_; refine rG hN hk noc [] [0, 1, 9, 39] fun K hK => ?_; simp only [go_sem, seval]
   try simp (disch := omega) only [au]
   refine hK _ _ ?_; clear hK K; refine nx ?_; refine cF ?_; refine nx ?_; refine rG hN hk noc [] [0, 1, 9, 43] fun K hK => ?_; simp only [go_sem, seval]
   try simp (disch := omega) only [au]
   refine hK _ _ ?_; clear hK K; refine nx ?_; refine cF ?_; refine nx ?_; refine rG hN hk noc [] [0, 1, 9, 47] fun K hK => ?_; simp only [go_sem, seval]
   try simp (disch := omega) only [au]
   refine hK _ _ ?_; clear hK K; refine nx ?_; refine cF ?_; refine nx ?_; refine rG hN hk noc [] [0, 1, 51] fun K hK => ?_; simp only [go_sem, seval]
   try simp (disch := omega) only [au]
   refine hK _ _ ?_; clear hK K; refine nx ?_; refine cF ?_; refine nx ?_; refine rG hN hk noc [] [0, 1, 7] fun K hK => ?_; simp only [go_sem, seval]; refine hK _ _ ?_
   clear hK K; refine nx ?_
   refine rG hN hk noc [] [0, 1, 7, 8] fun K hK => ?_; simp only [go_sem, seval]; refine hK _ _ ?_
   clear hK K; refine nx ?_
   refine lpF hk 1 (fun i : Nat => ⟨[(0, .sl 10 (evE l)), (1, I k), (7, .osl 0 (mapTo (fun e => numF e k) l i).length 1), (8, I i)], [(0, some ⟨3, 1, intE (mapTo (fun e => numF e k) l i)⟩)]⟩) (fun i => i ≤ l.length) (fun i => l.length - i) 0 (mkWk [none] [] (by simp [wkEnv, lk, lkh, I, str, B, U8, U64, U32, hm0] <;> omega) (by first | (simp [wkHp, wkHp1, wkEnt, lkh, hm0]; done) | simp [wkHp, wkHp1, wkEnt, lkh, I, str, hm0])) ?_
   intro i hi0
   have hml := mapTo_len (fun e => numF e k) l i
   by_cases hi : i < l.length
   · have hx := List.getElem?_eq_getElem hi
     have hs := mapTo_s (fun e => numF e k) l i hi
     have q := number27 l[i] k h1 h6
     generalize mapTo (fun e => numF e k) l i = o at *
     generalize numF l[i] k = v at *
     generalize l[i] = ev at *
     refine nx ?_; refine rG hN hk noc [] [0, 1, 7, 8, 58] fun K hK => ?_; simp only [go_sem, seval]
     try simp (disch := omega) only [au]
     (first | with_reducible refine hK _ _ ?_ | refine obK (hK _ _ ?_)); clear hK K; refine nx ?_
     refine cT ?_; refine nx ?_; refine rG hN hk (onc 6 (pcq q) noc) [] [0, 1, 7, 8] fun K hK => ?_; simp only [go_sem, seval, hx]; refine obK (hK _ _ ?_)
     clear hK K; refine nx ?_
     refine rG hN hk noc [] [0, 1, 7, 8] fun K hK => ?_; simp only [go_sem, seval]
     try simp (disch := omega) only [au]
     refine hK _ _ ?_; clear hK K; refine nx ?_
     refine eE (i + 1) (mkWk [some 0] [] (by simp [wkEnv, lk, lkh, I, str, B, U8, U64, U32, hs] <;> omega) (by first | (simp [wkHp, wkHp1, wkEnt, lkh, hs]; done) | simp [wkHp, wkHp1, wkEnt, lkh, I, str, hs]))
   · have : i = l.length := by omega
     subst this
     rw [mapTo_all] at *
     generalize l.map (fun e => numF e k) = o at *
     have q := column27 o (by omega)
     refine nx ?_; refine rG hN hk noc [] [0, 1, 7, 8, 58] fun K hK => ?_; simp only [go_sem, seval]
     try simp (disch := omega) only [au]
     (first | with_reducible refine hK _ _ ?_ | refine obK (hK _ _ ?_)); clear hK K; refine nx ?_
     refine cF ?_; refine nx ?_; refine rG hN hk (onc 1 (bcq [0] q) noc) [] [4] fun K hK => ?_; simp only [go_sem, seval]; refine obK (hK _ _ ?_)
     clear hK K; refine nx ?_
     refine AW.ret (mkRet [some 0] [] rfl (by simp [resOf, lk, lkh, I, str, B, U8, U64, U32] <;> omega) (by first | (simp [wkHp, wkHp1, wkEnt, lkh]; done) | simp [wkHp, wkHp1, wkEnt, lkh, I, str]))
 · obtain rfl | rfl | rfl | rfl | rfl | rfl : k = 7 ∨ k = 8 ∨ k = 9 ∨ k = 10 ∨ k = 11 ∨ k = 12 := by omega
   · have e : secF l 7 = ixF (l.map Ev.trace) := rfl
     rw [e]
     have hm0 : mapTo Ev.trace l 0 = [] := rfl
     refine nx ?_; refine rG hN hk noc [] [0, 1] fun K hK => ?_; simp only [go_sem, seval]; refine hK _ _ ?_
     clear hK K; refine nx ?_
     refine rG hN hk noc [] [0, 1, 5] fun K hK => ?_; simp only [go_sem, seval]; refine hK _ _ ?_
     clear hK K; refine nx ?_
     refine rG hN hk noc [] [0, 1, 5, 9] fun K hK => ?_; simp only [go_sem, seval]; refine hK _ _ ?_
     clear hK K; refine nx ?_
     refine rG hN hk noc [] [0, 1, 5, 9, 10] fun K hK => ?_; simp only [go_sem, seval]
     try simp (disch := omega) only [au]
     refine hK _ _ ?_; clear hK K; refine nx ?_; refine cT ?_; refine nx ?_; refine cT ?_; refine nx ?_; refine rG hN hk noc [] [0, 1, 5, 6] fun K hK => ?_; simp only [go_sem, seval]; refine hK _ _ ?_
     clear hK K; refine nx ?_
     refine lpF hk 1 (fun i : Nat => ⟨[(0, .sl 10 (evE l)), (1, I 7), (5, .osl 0 (mapTo Ev.trace l i).length 1), (6, I i)], [(0, some ⟨9, 1, strE (mapTo Ev.trace l i)⟩)]⟩) (fun i => i ≤ l.length) (fun i => l.length - i) 0 (mkWk [none] [] (by simp [wkEnv, lk, lkh, I, str, B, U8, U64, U32, hm0] <;> omega) (by first | (simp [wkHp, wkHp1, wkEnt, lkh, hm0]; done) | simp [wkHp, wkHp1, wkEnt, lkh, I, str, hm0])) ?_
     intro i hi0
     have hml := mapTo_len Ev.trace l i
     by_cases hi : i < l.length
     · have hx := List.getElem?_eq_getElem hi
       have hs := mapTo_s Ev.trace l i hi
       generalize mapTo Ev.trace l i = o at *
       generalize l[i] = ev at *
       refine nx ?_; refine rG hN hk noc [] [0, 1, 5, 6, 16] fun K hK => ?_; simp only [go_sem, seval, hx]
       try simp (disch := omega) only [au]
       (first | with_reducible refine hK _ _ ?_ | refine obK (hK _ _ ?_)); clear hK K; refine nx ?_
       refine cT ?_; refine nx ?_; refine rG hN hk noc [] [0, 1, 5, 6, 20] fun K hK => ?_; simp only [go_sem, seval, hx]
       try simp (disch := omega) only [au]
       refine hK _ _ ?_; clear hK K; refine nx ?_; refine cT ?_; refine nx ?_; refine rG hN hk noc [] [0, 1, 5, 6] fun K hK => ?_; simp only [go_sem, seval, hx]
       (first | with_reducible refine hK _ _ ?_ | refine obK (hK _ _ ?_)); clear hK K; refine nx ?_
       refine rG hN hk noc [] [0, 1, 5, 6] fun K hK => ?_; simp only [go_sem, seval, hx]
       try simp (disch := omega) only [au]
       refine hK _ _ ?_; clear hK K; refine nx ?_
       refine eE (i + 1) (mkWk [some 0] [] (by simp [wkEnv, lk, lkh, I, str, B, U8, U64, U32, hs] <;> omega) (by first | (simp [wkHp, wkHp1, wkEnt, lkh, hs]; done) | simp [wkHp, wkHp1, wkEnt, lkh, I, str, hs]))
     · have : i = l.length := by omega
       subst this
       have hsh : ∀ t ∈ l.map Ev.trace, t.length ≤ 2048 := by
         intro t ht; obtain ⟨e, he, rfl⟩ := List.mem_map.1 ht; exact (H.tr e he).1
       rw [mapTo_all] at *
       have q := indexed27 (l.map Ev.trace) (by simpa using hl) hsh
       generalize l.map Ev.trace = o at *
       generalize ixF o = x at *
       refine nx ?_; refine rG hN hk noc [] [0, 1, 5, 6, 16] fun K hK => ?_; simp only [go_sem, seval]
       try simp (disch := omega) only [au]
       (first | with_reducible refine hK _ _ ?_ | refine obK (hK _ _ ?_)); clear hK K; refine nx ?_
       refine cF ?_; refine nx ?_; refine rG hN hk (onc 1 (bcq [0] q) noc) [] [4] fun K hK => ?_; simp only [go_sem, seval]; refine obK (hK _ _ ?_)
       clear hK K; refine nx ?_
       refine AW.ret (mkRet [some 0] [] rfl (by simp [resOf, lk, lkh, I, str, B, U8, U64, U32] <;> omega) (by first | (simp [wkHp, wkHp1, wkEnt, lkh]; done) | simp [wkHp, wkHp1, wkEnt, lkh, I, str]))
   · have e : secF l 8 = ixF (l.map Ev.stream) := rfl
     rw [e]
     have hm0 : mapTo Ev.stream l 0 = [] := rfl
     refine nx ?_; refine rG hN hk noc [] [0, 1] fun K hK => ?_; simp only [go_sem, seval]; refine hK _ _ ?_
     clear hK K; refine nx ?_
     refine rG hN hk noc [] [0, 1, 5] fun K hK => ?_; simp only [go_sem, seval]; refine hK _ _ ?_
     clear hK K; refine nx ?_
     refine rG hN hk noc [] [0, 1, 5, 9] fun K hK => ?_; simp only [go_sem, seval]; refine hK _ _ ?_
     clear hK K; refine nx ?_
     refine rG hN hk noc [] [0, 1, 5, 9, 10] fun K hK => ?_; simp only [go_sem, seval]
     try simp (disch := omega) only [au]
     refine hK _ _ ?_; clear hK K; refine nx ?_; refine cF ?_; refine nx ?_; refine rG hN hk noc [] [0, 1, 5, 9, 10] fun K hK => ?_; simp only [go_sem, seval]
     try simp (disch := omega) only [au]
     refine hK _ _ ?_; clear hK K; refine nx ?_; refine cT ?_; refine nx ?_; refine rG hN hk noc [] [0, 1, 5, 6] fun K hK => ?_; simp only [go_sem, seval]; refine hK _ _ ?_
     clear hK K; refine nx ?_
     refine lpF hk 1 (fun i : Nat => ⟨[(0, .sl 10 (evE l)), (1, I 8), (5, .osl 0 (mapTo Ev.stream l i).length 1), (6, I i)], [(0, some ⟨9, 1, strE (mapTo Ev.stream l i)⟩)]⟩) (fun i => i ≤ l.length) (fun i => l.length - i) 0 (mkWk [none] [] (by simp [wkEnv, lk, lkh, I, str, B, U8, U64, U32, hm0] <;> omega) (by first | (simp [wkHp, wkHp1, wkEnt, lkh, hm0]; done) | simp [wkHp, wkHp1, wkEnt, lkh, I, str, hm0])) ?_
     intro i hi0
     have hml := mapTo_len Ev.stream l i
     by_cases hi : i < l.length
     · have hx := List.getElem?_eq_getElem hi
       have hs := mapTo_s Ev.stream l i hi
       generalize mapTo Ev.stream l i = o at *
       generalize l[i] = ev at *
       refine nx ?_; refine rG hN hk noc [] [0, 1, 5, 6, 16] fun K hK => ?_; simp only [go_sem, seval, hx]
       try simp (disch := omega) only [au]
       (first | with_reducible refine hK _ _ ?_ | refine obK (hK _ _ ?_)); clear hK K; refine nx ?_
       refine cT ?_; refine nx ?_; refine rG hN hk noc [] [0, 1, 5, 6, 20] fun K hK => ?_; simp only [go_sem, seval, hx]
       try simp (disch := omega) only [au]
       refine hK _ _ ?_; clear hK K; refine nx ?_; refine cF ?_; refine nx ?_; refine rG hN hk noc [] [0, 1, 5, 6] fun K hK => ?_; simp only [go_sem, seval, hx]
       (first | with_reducible refine hK _ _ ?_ | refine obK (hK _ _ ?_)); clear hK K; refine nx ?_
       refine rG hN hk noc [] [0, 1, 5, 6] fun K hK => ?_; simp only [go_sem, seval, hx]
       try simp (disch := omega) only [au]
       refine hK _ _ ?_; clear hK K; refine nx ?_
       refine eE (i + 1) (mkWk [some 0] [] (by simp [wkEnv, lk, lkh, I, str, B, U8, U64, U32, hs] <;> omega) (by first | (simp [wkHp, wkHp1, wkEnt, lkh, hs]; done) | simp [wkHp, wkHp1, wkEnt, lkh, I, str, hs]))
     · have : i = l.length := by omega
       subst this
       have hsh : ∀ t ∈ l.map Ev.stream, t.length ≤ 2048 := by
         intro t ht; obtain ⟨e, he, rfl⟩ := List.mem_map.1 ht; exact (H.tr e he).2
       rw [mapTo_all] at *
       have q := indexed27 (l.map Ev.stream) (by simpa using hl) hsh
       generalize l.map Ev.stream = o at *
       generalize ixF o = x at *
       refine nx ?_; refine rG hN hk noc [] [0, 1, 5, 6, 16] fun K hK => ?_; simp only [go_sem, seval]
       try simp (disch := omega) only [au]
       (first | with_reducible refine hK _ _ ?_ | refine obK (hK _ _ ?_)); clear hK K; refine nx ?_
       refine cF ?_; refine nx ?_; refine rG hN hk (onc 1 (bcq [0] q) noc) [] [4] fun K hK => ?_; simp only [go_sem, seval]; refine obK (hK _ _ ?_)
       clear hK K; refine nx ?_
       refine AW.ret (mkRet [some 0] [] rfl (by simp [resOf, lk, lkh, I, str, B, U8, U64, U32] <;> omega) (by first | (simp [wkHp, wkHp1, wkEnt, lkh]; done) | simp [wkHp, wkHp1, wkEnt, lkh, I, str]))
   · have e : secF l 9 = linesF l := rfl
     rw [e]
     have q := lines27 l hl H.ev H.lines
     generalize linesF l = x at *
     refine nx ?_; refine rG hN hk noc [] [0, 1] fun K hK => ?_; simp only [go_sem, seval]; refine hK _ _ ?_
     clear hK K; refine nx ?_
     refine rG hN hk noc [] [0, 1, 5] fun K hK => ?_; simp only [go_sem, seval]; refine hK _ _ ?_
     clear hK K; refine nx ?_
     refine rG hN hk noc [] [0, 1, 5, 9] fun K hK => ?_; simp only [go_sem, seval]; refine hK _ _ ?_
     clear hK K; refine nx ?_
     refine rG hN hk noc [] [0, 1, 5, 9, 10] fun K hK => ?_; simp only [go_sem, seval]
     try simp (disch := omega) only [au]
     refine hK _ _ ?_; clear hK K; refine nx ?_; refine cF ?_; refine nx ?_; refine rG hN hk noc [] [0, 1, 5, 9, 10] fun K hK => ?_; simp only [go_sem, seval]
     try simp (disch := omega) only [au]
     refine hK _ _ ?_; clear hK K; refine nx ?_; refine cF ?_; refine nx ?_; refine rG hN hk noc [] [0, 1, 9, 39] fun K hK => ?_; simp only [go_sem, seval]
     try simp (disch := omega) only [au]
     refine hK _ _ ?_; clear hK K; refine nx ?_; refine cT ?_; refine nx ?_; refine rG hN hk (onc 1 (pcq q) noc) [] [4] fun K hK => ?_; simp only [go_sem, seval]; refine obK (hK _ _ ?_)
     clear hK K; refine nx ?_
     refine AW.ret (mkRet [some 0] [] rfl (by simp [resOf, lk, lkh, I, str, B, U8, U64, U32] <;> omega) (by first | (simp [wkHp, wkHp1, wkEnt, lkh]; done) | simp [wkHp, wkHp1, wkEnt, lkh, I, str]))
   · have e : secF l 10 = fieldsF l := rfl
     rw [e]
     have q := fields27 l hl H.ev H.names
     generalize fieldsF l = x at *
     refine nx ?_; refine rG hN hk noc [] [0, 1] fun K hK => ?_; simp only [go_sem, seval]; refine hK _ _ ?_
     clear hK K; refine nx ?_
     refine rG hN hk noc [] [0, 1, 5] fun K hK => ?_; simp only [go_sem, seval]; refine hK _ _ ?_
     clear hK K; refine nx ?_
     refine rG hN hk noc [] [0, 1, 5, 9] fun K hK => ?_; simp only [go_sem, seval]; refine hK _ _ ?_
     clear hK K; refine nx ?_
     refine rG hN hk noc [] [0, 1, 5, 9, 10] fun K hK => ?_; simp only [go_sem, seval]
     try simp (disch := omega) only [au]
     refine hK _ _ ?_; clear hK K; refine nx ?_; refine cF ?_; refine nx ?_; refine rG hN hk noc [] [0, 1, 5, 9, 10] fun K hK => ?_; simp only [go_sem, seval]
     try simp (disch := omega) only [au]
     refine hK _ _ ?_; clear hK K; refine nx ?_; refine cF ?_; refine nx ?_; refine rG hN hk noc [] [0, 1, 9, 39] fun K hK => ?_; simp only [go_sem, seval]
     try simp (disch := omega) only [au]
     refine hK _ _ ?_; clear hK K; refine nx ?_; refine cF ?_; refine nx ?_; refine rG hN hk noc [] [0, 1, 9, 43] fun K hK => ?_; simp only [go_sem, seval]
     try simp (disch := omega) only [au]
     refine hK _ _ ?_; clear hK K; refine nx ?_; refine cT ?_; refine nx ?_; refine rG hN hk (onc 1 (pcq q) noc) [] [4] fun K hK => ?_; simp only [go_sem, seval]; refine obK (hK _ _ ?_)
     clear hK K; refine nx ?_
     refine AW.ret (mkRet [some 0] [] rfl (by simp [resOf, lk, lkh, I, str, B, U8, U64, U32] <;> omega) (by first | (simp [wkHp, wkHp1, wkEnt, lkh]; done) | simp [wkHp, wkHp1, wkEnt, lkh, I, str]))
   · have e : secF l 11 = indexF l := rfl
     rw [e]
     have q := index27 l hl H.ev H.words
     generalize indexF l = x at *
     refine nx ?_; refine rG hN hk noc [] [0, 1] fun K hK => ?_; simp only [go_sem, seval]; refine hK _ _ ?_
     clear hK K; refine nx ?_
     refine rG hN hk noc [] [0, 1, 5] fun K hK => ?_; simp only [go_sem, seval]; refine hK _ _ ?_
     clear hK K; refine nx ?_
     refine rG hN hk noc [] [0, 1, 5, 9] fun K hK => ?_; simp only [go_sem, seval]; refine hK _ _ ?_
     clear hK K; refine nx ?_
     refine rG hN hk noc [] [0, 1, 5, 9, 10] fun K hK => ?_; simp only [go_sem, seval]
     try simp (disch := omega) only [au]
     refine hK _ _ ?_; clear hK K; refine nx ?_; refine cF ?_; refine nx ?_; refine rG hN hk noc [] [0, 1, 5, 9, 10] fun K hK => ?_; simp only [go_sem, seval]
     try simp (disch := omega) only [au]
     refine hK _ _ ?_; clear hK K; refine nx ?_; refine cF ?_; refine nx ?_; refine rG hN hk noc [] [0, 1, 9, 39] fun K hK => ?_; simp only [go_sem, seval]
     try simp (disch := omega) only [au]
     refine hK _ _ ?_; clear hK K; refine nx ?_; refine cF ?_; refine nx ?_; refine rG hN hk noc [] [0, 1, 9, 43] fun K hK => ?_; simp only [go_sem, seval]
     try simp (disch := omega) only [au]
     refine hK _ _ ?_; clear hK K; refine nx ?_; refine cF ?_; refine nx ?_; refine rG hN hk noc [] [0, 1, 9, 47] fun K hK => ?_; simp only [go_sem, seval]
     try simp (disch := omega) only [au]
     refine hK _ _ ?_; clear hK K; refine nx ?_; refine cT ?_; refine nx ?_; refine rG hN hk (onc 1 (pcq q) noc) [] [4] fun K hK => ?_; simp only [go_sem, seval]; refine obK (hK _ _ ?_)
     clear hK K; refine nx ?_
     refine AW.ret (mkRet [some 0] [] rfl (by simp [resOf, lk, lkh, I, str, B, U8, U64, U32] <;> omega) (by first | (simp [wkHp, wkHp1, wkEnt, lkh]; done) | simp [wkHp, wkHp1, wkEnt, lkh, I, str]))
   · have e : secF l 12 = filtF l := rfl
     rw [e]
     have q := filter27 l hl H.ev
     generalize filtF l = x at *
     refine nx ?_; refine rG hN hk noc [] [0, 1] fun K hK => ?_; simp only [go_sem, seval]; refine hK _ _ ?_
     clear hK K; refine nx ?_
     refine rG hN hk noc [] [0, 1, 5] fun K hK => ?_; simp only [go_sem, seval]; refine hK _ _ ?_
     clear hK K; refine nx ?_
     refine rG hN hk noc [] [0, 1, 5, 9] fun K hK => ?_; simp only [go_sem, seval]; refine hK _ _ ?_
     clear hK K; refine nx ?_
     refine rG hN hk noc [] [0, 1, 5, 9, 10] fun K hK => ?_; simp only [go_sem, seval]
     try simp (disch := omega) only [au]
     refine hK _ _ ?_; clear hK K; refine nx ?_; refine cF ?_; refine nx ?_; refine rG hN hk noc [] [0, 1, 5, 9, 10] fun K hK => ?_; simp only [go_sem, seval]
     try simp (disch := omega) only [au]
     refine hK _ _ ?_; clear hK K; refine nx ?_; refine cF ?_; refine nx ?_; refine rG hN hk noc [] [0, 1, 9, 39] fun K hK => ?_; simp only [go_sem, seval]
     try simp (disch := omega) only [au]
     refine hK _ _ ?_; clear hK K; refine nx ?_; refine cF ?_; refine nx ?_; refine rG hN hk noc [] [0, 1, 9, 43] fun K hK => ?_; simp only [go_sem, seval]
     try simp (disch := omega) only [au]
     refine hK _ _ ?_; clear hK K; refine nx ?_; refine cF ?_; refine nx ?_; refine rG hN hk noc [] [0, 1, 9, 47] fun K hK => ?_; simp only [go_sem, seval]
     try simp (disch := omega) only [au]
     refine hK _ _ ?_; clear hK K; refine nx ?_; refine cF ?_; refine nx ?_; refine rG hN hk noc [] [0, 1, 51] fun K hK => ?_; simp only [go_sem, seval]
     try simp (disch := omega) only [au]
     refine hK _ _ ?_; clear hK K; refine nx ?_; refine cT ?_; refine nx ?_; refine rG hN hk (onc 1 (pcq q) noc) [] [4] fun K hK => ?_; simp only [go_sem, seval]; refine obK (hK _ _ ?_)
     clear hK K; refine nx ?_
     refine AW.ret (mkRet [some 0] [] rfl (by simp [resOf, lk, lkh, I, str, B, U8, U64, U32] <;> omega) (by first | (simp [wkHp, wkHp1, wkEnt, lkh]; done) | simp [wkHp, wkHp1, wkEnt, lkh, I, str]))
end Go.Proofs.YtceeklfmlheofaaGreat
