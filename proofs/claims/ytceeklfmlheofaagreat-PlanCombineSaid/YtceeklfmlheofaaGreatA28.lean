/-
  Part 28 of the proof that logtidelaw41.PlanCombine returns true for every list of bytes and leaves its argument as it was; no condition.
-/
import Derived.Test.YtceeklfmlheofaaGreatA27
set_option linter.unusedSimpArgs false
set_option linter.unusedVariables false
namespace Go.Proofs.YtceeklfmlheofaaGreat
open Go.Av
attribute [local irreducible] ACall
def nameB (s : S) : Prop := 1 ≤ s.length ∧ s.length ≤ 32 ∧ ∀ c ∈ s, letterB c = true
theorem wordB_letter {c : UInt8} (h : letterB c = true) : wordB c = true := by simp [wordB, h]
theorem fieldName11 (s : S) (h : nameB s) : ACall Tryz.prog 96 [str s] [] (B true) [] := by
 obtain ⟨h1, h2, h3⟩ := h
 refine acall 40 0 Tryz.func96 rfl rfl rfl (by simp) rfl rfl ?_
 intro C hN hk
 have hx0 : s[0]? = some s[0] := List.getElem?_eq_getElem (by omega)
 have q0 := letter1 s[0]
 rw [h3 _ (List.getElem_mem _)] at q0
 have d1 := dLtF (a := (s.length : Int)) (b := 1) (by omega)
 have d2 := dGtF (a := (s.length : Int)) (b := 32) (by omega)
 generalize s[0] = c0 at *
 refine nx ?_; refine rG hN hk noc [] [0] fun K hK => ?_; simp only [go_sem, seval]; refine hK _ _ ?_
 clear hK K; refine nx ?_
 refine rG hN hk (onc 11 (pcq q0) noc) [] [0, 22] fun K hK => ?_; simp only [go_sem, seval, d1, d2, hx0]
 try simp (disch := omega) only [au]
 try simp only [go_sem, seval, d1, d2, hx0]
 iterate 3 try (simp (disch := omega) only [au]; try simp only [go_sem, seval, d1, d2, hx0])
 refine obK (hK _ _ ?_); clear hK K; refine nx ?_; refine cF ?_; refine nx ?_; refine rG hN hk noc [] [0, 3] fun K hK => ?_; simp only [go_sem, seval]; refine hK _ _ ?_
 clear hK K; refine nx ?_
 refine lpF hk 0 (fun i : Nat => ⟨[(0, str s), (3, I i)], []⟩) (fun i => i ≤ s.length) (fun i => s.length - i) 0 (mkWk [] [] (by simp [wkEnv, lk, lkh, I, str, B, U8, U64, U32] <;> omega) (by first | (simp [wkHp, wkHp1, wkEnt, lkh]; done) | simp [wkHp, wkHp1, wkEnt, lkh, I, str])) ?_
 intro i hi0
 by_cases hi : i < s.length
 · have hx := List.getElem?_eq_getElem hi
   have q := word1 s[i]
   rw [wordB_letter (h3 _ (List.getElem_mem _))] at q
   generalize s[i] = c at *
   refine nx ?_; refine rG hN hk noc [] [0, 3, 26] fun K hK => ?_; simp only [go_sem, seval]
   try simp (disch := omega) only [au]
   (first | with_reducible refine hK _ _ ?_ | refine obK (hK _ _ ?_)); clear hK K; refine nx ?_
   refine cT ?_; refine nx ?_; refine rG hN hk (onc 3 (pcq q) noc) [] [0, 3, 39] fun K hK => ?_; simp only [go_sem, seval, hx]
   try simp (disch := omega) only [au]
   try simp only [go_sem, seval, hx]
   refine obK (hK _ _ ?_); clear hK K; refine nx ?_; refine cF ?_; refine nx ?_; refine rG hN hk noc [] [0, 3] fun K hK => ?_; simp only [go_sem, seval]
   try simp (disch := omega) only [au]
   refine hK _ _ ?_; clear hK K; refine nx ?_
   refine eE (i + 1) (mkWk [] [] (by simp [wkEnv, lk, lkh, I, str, B, U8, U64, U32] <;> omega) (by first | (simp [wkHp, wkHp1, wkEnt, lkh]; done) | simp [wkHp, wkHp1, wkEnt, lkh, I, str]))
 · refine nx ?_
   refine rG hN hk noc [] [0, 3, 26] fun K hK => ?_; simp only [go_sem, seval]
   try simp (disch := omega) only [au]
   (first | with_reducible refine hK _ _ ?_ | refine obK (hK _ _ ?_)); clear hK K; refine nx ?_
   refine cF ?_; refine nx ?_; refine rG hN hk noc [] [2] fun K hK => ?_; simp only [go_sem, seval]; refine hK _ _ ?_
   clear hK K; refine nx ?_
   refine AW.ret (mkRet [] [] rfl (by simp [resOf, lk, lkh, I, str, B, U8, U64, U32] <;> omega) (by first | (simp [wkHp, wkHp1, wkEnt, lkh]; done) | simp [wkHp, wkHp1, wkEnt, lkh, I, str]))
def atTo (f : Int) (l : List Ln) : Int := f + (l.map Ln.len).sum
theorem atTo_s (f : Int) (l : List Ln) (i : Nat) (h : i < l.length) : atTo f (l.take (i + 1)) = atTo f (l.take i) + l[i].len := by
 unfold atTo
 rw [List.take_add_one, List.getElem?_eq_getElem h]
 simp only [Option.toList, List.map_append, List.sum_append, List.map_cons, List.map_nil, List.sum_cons, List.sum_nil]; omega
theorem atTo_snoc (f : Int) (l : List Ln) (x : Ln) : atTo f (l ++ [x]) = atTo f l + x.len := by
 unfold atTo; simp; omega
/-- An event that passes the check. -/
structure EvG (e : Ev) : Prop where
 host : 0 ≤ e.host ∧ e.host ≤ 999
 file : 0 ≤ e.file ∧ e.file ≤ 2147483646
 frm : 0 ≤ e.frm
 to : e.frm < e.to ∧ e.to ≤ 60000
 time : 0 ≤ e.time ∧ e.time ≤ 253402300799999
 weight : weightB e.weight = true
 nl : 1 ≤ e.lines.length ∧ e.lines.length ≤ 40
 off : ∀ i (h : i < e.lines.length), e.lines[i].off = atTo e.frm (e.lines.take i) ∧ 1 ≤ e.lines[i].len
 all : atTo e.frm e.lines = e.to
 tx : ∀ x ∈ e.lines, x.text.length ≤ 2000
 tr : e.trace.length ≤ 32 ∧ e.stream.length ≤ 32
 nf : e.fields.length ≤ 32
 fn : ∀ f ∈ e.fields, nameB f.name ∧ f.val.length ≤ 2000
 fs : e.fields.Pairwise fun a b => ltS a.name b.name
theorem EvG.evT {e : Ev} (h : EvG e) : EvT e := ⟨h.nl.2, h.tx, h.nf, fun f hf => ⟨(h.fn f hf).1.2.1, (h.fn f hf).2⟩⟩
theorem atTo_mono (f : Int) (l : List Ln) (h : ∀ i (hi : i < l.length), 1 ≤ l[i].len) (i : Nat) : ∀ k, i + k ≤ l.length → atTo f (l.take i) + k ≤ atTo f (l.take (i + k))
 | 0, _ => by simp
 | k + 1, hk => by
   have h1 := atTo_mono f l h i k (by omega)
   have h2 := h (i + k) (by omega)
   have h3 := atTo_s f l (i + k) (by omega)
   rw [← Nat.add_assoc, h3]; omega
theorem place12 (e : Ev) (h : EvG e) : ACall Tryz.prog 73 [.agg (evC e)] [] (I 0) [] := by
 have d1 := dLtF (a := e.host) (b := 0) h.host.1
 have d2 := dGtF (a := e.host) (b := 999) h.host.2
 have d3 := dLtF (a := e.file) (b := 0) h.file.1
 have d4 := dGtF (a := e.file) (b := 2147483646) h.file.2
 have d5 := dLtF (a := e.frm) (b := 0) h.frm
 have d6 := dLeF (a := e.to) (b := e.frm) h.to.1
 have d7 := dGtF (a := e.to) (b := 60000) h.to.2
 refine acall 38 0 Tryz.func73 rfl rfl rfl (by simp) rfl rfl ?_
 intro C hN hk
 refine nx ?_; refine rG hN hk noc [] [1] fun K hK => ?_; simp only [go_sem, seval]; refine hK _ _ ?_
 clear hK K; refine nx ?_
 refine rG hN hk noc [] [37] fun K hK => ?_; simp only [go_sem, seval, d1, d2, d3, d4, d5, d6, d7]
 try simp (disch := omega) only [au]
 try simp only [go_sem, seval, d1, d2, d3, d4, d5, d6, d7]
 iterate 6 try (simp (disch := omega) only [au]; try simp only [go_sem, seval, d1, d2, d3, d4, d5, d6, d7])
 refine hK _ _ ?_; clear hK K; refine nx ?_; refine cF ?_; refine nx ?_; refine rG hN hk noc [] [2] fun K hK => ?_; simp only [go_sem, seval]; refine hK _ _ ?_
 clear hK K; refine nx ?_
 refine AW.ret (mkRet [] [] rfl (by simp [resOf, lk, lkh, I, str, B, U8, U64, U32] <;> omega) (by first | (simp [wkHp, wkHp1, wkEnt, lkh]; done) | simp [wkHp, wkHp1, wkEnt, lkh, I, str]))
theorem lines12 (e : Ev) (h : EvG e) : ACall Tryz.prog 75 [.agg (evC e), I 2000] [] (I 0) [] := by
 have hm := atTo_mono e.frm e.lines (fun i hi => (h.off i hi).2)
 have hto := h.to
 have hall := h.all
 have hfr := h.frm
 obtain ⟨hl1, hl2⟩ := h.nl
 have d1 : ((e.lines.length : Int) == 0) = false := by simp; intro h; simp [h] at hl1
 have d2 := dGtF (a := (e.lines.length : Int)) (b := 40) (by omega)
 refine acall 74 0 Tryz.func75 rfl rfl rfl (by simp) rfl rfl ?_
 intro C hN hk
 have h0 : atTo e.frm (e.lines.take 0) = e.frm := by simp [atTo]
 have h00 : atTo e.frm [] = e.frm := by simp [atTo]
 refine nx ?_; refine rG hN hk noc [] [1, 2] fun K hK => ?_; simp only [go_sem, seval]; refine hK _ _ ?_
 clear hK K; refine nx ?_
 refine rG hN hk noc [] [1, 2, 11] fun K hK => ?_; simp only [go_sem, seval, d1]
 try simp (disch := omega) only [au]
 (first | with_reducible refine hK _ _ ?_ | refine obK (hK _ _ ?_)); clear hK K; refine nx ?_
 refine cF ?_; refine nx ?_; refine rG hN hk noc [] [1, 2, 15] fun K hK => ?_; simp only [go_sem, seval, d2]
 try simp (disch := omega) only [au]
 (first | with_reducible refine hK _ _ ?_ | refine obK (hK _ _ ?_)); clear hK K; refine nx ?_
 refine cF ?_; refine nx ?_; refine rG hN hk noc [] [1, 2, 5] fun K hK => ?_; simp only [go_sem, seval]; refine hK _ _ ?_
 clear hK K; refine nx ?_
 refine rG hN hk noc [] [1, 2, 5, 6] fun K hK => ?_; simp only [go_sem, seval]; refine hK _ _ ?_
 clear hK K; refine nx ?_
 refine lpF hk 1 (fun i : Nat => ⟨[(1, I 2000), (2, .ptr 0 10 0 0), (5, I (atTo e.frm (e.lines.take i))), (6, I i)], [(0, some ⟨48, 10, [evC e]⟩)]⟩) (fun i => i ≤ e.lines.length) (fun i => e.lines.length - i) 0 (mkWk [some 0] [] (by simp [wkEnv, lk, lkh, I, str, B, U8, U64, U32, h00, evC] <;> omega) (by first | (simp [wkHp, wkHp1, wkEnt, lkh, h00, evC]; done) | simp [wkHp, wkHp1, wkEnt, lkh, I, str, h00, evC])) ?_
 intro i hi0
 by_cases hi : i < e.lines.length
 · have hx := List.getElem?_eq_getElem hi
   have ho := h.off i hi
   have hs := atTo_s e.frm e.lines i hi
   have ht := h.tx _ (List.getElem_mem hi)
   have hm1 := hm 0 i (by omega)
   have hm2 := hm (i + 1) (e.lines.length - (i + 1)) (by omega)
   rw [show i + 1 + (e.lines.length - (i + 1)) = e.lines.length by omega, List.take_length, hall, hs] at hm2
   rw [Nat.zero_add] at hm1
   rw [h0] at hm1
   have w1 := wrap64 (n := e.to - atTo e.frm (e.lines.take i)) (by omega)
   have w2 := wrap64 (n := (e.lines.length : Int) - 1) (by omega)
   have hla : i + 1 = e.lines.length → e.lines[i].len = e.to - atTo e.frm (e.lines.take i) := by
     intro he
     have : e.lines.take (i + 1) = e.lines := by rw [he, List.take_length]
     rw [this, hall] at hs; omega
   have d3 := dLtF (a := e.lines[i].len) (b := 1) ho.2
   have d4 := dGtF (a := e.lines[i].len) (b := e.to - atTo e.frm (e.lines.take i)) (by omega)
   have d5 : (e.lines[i].off != atTo e.frm (e.lines.take i)) = false := by simp [ho.1]
   have d6 := dGtF (a := (e.lines[i].text.length : Int)) (b := 2000) (by omega)
   have w3 := wrap64 (n := atTo e.frm (e.lines.take i) + e.lines[i].len) (by omega)
   generalize atTo e.frm (e.lines.take i) = a at *
   generalize e.lines[i] = x at *
   refine nx ?_; refine rG hN hk noc [] [1, 2, 5, 6, 22] fun K hK => ?_; simp only [go_sem, seval]
   try simp (disch := omega) only [au]
   (first | with_reducible refine hK _ _ ?_ | refine obK (hK _ _ ?_)); clear hK K; refine nx ?_
   refine cT ?_; refine nx ?_; refine rG hN hk noc [] [1, 2, 5, 6, 7] fun K hK => ?_; simp only [go_sem, seval, hx]
   (first | with_reducible refine hK _ _ ?_ | refine obK (hK _ _ ?_)); clear hK K; refine nx ?_
   by_cases hl : i + 1 = e.lines.length
   · have d7 : ((i : Int) == (e.lines.length : Int) - 1) = true := by simp; omega
     have d8 : (x.len != e.to - a) = false := by simp [hla hl]
     refine nx ?_; refine rG hN hk noc [] [1, 2, 5, 6, 7, 64] fun K hK => ?_; simp only [go_sem, seval, d3, d4, d5, w1, w2, d7, d8]
     try simp (disch := omega) only [au]
     try simp only [go_sem, seval, d3, d4, d5, w1, w2, d7, d8]
     iterate 4 try (simp (disch := omega) only [au]; try simp only [go_sem, seval, d3, d4, d5, w1, w2, d7, d8])
     (first | with_reducible refine hK _ _ ?_ | refine obK (hK _ _ ?_)); clear hK K; refine nx ?_
     refine cF ?_; refine nx ?_; refine rG hN hk noc [] [1, 2, 5, 6, 7, 69] fun K hK => ?_; simp only [go_sem, seval, d6]
     try simp (disch := omega) only [au]
     (first | with_reducible refine hK _ _ ?_ | refine obK (hK _ _ ?_)); clear hK K; refine nx ?_
     refine cF ?_; refine nx ?_; refine rG hN hk noc [] [1, 2, 5, 6] fun K hK => ?_; simp only [go_sem, seval, w3]
     try simp (disch := omega) only [au]
     refine hK _ _ ?_; clear hK K; refine nx ?_; refine rG hN hk noc [] [1, 2, 5, 6] fun K hK => ?_; simp only [go_sem, seval]
     try simp (disch := omega) only [au]
     refine hK _ _ ?_; clear hK K; refine nx ?_
     refine eE (i + 1) (mkWk [some 0] [] (by simp [wkEnv, lk, lkh, I, str, B, U8, U64, U32, hs, evC] <;> omega) (by first | (simp [wkHp, wkHp1, wkEnt, lkh, hs, evC]; done) | simp [wkHp, wkHp1, wkEnt, lkh, I, str, hs, evC]))
   · have d7 : ((i : Int) == (e.lines.length : Int) - 1) = false := by simp; omega
     refine nx ?_; refine rG hN hk noc [] [1, 2, 5, 6, 7, 64] fun K hK => ?_; simp only [go_sem, seval, d3, d4, d5, w1, w2, d7]
     try simp (disch := omega) only [au]
     try simp only [go_sem, seval, d3, d4, d5, w1, w2, d7]
     iterate 4 try (simp (disch := omega) only [au]; try simp only [go_sem, seval, d3, d4, d5, w1, w2, d7])
     (first | with_reducible refine hK _ _ ?_ | refine obK (hK _ _ ?_)); clear hK K; refine nx ?_
     refine cF ?_; refine nx ?_; refine rG hN hk noc [] [1, 2, 5, 6, 7, 69] fun K hK => ?_; simp only [go_sem, seval, d6]
     try simp (disch := omega) only [au]
     (first | with_reducible refine hK _ _ ?_ | refine obK (hK _ _ ?_)); clear hK K; refine nx ?_
     refine cF ?_; refine nx ?_; refine rG hN hk noc [] [1, 2, 5, 6] fun K hK => ?_; simp only [go_sem, seval, w3]
     try simp (disch := omega) only [au]
     refine hK _ _ ?_; clear hK K; refine nx ?_; refine rG hN hk noc [] [1, 2, 5, 6] fun K hK => ?_; simp only [go_sem, seval]
     try simp (disch := omega) only [au]
     refine hK _ _ ?_; clear hK K; refine nx ?_
     refine eE (i + 1) (mkWk [some 0] [] (by simp [wkEnv, lk, lkh, I, str, B, U8, U64, U32, hs, evC] <;> omega) (by first | (simp [wkHp, wkHp1, wkEnt, lkh, hs, evC]; done) | simp [wkHp, wkHp1, wkEnt, lkh, I, str, hs, evC]))
 · refine nx ?_
   refine rG hN hk noc [] [1, 2, 5, 6, 22] fun K hK => ?_; simp only [go_sem, seval]
   try simp (disch := omega) only [au]
   (first | with_reducible refine hK _ _ ?_ | refine obK (hK _ _ ?_)); clear hK K; refine nx ?_
   refine cF ?_; refine nx ?_; refine rG hN hk noc [] [4] fun K hK => ?_; simp only [go_sem, seval]; refine hK _ _ ?_
   clear hK K; refine nx ?_
   refine AW.ret (mkRet [] [] rfl (by simp [resOf, lk, lkh, I, str, B, U8, U64, U32] <;> omega) (by first | (simp [wkHp, wkHp1, wkEnt, lkh]; done) | simp [wkHp, wkHp1, wkEnt, lkh, I, str]))
theorem set_self {α : Type} {l : List α} {i : Nat} {x : α} (h : l[i]? = some x) : l.set i x = l := by
 obtain ⟨hi, rfl⟩ := List.getElem?_eq_some_iff.1 h
 exact List.set_getElem_self hi
theorem sort11 (l : List Fl) (hl : l.length ≤ 32) (hn : ∀ f ∈ l, nameB f.name) (hs : l.Pairwise fun a b => ltS a.name b.name) : ACall Tryz.prog 76 [.sl 2 (flE l)] [] (.tup [.osl 0 l.length 2, I 0]) [some ⟨131, 2, flE l⟩] := by
 refine acall 89 0 Tryz.func76 rfl rfl rfl (by simp) rfl rfl ?_
 intro C hN hk
 have d1 := dGtF (a := (l.length : Int)) (b := 32) (by omega)
 refine nx ?_; refine rG hN hk noc [] [0] fun K hK => ?_; simp only [go_sem, seval]; refine hK _ _ ?_
 clear hK K; refine nx ?_
 refine rG hN hk noc [] [0, 10] fun K hK => ?_; simp only [go_sem, seval, d1]
 try simp (disch := omega) only [au]
 (first | with_reducible refine hK _ _ ?_ | refine obK (hK _ _ ?_)); clear hK K; refine nx ?_
 refine cF ?_; refine nx ?_; refine rG hN hk noc [] [0, 4] fun K hK => ?_; simp only [go_sem, seval]; refine hK _ _ ?_
 clear hK K; refine nx ?_
 refine lpF hk 0 (fun i : Nat => ⟨[(0, .sl 2 (flE l)), (4, I i)], []⟩) (fun i => i ≤ l.length) (fun i => l.length - i) 0 (mkWk [] [] (by simp [wkEnv, lk, lkh, I, str, B, U8, U64, U32] <;> omega) (by first | (simp [wkHp, wkHp1, wkEnt, lkh]; done) | simp [wkHp, wkHp1, wkEnt, lkh, I, str])) ?_
 · intro i hi0
   by_cases hi : i < l.length
   · have hx := List.getElem?_eq_getElem hi
     have q := fieldName11 l[i].name (hn _ (List.getElem_mem hi))
     generalize l[i] = x at *
     refine nx ?_; refine rG hN hk noc [] [0, 4, 14] fun K hK => ?_; simp only [go_sem, seval]
     try simp (disch := omega) only [au]
     (first | with_reducible refine hK _ _ ?_ | refine obK (hK _ _ ?_)); clear hK K; refine nx ?_
     refine cT ?_; refine nx ?_; refine rG hN hk (onc 5 (pcq q) noc) [] [0, 4, 23] fun K hK => ?_; simp only [go_sem, seval, hx]; refine obK (hK _ _ ?_)
     clear hK K; refine nx ?_
     refine cF ?_; refine nx ?_; refine rG hN hk noc [] [0, 4] fun K hK => ?_; simp only [go_sem, seval]
     try simp (disch := omega) only [au]
     refine hK _ _ ?_; clear hK K; refine nx ?_
     refine eE (i + 1) (mkWk [] [] (by simp [wkEnv, lk, lkh, I, str, B, U8, U64, U32] <;> omega) (by first | (simp [wkHp, wkHp1, wkEnt, lkh]; done) | simp [wkHp, wkHp1, wkEnt, lkh, I, str]))
   · refine nx ?_
     refine rG hN hk noc [] [0, 4, 14] fun K hK => ?_; simp only [go_sem, seval]
     try simp (disch := omega) only [au]
     (first | with_reducible refine hK _ _ ?_ | refine obK (hK _ _ ?_)); clear hK K; refine nx ?_
     refine cF ?_; refine nx ?_; refine rG hN hk noc [] [0, 5] fun K hK => ?_; simp only [go_sem, seval]; refine hK _ _ ?_
     clear hK K; refine nx ?_
     refine rG hN hk noc [] [0, 5, 6] fun K hK => ?_; simp only [go_sem, seval]; refine hK _ _ ?_
     clear hK K; refine nx ?_
     refine lpF hk 1 (fun i : Nat => ⟨[(0, .sl 2 (flE l)), (5, .osl 0 (l.take i).length 2), (6, I i)], [(0, some ⟨131, 2, flE (l.take i)⟩)]⟩) (fun i => i ≤ l.length) (fun i => l.length - i) 0 (mkWk [none] [] (by simp [wkEnv, lk, lkh, I, str, B, U8, U64, U32] <;> omega) (by first | (simp [wkHp, wkHp1, wkEnt, lkh]; done) | simp [wkHp, wkHp1, wkEnt, lkh, I, str])) ?_
     intro i hi0
     by_cases hi : i < l.length
     · have hx := List.getElem?_eq_getElem hi
       have hsn : l.take (i + 1) = l.take i ++ [l[i]] := by simp [List.take_append_getElem]
       have hli : (l.take i).length = i := by simp; omega
       have hlst : ∀ j, j + 1 = i → ∃ y, (l.take i ++ [l[i]])[j]? = some y ∧ ltS y.name l[i].name := by
         intro j hj
         have hj2 : j < l.length := by omega
         refine ⟨l[j], ?_, List.pairwise_iff_getElem.1 hs j i hj2 hi (by omega)⟩
         rw [← hsn, List.getElem?_take, if_pos (by omega), List.getElem?_eq_getElem hj2]
       have hl2 : (l.take i ++ [l[i]])[i]? = some l[i] := by rw [← hsn, List.getElem?_take, if_pos (by omega), hx]
       have hset : (l.take i ++ [l[i]]).set i l[i] = l.take i ++ [l[i]] := by
         exact set_self hl2
       generalize l[i] = x at *
       generalize l.take i = o at *
       have wk := wrap64 (n := (i : Int) - 1) (by omega)
       have heq : ∀ j, j + 1 = i → ∃ y, (o ++ [x])[j]? = some y ∧ Op.bytesLess y.name x.name = true ∧ (y.name == x.name) = false := by
         intro j hj
         obtain ⟨y, hy, hlt⟩ := hlst j hj
         refine ⟨y, hy, hlt, ?_⟩
         simp only [beq_eq_false_iff_ne]
         intro e
         rw [e] at hlt
         exact ltS_irrefl _ hlt
       refine nx ?_; refine rG hN hk noc [] [0, 5, 6, 27] fun K hK => ?_; simp only [go_sem, seval]
       try simp (disch := omega) only [au]
       (first | with_reducible refine hK _ _ ?_ | refine obK (hK _ _ ?_)); clear hK K; refine nx ?_
       refine cT ?_; refine nx ?_; refine rG hN hk noc [] [0, 5, 6, 7] fun K hK => ?_; simp only [go_sem, seval]
       (first | with_reducible refine hK _ _ ?_ | refine obK (hK _ _ ?_)); clear hK K; refine nx ?_
       refine rG hN hk noc [] [0, 5, 6, 7] fun K hK => ?_; simp only [go_sem, seval, hx]
       (first | with_reducible refine hK _ _ ?_ | refine obK (hK _ _ ?_)); clear hK K; refine nx ?_
       refine lpF hk 1 (fun z : Nat => ⟨[(0, .sl 2 (flE l)), (5, .osl 0 (o.length + 1) 2), (6, I i), (7, I i)], [(0, some ⟨131, 2, flE (o ++ [x])⟩)]⟩) (fun z => True) (fun z => 0) 0 (mkWk [some 0] [] (by simp [wkEnv, lk, lkh, I, str, B, U8, U64, U32, hli] <;> omega) (by first | (simp [wkHp, wkHp1, wkEnt, lkh, hli]; done) | simp [wkHp, wkHp1, wkEnt, lkh, I, str, hli])) ?_
       intro z _
       have hol : i < o.length + 1 := by omega
       cases i with
       | zero =>
         have d0 : decide (((0 : Nat) : Int) > 0) = false := by simp
         refine nx ?_
         refine rD hN hk noc [] [0, 5, 6, 7, 54] fun K tok htok hK => ?_
         simp only [go_sem, seval, d0]
         try simp (disch := omega) only [au]
         try simp only [go_sem, seval, d0]
         refine ⟨htok _ (by decide +kernel), ?_⟩
         (first | with_reducible refine hK _ _ ?_ | refine obK (hK _ _ ?_)); clear hK K htok tok
         refine nx ?_; refine cF ?_; refine nx ?_; refine rG hN hk noc [] [0, 5, 6, 7] fun K hK => ?_; simp only [go_sem, seval, hx, hl2, hset, hol]
         (first | with_reducible refine hK _ _ ?_ | refine obK (hK _ _ ?_)); clear hK K; refine nx ?_
         refine rD hN hk noc [] [0, 5, 6, 87] fun K tok htok hK => ?_
         simp only [go_sem, seval, d0]
         try simp (disch := omega) only [au]
         try simp only [go_sem, seval, d0]
         refine ⟨htok _ (by decide +kernel), ?_⟩
         (first | with_reducible refine hK _ _ ?_ | refine obK (hK _ _ ?_)); clear hK K htok tok
         refine nx ?_; refine cF ?_; refine nx ?_; refine rG hN hk noc [] [0, 5, 6] fun K hK => ?_; simp only [go_sem, seval]
         try simp (disch := omega) only [au]
         refine hK _ _ ?_; clear hK K; refine nx ?_
         refine eE (1) (mkWk [some 0] [] (by simp [wkEnv, lk, lkh, I, str, B, U8, U64, U32, hsn] <;> omega) (by first | (simp [wkHp, wkHp1, wkEnt, lkh, hsn]; done) | simp [wkHp, wkHp1, wkEnt, lkh, I, str, hsn]))
       | succ j =>
         obtain ⟨y, hy, g1, g2⟩ := heq j rfl
         have d0 : decide (((j + 1 : Nat) : Int) > 0) = true := by simp
         have e1 : (((j + 1 : Nat) : Int) - 1) = (j : Int) := by omega
         have w1 := wrap64 (n := (j : Int)) (by omega)
         refine nx ?_
         refine rD hN hk noc [] [0, 5, 6, 7, 54] fun K tok htok hK => ?_
         simp only [go_sem, seval, d0, e1, w1, hy, g1, hx]
         try simp (disch := omega) only [au]
         try simp only [go_sem, seval, d0, e1, w1, hy, g1, hx]
         refine ⟨htok _ (by decide +kernel), ?_⟩
         (first | with_reducible refine hK _ _ ?_ | refine obK (hK _ _ ?_)); clear hK K htok tok
         refine nx ?_; refine cF ?_; refine nx ?_; refine rG hN hk noc [] [0, 5, 6, 7] fun K hK => ?_; simp only [go_sem, seval, hx, hl2, hset, hol]
         (first | with_reducible refine hK _ _ ?_ | refine obK (hK _ _ ?_)); clear hK K; refine nx ?_
         refine rD hN hk noc [] [0, 5, 6, 87] fun K tok htok hK => ?_
         simp only [go_sem, seval, d0, e1, w1, hy, g2, hx]
         try simp (disch := omega) only [au]
         try simp only [go_sem, seval, d0, e1, w1, hy, g2, hx]
         refine ⟨htok _ (by decide +kernel), ?_⟩
         (first | with_reducible refine hK _ _ ?_ | refine obK (hK _ _ ?_)); clear hK K htok tok
         refine nx ?_; refine cF ?_; refine nx ?_; refine rG hN hk noc [] [0, 5, 6] fun K hK => ?_; simp only [go_sem, seval]
         try simp (disch := omega) only [au]
         refine hK _ _ ?_; clear hK K; refine nx ?_
         refine eE (j + 1 + 1) (mkWk [some 0] [] (by simp [wkEnv, lk, lkh, I, str, B, U8, U64, U32, hsn] <;> omega) (by first | (simp [wkHp, wkHp1, wkEnt, lkh, hsn]; done) | simp [wkHp, wkHp1, wkEnt, lkh, I, str, hsn]))
     · have : i = l.length := by omega
       subst this
       rw [List.take_length]
       refine nx ?_; refine rG hN hk noc [] [0, 5, 6, 27] fun K hK => ?_; simp only [go_sem, seval]
       try simp (disch := omega) only [au]
       (first | with_reducible refine hK _ _ ?_ | refine obK (hK _ _ ?_)); clear hK K; refine nx ?_
       refine cF ?_; refine nx ?_; refine rG hN hk noc [] [2, 3] fun K hK => ?_; simp only [go_sem, seval]; refine hK _ _ ?_
       clear hK K; refine nx ?_
       refine AW.ret (mkRet [some 0] [] rfl (by simp [resOf, lk, lkh, I, str, B, U8, U64, U32] <;> omega) (by first | (simp [wkHp, wkHp1, wkEnt, lkh]; done) | simp [wkHp, wkHp1, wkEnt, lkh, I, str]))
theorem check12 (e : Ev) (h : EvG e) : ACall Tryz.prog 48 [.agg (evC e)] [] (I 0) [] := by
 have q1 := place12 e h
 have q2 := weight1 e.weight
 rw [h.weight] at q2
 have q3 := lines12 e h
 have q4 := sort11 e.fields h.nf (fun f hf => (h.fn f hf).1) h.fs
 have hnf := h.nf
 have q5 := sameFields e.fields (by omega)
 have d1 := dLtF (a := e.time) (b := 0) h.time.1
 have d2 := dGtF (a := e.time) (b := 253402300799999) h.time.2
 have htr := h.tr
 have d3 := dGtF (a := (e.trace.length : Int)) (b := 32) (by omega)
 have d4 := dGtF (a := (e.stream.length : Int)) (b := 32) (by omega)
 have hfn := h.fn
 refine acall 68 0 Tryz.func48 rfl rfl rfl (by simp) rfl rfl ?_
 intro C hN hk
 refine nx ?_; refine rG hN hk noc [] [1] fun K hK => ?_; simp only [go_sem, seval]; refine hK _ _ ?_
 clear hK K; refine nx ?_
 refine rG hN hk (onc 1 (pcq q1) noc) [] [1, 3] fun K hK => ?_; simp only [go_sem, seval]; refine obK (hK _ _ ?_)
 clear hK K; refine nx ?_
 refine rG hN hk noc [] [1, 21] fun K hK => ?_; simp only [go_sem, seval, d1, d2, bne_self_eq_false]
 try simp (disch := omega) only [au]
 try simp only [go_sem, seval, d1, d2, bne_self_eq_false]
 iterate 2 try (simp (disch := omega) only [au]; try simp only [go_sem, seval, d1, d2, bne_self_eq_false])
 refine hK _ _ ?_; clear hK K; refine nx ?_; refine cF ?_; refine nx ?_; refine rG hN hk (onc 2 (pcq q2) noc) [] [1, 25] fun K hK => ?_; simp only [go_sem, seval]; refine obK (hK _ _ ?_)
 clear hK K; refine nx ?_
 refine cF ?_; refine nx ?_; refine rG hN hk (onc 1 (pcq q3) noc) [] [1, 4] fun K hK => ?_; simp only [go_sem, seval]; refine obK (hK _ _ ?_)
 clear hK K; refine nx ?_
 refine rG hN hk noc [] [1, 4, 29] fun K hK => ?_; simp only [go_sem, seval, bne_self_eq_false]
 try simp (disch := omega) only [au]
 refine hK _ _ ?_; clear hK K; refine nx ?_; refine cF ?_; refine nx ?_; refine rG hN hk noc [] [1, 40] fun K hK => ?_; simp only [go_sem, seval, d3, d4]
 try simp (disch := omega) only [au]
 try simp only [go_sem, seval, d3, d4]
 (first | with_reducible refine hK _ _ ?_ | refine obK (hK _ _ ?_)); clear hK K; refine nx ?_
 refine cF ?_; refine nx ?_; refine rG hN hk (onc 2 (pcq q4) noc) [] [1, 5, 6] fun K hK => ?_; simp only [go_sem, seval]; refine obK (hK _ _ ?_)
 clear hK K; refine nx ?_
 refine rG hN hk noc [] [1, 5, 6, 48] fun K hK => ?_; simp only [go_sem, seval, bne_self_eq_false]
 try simp (disch := omega) only [au]
 refine hK _ _ ?_; clear hK K; refine nx ?_; refine cF ?_; refine nx ?_; refine rG hN hk (onc 3 (bcq [1] q5) noc) [] [5, 54] fun K hK => ?_; simp only [go_sem, seval]; refine obK (hK _ _ ?_)
 clear hK K; refine nx ?_
 refine cF ?_; refine nx ?_; refine rG hN hk noc [] [5, 7] fun K hK => ?_; simp only [go_sem, seval]; refine hK _ _ ?_
 clear hK K; refine nx ?_
 clear q1 q2 q3 q4 q5 d1 d2 d3 d4
 refine nx ?_
 refine lpF hk 1 (fun i : Nat => ⟨[(5, .osl 0 e.fields.length 2), (7, I i)], [(0, some ⟨131, 2, flE e.fields⟩)]⟩) (fun i => i ≤ e.fields.length) (fun i => e.fields.length - i) 0 (mkWk [some 0] [] (by simp [wkEnv, lk, lkh, I, str, B, U8, U64, U32] <;> omega) (by first | (simp [wkHp, wkHp1, wkEnt, lkh]; done) | simp [wkHp, wkHp1, wkEnt, lkh, I, str])) ?_
 intro i hi0
 generalize e.fields = l at *
 by_cases hi : i < l.length
 · have hx := List.getElem?_eq_getElem hi
   have ht := (hfn _ (List.getElem_mem hi)).2
   have d6 := dGtF (a := (l[i].val.length : Int)) (b := 2000) (by omega)
   generalize l[i] = x at *
   refine nx ?_; refine rG hN hk noc [] [5, 7, 58] fun K hK => ?_; simp only [go_sem, seval]
   try simp (disch := omega) only [au]
   (first | with_reducible refine hK _ _ ?_ | refine obK (hK _ _ ?_)); clear hK K; refine nx ?_
   refine cT ?_; refine nx ?_; refine rG hN hk noc [] [5, 7, 67] fun K hK => ?_; simp only [go_sem, seval, d6, hx]
   try simp (disch := omega) only [au]
   (first | with_reducible refine hK _ _ ?_ | refine obK (hK _ _ ?_)); clear hK K; refine nx ?_
   refine cF ?_; refine nx ?_; refine rG hN hk noc [] [5, 7] fun K hK => ?_; simp only [go_sem, seval]
   try simp (disch := omega) only [au]
   refine hK _ _ ?_; clear hK K; refine nx ?_
   refine eE (i + 1) (mkWk [some 0] [] (by simp [wkEnv, lk, lkh, I, str, B, U8, U64, U32] <;> omega) (by first | (simp [wkHp, wkHp1, wkEnt, lkh]; done) | simp [wkHp, wkHp1, wkEnt, lkh, I, str]))
 · refine nx ?_
   refine rG hN hk noc [] [5, 7, 58] fun K hK => ?_; simp only [go_sem, seval]
   try simp (disch := omega) only [au]
   (first | with_reducible refine hK _ _ ?_ | refine obK (hK _ _ ?_)); clear hK K; refine nx ?_
   refine cF ?_; refine nx ?_; refine rG hN hk noc [] [2] fun K hK => ?_; simp only [go_sem, seval]; refine hK _ _ ?_
   clear hK K; refine nx ?_
   refine AW.ret (mkRet [] [] rfl (by simp [resOf, lk, lkh, I, str, B, U8, U64, U32] <;> omega) (by first | (simp [wkHp, wkHp1, wkEnt, lkh]; done) | simp [wkHp, wkHp1, wkEnt, lkh, I, str]))
/-- A list of events that can be a segment. -/
structure SegG (l : List Ev) : Prop where
 len : l.length ≤ 256
 ev : ∀ e ∈ l, EvG e
 asc : Asc l
 names : (allNames l).length ≤ 100
 words : (allWords l).length ≤ 32768
theorem check27 (l : List Ev) (h : SegG l) : ACall Tryz.prog 29 [.sl 10 (evE l)] [] (I 0) [] := by
 have hl := h.len
 have hev := h.ev
 have q1 := words27a l (by omega) (fun e he => (hev e he).evT)
 have q2 := names27 l (by omega) (fun e he => (hev e he).evT)
 have d1 := dGtF (a := (l.length : Int)) (b := 256) (by omega)
 have hn := h.names
 have hw := h.words
 have d2 := dGtF (a := ((allWords l).length : Int)) (b := 32768) (by omega)
 have d3 := dGtF (a := ((allNames l).length : Int)) (b := 32768) (by omega)
 have hasc := h.asc
 refine acall 50 0 Tryz.func29 rfl rfl rfl (by simp) rfl rfl ?_
 intro C hN hk
 refine nx ?_; refine rG hN hk noc [] [0] fun K hK => ?_; simp only [go_sem, seval]; refine hK _ _ ?_
 clear hK K; refine nx ?_
 refine rG hN hk noc [] [0, 8] fun K hK => ?_; simp only [go_sem, seval, d1]
 try simp (disch := omega) only [au]
 (first | with_reducible refine hK _ _ ?_ | refine obK (hK _ _ ?_)); clear hK K; refine nx ?_
 refine cF ?_; refine nx ?_; refine rG hN hk noc [] [0, 3] fun K hK => ?_; simp only [go_sem, seval]; refine hK _ _ ?_
 clear hK K; refine nx ?_
 refine lpF hk 0 (fun i : Nat => ⟨[(0, .sl 10 (evE l)), (3, I i)], []⟩) (fun i => i ≤ l.length) (fun i => l.length - i) 0 (mkWk [] [] (by simp [wkEnv, lk, lkh, I, str, B, U8, U64, U32] <;> omega) (by first | (simp [wkHp, wkHp1, wkEnt, lkh]; done) | simp [wkHp, wkHp1, wkEnt, lkh, I, str])) ?_
 intro i hi0
 by_cases hi : i < l.length
 · have hx := List.getElem?_eq_getElem hi
   have q := check12 l[i] (hev _ (List.getElem_mem hi))
   generalize l[i] = x at *
   refine nx ?_; refine rG hN hk noc [] [0, 3, 12] fun K hK => ?_; simp only [go_sem, seval]
   try simp (disch := omega) only [au]
   (first | with_reducible refine hK _ _ ?_ | refine obK (hK _ _ ?_)); clear hK K; refine nx ?_
   refine cT ?_; refine nx ?_; refine rG hN hk (onc 4 (pcq q) noc) [] [0, 3, 4] fun K hK => ?_; simp only [go_sem, seval, hx]; refine obK (hK _ _ ?_)
   clear hK K; refine nx ?_
   refine rG hN hk noc [] [0, 3, 4, 21] fun K hK => ?_; simp only [go_sem, seval, bne_self_eq_false]
   try simp (disch := omega) only [au]
   refine hK _ _ ?_; clear hK K; refine nx ?_; refine cF ?_; refine nx ?_; refine rG hN hk noc [] [0, 3] fun K hK => ?_; simp only [go_sem, seval]
   try simp (disch := omega) only [au]
   refine hK _ _ ?_; clear hK K; refine nx ?_
   refine eE (i + 1) (mkWk [] [] (by simp [wkEnv, lk, lkh, I, str, B, U8, U64, U32] <;> omega) (by first | (simp [wkHp, wkHp1, wkEnt, lkh]; done) | simp [wkHp, wkHp1, wkEnt, lkh, I, str]))
 · refine nx ?_
   refine rG hN hk noc [] [0, 3, 12] fun K hK => ?_; simp only [go_sem, seval]
   try simp (disch := omega) only [au]
   (first | with_reducible refine hK _ _ ?_ | refine obK (hK _ _ ?_)); clear hK K; refine nx ?_
   refine cF ?_; refine nx ?_; refine rG hN hk noc [] [0, 5] fun K hK => ?_; simp only [go_sem, seval]; refine hK _ _ ?_
   clear hK K; refine nx ?_
   refine lpF hk 0 (fun i : Nat => ⟨[(0, .sl 10 (evE l)), (5, I i)], []⟩) (fun i => 1 ≤ i) (fun i => l.length - i) 1 (mkWk [] [] (by simp [wkEnv, lk, lkh, I, str, B, U8, U64, U32] <;> omega) (by first | (simp [wkHp, wkHp1, wkEnt, lkh]; done) | simp [wkHp, wkHp1, wkEnt, lkh, I, str])) ?_
   intro i hi0
   by_cases hi : i < l.length
   · have hx := List.getElem?_eq_getElem hi
     have hj : i - 1 < l.length := by omega
     have hy := List.getElem?_eq_getElem hj
     have hls := List.pairwise_iff_getElem.1 hasc (i - 1) i hj hi (by omega)
     have q := less12 l[i - 1] l[i]
     rw [hls] at q
     have w1 := wrap64 (n := (i : Int) - 1) (by omega)
     have e1 : ((i : Int) - 1).toNat = i - 1 := by omega
     generalize l[i] = x at *
     generalize l[i - 1] = y at *
     refine nx ?_; refine rG hN hk noc [] [0, 5, 26] fun K hK => ?_; simp only [go_sem, seval]
     try simp (disch := omega) only [au]
     (first | with_reducible refine hK _ _ ?_ | refine obK (hK _ _ ?_)); clear hK K; refine nx ?_
     refine cT ?_; refine nx ?_
     refine rD hN hk (onc 9 (pcq q) noc) [] [0, 5, 39] fun K tok htok hK => ?_
     simp only [go_sem, seval, hx, w1, e1, hy]
     try simp (disch := omega) only [au]
     refine ⟨htok _ (by decide +kernel), ?_⟩
     refine obK (hK _ _ ?_); clear hK K htok tok
     refine nx ?_; refine cF ?_; refine nx ?_; refine rG hN hk noc [] [0, 5] fun K hK => ?_; simp only [go_sem, seval]
     try simp (disch := omega) only [au]
     refine hK _ _ ?_; clear hK K; refine nx ?_
     refine eE (i + 1) (mkWk [] [] (by simp [wkEnv, lk, lkh, I, str, B, U8, U64, U32] <;> omega) (by first | (simp [wkHp, wkHp1, wkEnt, lkh]; done) | simp [wkHp, wkHp1, wkEnt, lkh, I, str]))
   · generalize allWords l = aw at *
     generalize allNames l = an at *
     refine nx ?_; refine rG hN hk noc [] [0, 5, 26] fun K hK => ?_; simp only [go_sem, seval]
     try simp (disch := omega) only [au]
     (first | with_reducible refine hK _ _ ?_ | refine obK (hK _ _ ?_)); clear hK K; refine nx ?_
     refine cF ?_; refine nx ?_; refine rG hN hk (onc 1 (pcq q1) (onc 6 (pcq q2) noc)) [] [49] fun K hK => ?_; simp only [go_sem, seval, d2, d3]
     try simp (disch := omega) only [au]
     try simp only [go_sem, seval, d2, d3]
     refine obK (hK _ _ ?_); clear hK K; refine nx ?_; refine cF ?_; refine nx ?_; refine rG hN hk noc [] [2] fun K hK => ?_; simp only [go_sem, seval]; refine hK _ _ ?_
     clear hK K; refine nx ?_
     refine AW.ret (mkRet [] [] rfl (by simp [resOf, lk, lkh, I, str, B, U8, U64, U32] <;> omega) (by first | (simp [wkHp, wkHp1, wkEnt, lkh]; done) | simp [wkHp, wkHp1, wkEnt, lkh, I, str]))
theorem flat_le {l : List Ev} (m : Nat) (h : ∀ e ∈ l, e.lines.length ≤ m) : (l.flatMap Ev.lines).length ≤ l.length * m := by
 induction l with
 | nil => simp
 | cons a l ih =>
   have h1 := ih (fun e he => h e (by simp [he]))
   have h2 := h a (by simp)
   simp only [List.flatMap_cons, List.length_append, List.length_cons]
   rw [Nat.succ_mul]; omega
theorem SegG.ok {l : List Ev} (h : SegG l) : SegOk l := by
 have hl := h.len
 have h1 := flat_le 40 (l := l) (fun e he => (h.ev e he).nl.2)
 have hn := h.names
 exact ⟨by omega, fun e he => (h.ev e he).evT, fun e he => ⟨by have := (h.ev e he).tr; omega, by have := (h.ev e he).tr; omega⟩, by omega, by omega, h.words⟩
theorem secF_len {l : List Ev} (h : SegG l) (k : Nat) : (secF l k).length < 2 ^ 32 := by
 have H := h.ok
 have hl := h.len
 have h7 : (ixF (l.map Ev.trace)).length ≤ 2 ^ 24 := ixF_len _ (by simp; omega) (by
   intro s hs; obtain ⟨e, he, rfl⟩ := List.mem_map.1 hs; exact (H.tr e he).1)
 have h8 : (ixF (l.map Ev.stream)).length ≤ 2 ^ 24 := ixF_len _ (by simp; omega) (by
   intro s hs; obtain ⟨e, he, rfl⟩ := List.mem_map.1 hs; exact (H.tr e he).2)
 have h9 : (linesF l).length ≤ 2 ^ 27 := by
   have hL : (lnTo l l.length).length ≤ 16384 := by rw [lnTo_all]; exact H.lines
   have htx : ∀ x ∈ lnTo l l.length, x.text.length ≤ 2000 := by
     intro x hx
     rw [lnTo_all] at hx
     obtain ⟨e, he, hx⟩ := List.mem_flatMap.1 hx
     exact (H.ev e he).tx x hx
   have b0 := (bcol (cnTo l l.length) (by simp [cnTo]; omega)).2
   have b1 := (bcol (lo (lnTo l l.length)) (by simp [lo]; exact hL)).2
   have b2 := (bcol (le (lnTo l l.length)) (by simp [le]; exact hL)).2
   have b3 := (bcol (lz (lnTo l l.length)) (by simp [lz]; exact hL)).2
   have b4 := lt_len _ htx
   unfold linesF
   simp only [List.length_append]; omega
 have h10 : (fieldsF l).length ≤ 2 ^ 31 := by
   have hn := h.names
   have hc : check23F (allNames l) = 0 := check23_dist2 _ (by have := h.names; unfold allNames at this; omega) (nmTo_short l H.ev _)
   have := fdTo_len l (allNames l) H.len H.ev hc (allNames l).length (Nat.le_refl _)
   have h100 : (allNames l).length * (2 ^ 24 + 100011) ≤ 100 * (2 ^ 24 + 100011) := Nat.mul_le_mul_right _ hn
   unfold fieldsF; omega
 have h11 : (indexF l).length < 2 ^ 32 := by
   have hw := h.words
   have hc : check23F (allWords l) = 0 := check23_dist2 _ (by have := h.words; unfold allWords at this; omega) (wsTo_short l)
   have hxL := pxTo_len (allWords l) l l.length
   have hpost := pxTo_post (allWords l) l H.len (distF_sorted _) (words_all l)
   have := xbTo_len (allWords l) (pxTo (allWords l) l l.length) hc hpost (pxTo (allWords l) l l.length).length (Nat.le_refl _)
   have h100 : (allWords l).length * 100011 ≤ 32768 * 100011 := Nat.mul_le_mul_right _ hw
   unfold indexF; rw [hxL] at this ⊢; omega
 have h12 := filtF_len l
 have h1 : (enc24 (l.map fun e => numF e k)).length ≤ 24 + 256 * 22 := by
   have := enc24_len (l.map fun e => numF e k) (by simp; omega)
   simp at this; omega
 unfold secF
 repeat' split
 all_goals omega
noncomputable def secs (l : List Ev) : List (List UInt8) := (List.range 12).map fun k => secF l (k + 1)
theorem secs_n (l : List Ev) : (secs l).length = 12 := by simp [secs]
theorem secs_at (l : List Ev) (k : Nat) (h : k < (secs l).length) : (secs l)[k] = secF l (k + 1) := by simp [secs]
def tmAt (l : List Ev) (i : Nat) : Nat := match l[i]? with
 | some e => e.time.toNat
 | none => 0
noncomputable def segE (l : List Ev) : List UInt8 := segF l.length (tmAt l 0) (tmAt l (l.length - 1)) (secs l)
theorem tmAt_lt {l : List Ev} (h : SegG l) (i : Nat) : tmAt l i ≤ 253402300799999 := by
 unfold tmAt
 split
 · next e he => have := (h.ev e (List.mem_of_getElem? he)).time; omega
 · omega
theorem flatten_le (ss : List (List UInt8)) (m : Nat) (h : ∀ s ∈ ss, s.length ≤ m) : ss.flatten.length ≤ ss.length * m := by
 induction ss with
 | nil => simp
 | cons a l ih =>
   have h1 := ih (fun e he => h e (by simp [he]))
   have h2 := h a (by simp)
   simp only [List.flatten_cons, List.length_append, List.length_cons]
   rw [Nat.succ_mul]; omega
theorem segE_B {l : List Ev} (h : SegG l) : SegB l.length (tmAt l 0) (tmAt l (l.length - 1)) (secs l) := by
 have hl := h.len
 have h1 := tmAt_lt h 0
 have h2 := tmAt_lt h (l.length - 1)
 have he : ∀ s ∈ secs l, s.length < 2 ^ 32 := by
   intro s hs
   unfold secs at hs
   obtain ⟨k, _, rfl⟩ := List.mem_map.1 hs
   exact secF_len h _
 have hf := flatten_le (secs l) (2 ^ 32) (fun s hs => Nat.le_of_lt (he s hs))
 rw [secs_n] at hf
 exact ⟨secs_n l, he, by omega, by omega, by omega, by omega⟩
theorem segE_V {l : List Ev} (h : SegG l) : SegV (segE l) l.length (tmAt l 0) (tmAt l (l.length - 1)) (secs l) := segV (segE_B h)
theorem tmAt_get {l : List Ev} (h : SegG l) {i : Nat} {e : Ev} (hx : l[i]? = some e) : (tmAt l i : Int) = e.time := by
 unfold tmAt
 rw [hx]
 have := (h.ev e (List.mem_of_getElem? hx)).time
 simp only; omega
theorem encode27 (l : List Ev) (h : SegG l) : ACall Tryz.prog 14 [.sl 10 (evE l)] [] (.tup [.osl 0 (segE l).length 1, I 0]) [some ⟨5, 1, bytesE (segE l)⟩] := by
 have q0 := check27 l h
 have ha := tmAt_lt h 0
 have hz := tmAt_lt h (l.length - 1)
 have hga := fun e => tmAt_get h (i := 0) (e := e)
 have hgz := fun e => tmAt_get h (i := l.length - 1) (e := e)
 have hl := h.len
 have H := h.ok
 have hn := secs_n l
 have hB := (segE_B h).each
 have hT := (segE_B h).total
 have hat := secs_at l
 have hq := fun k h1 h2 => section27 l H k h1 h2
 have hdl := hd24F_len l.length (tmAt l 0) (tmAt l (l.length - 1))
 have p1 := put27 [76, 84, 83, 49] l.length 4 (by simp) (by omega)
 have p2 := put27 ([76, 84, 83, 49] ++ beTo l.length 4) (tmAt l 0) 8 (by simp [beTo_len]) (by omega)
 have p3 := put27 ([76, 84, 83, 49] ++ beTo l.length 4 ++ beTo (tmAt l 0) 8) (tmAt l (l.length - 1)) 8 (by simp [beTo_len]) (by omega)
 have hl0 : l = [] → tmAt l 0 = 0 ∧ tmAt l (l.length - 1) = 0 := by intro h; subst h; simp [tmAt]
 obtain ⟨sg, hsg⟩ : ∃ sg, segE l = sg := ⟨_, rfl⟩
 rw [hsg]
 unfold segE segF hdF at hsg
 have e24 : hd24F l.length (tmAt l 0) (tmAt l (l.length - 1)) = [76, 84, 83, 49] ++ beTo l.length 4 ++ beTo (tmAt l 0) 8 ++ beTo (tmAt l (l.length - 1)) 8 := rfl
 rw [e24] at hsg
 clear e24
 generalize tmAt l 0 = a at *
 generalize tmAt l (l.length - 1) = z at *
 have hx1 := beTo_len l.length 4
 generalize beTo l.length 4 = x1 at *
 refine acall 68 0 Tryz.func14 rfl rfl rfl (by simp) rfl rfl ?_
 intro C hN hk
 refine nx ?_; refine rG hN hk noc [] [0] fun K hK => ?_; simp only [go_sem, seval]; refine hK _ _ ?_
 clear hK K; refine nx ?_
 refine rG hN hk (onc 1 (pcq q0) noc) [] [0, 4] fun K hK => ?_; simp only [go_sem, seval]; refine obK (hK _ _ ?_)
 clear hK K; refine nx ?_
 refine rG hN hk noc [] [0, 4, 14] fun K hK => ?_; simp only [go_sem, seval, bne_self_eq_false]
 try simp (disch := omega) only [au]
 refine hK _ _ ?_; clear hK K; refine nx ?_; refine cF ?_; refine nx ?_; refine rG hN hk noc [] [0, 5, 6] fun K hK => ?_; simp only [go_sem, seval]; refine hK _ _ ?_
 clear hK K; refine nx ?_
 refine rG hN hk noc [] [0, 5, 6, 18] fun K hK => ?_; simp only [go_sem, seval]
 try simp (disch := omega) only [au]
 (first | with_reducible refine hK _ _ ?_ | refine obK (hK _ _ ?_)); clear hK K; refine nx ?_
 refine AW.join hk 0 ⟨[(0, .sl 10 (evE l)), (5, I a), (6, I z)], []⟩ ?_ ?_
 · refine AW.condB rfl (fun h => ?_) (fun h => ?_)
   · simp only [gt_iff_lt, decide_eq_true_eq] at h
     have hl0 : 0 < l.length := by omega
     have hx0 := List.getElem?_eq_getElem hl0
     have hx1 := List.getElem?_eq_getElem (show l.length - 1 < l.length by omega)
     have g0 := hga _ hx0
     have g1 := hgz _ hx1
     have w1 := wrap64 (n := (l.length : Int) - 1) (by omega)
     have e1 : ((l.length : Int) - 1).toNat = l.length - 1 := by omega
     generalize l[0] = ea at *
     generalize l[l.length - 1] = ez at *
     refine nx ?_
     refine rD hN hk noc [] [0, 5, 6] fun K tok htok hK => ?_
     simp only [go_sem, seval, hx0, w1, e1, hx1]
     try simp (disch := omega) only [au]
     refine ⟨htok _ (by decide +kernel), ?_⟩
     (first | with_reducible refine hK _ _ ?_ | refine obK (hK _ _ ?_)); clear hK K htok tok
     refine nx ?_
     exact mkWk [] [] (by simp [wkEnv, lk, lkh, I, str, B, U8, U64, U32, g0, g1] <;> omega) (by first | (simp [wkHp, wkHp1, wkEnt, lkh, g0, g1]; done) | simp [wkHp, wkHp1, wkEnt, lkh, I, str, g0, g1])
   · simp only [gt_iff_lt, decide_eq_false_iff_not] at h
     have hl1 : l = [] := by cases l with
       | nil => rfl
       | cons a l => simp at h
     have := hl0 hl1
     obtain ⟨rfl, rfl⟩ := this
     refine nx ?_
     exact mkWk [] [] (by simp [wkEnv, lk, lkh, I, str, B, U8, U64, U32] <;> omega) (by first | (simp [wkHp, wkHp1, wkEnt, lkh]; done) | simp [wkHp, wkHp1, wkEnt, lkh, I, str])
 clear hga hgz hl0 q0
 have w1 := wrapU64 (n := (l.length : Int)) (by omega)
 have w2 := wrapU64 (n := (a : Int)) (by omega)
 have w3 := wrapU64 (n := (z : Int)) (by omega)
 refine nx ?_; refine rG hN hk (onc 5 (ocq 0 p1) (onc 8 (ocq 40 p2) (onc 11 (ocq 64 p3) noc))) [] [0, 7] fun K hK => ?_; simp only [go_sem, seval, w1, w2, w3]
 try simp (disch := omega) only [au]
 refine obK (hK _ _ ?_); clear hK K; refine nx ?_
 clear p1 p2 p3 w1 w2 w3
 refine nx ?_; refine rG hN hk noc [] [0, 7, 8] fun K hK => ?_; simp only [go_sem, seval]; refine hK _ _ ?_
 clear hK K; refine nx ?_
 refine rG hN hk noc [] [0, 7, 8, 9] fun K hK => ?_; simp only [go_sem, seval]; refine hK _ _ ?_
 clear hK K; refine nx ?_
 have hhl : ([76, 84, 83, 49] ++ x1 ++ beTo a 8 ++ beTo z 8).length = 24 := by simp only [List.length_append, beTo_len, hx1]; rfl
 obtain ⟨hd, hdE⟩ : ∃ hd, [76, 84, 83, 49] ++ x1 ++ beTo a 8 ++ beTo z 8 = hd := ⟨_, rfl⟩
 rw [hdE] at hhl hsg
 simp only [List.cons_append, List.nil_append] at hdE
 have hdE2 : 76 :: 84 :: 83 :: 49 :: (x1 ++ beTo a 8 ++ beTo z 8) = hd := hdE
 have hdE3 : (x1 ++ beTo a 8 ++ beTo z 8).length + 1 + 1 + 1 + 1 = hd.length := by rw [← hdE2]; simp only [List.length_cons]
 rw [hdE2, hdE3]
 clear hdE hdE2 hdE3
 have hT' : ∀ i, ((secs l).take i).flatten.length ≤ 2 ^ 36 := fun i => Nat.le_trans (offF_le (secs l) i) hT
 have hdL : ∀ i, i ≤ 12 → (hd ++ dirF ((secs l).take i)).length = 24 + 8 * i := by
   intro i hi
   rw [List.length_append, dirF_len, List.length_take, hn, hhl]; omega
 have h0 : dirF [] = [] := rfl
 refine nx ?_
 refine lpF hk 2 (fun i : Nat => ⟨[(0, .sl 10 (evE l)), (7, .osl 0 (hd ++ dirF ((secs l).take i)).length 1), (8, .osl 1 ((secs l).take i).flatten.length 1), (9, I (i + 1 : Nat))], [(0, some ⟨5, 1, bytesE (hd ++ dirF ((secs l).take i))⟩), (1, some ⟨5, 1, bytesE ((secs l).take i).flatten⟩)]⟩) (fun i => i ≤ 12) (fun i => 12 - i) 0 (mkWk [some 0, none] [] (by simp [wkEnv, lk, lkh, I, str, B, U8, U64, U32, h0] <;> omega) (by first | (simp [wkHp, wkHp1, wkEnt, lkh, h0]; done) | simp [wkHp, wkHp1, wkEnt, lkh, I, str, h0])) ?_
 intro i hi0
 have hLi := hdL i hi0
 have hTi := hT' i
 by_cases hi : i < 12
 · have hil : i < (secs l).length := by omega
   have hs1 : (secs l).take (i + 1) = (secs l).take i ++ [secF l (i + 1)] := by rw [← hat i hil]; simp [List.take_append_getElem]
   have hs2 : hd ++ dirF ((secs l).take (i + 1)) = hd ++ dirF ((secs l).take i) ++ beTo (secF l (i + 1)).length 4 ++ beTo (crcF (secF l (i + 1))) 4 := by
     rw [hs1]; simp [dirF, dirS]
   have hs3 : ((secs l).take (i + 1)).flatten = ((secs l).take i).flatten ++ secF l (i + 1) := by rw [hs1]; simp
   have q := hq (i + 1) (by omega) (by omega)
   have hsl : (secF l (i + 1)).length < 2 ^ 32 := hB _ (by rw [← hat i hil]; exact List.getElem_mem hil)
   generalize hd ++ dirF ((secs l).take i) = X at *
   generalize ((secs l).take i).flatten = Y at *
   generalize secF l (i + 1) = s at *
   have p1 := put27 X s.length 4 (by omega) (by omega)
   have p2 := crc27 s (by omega)
   have hcr := crcF_lt s
   have p3 := put27 (X ++ beTo s.length 4) (crcF s) 4 (by rw [List.length_append, beTo_len]; omega) (by omega)
   have w1 := wrapU64 (n := (s.length : Int)) (by omega)
   have w2 := wrapU64 (n := (crcF s : Int)) (by omega)
   generalize crcF s = cr at *
   refine nx ?_; refine rG hN hk noc [] [0, 7, 8, 9, 43] fun K hK => ?_; simp only [go_sem, seval]
   try simp (disch := omega) only [au]
   refine hK _ _ ?_; clear hK K; refine nx ?_; refine cT ?_; refine nx ?_; refine rG hN hk (onc 2 (pcq q) noc) [] [0, 7, 8, 9, 10] fun K hK => ?_; simp only [go_sem, seval]; refine obK (hK _ _ ?_)
   clear hK K; refine nx ?_
   refine rG hN hk (onc 4 (ocq 0 p1) (onc 6 (bcq [2] p2) (onc 8 (ocq 35 p3) noc))) [] [0, 7, 8, 9, 10] fun K hK => ?_; simp only [go_sem, seval, w1, w2]
   try simp (disch := omega) only [au]
   refine obK (hK _ _ ?_); clear hK K; refine nx ?_; refine rG hN hk noc [] [0, 7, 8, 9] fun K hK => ?_; simp only [go_sem, seval]
   (first | with_reducible refine hK _ _ ?_ | refine obK (hK _ _ ?_)); clear hK K; refine nx ?_
   refine rG hN hk noc [] [0, 7, 8, 9] fun K hK => ?_; simp only [go_sem, seval]
   try simp (disch := omega) only [au]
   refine hK _ _ ?_; clear hK K; refine nx ?_
   refine eE (i + 1) (mkWk [some 0, some 1] [] (by simp [wkEnv, lk, lkh, I, str, B, U8, U64, U32, hs2, hs3] <;> omega) (by first | (simp [wkHp, wkHp1, wkEnt, lkh, hs2, hs3]; done) | simp [wkHp, wkHp1, wkEnt, lkh, I, str, hs2, hs3]))
 · have : i = 12 := by omega
   subst this
   rw [show (secs l).take 12 = secs l by rw [← hn, List.take_length]] at *
   generalize hd ++ dirF (secs l) = X at *
   generalize (secs l).flatten = Y at *
   have p2 := crc27 X (by omega)
   have hcr := crcF_lt X
   have p3 := put27 X (crcF X) 4 (by omega) (by omega)
   have w2 := wrapU64 (n := (crcF X : Int)) (by omega)
   generalize crcF X = cr at *
   have hx4 : (X ++ beTo cr 4).length = 128 - 4 := by rw [List.length_append, beTo_len]; omega
   refine nx ?_; refine rG hN hk noc [] [0, 7, 8, 9, 43] fun K hK => ?_; simp only [go_sem, seval]
   try simp (disch := omega) only [au]
   refine hK _ _ ?_; clear hK K; refine nx ?_; refine cF ?_; refine nx ?_; refine rG hN hk (onc 2 (bcq [0] p2) (onc 4 (ocq 0 p3) noc)) [] [2, 3] fun K hK => ?_; simp only [go_sem, seval, w2]
   try simp (disch := omega) only [au]
   refine obK (hK _ _ ?_); clear hK K; refine nx ?_
   subst hsg
   refine AW.ret (mkRet [some 0] [] rfl (by simp [resOf, lk, lkh, I, str, B, U8, U64, U32] <;> omega) (by first | (simp [wkHp, wkHp1, wkEnt, lkh]; done) | simp [wkHp, wkHp1, wkEnt, lkh, I, str]))
def addFl (X : List (List Fl)) (p : Nat) (f : Fl) : List (List Fl) := X.set p (X.getD p [] ++ [f])
theorem addFl_len (X : List (List Fl)) (p : Nat) (f : Fl) : (addFl X p f).length = X.length := by simp [addFl]
theorem addFl_at (Y : List (List Fl)) (p : Nat) (i : Fl) (h : p < Y.length) : (addFl Y p i).getD p [] = Y.getD p [] ++ [i] := by
 unfold addFl; simp [List.getD, h]
theorem addFl_ne (Y : List (List Fl)) (p q : Nat) (i : Fl) (h : p ≠ q) : (addFl Y p i).getD q [] = Y.getD q [] := by
 unfold addFl; simp [List.getD, List.getElem?_set_ne h]
/-- The lists of fields after a name's first columns. -/
def ofZ (n : S) (X : List (List Fl)) (z : List (Int × S)) : List (List Fl) := z.foldl (fun X q => addFl X q.1.toNat ⟨n, q.2⟩) X
theorem ofZ_len (n : S) : ∀ (z : List (Int × S)) (X : List (List Fl)), (ofZ n X z).length = X.length
 | [], X => rfl
 | q :: z, X => by
   have := ofZ_len n z (addFl X q.1.toNat ⟨n, q.2⟩)
   rw [addFl_len] at this; exact this
theorem ofZ_snoc (n : S) (X : List (List Fl)) (z : List (Int × S)) (q : Int × S) : ofZ n X (z ++ [q]) = addFl (ofZ n X z) q.1.toNat ⟨n, q.2⟩ := by simp [ofZ]
def vlZ (l : List Ev) (n : S) (i : Nat) : List (Int × S) := (vlTo l n i).1.zip (vlTo l n i).2
theorem getF_name {fs : List Fl} {n : S} {f : Fl} (h : getF fs n = some f) : f = ⟨n, f.val⟩ := by
 have := List.find?_some h
 simp only [beq_iff_eq] at this
 cases f; simp at this; simp [this]
theorem ofZ_all (l : List Ev) (n : S) (X : List (List Fl)) (hX : X.length = l.length) : ∀ m, m ≤ l.length → ∀ j, (h : j < l.length) → (ofZ n X (vlZ l n m)).getD j [] = X.getD j [] ++ (if j < m then (getF l[j].fields n).toList else [])
 | 0, _, j, h => by simp [vlZ, vlTo, ofZ]
 | m + 1, hm, j, h => by
   have IH := ofZ_all l n X hX m (by omega) j h
   have hx : l[m]? = some l[m] := List.getElem?_eq_getElem (by omega)
   have hz : vlZ l n (m + 1) = vlZ l n m ++ (match getF l[m].fields n with | some f => [((m : Int), f.val)] | none => []) := by
     unfold vlZ
     rw [vlTo, hx]
     simp only
     split
     · next f hf =>
       simp only [hf]
       rw [List.zip_append (vlTo_eq l n m)]; rfl
     · next hf => simp [hf]
   rw [hz]
   cases hg : getF l[m].fields n with
   | none =>
     simp only [List.append_nil]
     rw [IH]
     by_cases hjm : j = m
     · subst hjm; simp [hg]
     · simp only [show (j < m + 1) = (j < m) by apply propext; omega]
   | some f =>
     simp only
     rw [ofZ_snoc]
     simp only [Int.toNat_natCast]
     by_cases hjm : j = m
     · subst hjm
       rw [addFl_at _ _ _ (by rw [ofZ_len]; omega), IH, if_neg (by omega), if_pos (by omega), hg, ← getF_name hg]
       simp
     · rw [addFl_ne _ _ _ _ (fun h => hjm h.symm), IH]
       simp only [show (j < m + 1) = (j < m) by apply propext; omega]
/-- The lists of fields after the first names. -/
def fdAt (l : List Ev) (d : List S) (i : Nat) : List (List Fl) := l.map fun e => (d.take i).filterMap (getF e.fields)
theorem fdAt_0 (l : List Ev) (d : List S) : fdAt l d 0 = List.replicate l.length [] := by
 unfold fdAt
 simp only [List.take_zero, List.filterMap_nil]
 exact List.map_const' ..
theorem fdAt_len (l : List Ev) (d : List S) (i : Nat) : (fdAt l d i).length = l.length := by simp [fdAt]
theorem ext_getD {α : Type} {A B : List (List α)} (h : A.length = B.length) (hg : ∀ j, j < A.length → A.getD j [] = B.getD j []) : A = B := by
 apply List.ext_getElem h
 intro j h1 h2
 have := hg j h1
 simpa [List.getD, h1, h2] using this
theorem fdAt_s (l : List Ev) (d : List S) (i : Nat) (h : i < d.length) : fdAt l d (i + 1) = ofZ d[i] (fdAt l d i) (vlZ l d[i] l.length) := by
 apply ext_getD
 · rw [ofZ_len, fdAt_len, fdAt_len]
 · intro j hj
   rw [fdAt_len] at hj
   rw [ofZ_all l d[i] (fdAt l d i) (fdAt_len l d i) l.length (Nat.le_refl _) j hj, if_pos hj]
   simp only [fdAt, List.getD, List.getElem?_map, List.getElem?_eq_getElem hj, Option.map_some, Option.getD_some]
   rw [List.take_add_one, List.getElem?_eq_getElem h, List.filterMap_append]
   congr 1
theorem filterMap_congr' {α β : Type} {f g : α → Option β} {l : List α} (h : ∀ x ∈ l, f x = g x) : l.filterMap f = l.filterMap g := by
 induction l with
 | nil => rfl
 | cons a l ih =>
   rw [List.filterMap_cons, List.filterMap_cons, h a (by simp), ih (fun x hx => h x (by simp [hx]))]
theorem fields_back : ∀ (d : List S) (F : List Fl), d.Pairwise ltS → (F.Pairwise fun a b => ltS a.name b.name) → (∀ f ∈ F, f.name ∈ d) → d.filterMap (getF F) = F
 | [], F, _, _, h => by
   cases F with
   | nil => rfl
   | cons f F => exact absurd (h f (by simp)) (by simp)
 | n :: d, [], _, _, _ => by
   rw [List.filterMap_eq_nil_iff]
   intro a _; rfl
 | n :: d, f :: F, hd, hF, h => by
   have hd1 := List.pairwise_cons.1 hd
   have hF1 := List.pairwise_cons.1 hF
   by_cases hn : f.name = n
   · have g : getF (f :: F) n = some f := by unfold getF; rw [List.find?_cons_of_pos (by simpa using hn)]
     rw [List.filterMap_cons, g]
     simp only
     have hrest : d.filterMap (getF (f :: F)) = d.filterMap (getF F) := by
       refine filterMap_congr' fun m hm => ?_
       unfold getF
       rw [List.find?_cons_of_neg]
       simp only [beq_iff_eq]
       intro e
       have := hd1.1 m hm
       rw [← e, hn] at this
       exact ltS_irrefl _ this
     rw [hrest, fields_back d F hd1.2 hF1.2]
     intro g hg
     rcases List.mem_cons.1 (h g (by simp [hg])) with e | e
     · have := hF1.1 g hg
       rw [e, hn] at this
       exact absurd this (ltS_irrefl _)
     · exact e
   · have hfd : f.name ∈ d := by
       rcases List.mem_cons.1 (h f (by simp)) with e | e
       · exact absurd e hn
       · exact e
     have hlt := hd1.1 _ hfd
     have hne : ∀ g ∈ f :: F, g.name ≠ n ∧ g.name ∈ d := by
       intro g hg
       have hng : g.name ≠ n := by
         intro e
         rcases List.mem_cons.1 hg with rfl | hg
         · exact hn e
         · have := ltS_trans hlt (hF1.1 g hg)
           rw [e] at this
           exact ltS_irrefl _ this
       refine ⟨hng, ?_⟩
       rcases List.mem_cons.1 (h g hg) with e | e
       · exact absurd e hng
       · exact e
     have g0 : getF (f :: F) n = none := by
       unfold getF
       rw [List.find?_eq_none]
       intro g hg
       simpa using (hne g hg).1
     rw [List.filterMap_cons, g0]
     exact fields_back d (f :: F) hd1.2 hF (fun g hg => (hne g hg).2)
theorem fdAt_all (l : List Ev) (h : ∀ e ∈ l, e.fields.Pairwise fun a b => ltS a.name b.name) : fdAt l (allNames l) (allNames l).length = l.map Ev.fields := by
 unfold fdAt
 rw [List.take_length]
 apply List.map_congr_left
 intro e he
 refine fields_back _ _ (distF_sorted _) (h e he) ?_
 intro f hf
 unfold allNames
 rw [distF_mem]
 unfold nmTo
 rw [List.take_length, List.mem_flatMap]
 exact ⟨e, he, List.mem_map.2 ⟨f, hf, rfl⟩⟩
end Go.Proofs.YtceeklfmlheofaaGreat
