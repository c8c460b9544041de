/-
  Part 25 of the proof that logtidelaw45.ConsoleAnswer returns true for every list of bytes and every text, and leaves both as they were.
-/
import Derived.Test.YtffchapiaampmaaGreatDoorA08
import Derived.Test.YtffchapiaampmaaGreatDoorA24
set_option linter.unusedSimpArgs false
set_option linter.unusedVariables false
namespace Go.Proofs.YtffchapiaampmaaGreatDoor
open Go.Av
attribute [local irreducible] ACall
def lowF (c : UInt8) : UInt8 := if (97 ≤ c.toNat ∧ c.toNat ≤ 122) ∨ (48 ≤ c.toNat ∧ c.toNat ≤ 57) ∨ c.toNat = 95 then c else if 65 ≤ c.toNat ∧ c.toNat ≤ 90 then c + 32 else 0
theorem letter27 (c : UInt8) : ACall Tryz.prog 84 [U8 c] [] (U8 (lowF c)) [] := by
 refine acall 32 0 Tryz.func84 rfl rfl rfl (by simp) rfl rfl ?_
 intro C hN hk
 have hc := c.toNat_lt
 by_cases h1 : (97 ≤ c.toNat ∧ c.toNat ≤ 122) ∨ (48 ≤ c.toNat ∧ c.toNat ≤ 57) ∨ c.toNat = 95
 · have e : lowF c = c := by simp [lowF, h1]
   rw [e]
   rcases dq ((c.toNat : Int) ≥ 97) with ⟨p0, e0⟩ | ⟨p0, e0⟩ <;> (try omega) <;> rcases dq ((c.toNat : Int) ≤ 122) with ⟨p1, e1⟩ | ⟨p1, e1⟩ <;> (try omega) <;> rcases dq ((c.toNat : Int) ≥ 48) with ⟨p2, e2⟩ | ⟨p2, e2⟩ <;> (try omega) <;> rcases dq ((c.toNat : Int) ≤ 57) with ⟨p3, e3⟩ | ⟨p3, e3⟩ <;> (try omega) <;> rcases dqE ((c.toNat : Int) ) ( 95) with ⟨p4, e4, f4⟩ | ⟨p4, e4, f4⟩ <;> try omega
   all_goals
     refine nx ?_; refine rG hN hk noc [] [0] fun K hK => ?_; simp only [go_sem, seval, e0, e1, e2, e3, e4]; refine hK _ _ ?_
     clear hK K; refine nx ?_
     refine rG hN hk noc [] [0, 3] fun K hK => ?_; simp only [go_sem, seval, e0, e1, e2, e3, e4]
     try simp (disch := omega) only [au]
     try simp only [go_sem, seval, e0, e1, e2, e3, e4]
     iterate 4 try (simp (disch := omega) only [au]; try simp only [go_sem, seval, e0, e1, e2, e3, e4])
     refine hK _ _ ?_; clear hK K; refine nx ?_; refine cT ?_; refine nx ?_; refine rG hN hk noc [] [2] fun K hK => ?_; simp only [go_sem, seval, e0, e1, e2, e3, e4]; refine hK _ _ ?_
     clear hK K; refine nx ?_
     refine AW.ret (mkRet [] [] rfl (by simp [resOf, lk, lkh, wk, wkL, wkE, I, str, B, U8, U64, U32] <;> omega) (by first | (simp [wkHp, wkHp1, wkEnt, lkh]; done) | (simp [wkHp, wkHp1, wkEnt, lkh, idLtL, idLt, I, str]; done) | simp [wkHp, wkHp1, wkEnt, wkL, wk, wkE, lkh, I, str]))
 · by_cases h2 : 65 ≤ c.toNat ∧ c.toNat ≤ 90
   · have e : ((lowF c).toNat : Int) = (c.toNat : Int) + 32 := by
       rw [lowF, if_neg h1, if_pos h2, UInt8.toNat_add]
       simp; omega
     simp only [U8, e]
     rcases dq ((c.toNat : Int) ≥ 97) with ⟨p0, e0⟩ | ⟨p0, e0⟩ <;> (try omega) <;> rcases dq ((c.toNat : Int) ≤ 122) with ⟨p1, e1⟩ | ⟨p1, e1⟩ <;> (try omega) <;> rcases dq ((c.toNat : Int) ≥ 48) with ⟨p2, e2⟩ | ⟨p2, e2⟩ <;> (try omega) <;> rcases dq ((c.toNat : Int) ≤ 57) with ⟨p3, e3⟩ | ⟨p3, e3⟩ <;> (try omega) <;> rcases dqE ((c.toNat : Int) ) ( 95) with ⟨p4, e4, f4⟩ | ⟨p4, e4, f4⟩ <;> (try omega) <;> rcases dq ((c.toNat : Int) ≥ 65) with ⟨p5, e5⟩ | ⟨p5, e5⟩ <;> (try omega) <;> rcases dq ((c.toNat : Int) ≤ 90) with ⟨p6, e6⟩ | ⟨p6, e6⟩ <;> try omega
     refine nx ?_; refine rG hN hk noc [] [0] fun K hK => ?_; simp only [go_sem, seval, e0, e1, e2, e3, e4, e5, e6]; refine hK _ _ ?_
     clear hK K; refine nx ?_
     refine rG hN hk noc [] [0, 3] fun K hK => ?_; simp only [go_sem, seval, e0, e1, e2, e3, e4, e5, e6]
     try simp (disch := omega) only [au]
     try simp only [go_sem, seval, e0, e1, e2, e3, e4, e5, e6]
     iterate 4 try (simp (disch := omega) only [au]; try simp only [go_sem, seval, e0, e1, e2, e3, e4, e5, e6])
     refine hK _ _ ?_; clear hK K; refine nx ?_; refine cF ?_; refine nx ?_; refine rG hN hk noc [] [0, 23] fun K hK => ?_; simp only [go_sem, seval, e0, e1, e2, e3, e4, e5, e6]
     try simp (disch := omega) only [au]
     try simp only [go_sem, seval, e0, e1, e2, e3, e4, e5, e6]
     refine hK _ _ ?_; clear hK K; refine nx ?_; refine cT ?_; refine nx ?_; refine rG hN hk noc [] [2] fun K hK => ?_; simp only [go_sem, seval, e0, e1, e2, e3, e4, e5, e6]
     try simp (disch := omega) only [au]
     refine hK _ _ ?_; clear hK K; refine nx ?_
     refine AW.ret (mkRet [] [] rfl (by simp [resOf, lk, lkh, wk, wkL, wkE, I, str, B, U8, U64, U32] <;> omega) (by first | (simp [wkHp, wkHp1, wkEnt, lkh]; done) | (simp [wkHp, wkHp1, wkEnt, lkh, idLtL, idLt, I, str]; done) | simp [wkHp, wkHp1, wkEnt, wkL, wk, wkE, lkh, I, str]))
   · have e : lowF c = 0 := by simp [lowF, h1, h2]
     rw [e]
     rcases dq ((c.toNat : Int) ≥ 97) with ⟨p0, e0⟩ | ⟨p0, e0⟩ <;> (try omega) <;> rcases dq ((c.toNat : Int) ≤ 122) with ⟨p1, e1⟩ | ⟨p1, e1⟩ <;> (try omega) <;> rcases dq ((c.toNat : Int) ≥ 48) with ⟨p2, e2⟩ | ⟨p2, e2⟩ <;> (try omega) <;> rcases dq ((c.toNat : Int) ≤ 57) with ⟨p3, e3⟩ | ⟨p3, e3⟩ <;> (try omega) <;> rcases dqE ((c.toNat : Int) ) ( 95) with ⟨p4, e4, f4⟩ | ⟨p4, e4, f4⟩ <;> (try omega) <;> rcases dq ((c.toNat : Int) ≥ 65) with ⟨p5, e5⟩ | ⟨p5, e5⟩ <;> (try omega) <;> rcases dq ((c.toNat : Int) ≤ 90) with ⟨p6, e6⟩ | ⟨p6, e6⟩ <;> try omega
     all_goals
       refine nx ?_; refine rG hN hk noc [] [0] fun K hK => ?_; simp only [go_sem, seval, e0, e1, e2, e3, e4, e5, e6]; refine hK _ _ ?_
       clear hK K; refine nx ?_
       refine rG hN hk noc [] [0, 3] fun K hK => ?_; simp only [go_sem, seval, e0, e1, e2, e3, e4, e5, e6]
       try simp (disch := omega) only [au]
       try simp only [go_sem, seval, e0, e1, e2, e3, e4, e5, e6]
       iterate 4 try (simp (disch := omega) only [au]; try simp only [go_sem, seval, e0, e1, e2, e3, e4, e5, e6])
       refine hK _ _ ?_; clear hK K; refine nx ?_; refine cF ?_; refine nx ?_; refine rG hN hk noc [] [0, 23] fun K hK => ?_; simp only [go_sem, seval, e0, e1, e2, e3, e4, e5, e6]
       try simp (disch := omega) only [au]
       try simp only [go_sem, seval, e0, e1, e2, e3, e4, e5, e6]
       refine hK _ _ ?_; clear hK K; refine nx ?_; refine cF ?_; refine nx ?_; refine rG hN hk noc [] [2] fun K hK => ?_; simp only [go_sem, seval, e0, e1, e2, e3, e4, e5, e6]; refine hK _ _ ?_
       clear hK K; refine nx ?_
       refine AW.ret (mkRet [] [] rfl (by simp [resOf, lk, lkh, wk, wkL, wkE, I, str, B, U8, U64, U32] <;> omega) (by first | (simp [wkHp, wkHp1, wkEnt, lkh]; done) | (simp [wkHp, wkHp1, wkEnt, lkh, idLtL, idLt, I, str]; done) | simp [wkHp, wkHp1, wkEnt, wkL, wk, wkE, lkh, I, str]))
structure Ln where
 off : Int
 len : Int
 text : S
structure Fl where
 name : S
 val : S
def lnC (x : Ln) : List AV := [I x.off, I x.len, str x.text]
def flC (x : Fl) : List AV := [str x.name, str x.val]
def lnE (l : List Ln) : List (List AV) := l.map lnC
theorem lnE_len (l : List Ln) : (lnE l).length = l.length := by simp [lnE]
theorem lnE_getE (l : List Ln) (i : Nat) : (lnE l)[i]? = (l[i]?).map lnC := by simp [lnE]
@[simp] theorem lnE_id (k : Nat) (l : List Ln) : idLtE k (lnE l) = true := by
 simp only [idLtE, lnE, List.all_map, List.all_eq_true]
 intro x _
 rfl
@[simp] theorem lnE_st (l : List Ln) : (lnE l).all (fun c => c.all storable) = true := by
 simp only [lnE, List.all_map, List.all_eq_true]
 intro x _
 rfl
@[simp] theorem lnE_ns (l : List Ln) : noSlE (lnE l) = true := by
 simp only [noSlE, lnE, List.all_map, List.all_eq_true]
 intro x _
 rfl
theorem lnE_drop (l : List Ln) (i : Nat) : (lnE l).drop i = lnE (l.drop i) := by simp [lnE]
theorem lnE_take (l : List Ln) (i : Nat) : (lnE l).take i = lnE (l.take i) := by simp [lnE]
theorem lnE_ren (L : List Nat) (l : List Ln) : renCE L (lnE l) = lnE l := by
 simp only [renCE, lnE, List.map_map]
 apply List.map_congr_left
 intro x _
 rfl
theorem lnE_renE (ρ : Nat → Nat) (l : List Ln) : (lnE l).map (renL ρ) = lnE l := renE_noid ρ (lnE_id 0 l)
theorem lnE_snoc (l : List Ln) (x : Ln) : lnE l ++ [[.val (.int .i64 x.off), .val (.int .i64 x.len), .val (.string ⟨x.text.toArray⟩)]] = lnE (l ++ [x]) := by simp [lnE, lnC, I, str]
theorem lnE_snoc' (l : List Ln) (x : Ln) : lnE l ++ [lnC x] = lnE (l ++ [x]) := by simp [lnE]
theorem lnE_app (l m : List Ln) : lnE l ++ lnE m = lnE (l ++ m) := by simp [lnE]
@[simp] theorem lnE_nil : lnE [] = [] := rfl
theorem lnE_set (l : List Ln) (i : Nat) (x : Ln) : (lnE l).set i [.val (.int .i64 x.off), .val (.int .i64 x.len), .val (.string ⟨x.text.toArray⟩)] = lnE (l.set i x) := by simp [lnE, List.map_set, lnC, I, str]
attribute [go_sem] lnE_len lnE_getE lnE_drop lnE_take lnE_ren lnE_renE lnE_snoc lnE_snoc' lnE_app lnE_set lnC
def flE (l : List Fl) : List (List AV) := l.map flC
theorem flE_len (l : List Fl) : (flE l).length = l.length := by simp [flE]
theorem flE_getE (l : List Fl) (i : Nat) : (flE l)[i]? = (l[i]?).map flC := by simp [flE]
@[simp] theorem flE_id (k : Nat) (l : List Fl) : idLtE k (flE l) = true := by
 simp only [idLtE, flE, List.all_map, List.all_eq_true]
 intro x _
 rfl
@[simp] theorem flE_st (l : List Fl) : (flE l).all (fun c => c.all storable) = true := by
 simp only [flE, List.all_map, List.all_eq_true]
 intro x _
 rfl
@[simp] theorem flE_ns (l : List Fl) : noSlE (flE l) = true := by
 simp only [noSlE, flE, List.all_map, List.all_eq_true]
 intro x _
 rfl
theorem flE_drop (l : List Fl) (i : Nat) : (flE l).drop i = flE (l.drop i) := by simp [flE]
theorem flE_take (l : List Fl) (i : Nat) : (flE l).take i = flE (l.take i) := by simp [flE]
theorem flE_ren (L : List Nat) (l : List Fl) : renCE L (flE l) = flE l := by
 simp only [renCE, flE, List.map_map]
 apply List.map_congr_left
 intro x _
 rfl
theorem flE_renE (ρ : Nat → Nat) (l : List Fl) : (flE l).map (renL ρ) = flE l := renE_noid ρ (flE_id 0 l)
theorem flE_snoc (l : List Fl) (x : Fl) : flE l ++ [[.val (.string ⟨x.name.toArray⟩), .val (.string ⟨x.val.toArray⟩)]] = flE (l ++ [x]) := by simp [flE, flC, I, str]
theorem flE_snoc' (l : List Fl) (x : Fl) : flE l ++ [flC x] = flE (l ++ [x]) := by simp [flE]
theorem flE_app (l m : List Fl) : flE l ++ flE m = flE (l ++ m) := by simp [flE]
@[simp] theorem flE_nil : flE [] = [] := rfl
theorem flE_set (l : List Fl) (i : Nat) (x : Fl) : (flE l).set i [.val (.string ⟨x.name.toArray⟩), .val (.string ⟨x.val.toArray⟩)] = flE (l.set i x) := by simp [flE, List.map_set, flC, I, str]
attribute [go_sem] flE_len flE_getE flE_drop flE_take flE_ren flE_renE flE_snoc flE_snoc' flE_app flE_set flC
structure Ev where
 host : Int
 file : Int
 frm : Int
 to : Int
 lines : List Ln
 time : Int
 weight : Int
 trace : S
 stream : S
 fields : List Fl
def evC (x : Ev) : List AV := [I x.host, I x.file, I x.frm, I x.to, .sl 3 (lnE x.lines), I x.time, I x.weight, str x.trace, str x.stream, .sl 2 (flE x.fields)]
def evE (l : List Ev) : List (List AV) := l.map evC
theorem evE_len (l : List Ev) : (evE l).length = l.length := by simp [evE]
theorem evE_getE (l : List Ev) (i : Nat) : (evE l)[i]? = (l[i]?).map evC := by simp [evE]
@[simp] theorem evE_id (k : Nat) (l : List Ev) : idLtE k (evE l) = true := by
 simp only [idLtE, evE, List.all_map, List.all_eq_true]
 intro x _
 rfl
@[simp] theorem evE_st (l : List Ev) : (evE l).all (fun c => c.all storable) = true := by
 simp only [evE, List.all_map, List.all_eq_true]
 intro x _
 rfl
theorem evE_drop (l : List Ev) (i : Nat) : (evE l).drop i = evE (l.drop i) := by simp [evE]
theorem evE_take (l : List Ev) (i : Nat) : (evE l).take i = evE (l.take i) := by simp [evE]
theorem evE_ren (L : List Nat) (l : List Ev) : renCE L (evE l) = evE l := by
 simp only [renCE, evE, List.map_map]
 apply List.map_congr_left
 intro x _
 rfl
theorem evE_renE (ρ : Nat → Nat) (l : List Ev) : (evE l).map (renL ρ) = evE l := renE_noid ρ (evE_id 0 l)
theorem evE_snoc (l : List Ev) (x : Ev) : evE l ++ [[.val (.int .i64 x.host), .val (.int .i64 x.file), .val (.int .i64 x.frm), .val (.int .i64 x.to), .sl 3 (lnE x.lines), .val (.int .i64 x.time), .val (.int .i64 x.weight), .val (.string ⟨x.trace.toArray⟩), .val (.string ⟨x.stream.toArray⟩), .sl 2 (flE x.fields)]] = evE (l ++ [x]) := by simp [evE, evC, I, str]
theorem evE_snoc' (l : List Ev) (x : Ev) : evE l ++ [evC x] = evE (l ++ [x]) := by simp [evE]
theorem evE_app (l m : List Ev) : evE l ++ evE m = evE (l ++ m) := by simp [evE]
@[simp] theorem evE_nil : evE [] = [] := rfl
theorem evE_set (l : List Ev) (i : Nat) (x : Ev) : (evE l).set i [.val (.int .i64 x.host), .val (.int .i64 x.file), .val (.int .i64 x.frm), .val (.int .i64 x.to), .sl 3 (lnE x.lines), .val (.int .i64 x.time), .val (.int .i64 x.weight), .val (.string ⟨x.trace.toArray⟩), .val (.string ⟨x.stream.toArray⟩), .sl 2 (flE x.fields)] = evE (l.set i x) := by simp [evE, List.map_set, evC, I, str]
attribute [go_sem] evE_len evE_getE evE_drop evE_take evE_ren evE_renE evE_snoc evE_snoc' evE_app evE_set evC
def bbC (x : List UInt8) : List AV := [.sl 1 (bytesE x)]
def elC (x : List Ev) : List AV := [.sl 10 (evE x)]
def llC (x : List Ln) : List AV := [.sl 3 (lnE x)]
def ffC (x : List Fl) : List AV := [.sl 2 (flE x)]
def iiC (x : List Int) : List AV := [.sl 1 (intE x)]
attribute [go_sem] bbC
attribute [go_sem] elC
attribute [go_sem] llC
attribute [go_sem] ffC
attribute [go_sem] iiC
def txTo (ls : List Ln) : Nat → S
 | 0 => []
 | i + 1 => txTo ls i ++ (if 0 < i then [10] else []) ++ (match ls[i]? with | some x => x.text | none => [])
def textF (e : Ev) : S := txTo e.lines e.lines.length
theorem txTo_len (ls : List Ln) (h : ∀ x ∈ ls, x.text.length ≤ 2000) : ∀ i, (txTo ls i).length ≤ i * 2001
 | 0 => by simp [txTo]
 | i + 1 => by
   have := txTo_len ls h i
   simp only [txTo, List.length_append]
   have h2 : (if 0 < i then [10] else [] : S).length ≤ 1 := by split <;> simp
   have h3 : (match ls[i]? with | some x => x.text | none => [] : S).length ≤ 2000 := by
     split
     · next x hx => exact h x (List.mem_of_getElem? hx)
     · simp
   omega
theorem text12 (e : Ev) (hn : e.lines.length ≤ 40) (ht : ∀ x ∈ e.lines, x.text.length ≤ 2000) : ACall Tryz.prog 25 [.agg (evC e)] [] (str (textF e)) [] := by
 refine acall 25 0 Tryz.func25 rfl rfl rfl (by simp) rfl rfl ?_
 intro C hN hk
 refine nx ?_; refine rG hN hk noc [] [1] fun K hK => ?_; simp only [go_sem, seval]; refine hK _ _ ?_
 clear hK K; refine nx ?_
 refine rG hN hk noc [] [1, 3] fun K hK => ?_; simp only [go_sem, seval]; refine hK _ _ ?_
 clear hK K; refine nx ?_
 refine rG hN hk noc [] [1, 3, 4] fun K hK => ?_; simp only [go_sem, seval]; refine hK _ _ ?_
 clear hK K; refine nx ?_
 refine lpF hk 1 (fun i : Nat => ⟨[(1, .ptr 0 10 0 0), (3, str (txTo e.lines i)), (4, I i)], [(0, some ⟨62, 10, [evC e]⟩)]⟩) (fun i => i ≤ e.lines.length) (fun i => e.lines.length - i) 0 (mkWk [some 0] [] (by simp [wkEnv, wk, wkL, wkE, lk, I, str, B, U8, U64, U32, evC, txTo] <;> omega) (by first | (simp [wkHp, wkHp1, wkEnt, lkh, evC, txTo]; done) | (simp [wkHp, wkHp1, wkEnt, lkh, idLtL, idLt, I, str, evC, txTo]; done) | simp [wkHp, wkHp1, wkEnt, wkL, wk, wkE, lkh, I, str, evC, txTo])) ?_
 intro i h1
 have hl := txTo_len e.lines ht i
 by_cases hi : i < e.lines.length
 · have hx := List.getElem?_eq_getElem hi
   have hs : txTo e.lines (i + 1) = txTo e.lines i ++ (if 0 < i then [10] else []) ++ e.lines[i].text := by rw [txTo, hx]
   have hy := ht _ (List.getElem_mem hi)
   generalize txTo e.lines i = t at *
   generalize e.lines[i] = x at *
   by_cases h0 : 0 < i
   · rw [if_pos h0] at hs
     refine nx ?_; refine rG hN hk noc [] [1, 3, 4, 9] fun K hK => ?_; simp only [go_sem, seval, hx]
     try simp (disch := omega) only [au]
     (first | with_reducible refine hK _ _ ?_ | refine obK (hK _ _ ?_)); clear hK K; refine nx ?_
     refine cT ?_; refine nx ?_; refine rG hN hk noc [] [1, 3, 4, 13] fun K hK => ?_; simp only [go_sem, seval, hx]
     try simp (disch := omega) only [au]
     refine hK _ _ ?_; clear hK K; refine nx ?_; refine cT ?_; refine nx ?_; refine rG hN hk noc [] [1, 3, 4] fun K hK => ?_; simp only [go_sem, seval, hx]
     try simp (disch := omega) only [au]
     (first | with_reducible refine hK _ _ ?_ | refine obK (hK _ _ ?_)); clear hK K; refine nx ?_
     refine rG hN hk noc [] [1, 3, 4] fun K hK => ?_; simp only [go_sem, seval, hx]
     try simp (disch := omega) only [au]
     (first | with_reducible refine hK _ _ ?_ | refine obK (hK _ _ ?_)); clear hK K; refine nx ?_
     refine rG hN hk noc [] [1, 3, 4] fun K hK => ?_; simp only [go_sem, seval, hx]
     try simp (disch := omega) only [au]
     refine hK _ _ ?_; clear hK K; refine nx ?_
     refine eE (i + 1) (mkWk [some 0] [] (by simp [wkEnv, wk, wkL, wkE, lk, I, str, B, U8, U64, U32, hs, evC] <;> omega) (by first | (simp [wkHp, wkHp1, wkEnt, lkh, hs, evC]; done) | (simp [wkHp, wkHp1, wkEnt, lkh, idLtL, idLt, I, str, hs, evC]; done) | simp [wkHp, wkHp1, wkEnt, wkL, wk, wkE, lkh, I, str, hs, evC]))
   · rw [if_neg h0] at hs
     refine nx ?_; refine rG hN hk noc [] [1, 3, 4, 9] fun K hK => ?_; simp only [go_sem, seval, hx]
     try simp (disch := omega) only [au]
     (first | with_reducible refine hK _ _ ?_ | refine obK (hK _ _ ?_)); clear hK K; refine nx ?_
     refine cT ?_; refine nx ?_; refine rG hN hk noc [] [1, 3, 4, 13] fun K hK => ?_; simp only [go_sem, seval, hx]
     try simp (disch := omega) only [au]
     refine hK _ _ ?_; clear hK K; refine nx ?_; refine cF ?_; refine nx ?_; refine rG hN hk noc [] [1, 3, 4] fun K hK => ?_; simp only [go_sem, seval, hx]
     try simp (disch := omega) only [au]
     (first | with_reducible refine hK _ _ ?_ | refine obK (hK _ _ ?_)); clear hK K; refine nx ?_
     refine rG hN hk noc [] [1, 3, 4] fun K hK => ?_; simp only [go_sem, seval, hx]
     try simp (disch := omega) only [au]
     refine hK _ _ ?_; clear hK K; refine nx ?_
     refine eE (i + 1) (mkWk [some 0] [] (by simp [wkEnv, wk, wkL, wkE, lk, I, str, B, U8, U64, U32, hs, evC] <;> omega) (by first | (simp [wkHp, wkHp1, wkEnt, lkh, hs, evC]; done) | (simp [wkHp, wkHp1, wkEnt, lkh, idLtL, idLt, I, str, hs, evC]; done) | simp [wkHp, wkHp1, wkEnt, wkL, wk, wkE, lkh, I, str, hs, evC]))
 · have : i = e.lines.length := by omega
   subst this
   refine nx ?_; refine rG hN hk noc [] [1, 3, 4, 9] fun K hK => ?_; simp only [go_sem, seval]
   try simp (disch := omega) only [au]
   (first | with_reducible refine hK _ _ ?_ | refine obK (hK _ _ ?_)); clear hK K; refine nx ?_
   refine cF ?_; refine nx ?_; refine rG hN hk noc [] [2] fun K hK => ?_; simp only [go_sem, seval]; refine hK _ _ ?_
   clear hK K; refine nx ?_
   refine AW.ret (mkRet [] [] rfl (by simp [resOf, lk, lkh, wk, wkL, wkE, I, str, B, U8, U64, U32, textF] <;> omega) (by first | (simp [wkHp, wkHp1, wkEnt, lkh, textF]; done) | (simp [wkHp, wkHp1, wkEnt, lkh, idLtL, idLt, I, str, textF]; done) | simp [wkHp, wkHp1, wkEnt, wkL, wk, wkE, lkh, I, str, textF]))
def wStep (s : List S × S) (c : UInt8) : List S × S := if c ≠ 0 then (s.1, s.2 ++ [c]) else (if 0 < s.2.length ∧ s.2.length ≤ 40 then s.1 ++ [s.2] else s.1, [])
def lowL (t : S) : S := t.map lowF ++ [0]
def wTo (t : S) (i : Nat) : List S × S := ((lowL t).take i).foldl wStep ([], [])
def wordsF (t : S) : List S := distF (wTo t (t.length + 1)).1
theorem wTo_s (t : S) (i : Nat) (h : i < (lowL t).length) : wTo t (i + 1) = wStep (wTo t i) (lowL t)[i] := by
 unfold wTo
 rw [List.take_add_one, List.getElem?_eq_getElem h, List.foldl_append]
 rfl
theorem wTo_len (t : S) : ∀ i, i ≤ t.length + 1 → (wTo t i).1.length ≤ i ∧ (wTo t i).2.length ≤ i
 | 0, _ => by simp [wTo]
 | i + 1, h => by
   have := wTo_len t i (by omega)
   rw [wTo_s t i (by simp [lowL]; omega)]
   unfold wStep
   split
   · simp; omega
   · split <;> simp <;> omega
theorem words27 (t : S) (ht : t.length ≤ 2 ^ 30) : ACall Tryz.prog 61 [str t] [] (.osl 0 (wordsF t).length 1) [some ⟨9, 1, strE (wordsF t)⟩] := by
 refine acall 42 0 Tryz.func61 rfl rfl rfl (by simp) rfl rfl ?_
 intro C hN hk
 refine nx ?_; refine rG hN hk noc [] [0] fun K hK => ?_; simp only [go_sem, seval]; refine hK _ _ ?_
 clear hK K; refine nx ?_
 refine rG hN hk noc [] [0, 3] fun K hK => ?_; simp only [go_sem, seval]; refine hK _ _ ?_
 clear hK K; refine nx ?_
 refine rG hN hk noc [] [0, 3, 4] fun K hK => ?_; simp only [go_sem, seval]; refine hK _ _ ?_
 clear hK K; refine nx ?_
 refine rG hN hk noc [] [0, 3, 4, 5] fun K hK => ?_; simp only [go_sem, seval]; refine hK _ _ ?_
 clear hK K; refine nx ?_
 refine lpF hk 2 (fun i : Nat => ⟨[(0, str t), (3, .osl 0 (wTo t i).1.length 1), (4, .osl 1 (wTo t i).2.length 1), (5, I i)], [(0, some ⟨9, 1, strE (wTo t i).1⟩), (1, some ⟨5, 1, bytesE (wTo t i).2⟩)]⟩) (fun i => i ≤ t.length + 1) (fun i => t.length + 1 - i) 0 (mkWk [none, none] [] (by simp [wkEnv, wk, wkL, wkE, lk, I, str, B, U8, U64, U32, wTo] <;> omega) (by first | (simp [wkHp, wkHp1, wkEnt, lkh, wTo]; done) | (simp [wkHp, wkHp1, wkEnt, lkh, idLtL, idLt, I, str, wTo]; done) | simp [wkHp, wkHp1, wkEnt, wkL, wk, wkE, lkh, I, str, wTo])) ?_
 intro i h1
 have hl := wTo_len t i h1
 by_cases hi : i ≤ t.length
 · have hs := wTo_s t i (by simp [lowL]; omega)
   by_cases hj : i < t.length
   · have hx := List.getElem?_eq_getElem hj
     have hy : (lowL t)[i]'(by simp [lowL]; omega) = lowF t[i] := by simp [lowL, List.getElem_append, hj]
     rw [hy] at hs
     have q := letter27 t[i]
     generalize wTo t i = z at *
     obtain ⟨o, w⟩ := z
     simp only at hl
     generalize lowF t[i] = c at *
     generalize t[i] = b at *
     rcases dqE (c.toNat : Int) 0 with ⟨p0, e0, f0⟩ | ⟨p0, e0, f0⟩
     · have hc : c = 0 := UInt8.toNat_inj.1 (by simpa using p0)
       subst hc
       by_cases hw : 0 < w.length ∧ w.length ≤ 40
       · have hs : wTo t (i + 1) = (o ++ [w], []) := by simp [hs, wStep, hw]
         have f1 := dGtT (a := w.length) (b := 0) (by omega)
         have f2 := dLeT (a := w.length) (b := 40) (by omega)
         refine nx ?_; refine rG hN hk noc [] [0, 3, 4, 5, 10] fun K hK => ?_; simp only [go_sem, seval, hx, f0, f1, f2]
         try simp (disch := omega) only [au]
         (first | with_reducible refine hK _ _ ?_ | refine obK (hK _ _ ?_)); clear hK K; refine nx ?_
         refine cT ?_; refine nx ?_; refine rG hN hk noc [] [0, 3, 4, 5, 6] fun K hK => ?_; simp only [go_sem, seval, hx, f0, f1, f2]; refine hK _ _ ?_
         clear hK K; refine nx ?_
         refine rG hN hk noc [] [0, 3, 4, 5, 6, 16] fun K hK => ?_; simp only [go_sem, seval, hx, f0, f1, f2]
         try simp (disch := omega) only [au]
         (first | with_reducible refine hK _ _ ?_ | refine obK (hK _ _ ?_)); clear hK K; refine nx ?_
         refine cT ?_; refine nx ?_; refine rG hN hk (onc 3 (pcq q) noc) [] [0, 3, 4, 5, 6] fun K hK => ?_; simp only [go_sem, seval, hx, f0, f1, f2]; refine obK (hK _ _ ?_)
         clear hK K; refine nx ?_
         refine rG hN hk noc [] [0, 3, 4, 5, 6, 22] fun K hK => ?_; simp only [go_sem, seval, hx, f0, f1, f2]
         try simp (disch := omega) only [au]
         refine hK _ _ ?_; clear hK K; refine nx ?_; refine cF ?_; refine nx ?_; refine rG hN hk noc [] [0, 3, 4, 5, 34] fun K hK => ?_; simp only [go_sem, seval, hx, f0, f1, f2]
         try simp (disch := omega) only [au]
         try simp only [go_sem, seval, hx, f0, f1, f2]
         (first | with_reducible refine hK _ _ ?_ | refine obK (hK _ _ ?_)); clear hK K; refine nx ?_
         refine cT ?_; refine nx ?_; refine rG hN hk noc [] [0, 3, 5] fun K hK => ?_; simp only [go_sem, seval, hx, f0, f1, f2]
         try simp (disch := omega) only [au]
         (first | with_reducible refine hK _ _ ?_ | refine obK (hK _ _ ?_)); clear hK K; refine nx ?_
         refine rG hN hk noc [] [0, 3, 4, 5] fun K hK => ?_; simp only [go_sem, seval, hx, f0, f1, f2]; refine hK _ _ ?_
         clear hK K; refine nx ?_
         refine rG hN hk noc [] [0, 3, 4, 5] fun K hK => ?_; simp only [go_sem, seval, hx, f0, f1, f2]
         try simp (disch := omega) only [au]
         refine hK _ _ ?_; clear hK K; refine nx ?_
         refine eE (i + 1) (mkWk [some 0, none] [] (by simp [wkEnv, wk, wkL, wkE, lk, I, str, B, U8, U64, U32, hs] <;> omega) (by first | (simp [wkHp, wkHp1, wkEnt, lkh, hs]; done) | (simp [wkHp, wkHp1, wkEnt, lkh, idLtL, idLt, I, str, hs]; done) | simp [wkHp, wkHp1, wkEnt, wkL, wk, wkE, lkh, I, str, hs]))
       · have hs : wTo t (i + 1) = (o, []) := by simp only [hs, wStep, hw]; simp
         rcases dq ((w.length : Int) > 0) with ⟨p0, e0⟩ | ⟨p0, e0⟩ <;> (try omega) <;> rcases dq ((w.length : Int) ≤ 40) with ⟨p1, e1⟩ | ⟨p1, e1⟩ <;> try omega
         all_goals
           refine nx ?_; refine rG hN hk noc [] [0, 3, 4, 5, 10] fun K hK => ?_; simp only [go_sem, seval, hx, f0, e0, e1]
           try simp (disch := omega) only [au]
           (first | with_reducible refine hK _ _ ?_ | refine obK (hK _ _ ?_)); clear hK K; refine nx ?_
           refine cT ?_; refine nx ?_; refine rG hN hk noc [] [0, 3, 4, 5, 6] fun K hK => ?_; simp only [go_sem, seval, hx, f0, e0, e1]; refine hK _ _ ?_
           clear hK K; refine nx ?_
           refine rG hN hk noc [] [0, 3, 4, 5, 6, 16] fun K hK => ?_; simp only [go_sem, seval, hx, f0, e0, e1]
           try simp (disch := omega) only [au]
           (first | with_reducible refine hK _ _ ?_ | refine obK (hK _ _ ?_)); clear hK K; refine nx ?_
           refine cT ?_; refine nx ?_; refine rG hN hk (onc 3 (pcq q) noc) [] [0, 3, 4, 5, 6] fun K hK => ?_; simp only [go_sem, seval, hx, f0, e0, e1]; refine obK (hK _ _ ?_)
           clear hK K; refine nx ?_
           refine rG hN hk noc [] [0, 3, 4, 5, 6, 22] fun K hK => ?_; simp only [go_sem, seval, hx, f0, e0, e1]
           try simp (disch := omega) only [au]
           refine hK _ _ ?_; clear hK K; refine nx ?_; refine cF ?_; refine nx ?_; refine rG hN hk noc [] [0, 3, 4, 5, 34] fun K hK => ?_; simp only [go_sem, seval, hx, f0, e0, e1]
           try simp (disch := omega) only [au]
           try simp only [go_sem, seval, hx, f0, e0, e1]
           (first | with_reducible refine hK _ _ ?_ | refine obK (hK _ _ ?_)); clear hK K; refine nx ?_
           refine cF ?_; refine nx ?_; refine rG hN hk noc [] [0, 3, 4, 5] fun K hK => ?_; simp only [go_sem, seval, hx, f0, e0, e1]; refine hK _ _ ?_
           clear hK K; refine nx ?_
           refine rG hN hk noc [] [0, 3, 4, 5] fun K hK => ?_; simp only [go_sem, seval, hx, f0, e0, e1]
           try simp (disch := omega) only [au]
           refine hK _ _ ?_; clear hK K; refine nx ?_
           refine eE (i + 1) (mkWk [some 0, none] [] (by simp [wkEnv, wk, wkL, wkE, lk, I, str, B, U8, U64, U32, hs] <;> omega) (by first | (simp [wkHp, wkHp1, wkEnt, lkh, hs]; done) | (simp [wkHp, wkHp1, wkEnt, lkh, idLtL, idLt, I, str, hs]; done) | simp [wkHp, wkHp1, wkEnt, wkL, wk, wkE, lkh, I, str, hs]))
     · have hc : c ≠ 0 := fun h => p0 (by rw [h]; rfl)
       have hs : wTo t (i + 1) = (o, w ++ [c]) := by simp [hs, wStep, hc]
       refine nx ?_; refine rG hN hk noc [] [0, 3, 4, 5, 10] fun K hK => ?_; simp only [go_sem, seval, hx, f0]
       try simp (disch := omega) only [au]
       (first | with_reducible refine hK _ _ ?_ | refine obK (hK _ _ ?_)); clear hK K; refine nx ?_
       refine cT ?_; refine nx ?_; refine rG hN hk noc [] [0, 3, 4, 5, 6] fun K hK => ?_; simp only [go_sem, seval, hx, f0]; refine hK _ _ ?_
       clear hK K; refine nx ?_
       refine rG hN hk noc [] [0, 3, 4, 5, 6, 16] fun K hK => ?_; simp only [go_sem, seval, hx, f0]
       try simp (disch := omega) only [au]
       (first | with_reducible refine hK _ _ ?_ | refine obK (hK _ _ ?_)); clear hK K; refine nx ?_
       refine cT ?_; refine nx ?_; refine rG hN hk (onc 3 (pcq q) noc) [] [0, 3, 4, 5, 6] fun K hK => ?_; simp only [go_sem, seval, hx, f0]; refine obK (hK _ _ ?_)
       clear hK K; refine nx ?_
       refine rG hN hk noc [] [0, 3, 4, 5, 6, 22] fun K hK => ?_; simp only [go_sem, seval, hx, f0]
       try simp (disch := omega) only [au]
       refine hK _ _ ?_; clear hK K; refine nx ?_; refine cT ?_; refine nx ?_; refine rG hN hk noc [] [0, 3, 4, 5] fun K hK => ?_; simp only [go_sem, seval, hx, f0]
       (first | with_reducible refine hK _ _ ?_ | refine obK (hK _ _ ?_)); clear hK K; refine nx ?_
       refine rG hN hk noc [] [0, 3, 4, 5] fun K hK => ?_; simp only [go_sem, seval, hx, f0]
       try simp (disch := omega) only [au]
       refine hK _ _ ?_; clear hK K; refine nx ?_
       refine eE (i + 1) (mkWk [some 0, some 1] [] (by simp [wkEnv, wk, wkL, wkE, lk, I, str, B, U8, U64, U32, hs] <;> omega) (by first | (simp [wkHp, wkHp1, wkEnt, lkh, hs]; done) | (simp [wkHp, wkHp1, wkEnt, lkh, idLtL, idLt, I, str, hs]; done) | simp [wkHp, wkHp1, wkEnt, wkL, wk, wkE, lkh, I, str, hs]))
   · have hj : i = t.length := by omega
     have hy : (lowL t)[i]'(by simp [lowL]; omega) = 0 := by simp [lowL, List.getElem_append, hj]
     rw [hy] at hs
     generalize wTo t i = z at *
     obtain ⟨o, w⟩ := z
     simp only at hl
     by_cases hw : 0 < w.length ∧ w.length ≤ 40
     · have hs : wTo t (i + 1) = (o ++ [w], []) := by simp [hs, wStep, hw]
       have f1 := dGtT (a := w.length) (b := 0) (by omega)
       have f2 := dLeT (a := w.length) (b := 40) (by omega)
       refine nx ?_; refine rG hN hk noc [] [0, 3, 4, 5, 10] fun K hK => ?_; simp only [go_sem, seval, f1, f2, bne_self_eq_false]
       try simp (disch := omega) only [au]
       (first | with_reducible refine hK _ _ ?_ | refine obK (hK _ _ ?_)); clear hK K; refine nx ?_
       refine cT ?_; refine nx ?_; refine rG hN hk noc [] [0, 3, 4, 5, 6] fun K hK => ?_; simp only [go_sem, seval, f1, f2, bne_self_eq_false]; refine hK _ _ ?_
       clear hK K; refine nx ?_
       refine rG hN hk noc [] [0, 3, 4, 5, 6, 16] fun K hK => ?_; simp only [go_sem, seval, f1, f2, bne_self_eq_false]
       try simp (disch := omega) only [au]
       (first | with_reducible refine hK _ _ ?_ | refine obK (hK _ _ ?_)); clear hK K; refine nx ?_
       refine cF ?_; refine nx ?_; refine rG hN hk noc [] [0, 3, 4, 5, 6, 22] fun K hK => ?_; simp only [go_sem, seval, f1, f2, bne_self_eq_false]
       try simp (disch := omega) only [au]
       refine hK _ _ ?_; clear hK K; refine nx ?_; refine cF ?_; refine nx ?_; refine rG hN hk noc [] [0, 3, 4, 5, 34] fun K hK => ?_; simp only [go_sem, seval, f1, f2, bne_self_eq_false]
       try simp (disch := omega) only [au]
       try simp only [go_sem, seval, f1, f2, bne_self_eq_false]
       (first | with_reducible refine hK _ _ ?_ | refine obK (hK _ _ ?_)); clear hK K; refine nx ?_
       refine cT ?_; refine nx ?_; refine rG hN hk noc [] [0, 3, 5] fun K hK => ?_; simp only [go_sem, seval, f1, f2, bne_self_eq_false]
       try simp (disch := omega) only [au]
       (first | with_reducible refine hK _ _ ?_ | refine obK (hK _ _ ?_)); clear hK K; refine nx ?_
       refine rG hN hk noc [] [0, 3, 4, 5] fun K hK => ?_; simp only [go_sem, seval, f1, f2, bne_self_eq_false]; refine hK _ _ ?_
       clear hK K; refine nx ?_
       refine rG hN hk noc [] [0, 3, 4, 5] fun K hK => ?_; simp only [go_sem, seval, f1, f2, bne_self_eq_false]
       try simp (disch := omega) only [au]
       refine hK _ _ ?_; clear hK K; refine nx ?_
       refine eE (i + 1) (mkWk [some 0, none] [] (by simp [wkEnv, wk, wkL, wkE, lk, I, str, B, U8, U64, U32, hs] <;> omega) (by first | (simp [wkHp, wkHp1, wkEnt, lkh, hs]; done) | (simp [wkHp, wkHp1, wkEnt, lkh, idLtL, idLt, I, str, hs]; done) | simp [wkHp, wkHp1, wkEnt, wkL, wk, wkE, lkh, I, str, hs]))
     · have hs : wTo t (i + 1) = (o, []) := by simp only [hs, wStep, hw]; simp
       rcases dq ((w.length : Int) > 0) with ⟨p0, e0⟩ | ⟨p0, e0⟩ <;> (try omega) <;> rcases dq ((w.length : Int) ≤ 40) with ⟨p1, e1⟩ | ⟨p1, e1⟩ <;> try omega
       all_goals
         refine nx ?_; refine rG hN hk noc [] [0, 3, 4, 5, 10] fun K hK => ?_; simp only [go_sem, seval, e0, e1, bne_self_eq_false]
         try simp (disch := omega) only [au]
         (first | with_reducible refine hK _ _ ?_ | refine obK (hK _ _ ?_)); clear hK K; refine nx ?_
         refine cT ?_; refine nx ?_; refine rG hN hk noc [] [0, 3, 4, 5, 6] fun K hK => ?_; simp only [go_sem, seval, e0, e1, bne_self_eq_false]; refine hK _ _ ?_
         clear hK K; refine nx ?_
         refine rG hN hk noc [] [0, 3, 4, 5, 6, 16] fun K hK => ?_; simp only [go_sem, seval, e0, e1, bne_self_eq_false]
         try simp (disch := omega) only [au]
         (first | with_reducible refine hK _ _ ?_ | refine obK (hK _ _ ?_)); clear hK K; refine nx ?_
         refine cF ?_; refine nx ?_; refine rG hN hk noc [] [0, 3, 4, 5, 6, 22] fun K hK => ?_; simp only [go_sem, seval, e0, e1, bne_self_eq_false]
         try simp (disch := omega) only [au]
         refine hK _ _ ?_; clear hK K; refine nx ?_; refine cF ?_; refine nx ?_; refine rG hN hk noc [] [0, 3, 4, 5, 34] fun K hK => ?_; simp only [go_sem, seval, e0, e1, bne_self_eq_false]
         try simp (disch := omega) only [au]
         try simp only [go_sem, seval, e0, e1, bne_self_eq_false]
         (first | with_reducible refine hK _ _ ?_ | refine obK (hK _ _ ?_)); clear hK K; refine nx ?_
         refine cF ?_; refine nx ?_; refine rG hN hk noc [] [0, 3, 4, 5] fun K hK => ?_; simp only [go_sem, seval, e0, e1, bne_self_eq_false]; refine hK _ _ ?_
         clear hK K; refine nx ?_
         refine rG hN hk noc [] [0, 3, 4, 5] fun K hK => ?_; simp only [go_sem, seval, e0, e1, bne_self_eq_false]
         try simp (disch := omega) only [au]
         refine hK _ _ ?_; clear hK K; refine nx ?_
         refine eE (i + 1) (mkWk [some 0, none] [] (by simp [wkEnv, wk, wkL, wkE, lk, I, str, B, U8, U64, U32, hs] <;> omega) (by first | (simp [wkHp, wkHp1, wkEnt, lkh, hs]; done) | (simp [wkHp, wkHp1, wkEnt, lkh, idLtL, idLt, I, str, hs]; done) | simp [wkHp, wkHp1, wkEnt, wkL, wk, wkE, lkh, I, str, hs]))
 · have hi : i = t.length + 1 := by omega
   subst hi
   have q := distinct1 _ (wTo t (t.length + 1)).1 (Nat.le_refl _) (by omega)
   have hd := distF_len (wTo t (t.length + 1)).1
   unfold wordsF
   generalize (wTo t (t.length + 1)).1 = o at *
   refine nx ?_; refine rG hN hk noc [] [0, 3, 4, 5, 10] fun K hK => ?_; simp only [go_sem, seval]
   try simp (disch := omega) only [au]
   (first | with_reducible refine hK _ _ ?_ | refine obK (hK _ _ ?_)); clear hK K; refine nx ?_
   refine cF ?_; refine nx ?_; refine rG hN hk (onc 1 (bcq [0] q) noc) [] [2] fun K hK => ?_; simp only [go_sem, seval]; refine obK (hK _ _ ?_)
   clear hK K; refine nx ?_
   refine AW.ret (mkRet [some 0] [] rfl (by simp [resOf, lk, lkh, wk, wkL, wkE, I, str, B, U8, U64, U32] <;> omega) (by first | (simp [wkHp, wkHp1, wkEnt, lkh]; done) | (simp [wkHp, wkHp1, wkEnt, lkh, idLtL, idLt, I, str]; done) | simp [wkHp, wkHp1, wkEnt, wkL, wk, wkE, lkh, I, str]))
end Go.Proofs.YtffchapiaampmaaGreatDoor
namespace Go.Proofs.YtffchapiaampmaaGreatDoor
open Go.Av
def ltS (x y : S) : Prop := Op.bytesLess x y = true
instance (x y : S) : Decidable (ltS x y) := inferInstanceAs (Decidable (_ = true))
theorem getD_of {l : List S} {i : Nat} (h : i < l.length) : l.getD i [] = l[i] := by simp [List.getD, h]
end Go.Proofs.YtffchapiaampmaaGreatDoor
namespace Go.Proofs.YtffchapiaampmaaGreatDoor
open Go.Av
attribute [local irreducible] ACall
def getF (fs : List Fl) (n : S) : Option Fl := fs.find? fun f => f.name == n
def getR (fs : List Fl) (n : S) : AV := match getF fs n with
 | some f => .tup [str f.val, B true]
 | none => .tup [str [], B false]
theorem find_at {α : Type} {p : α → Bool} {l : List α} {i : Nat} (hi : i < l.length) (h : ∀ x ∈ l.take i, p x = false) (hp : p l[i] = true) : l.find? p = some l[i] := by
 have e : l = l.take i ++ l[i] :: l.drop (i + 1) := by simp
 have h2 : (l.take i).find? p = none := by simp only [List.find?_eq_none]; intro x hx; simp [h x hx]
 conv => lhs; rw [e]
 rw [List.find?_append, h2, List.find?_cons_of_pos (by simpa using hp)]; rfl
theorem get11 (fs : List Fl) (n : S) (hf : fs.length ≤ 2 ^ 30) : ACall Tryz.prog 87 [.sl 2 (flE fs), str n] [] (getR fs n) [] := by
 refine acall 25 0 Tryz.func87 rfl rfl rfl (by simp) rfl rfl ?_
 intro C hN hk
 refine nx ?_; refine rG hN hk noc [] [0, 1] fun K hK => ?_; simp only [go_sem, seval]; refine hK _ _ ?_
 clear hK K; refine nx ?_
 refine rG hN hk noc [] [0, 1, 6] fun K hK => ?_; simp only [go_sem, seval]; refine hK _ _ ?_
 clear hK K; refine nx ?_
 refine lpF hk 0 (fun i : Nat => ⟨[(0, .sl 2 (flE fs)), (1, str n), (6, I i)], []⟩) (fun i => i ≤ fs.length ∧ ∀ x ∈ fs.take i, (x.name == n) = false) (fun i => fs.length - i) 0 (mkWk [] [] (by simp [wkEnv, wk, wkL, wkE, lk, I, str, B, U8, U64, U32] <;> omega) (by first | (simp [wkHp, wkHp1, wkEnt, lkh]; done) | (simp [wkHp, wkHp1, wkEnt, lkh, idLtL, idLt, I, str]; done) | simp [wkHp, wkHp1, wkEnt, wkL, wk, wkE, lkh, I, str])) ?_
 rintro i ⟨h1, h2⟩
 by_cases hi : i < fs.length
 · have hx := List.getElem?_eq_getElem hi
   rcases dqB (fs[i].name == n) with e | e
   · have hg : getR fs n = .tup [str fs[i].val, B true] := by
       unfold getR getF; rw [find_at hi h2 (by exact e)]
     rw [hg]
     generalize fs[i] = f at *
     refine nx ?_; refine rG hN hk noc [] [0, 1, 6, 10] fun K hK => ?_; simp only [go_sem, seval, hx, e]
     try simp (disch := omega) only [au]
     (first | with_reducible refine hK _ _ ?_ | refine obK (hK _ _ ?_)); clear hK K; refine nx ?_
     refine cT ?_; refine nx ?_; refine rG hN hk noc [] [0, 1, 6, 19] fun K hK => ?_; simp only [go_sem, seval, hx, e]
     try simp (disch := omega) only [au]
     (first | with_reducible refine hK _ _ ?_ | refine obK (hK _ _ ?_)); clear hK K; refine nx ?_
     refine cT ?_; refine nx ?_; refine rG hN hk noc [] [4, 5] fun K hK => ?_; simp only [go_sem, seval, hx, e]
     (first | with_reducible refine hK _ _ ?_ | refine obK (hK _ _ ?_)); clear hK K; refine nx ?_
     refine AW.ret (mkRet [] [] rfl (by simp [resOf, lk, lkh, wk, wkL, wkE, I, str, B, U8, U64, U32] <;> omega) (by first | (simp [wkHp, wkHp1, wkEnt, lkh]; done) | (simp [wkHp, wkHp1, wkEnt, lkh, idLtL, idLt, I, str]; done) | simp [wkHp, wkHp1, wkEnt, wkL, wk, wkE, lkh, I, str]))
   · have h3 : ∀ x ∈ fs.take (i + 1), (x.name == n) = false := by
       rw [List.take_add_one, hx]
       intro x hx
       rcases List.mem_append.1 hx with hx | hx
       · exact h2 x hx
       · simp at hx; rw [hx]; exact e
     generalize fs[i] = f at *
     refine nx ?_; refine rG hN hk noc [] [0, 1, 6, 10] fun K hK => ?_; simp only [go_sem, seval, hx, e]
     try simp (disch := omega) only [au]
     (first | with_reducible refine hK _ _ ?_ | refine obK (hK _ _ ?_)); clear hK K; refine nx ?_
     refine cT ?_; refine nx ?_; refine rG hN hk noc [] [0, 1, 6, 19] fun K hK => ?_; simp only [go_sem, seval, hx, e]
     try simp (disch := omega) only [au]
     (first | with_reducible refine hK _ _ ?_ | refine obK (hK _ _ ?_)); clear hK K; refine nx ?_
     refine cF ?_; refine nx ?_; refine rG hN hk noc [] [0, 1, 6] fun K hK => ?_; simp only [go_sem, seval, hx, e]
     try simp (disch := omega) only [au]
     refine hK _ _ ?_; clear hK K; refine nx ?_
     refine eE (i + 1) (mkWk [] [] (by simp [wkEnv, wk, wkL, wkE, lk, I, str, B, U8, U64, U32] <;> omega) (by first | (simp [wkHp, wkHp1, wkEnt, lkh]; done) | (simp [wkHp, wkHp1, wkEnt, lkh, idLtL, idLt, I, str]; done) | simp [wkHp, wkHp1, wkEnt, wkL, wk, wkE, lkh, I, str]))
 · have : i = fs.length := by omega
   subst this
   rw [List.take_length] at h2
   have hg : getR fs n = .tup [str [], B false] := by
     unfold getR getF
     rw [List.find?_eq_none.2 (fun x hx => by simp [h2 x hx])]
   rw [hg]
   refine nx ?_; refine rG hN hk noc [] [0, 1, 6, 10] fun K hK => ?_; simp only [go_sem, seval]
   try simp (disch := omega) only [au]
   (first | with_reducible refine hK _ _ ?_ | refine obK (hK _ _ ?_)); clear hK K; refine nx ?_
   refine cF ?_; refine nx ?_; refine rG hN hk noc [] [4, 5] fun K hK => ?_; simp only [go_sem, seval]; refine hK _ _ ?_
   clear hK K; refine nx ?_
   refine AW.ret (mkRet [] [] rfl (by simp [resOf, lk, lkh, wk, wkL, wkE, I, str, B, U8, U64, U32] <;> omega) (by first | (simp [wkHp, wkHp1, wkEnt, lkh]; done) | (simp [wkHp, wkHp1, wkEnt, lkh, idLtL, idLt, I, str]; done) | simp [wkHp, wkHp1, wkEnt, wkL, wk, wkE, lkh, I, str]))
def lo (L : List Ln) : List Int := L.map Ln.off
end Go.Proofs.YtffchapiaampmaaGreatDoor
