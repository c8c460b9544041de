/-
  Part 23 of the proof that logtidelaw45.ConsoleAnswer returns true for every list of bytes and every text, and leaves both as they were.
-/
import Derived.Test.YtffchapiaampmaaGreatDoorA22
import Derived.IntWalk
set_option linter.unusedSimpArgs false
set_option linter.unusedVariables false
namespace Go.Proofs.YtffchapiaampmaaGreatDoor
open Go.Av
attribute [local irreducible] ACall
theorem wrap8 (u : Nat) : IntKind.u8.wrap (u : Int) = ((u % 256 : Nat) : Int) := by
 simp [IntKind.wrap, IntKind.bits, IntKind.signed]
def B (b : Bool) : AV := .val (.bool b)
def I (n : Int) : AV := .val (.int .i64 n)
def U8 (c : UInt8) : AV := .val (.int .u8 c.toNat)
attribute [go_sem] B I U8
theorem bt (b : Bool) : b = true ∨ b = false := by cases b <;> simp
def digitB (c : UInt8) : Bool := decide ((c.toNat : Int) ≥ 48) && decide ((c.toNat : Int) ≤ 57)
theorem digit (c : UInt8) : ACall Tryz.prog 151 [U8 c] [] (B (digitB c)) [] := by
 refine acall 9 0 Tryz.func151 rfl rfl rfl (by simp) rfl rfl ?_
 intro C hN hk
 rcases bt (decide ((c.toNat : Int) ≥ 48)) with e1 | e1
 all_goals
   refine nx ?_; refine rG hN hk noc [] [0] fun K hK => ?_; simp only [go_sem, seval]; refine hK _ _ ?_
   clear hK K; refine nx ?_
   refine rG hN hk noc [] [2] fun K hK => ?_; simp only [go_sem, seval, e1]; refine hK _ _ ?_
   clear hK K; refine nx ?_
   refine AW.ret (mkRet [] [] rfl ?_ ?_)
   · simp [resOf, lk, wk, B, digitB, e1]
   · simp [wkHp]
def lowB (c : UInt8) : Bool := decide ((c.toNat : Int) ≥ 97) && decide ((c.toNat : Int) ≤ 122)
def upB (c : UInt8) : Bool := decide ((c.toNat : Int) ≥ 65) && decide ((c.toNat : Int) ≤ 90)
def letterB (c : UInt8) : Bool := lowB c || upB c
theorem letter1 (c : UInt8) : ACall Tryz.prog 144 [U8 c] [] (B (letterB c)) [] := by
 refine acall 17 0 Tryz.func144 rfl rfl rfl (by simp) rfl rfl ?_
 intro C hN hk
 rcases bt (decide ((c.toNat : Int) ≥ 97)) with e1 | e1 <;> rcases bt (decide ((c.toNat : Int) ≤ 122)) with e2 | e2 <;> rcases bt (decide ((c.toNat : Int) ≥ 65)) with e3 | e3
 all_goals
   refine nx ?_; refine rG hN hk noc [] [0] fun K hK => ?_; simp only [go_sem, seval]; refine hK _ _ ?_
   clear hK K; refine nx ?_
   refine rG hN hk noc [] [2] fun K hK => ?_; simp only [go_sem, seval, e1, e2, e3]; refine hK _ _ ?_
   clear hK K; refine nx ?_
   refine AW.ret (mkRet [] [] rfl ?_ ?_)
   · simp only [resOf, lk, wk, B, letterB, lowB, upB, e1, e2, e3]; simp
   · simp [wkHp]
def wordB (c : UInt8) : Bool := digitB c || letterB c || ((c.toNat : Int) == 95)
theorem word1 (c : UInt8) : ACall Tryz.prog 145 [U8 c] [] (B (wordB c)) [] := by
 refine acall 13 0 Tryz.func145 rfl rfl rfl (by simp) rfl rfl ?_
 intro C hN hk
 have hd := digit c
 have hl := letter1 c
 rcases bt (digitB c) with e1 | e1 <;> rcases bt (letterB c) with e2 | e2
 all_goals
   rw [e1] at hd
   rw [e2] at hl
   refine nx ?_; refine rG hN hk noc [] [0] fun K hK => ?_; simp only [go_sem, seval]; refine hK _ _ ?_
   clear hK K; refine nx ?_
   refine rG hN hk (onc 1 (pc [U8 c] (B (digitB c)) []) (onc 4 (pc [U8 c] (B (letterB c)) []) noc)) [] [2] fun K hK => ?_; simp only [go_sem, seval, e1, e2]
   first | with_reducible refine hK _ _ ?_ | refine ⟨by first | exact pureOb hd rfl (by simp) | exact ⟨pureOb hd rfl (by simp), pureOb hl rfl (by simp)⟩, hK _ _ ?_⟩ | refine obK (hK _ _ ?_)
   clear hK K; refine nx ?_
   refine AW.ret (mkRet [] [] rfl ?_ ?_)
   · simp [resOf, lk, wk, B, wordB, e1, e2]
   · simp [wkHp]
def weightB (w : Int) : Bool := decide (w ≥ 1) && decide (w ≤ 5040) && ((5040 : Int).tmod w == 0)
def U64 (n : Int) : AV := .val (.int .u64 n)
attribute [go_sem] U64
abbrev S := List UInt8
def strE (l : List S) : List (List AV) := l.map fun s => [str s]
theorem strE_len (l : List S) : (strE l).length = l.length := by simp [strE]
theorem strE_getE (l : List S) (i : Nat) : (strE l)[i]? = (l[i]?).map (fun s => [str s]) := by simp [strE]
theorem strE_app (l m : List S) : strE l ++ strE m = strE (l ++ m) := by simp [strE]
@[simp] theorem strE_id (k : Nat) (l : List S) : idLtE k (strE l) = true := by
 simp only [idLtE, strE, List.all_map, List.all_eq_true]
 intro x _
 rfl
@[simp] theorem strE_st (l : List S) : (strE l).all (fun c => c.all storable) = true := by
 simp only [strE, List.all_map, List.all_eq_true]
 intro x _
 rfl
@[simp] theorem strE_ns (l : List S) : noSlE (strE l) = true := by
 simp only [noSlE, strE, List.all_map, List.all_eq_true]
 intro x _
 rfl
theorem strE_drop (l : List S) (i : Nat) : (strE l).drop i = strE (l.drop i) := by simp [strE]
theorem strE_take (l : List S) (i : Nat) : (strE l).take i = strE (l.take i) := by simp [strE]
theorem renC_strE (L : List Nat) (l : List S) : renCE L (strE l) = strE l := by
 simp only [renCE, strE, List.map_map]
 apply List.map_congr_left
 intro x _
 rfl
theorem strE_snoc' (l : List S) (s : S) : strE l ++ [[AV.val (.string ⟨s.toArray⟩)]] = strE (l ++ [s]) := by simp [strE, str]
attribute [go_sem] strE_len strE_getE renC_strE strE_snoc' strE_app strE_drop strE_take
def intE (l : List Int) : List (List AV) := l.map fun n => [I n]
theorem intE_len (l : List Int) : (intE l).length = l.length := by simp [intE]
theorem intE_getE (l : List Int) (i : Nat) : (intE l)[i]? = (l[i]?).map (fun s => [I s]) := by simp [intE]
@[simp] theorem intE_id (k : Nat) (l : List Int) : idLtE k (intE l) = true := by
 simp only [idLtE, intE, List.all_map, List.all_eq_true]
 intro x _
 rfl
@[simp] theorem intE_st (l : List Int) : (intE l).all (fun c => c.all storable) = true := by
 simp only [intE, List.all_map, List.all_eq_true]
 intro x _
 rfl
theorem renC_intE (L : List Nat) (l : List Int) : renCE L (intE l) = intE l := by
 simp only [renCE, intE, List.map_map]
 apply List.map_congr_left
 intro x _
 rfl
theorem intE_snoc' (l : List Int) (s : Int) : intE l ++ [[AV.val (.int .i64 s)]] = intE (l ++ [s]) := by simp [intE, I]
theorem intE_app (l m : List Int) : intE l ++ intE m = intE (l ++ m) := by simp [intE]
theorem bytesE_snoc' (l : List UInt8) (b : UInt8) : bytesE l ++ [[AV.val (.int .u8 b.toNat)]] = bytesE (l ++ [b]) := by simp [bytesE, byteE]
theorem bytesE_drop (l : List UInt8) (i : Nat) : (bytesE l).drop i = bytesE (l.drop i) := by simp [bytesE]
theorem bytesE_take (l : List UInt8) (i : Nat) : (bytesE l).take i = bytesE (l.take i) := by simp [bytesE]
attribute [go_sem] intE_len intE_getE renC_intE intE_snoc' intE_app bytesE_snoc' bytesE_app bytesE_drop bytesE_take
@[simp] theorem intE_ns (l : List Int) : noSlE (intE l) = true := by
 simp only [noSlE, intE, List.all_map, List.all_eq_true]
 intro x _
 rfl
theorem renE_strE (ρ : Nat → Nat) (l : List S) : (strE l).map (renL ρ) = strE l := renE_noid ρ (strE_id 0 l)
theorem renE_intE (ρ : Nat → Nat) (l : List Int) : (intE l).map (renL ρ) = intE l := renE_noid ρ (intE_id 0 l)
attribute [go_sem] renE_strE renE_intE
/-- Index: halving. -/
def idxGo (d : List S) (w : S) : Nat → Nat → Nat → Nat
 | 0, a, _ => a
 | f + 1, a, b => if a < b then (if Op.bytesLess (d.getD ((a + b) / 2) []) w then idxGo d w f ((a + b) / 2 + 1) b else idxGo d w f a ((a + b) / 2)) else a
def idxF (d : List S) (w : S) : Nat := idxGo d w d.length 0 d.length
def idxB (d : List S) (w : S) : Bool := match d[idxF d w]? with
 | some x => x == w
 | none => false
theorem index1 (d : List S) (w : S) (hd : d.length ≤ 2 ^ 40) : ACall Tryz.prog 60 [.sl 1 (strE d), str w] [] (.tup [I (idxF d w), B (idxB d w)]) [] := by
 refine acall 40 0 Tryz.func60 rfl rfl rfl (by simp) rfl rfl ?_
 intro C hN hk
 refine nx ?_; refine rG hN hk noc [] [0, 1] fun K hK => ?_; simp only [go_sem, seval]; refine hK _ _ ?_
 clear hK K; refine nx ?_
 refine rG hN hk noc [] [0, 1, 6, 7] fun K hK => ?_; simp only [go_sem, seval]; refine hK _ _ ?_
 clear hK K; refine nx ?_
 refine AW.loopF hk 1 (α := Nat × Nat) (fun a => ⟨[(0, .sl 1 (strE d)), (1, str w), (6, I a.1), (7, I a.2)], []⟩) (fun a => a.1 ≤ a.2 ∧ a.2 ≤ d.length ∧ ∃ f, a.2 - a.1 ≤ f ∧ idxGo d w f a.1 a.2 = idxF d w) (fun a => a.2 - a.1) (0, d.length) ⟨by simp, by simp, d.length, by simp, rfl⟩ ⟨[], [], ⟨by simp [srcIds], by simp [srcIds], by simp⟩, by simp, by simp [wkEnv, wk, lk, I, str], by simp [wkHp]⟩ ?_
 rintro ⟨a, b⟩ ⟨h1, h2, f, h3, h4⟩
 simp only at h1 h2 h3 h4
 by_cases hlt : a < b
 · obtain ⟨f, rfl⟩ : ∃ f', f = f' + 1 := ⟨f - 1, by omega⟩
   rw [idxGo, if_pos hlt] at h4
   have e1 : decide ((a : Int) < b) = true := by simp; omega
   refine nx ?_; refine rG hN hk noc [] [0, 1, 6, 7, 13] fun K hK => ?_; simp only [go_sem, seval, e1]; refine hK _ _ ?_
   clear hK K; refine nx ?_
   refine AW.condT rfl (AW.skip (qNext ?_))
   have e2 := wrap64 (n := (a : Int) + b) (by omega)
   have e3 : ((a : Int) + b).tdiv 2 = ((a + b) / 2 : Nat) := by rw [Int.tdiv_eq_ediv_of_nonneg (by omega)]; omega
   have e4 := wrap64 (n := (((a + b) / 2 : Nat) : Int)) (by omega)
   refine nx ?_; refine rG hN hk noc [] [0, 1, 6, 7, 8] fun K hK => ?_; simp only [go_sem, seval, e2, e3, e4]
   first | with_reducible refine hK _ _ ?_ | refine ⟨by decide, hK _ _ ?_⟩ | refine obK (hK _ _ ?_)
   clear hK K; refine nx ?_
   have hm : (a + b) / 2 < d.length := by omega
   have hx := List.getElem?_eq_getElem hm
   have hx2 : d.getD ((a + b) / 2) [] = d[(a + b) / 2] := by simp [List.getD, hm]
   rw [hx2] at h4
   generalize d[(a + b) / 2] = x at hx h4
   rcases bt (Op.bytesLess x w) with e5 | e5
   · rw [e5, if_pos rfl] at h4
     refine nx ?_; refine rG hN hk noc [] [0, 1, 6, 7, 8, 23] fun K hK => ?_; simp only [go_sem, seval, hx, e5]; refine hK _ _ ?_
     clear hK K; refine nx ?_
     refine cT ?_; refine nx ?_; refine rG hN hk noc [] [0, 1, 6, 7] fun K hK => ?_; simp only [go_sem, seval, wrap64 (n := (((a + b) / 2 : Nat) : Int) + 1) (by omega)]
     refine hK _ _ ?_; clear hK K; refine nx ?_
     exact ⟨((a + b) / 2 + 1, b), ⟨by simp only; omega, h2, f, by simp only; omega, h4⟩, by simp only; omega, ⟨[], [], ⟨by simp [srcIds], by simp [srcIds], by simp⟩, by simp, by simp [wkEnv, wk, lk, I, str], by simp [wkHp]⟩⟩
   · rw [e5, if_neg (by simp)] at h4
     refine nx ?_; refine rG hN hk noc [] [0, 1, 6, 7, 8, 23] fun K hK => ?_; simp only [go_sem, seval, hx, e5]; refine hK _ _ ?_
     clear hK K; refine nx ?_
     refine cF ?_; refine nx ?_; refine rG hN hk noc [] [0, 1, 6, 7] fun K hK => ?_; simp only [go_sem, seval]; refine hK _ _ ?_
     clear hK K; refine nx ?_
     exact ⟨(a, (a + b) / 2), ⟨by simp only; omega, by simp only; omega, f, by simp only; omega, h4⟩, by simp only; omega, ⟨[], [], ⟨by simp [srcIds], by simp [srcIds], by simp⟩, by simp, by simp [wkEnv, wk, lk, I, str], by simp [wkHp]⟩⟩
 · have e1 : decide ((a : Int) < b) = false := by simp; omega
   have h5 : idxF d w = a := by rw [← h4]; cases f <;> simp [idxGo, hlt]
   refine nx ?_; refine rG hN hk noc [] [0, 1, 6, 7, 13] fun K hK => ?_; simp only [go_sem, seval, e1]; refine hK _ _ ?_
   clear hK K; refine nx ?_
   refine AW.condF rfl (AW.exit (qThen (qThen (qHere (qNext ?_)))))
   by_cases hin : a < d.length
   · have e6 : decide ((a : Int) < d.length) = true := by simp; omega
     have hx := List.getElem?_eq_getElem hin
     have h6 : idxB d w = (d[a] == w) := by simp only [idxB, h5, hx]
     generalize d[a] = x at hx h6
     refine nx ?_
     refine rD hN hk noc [] [4, 5] fun K tok htok hK => ?_
     simp only [go_sem, seval, e6, hx]
     refine ⟨htok _ (by decide +kernel), hK _ _ ?_⟩
     clear hK K htok tok
     refine nx ?_
     refine AW.ret (mkRet [] [] rfl ?_ ?_)
     · simp [resOf, lk, wk, wkL, I, B, h5, h6]
     · simp [wkHp]
   · have e6 : decide ((a : Int) < d.length) = false := by simp; omega
     have h6 : idxB d w = false := by simp only [idxB, h5, List.getElem?_eq_none (Nat.not_lt.1 hin)]
     refine nx ?_
     refine rD hN hk noc [] [4, 5] fun K tok htok hK => ?_
     simp only [go_sem, seval, e6]
     refine ⟨htok _ (by decide +kernel), hK _ _ ?_⟩
     clear hK K htok tok
     refine nx ?_
     refine AW.ret (mkRet [] [] rfl ?_ ?_)
     · simp [resOf, lk, wk, wkL, I, B, h5, h6]
     · simp [wkHp]
structure Un where
 i : Nat
 k : Nat
 out : List S
 x : List Int
 y : List Int
def unStep (a b : List S) (s : Un) : Un :=
 if s.k = b.length ∨ s.i < a.length ∧ Op.bytesLess (a.getD s.i []) (b.getD s.k []) = true then ⟨s.i + 1, s.k, s.out ++ [a.getD s.i []], s.x ++ [(s.out.length : Int)], s.y⟩
 else if s.i = a.length ∨ Op.bytesLess (b.getD s.k []) (a.getD s.i []) = true then ⟨s.i, s.k + 1, s.out ++ [b.getD s.k []], s.x, s.y ++ [(s.out.length : Int)]⟩
 else ⟨s.i + 1, s.k + 1, s.out ++ [a.getD s.i []], s.x ++ [(s.out.length : Int)], s.y ++ [(s.out.length : Int)]⟩
def unGo (a b : List S) : Nat → Un → Un
 | 0, s => s
 | f + 1, s => if s.i < a.length ∨ s.k < b.length then unGo a b f (unStep a b s) else s
def unF (a b : List S) : Un := unGo a b (a.length + b.length) ⟨0, 0, [], [], []⟩
def unS (a b : List S) (s : Un) : AS := ⟨[(0, .sl 1 (strE a)), (1, .sl 1 (strE b)), (7, .osl 0 s.out.length 1), (8, .osl 1 s.x.length 1), (9, .osl 2 s.y.length 1), (10, I s.i), (11, I s.k)], [(0, some ⟨9, 1, strE s.out⟩), (1, some ⟨3, 1, intE s.x⟩), (2, some ⟨3, 1, intE s.y⟩)]⟩
attribute [simp] unS
theorem union1 (a b : List S) (ha : a.length ≤ 2 ^ 38) (hb : b.length ≤ 2 ^ 38) :
   ACall Tryz.prog 104 [.sl 1 (strE a), .sl 1 (strE b)] [] (.tup [.osl 0 (unF a b).out.length 1, .osl 1 (unF a b).x.length 1, .osl 2 (unF a b).y.length 1])
     [some ⟨9, 1, strE (unF a b).out⟩, some ⟨3, 1, intE (unF a b).x⟩, some ⟨3, 1, intE (unF a b).y⟩] := by
 refine acall 112 0 Tryz.func104 rfl rfl rfl (by simp) rfl rfl ?_
 intro C hN hk
 refine nx ?_; refine rG hN hk noc [] [0, 1] fun K hK => ?_; simp only [go_sem, seval]; refine hK _ _ ?_
 clear hK K; refine nx ?_
 refine rG hN hk noc [] [0, 1, 7] fun K hK => ?_; simp only [go_sem, seval]; refine hK _ _ ?_
 clear hK K; refine nx ?_
 refine rG hN hk noc [] [0, 1, 7, 8, 9] fun K hK => ?_; simp only [go_sem, seval]; refine hK _ _ ?_
 clear hK K; refine nx ?_
 refine rG hN hk noc [] [0, 1, 7, 8, 9, 10, 11] fun K hK => ?_; simp only [go_sem, seval]; refine hK _ _ ?_
 clear hK K; refine nx ?_
 refine AW.loopF hk 3 (unS a b) (fun s => s.i ≤ a.length ∧ s.k ≤ b.length ∧ s.out.length ≤ s.i + s.k ∧ s.x.length ≤ s.i + s.k ∧ s.y.length ≤ s.i + s.k ∧ ∃ f, a.length - s.i + (b.length - s.k) ≤ f ∧ unGo a b f s = unF a b) (fun s => a.length - s.i + (b.length - s.k)) ⟨0, 0, [], [], []⟩ ⟨by simp, by simp, by simp, by simp, by simp, a.length + b.length, by simp, rfl⟩ ⟨[none, none, none], [], ⟨by simp [srcIds], by simp [srcIds], by simp⟩, by simp, by simp [unS, wkEnv, wk, lk, I], by simp [unS, wkHp, wkHp1, wkEnt, lkh, strE, intE]⟩ ?_
 rintro ⟨i, k, out, x, y⟩ ⟨h1, h2, h3, h4, h5, f, h6, h7⟩
 simp only at h1 h2 h3 h4 h5 h6 h7
 simp only [unS]
 by_cases hlt : i < a.length ∨ k < b.length
 · obtain ⟨f, rfl⟩ : ∃ f', f = f' + 1 := ⟨f - 1, by omega⟩
   rw [unGo, if_pos hlt] at h7
   by_cases hk0 : k = b.length
   · -- the rest of a
     have hi : i < a.length := by omega
     have hx := List.getElem?_eq_getElem hi
     have hx2 : a.getD i [] = a[i] := by simp [List.getD, hi]
     rw [unStep, if_pos (.inl hk0)] at h7
     simp only [hx2] at h7
     generalize a[i] = p at hx h7
     have f1 : decide ((i : Int) < a.length) = true := by simp; omega
     have f3 : ((k : Int) == b.length) = true := by simp; omega
     refine nx ?_; refine rG hN hk noc [] [0, 1, 7, 8, 9, 10, 11, 21] fun K hK => ?_; simp only [go_sem, seval, f1]; refine hK _ _ ?_
     clear hK K; refine nx ?_
     refine AW.condT rfl (AW.skip (qNext ?_))
     refine nx ?_
     refine rD hN hk noc [] [0, 1, 7, 8, 9, 10, 11, 43] fun K tok htok hK => ?_
     simp only [go_sem, seval, f3]
     refine ⟨htok _ (by decide +kernel), hK _ _ ?_⟩
     clear hK K htok tok
     refine nx ?_; refine cT ?_; refine nx ?_; refine rG hN hk noc [] [0, 1, 7, 8, 9, 10, 11] fun K hK => ?_; simp only [go_sem, seval]
     first | with_reducible refine hK _ _ ?_ | refine ⟨by simp; omega, hK _ _ ?_⟩ | refine obK (hK _ _ ?_)
     clear hK K; refine nx ?_
     refine rG hN hk noc [] [0, 1, 7, 8, 9, 10, 11] fun K hK => ?_; simp only [go_sem, seval, hx]
     first | with_reducible refine hK _ _ ?_ | refine ⟨by simp; omega, hK _ _ ?_⟩ | refine obK (hK _ _ ?_)
     clear hK K; refine nx ?_
     refine rG hN hk noc [] [0, 1, 7, 8, 9, 10, 11] fun K hK => ?_; simp only [go_sem, seval, wrap64 (n := (i : Int) + 1) (by omega)]
     refine hK _ _ ?_; clear hK K; refine nx ?_
     exact ⟨⟨i + 1, k, out ++ [p], x ++ [(out.length : Int)], y⟩, ⟨by simp only; omega, by simp only; omega, by simp; omega, by simp; omega, by simp only; omega, f, by simp only; omega, h7⟩, by simp only; omega, ⟨[some 0, some 1, some 2], [], ⟨by simp [srcIds], by simp [srcIds], by simp⟩, by simp, by simp [wkEnv, wk, lk, I, B], by simp [wkHp, wkHp1, wkEnt, lkh]⟩⟩
   · have hk1 : k < b.length := by omega
     have hy := List.getElem?_eq_getElem hk1
     have hy2 : b.getD k [] = b[k] := by simp [List.getD, hk1]
     have f2 : decide ((k : Int) < b.length) = true := by simp; omega
     have f3 : ((k : Int) == b.length) = false := by simp; omega
     by_cases hi : i < a.length
     · have hx := List.getElem?_eq_getElem hi
       have hx2 : a.getD i [] = a[i] := by simp [List.getD, hi]
       have f1 : decide ((i : Int) < a.length) = true := by simp; omega
       have f5 : ((i : Int) == a.length) = false := by simp; omega
       rw [unStep] at h7
       simp only [hx2, hy2] at h7
       generalize a[i] = p at hx h7
       generalize b[k] = q at hy h7
       rcases bt (Op.bytesLess p q) with f4 | f4
       · rw [if_pos (.inr ⟨hi, f4⟩)] at h7
         refine nx ?_; refine rG hN hk noc [] [0, 1, 7, 8, 9, 10, 11, 21] fun K hK => ?_; simp only [go_sem, seval, f1]; refine hK _ _ ?_
         clear hK K; refine nx ?_
         refine AW.condT rfl (AW.skip (qNext ?_))
         refine nx ?_
         refine rD hN hk noc [] [0, 1, 7, 8, 9, 10, 11, 43] fun K tok htok hK => ?_
         simp only [go_sem, seval, f3, f1, hx, hy, f4]
         refine ⟨htok _ (by decide +kernel), hK _ _ ?_⟩
         clear hK K htok tok
         refine nx ?_; refine cT ?_; refine nx ?_; refine rG hN hk noc [] [0, 1, 7, 8, 9, 10, 11] fun K hK => ?_; simp only [go_sem, seval]
         first | with_reducible refine hK _ _ ?_ | refine ⟨by simp; omega, hK _ _ ?_⟩ | refine obK (hK _ _ ?_)
         clear hK K; refine nx ?_
         refine rG hN hk noc [] [0, 1, 7, 8, 9, 10, 11] fun K hK => ?_; simp only [go_sem, seval, hx]
         first | with_reducible refine hK _ _ ?_ | refine ⟨by simp; omega, hK _ _ ?_⟩ | refine obK (hK _ _ ?_)
         clear hK K; refine nx ?_
         refine rG hN hk noc [] [0, 1, 7, 8, 9, 10, 11] fun K hK => ?_; simp only [go_sem, seval, wrap64 (n := (i : Int) + 1) (by omega)]
         refine hK _ _ ?_; clear hK K; refine nx ?_
         exact ⟨⟨i + 1, k, out ++ [p], x ++ [(out.length : Int)], y⟩, ⟨by simp only; omega, by simp only; omega, by simp; omega, by simp; omega, by simp only; omega, f, by simp only; omega, h7⟩, by simp only; omega, ⟨[some 0, some 1, some 2], [], ⟨by simp [srcIds], by simp [srcIds], by simp⟩, by simp, by simp [wkEnv, wk, lk, I, B], by simp [wkHp, wkHp1, wkEnt, lkh]⟩⟩
       · rw [if_neg (by rw [f4]; simp; omega)] at h7
         rcases bt (Op.bytesLess q p) with f6 | f6
         · rw [if_pos (.inr f6)] at h7
           refine nx ?_; refine rG hN hk noc [] [0, 1, 7, 8, 9, 10, 11, 21] fun K hK => ?_; simp only [go_sem, seval, f1]; refine hK _ _ ?_
           clear hK K; refine nx ?_
           refine AW.condT rfl (AW.skip (qNext ?_))
           refine nx ?_
           refine rD hN hk noc [] [0, 1, 7, 8, 9, 10, 11, 43] fun K tok htok hK => ?_
           simp only [go_sem, seval, f3, f1, hx, hy, f4]
           refine ⟨htok _ (by decide +kernel), hK _ _ ?_⟩
           clear hK K htok tok
           refine nx ?_; refine cF ?_; refine nx ?_
           refine rD hN hk noc [] [0, 1, 7, 8, 9, 10, 11, 79] fun K tok htok hK => ?_
           simp only [go_sem, seval, f5, hx, hy, f6]
           refine ⟨htok _ (by decide +kernel), hK _ _ ?_⟩
           clear hK K htok tok
           refine nx ?_; refine cT ?_; refine nx ?_; refine rG hN hk noc [] [0, 1, 7, 8, 9, 10, 11] fun K hK => ?_; simp only [go_sem, seval]
           first | with_reducible refine hK _ _ ?_ | refine ⟨by simp; omega, hK _ _ ?_⟩ | refine obK (hK _ _ ?_)
           clear hK K; refine nx ?_
           refine rG hN hk noc [] [0, 1, 7, 8, 9, 10, 11] fun K hK => ?_; simp only [go_sem, seval, hy]
           first | with_reducible refine hK _ _ ?_ | refine ⟨by simp; omega, hK _ _ ?_⟩ | refine obK (hK _ _ ?_)
           clear hK K; refine nx ?_
           refine rG hN hk noc [] [0, 1, 7, 8, 9, 10, 11] fun K hK => ?_; simp only [go_sem, seval, wrap64 (n := (k : Int) + 1) (by omega)]
           refine hK _ _ ?_; clear hK K; refine nx ?_
           exact ⟨⟨i, k + 1, out ++ [q], x, y ++ [(out.length : Int)]⟩, ⟨by simp only; omega, by simp only; omega, by simp; omega, by simp only; omega, by simp; omega, f, by simp only; omega, h7⟩, by simp only; omega, ⟨[some 0, some 1, some 2], [], ⟨by simp [srcIds], by simp [srcIds], by simp⟩, by simp, by simp [wkEnv, wk, lk, I, B], by simp [wkHp, wkHp1, wkEnt, lkh]⟩⟩
         · rw [if_neg (by rw [f6]; simp; omega)] at h7
           refine nx ?_; refine rG hN hk noc [] [0, 1, 7, 8, 9, 10, 11, 21] fun K hK => ?_; simp only [go_sem, seval, f1]; refine hK _ _ ?_
           clear hK K; refine nx ?_
           refine AW.condT rfl (AW.skip (qNext ?_))
           refine nx ?_
           refine rD hN hk noc [] [0, 1, 7, 8, 9, 10, 11, 43] fun K tok htok hK => ?_
           simp only [go_sem, seval, f3, f1, hx, hy, f4]
           refine ⟨htok _ (by decide +kernel), hK _ _ ?_⟩
           clear hK K htok tok
           refine nx ?_; refine cF ?_; refine nx ?_
           refine rD hN hk noc [] [0, 1, 7, 8, 9, 10, 11, 79] fun K tok htok hK => ?_
           simp only [go_sem, seval, f5, hx, hy, f6]
           refine ⟨htok _ (by decide +kernel), hK _ _ ?_⟩
           clear hK K htok tok
           refine nx ?_; refine cF ?_; refine nx ?_; refine rG hN hk noc [] [0, 1, 7, 8, 9, 10, 11] fun K hK => ?_; simp only [go_sem, seval]
           first | with_reducible refine hK _ _ ?_ | refine ⟨by simp; omega, hK _ _ ?_⟩ | refine obK (hK _ _ ?_)
           clear hK K; refine nx ?_
           refine rG hN hk noc [] [0, 1, 7, 8, 9, 10, 11] fun K hK => ?_; simp only [go_sem, seval, hx]
           first | with_reducible refine hK _ _ ?_ | refine ⟨by simp; omega, hK _ _ ?_⟩ | refine obK (hK _ _ ?_)
           clear hK K; refine nx ?_
           refine rG hN hk noc [] [0, 1, 7, 8, 9, 10, 11] fun K hK => ?_; simp only [go_sem, seval, wrap64 (n := (i : Int) + 1) (by omega)]
           refine hK _ _ ?_; clear hK K; refine nx ?_; refine rG hN hk noc [] [0, 1, 7, 8, 9, 10, 11] fun K hK => ?_; simp only [go_sem, seval, wrap64 (n := (k : Int) + 1) (by omega)]
           refine hK _ _ ?_; clear hK K; refine nx ?_
           exact ⟨⟨i + 1, k + 1, out ++ [p], x ++ [(out.length : Int)], y ++ [(out.length : Int)]⟩, ⟨by simp only; omega, by simp only; omega, by simp; omega, by simp; omega, by simp; omega, f, by simp only; omega, h7⟩, by simp only; omega, ⟨[some 0, some 1, some 2], [], ⟨by simp [srcIds], by simp [srcIds], by simp⟩, by simp, by simp [wkEnv, wk, lk, I, B], by simp [wkHp, wkHp1, wkEnt, lkh]⟩⟩
     · have hi' : i = a.length := by omega
       have f1 : decide ((i : Int) < a.length) = false := by simp; omega
       have f5 : ((i : Int) == a.length) = true := by simp; omega
       rw [unStep, if_neg (by simp only; omega), if_pos (.inl hi')] at h7
       simp only [hy2] at h7
       generalize b[k] = q at hy h7
       refine nx ?_; refine rG hN hk noc [] [0, 1, 7, 8, 9, 10, 11, 21] fun K hK => ?_; simp only [go_sem, seval, f1, f2]; refine hK _ _ ?_
       clear hK K; refine nx ?_
       refine AW.condT rfl (AW.skip (qNext ?_))
       refine nx ?_
       refine rD hN hk noc [] [0, 1, 7, 8, 9, 10, 11, 43] fun K tok htok hK => ?_
       simp only [go_sem, seval, f3, f1]
       refine ⟨htok _ (by decide +kernel), hK _ _ ?_⟩
       clear hK K htok tok
       refine nx ?_; refine cF ?_; refine nx ?_
       refine rD hN hk noc [] [0, 1, 7, 8, 9, 10, 11, 79] fun K tok htok hK => ?_
       simp only [go_sem, seval, f5]
       refine ⟨htok _ (by decide +kernel), hK _ _ ?_⟩
       clear hK K htok tok
       refine nx ?_; refine cT ?_; refine nx ?_; refine rG hN hk noc [] [0, 1, 7, 8, 9, 10, 11] fun K hK => ?_; simp only [go_sem, seval]
       first | with_reducible refine hK _ _ ?_ | refine ⟨by simp; omega, hK _ _ ?_⟩ | refine obK (hK _ _ ?_)
       clear hK K; refine nx ?_
       refine rG hN hk noc [] [0, 1, 7, 8, 9, 10, 11] fun K hK => ?_; simp only [go_sem, seval, hy]
       first | with_reducible refine hK _ _ ?_ | refine ⟨by simp; omega, hK _ _ ?_⟩ | refine obK (hK _ _ ?_)
       clear hK K; refine nx ?_
       refine rG hN hk noc [] [0, 1, 7, 8, 9, 10, 11] fun K hK => ?_; simp only [go_sem, seval, wrap64 (n := (k : Int) + 1) (by omega)]
       refine hK _ _ ?_; clear hK K; refine nx ?_
       exact ⟨⟨i, k + 1, out ++ [q], x, y ++ [(out.length : Int)]⟩, ⟨by simp only; omega, by simp only; omega, by simp; omega, by simp only; omega, by simp; omega, f, by simp only; omega, h7⟩, by simp only; omega, ⟨[some 0, some 1, some 2], [], ⟨by simp [srcIds], by simp [srcIds], by simp⟩, by simp, by simp [wkEnv, wk, lk, I, B], by simp [wkHp, wkHp1, wkEnt, lkh]⟩⟩
 · obtain ⟨rfl, rfl⟩ : i = a.length ∧ k = b.length := by omega
   have f1 : decide ((a.length : Int) < a.length) = false := by simp
   have f2 : decide ((b.length : Int) < b.length) = false := by simp
   have h8 : (⟨a.length, b.length, out, x, y⟩ : Un) = unF a b := by rw [← h7]; cases f <;> simp [unGo]
   refine nx ?_; refine rG hN hk noc [] [7, 8, 9, 21] fun K hK => ?_; simp only [go_sem, seval, f1, f2]; refine hK _ _ ?_
   clear hK K; refine nx ?_
   refine AW.condF rfl (AW.exit (qThen (qThen (qHere (qNext ?_)))))
   refine nx ?_; refine rG hN hk noc [] [4, 5, 6] fun K hK => ?_; simp only [go_sem, seval]; refine hK _ _ ?_
   clear hK K; refine nx ?_
   rw [← h8]
   refine AW.ret (mkRet [some 0, some 1, some 2] [] rfl ?_ ?_)
   · simp [resOf, lk, wk, wkL]
   · simp [wkHp, wkHp1, wkEnt, lkh]
def distGo : Nat → List S → List S
 | 0, l => l
 | f + 1, l => if l.length < 2 then l else (unF (distGo f (l.take (l.length / 2))) (distGo f (l.drop (l.length / 2)))).out
def distF (l : List S) : List S := distGo l.length l
theorem unStep_len (a b : List S) (s : Un) : (unStep a b s).out.length = s.out.length + 1 := by
 unfold unStep; split
 · simp
 · split <;> simp
theorem unGo_len (a b : List S) : ∀ f s, (unGo a b f s).out.length ≤ s.out.length + f
 | 0, s => by simp [unGo]
 | f + 1, s => by
   rw [unGo]; split
   · have := unGo_len a b f (unStep a b s); rw [unStep_len] at this; omega
   · omega
theorem unF_len (a b : List S) : (unF a b).out.length ≤ a.length + b.length := by
 have := unGo_len a b (a.length + b.length) ⟨0, 0, [], [], []⟩; simp at this; exact this
theorem distGo_len : ∀ f l, (distGo f l).length ≤ l.length
 | 0, l => by simp [distGo]
 | f + 1, l => by
   rw [distGo]; split
   · omega
   · have h1 := distGo_len f (l.take (l.length / 2))
     have h2 := distGo_len f (l.drop (l.length / 2))
     have h3 := unF_len (distGo f (l.take (l.length / 2))) (distGo f (l.drop (l.length / 2)))
     simp at h1 h2
     omega
theorem distGo_fuel : ∀ f g l, l.length ≤ f → l.length ≤ g → distGo f l = distGo g l
 | 0, g, l, h, _ => by
   have : l = [] := List.eq_nil_of_length_eq_zero (by omega)
   subst this
   cases g <;> simp [distGo]
 | f + 1, 0, l, _, h => by
   have : l = [] := List.eq_nil_of_length_eq_zero (by omega)
   subst this
   simp [distGo]
 | f + 1, g + 1, l, h, h' => by
   rw [distGo, distGo]
   split
   · rfl
   · rw [distGo_fuel f g _ (by simp; omega) (by simp; omega), distGo_fuel f g _ (by simp; omega) (by simp; omega)]
theorem distF_eq (l : List S) (h : ¬ l.length < 2) : distF l = (unF (distF (l.take (l.length / 2))) (distF (l.drop (l.length / 2)))).out := by
 obtain ⟨n, hn⟩ : ∃ n, l.length = n + 1 := ⟨l.length - 1, by omega⟩
 unfold distF
 rw [hn, distGo, if_neg h]
 rw [distGo_fuel n _ _ (by simp; omega) (Nat.le_refl _), distGo_fuel n _ (l.drop _) (by simp; omega) (Nat.le_refl _)]
 rw [hn]
theorem distF_small (l : List S) (h : l.length < 2) : distF l = l := by
 unfold distF
 match l, h with
 | [], _ => rfl
 | [x], _ => simp [distGo]
theorem distF_len (l : List S) : (distF l).length ≤ l.length := distGo_len _ _
theorem distinct1 : ∀ (m : Nat) (l : List S), l.length ≤ m → l.length ≤ 2 ^ 37 → ACall Tryz.prog 85 [.sl 1 (strE l)] [] (.osl 0 (distF l).length 1) [some ⟨9, 1, strE (distF l)⟩] := by
 intro m
 induction m with
 | zero =>
   intro l h0 hl
   obtain rfl : l = [] := List.eq_nil_of_length_eq_zero (by omega)
   refine acall 29 0 Tryz.func85 rfl rfl rfl (by simp) rfl rfl ?_
   intro C hN hk
   refine nx ?_; refine rG hN hk noc [] [0] fun K hK => ?_; simp only [go_sem, seval]; refine hK _ _ ?_
   clear hK K; refine nx ?_
   refine rG hN hk noc [] [0, 9] fun K hK => ?_; simp only [go_sem, seval]; refine hK _ _ ?_
   clear hK K; refine nx ?_
   refine cT ?_; refine nx ?_; refine rG hN hk noc [] [2] fun K hK => ?_; simp only [go_sem, seval]; refine hK _ _ ?_
   clear hK K; refine nx ?_
   refine AW.ret (mkRet [some 0] [] rfl ?_ ?_)
   · simp [resOf, lk, wk, distF, distGo]
   · simp [wkHp, wkHp1, wkEnt, lkh, distF, distGo]
 | succ m ih =>
   intro l h0 hl
   refine acall 29 0 Tryz.func85 rfl rfl rfl (by simp) rfl rfl ?_
   intro C hN hk
   by_cases h2 : l.length < 2
   · have e1 : decide ((l.length : Int) < 2) = true := by simp; omega
     refine nx ?_; refine rG hN hk noc [] [0] fun K hK => ?_; simp only [go_sem, seval]; refine hK _ _ ?_
     clear hK K; refine nx ?_
     refine rG hN hk noc [] [0, 9] fun K hK => ?_; simp only [go_sem, seval, e1]; refine hK _ _ ?_
     clear hK K; refine nx ?_
     refine cT ?_; refine nx ?_; refine rG hN hk noc [] [2] fun K hK => ?_; simp only [go_sem, seval]
     first | with_reducible refine hK _ _ ?_ | refine ⟨by omega, hK _ _ ?_⟩ | refine obK (hK _ _ ?_)
     clear hK K; refine nx ?_
     rw [distF_small l h2]
     refine AW.ret (mkRet [some 0] [] rfl ?_ ?_)
     · simp [resOf, lk, wk]
     · simp [wkHp, wkHp1, wkEnt, lkh]
   · have e1 : decide ((l.length : Int) < 2) = false := by simp; omega
     refine nx ?_; refine rG hN hk noc [] [0] fun K hK => ?_; simp only [go_sem, seval]; refine hK _ _ ?_
     clear hK K; refine nx ?_
     refine rG hN hk noc [] [0, 9] fun K hK => ?_; simp only [go_sem, seval, e1]; refine hK _ _ ?_
     clear hK K; refine nx ?_
     refine AW.condF rfl (AW.skip (qNext ?_))
     have e2 : (l.length : Int).tdiv 2 = (l.length / 2 : Nat) := by rw [Int.tdiv_eq_ediv_of_nonneg (by omega)]; omega
     have e3 := wrap64 (n := ((l.length / 2 : Nat) : Int)) (by omega)
     refine nx ?_; refine rG hN hk noc [] [0, 3] fun K hK => ?_; simp only [go_sem, seval, e2, e3]
     first | with_reducible refine hK _ _ ?_ | refine ⟨by decide, hK _ _ ?_⟩ | refine obK (hK _ _ ?_)
     clear hK K; refine nx ?_
     rw [distF_eq l h2]
     have q1 := ih (l.take (l.length / 2)) (by simp; omega) (by simp; omega)
     have q2 := ih (l.drop (l.length / 2)) (by simp; omega) (by simp; omega)
     have n1 := distF_len (l.take (l.length / 2))
     have n2 := distF_len (l.drop (l.length / 2))
     simp only [List.length_take, List.length_drop] at n1 n2
     have q3 := union1 (distF (l.take (l.length / 2))) (distF (l.drop (l.length / 2))) (by omega) (by omega)
     have e4 : List.take l.length (strE l) = strE l := List.take_of_length_le (by rw [strE_len]; omega)
     have e5 : List.take l.length l = l := List.take_of_length_le (by omega)
     generalize distF (l.take (l.length / 2)) = A at *
     generalize distF (l.drop (l.length / 2)) = B' at *
     refine nx ?_
     refine rD hN hk (onc 3 (pc [.sl 1 (strE (l.take (l.length / 2)))] (.osl 0 A.length 1) [some ⟨9, 1, strE A⟩]) (onc 7 (pc [.sl 1 (strE (l.drop (l.length / 2)))] (.osl 0 B'.length 1) [some ⟨9, 1, strE B'⟩]) (onc 8 (bc [24, 56] [.sl 1 (strE A), .sl 1 (strE B')] (.tup [.osl 0 (unF A B').out.length 1, .osl 1 (unF A B').x.length 1, .osl 2 (unF A B').y.length 1]) [some ⟨9, 1, strE (unF A B').out⟩, some ⟨3, 1, intE (unF A B').x⟩, some ⟨3, 1, intE (unF A B').y⟩]) noc))) [] [4] fun K tok htok hK => ?_
     simp only [go_sem, seval, e4, e5]
     refine ⟨htok _ (by decide +kernel), ⟨⟨⟨⟨by omega, pureOb q1 rfl (by simp)⟩, by omega⟩, pureOb q2 rfl (by simp)⟩, borrowOb q3 rfl (by simp) ⟨viewO (by simp) rfl rfl (by simp [strE_len]) rfl, viewO (by simp) rfl rfl (by simp [strE_len]) rfl, trivial⟩ rfl (by simp) (by simp [borOb])⟩, hK _ _ ?_⟩
     clear hK K htok tok
     refine nx ?_; refine rG hN hk noc [] [2] fun K hK => ?_; simp only [go_sem, seval]; refine hK _ _ ?_
     clear hK K; refine nx ?_
     refine AW.ret (mkRet [some 0] [] rfl ?_ ?_)
     · simp [resOf, lk, wk]
     · simp [wkHp, wkHp1, wkEnt, lkh]
end Go.Proofs.YtffchapiaampmaaGreatDoor
namespace Go.Proofs.YtffchapiaampmaaGreatDoor
open Go.Av
@[simp, go_sem] theorem eBytes_bytesE (l : List UInt8) : eBytes (bytesE l) = l := by
 induction l with
 | nil => rfl
 | cons a l ih =>
   simp only [bytesE, eBytes, List.map_cons, List.map_map] at ih ⊢
   rw [ih]
   simp [byteE, byteOf1]
theorem isByte_bytesE (l : List UInt8) : ∀ c ∈ bytesE l, isByte c = true := by
 intro c hc
 simp only [bytesE, List.mem_map] at hc
 obtain ⟨x, _, rfl⟩ := hc
 have := x.toNat_lt
 simp only [byteE, isByte, decide_eq_true_eq]
 omega
theorem ofNat_toNat (n : Nat) (h : n < 256) : (UInt8.ofNat n).toNat = n := by simp; omega
end Go.Proofs.YtffchapiaampmaaGreatDoor
namespace Go.Proofs.YtffchapiaampmaaGreatDoor
open Go.Av
attribute [local irreducible] ACall
def len8 (b : Nat) : Nat := if b = 0 then 0 else Nat.log2 b + 1
theorem lenTab (x : Nat) (hx : x < 256) : ((List.append (List.append [0, 1, 2, 2, 3, 3, 3, 3, 4, 4, 4, 4, 4, 4, 4, 4, 5, 5, 5, 5, 5, 5, 5, 5, 5, 5, 5, 5, 5, 5, 5, 5, 6, 6, 6, 6, 6, 6, 6, 6, 6, 6, 6, 6, 6, 6, 6, 6, 6, 6, 6, 6, 6, 6, 6, 6, 6, 6, 6, 6, 6, 6, 6, 6] [7, 7, 7, 7, 7, 7, 7, 7, 7, 7, 7, 7, 7, 7, 7, 7, 7, 7, 7, 7, 7, 7, 7, 7, 7, 7, 7, 7, 7, 7, 7, 7, 7, 7, 7, 7, 7, 7, 7, 7, 7, 7, 7, 7, 7, 7, 7, 7, 7, 7, 7, 7, 7, 7, 7, 7, 7, 7, 7, 7, 7, 7, 7, 7]) (List.append [8, 8, 8, 8, 8, 8, 8, 8, 8, 8, 8, 8, 8, 8, 8, 8, 8, 8, 8, 8, 8, 8, 8, 8, 8, 8, 8, 8, 8, 8, 8, 8, 8, 8, 8, 8, 8, 8, 8, 8, 8, 8, 8, 8, 8, 8, 8, 8, 8, 8, 8, 8, 8, 8, 8, 8, 8, 8, 8, 8, 8, 8, 8, 8] [8, 8, 8, 8, 8, 8, 8, 8, 8, 8, 8, 8, 8, 8, 8, 8, 8, 8, 8, 8, 8, 8, 8, 8, 8, 8, 8, 8, 8, 8, 8, 8, 8, 8, 8, 8, 8, 8, 8, 8, 8, 8, 8, 8, 8, 8, 8, 8, 8, 8, 8, 8, 8, 8, 8, 8, 8, 8, 8, 8, 8, 8, 8, 8])) : List UInt8)[x]? = some (UInt8.ofNat (len8 x)) := by
 have h : ∀ i : Fin 256, ((List.append (List.append [0, 1, 2, 2, 3, 3, 3, 3, 4, 4, 4, 4, 4, 4, 4, 4, 5, 5, 5, 5, 5, 5, 5, 5, 5, 5, 5, 5, 5, 5, 5, 5, 6, 6, 6, 6, 6, 6, 6, 6, 6, 6, 6, 6, 6, 6, 6, 6, 6, 6, 6, 6, 6, 6, 6, 6, 6, 6, 6, 6, 6, 6, 6, 6] [7, 7, 7, 7, 7, 7, 7, 7, 7, 7, 7, 7, 7, 7, 7, 7, 7, 7, 7, 7, 7, 7, 7, 7, 7, 7, 7, 7, 7, 7, 7, 7, 7, 7, 7, 7, 7, 7, 7, 7, 7, 7, 7, 7, 7, 7, 7, 7, 7, 7, 7, 7, 7, 7, 7, 7, 7, 7, 7, 7, 7, 7, 7, 7]) (List.append [8, 8, 8, 8, 8, 8, 8, 8, 8, 8, 8, 8, 8, 8, 8, 8, 8, 8, 8, 8, 8, 8, 8, 8, 8, 8, 8, 8, 8, 8, 8, 8, 8, 8, 8, 8, 8, 8, 8, 8, 8, 8, 8, 8, 8, 8, 8, 8, 8, 8, 8, 8, 8, 8, 8, 8, 8, 8, 8, 8, 8, 8, 8, 8] [8, 8, 8, 8, 8, 8, 8, 8, 8, 8, 8, 8, 8, 8, 8, 8, 8, 8, 8, 8, 8, 8, 8, 8, 8, 8, 8, 8, 8, 8, 8, 8, 8, 8, 8, 8, 8, 8, 8, 8, 8, 8, 8, 8, 8, 8, 8, 8, 8, 8, 8, 8, 8, 8, 8, 8, 8, 8, 8, 8, 8, 8, 8, 8])) : List UInt8)[i.val]? = some (UInt8.ofNat (len8 i.val)) := by decide +kernel
 exact h ⟨x, hx⟩
theorem len8_le (x : Nat) (hx : x < 256) : len8 x ≤ 8 ∧ x < 2 ^ len8 x := by
 have h : ∀ i : Fin 256, len8 i.val ≤ 8 ∧ i.val < 2 ^ len8 i.val := by decide +kernel
 exact h ⟨x, hx⟩
def lenS (w : Nat) (x : Nat) : Nat := if 2 ^ w ≤ x then x / 2 ^ w else x
def lenN (w : Nat) (x : Nat) : Nat := if 2 ^ w ≤ x then w else 0
def len64F (x : Nat) : Nat := lenN 32 x + lenN 16 (lenS 32 x) + lenN 8 (lenS 16 (lenS 32 x)) + len8 (lenS 8 (lenS 16 (lenS 32 x)))
theorem lenS_lt {w v x : Nat} (h : x < 2 ^ (w + v)) (hv : w ≤ v) : lenS v x < 2 ^ v := by
 unfold lenS
 split
 · refine Nat.lt_of_lt_of_le ((Nat.div_lt_iff_lt_mul (Nat.two_pow_pos v)).2 (by rwa [← Nat.pow_add])) ?_
   exact Nat.pow_le_pow_right (by omega) hv
 · omega
theorem len64_1 (x : Nat) (hx : x < 2 ^ 64) : ACall Tryz.prog 123 [U64 x] [] (I (len64F x)) [] := by
 have h1 : lenS 32 x < 2 ^ 32 := lenS_lt (w := 32) hx (by omega)
 have h2 : lenS 16 (lenS 32 x) < 2 ^ 16 := lenS_lt (w := 16) h1 (by omega)
 have h3 : lenS 8 (lenS 16 (lenS 32 x)) < 2 ^ 8 := lenS_lt (w := 8) h2 (by omega)
 refine acall 25 0 Tryz.func123 rfl rfl rfl (by simp) rfl rfl ?_
 intro C hN hk
 refine nx ?_; refine rG hN hk noc [] [0, 2] fun K hK => ?_; simp only [go_sem, reduceIte, Nat.reduceAdd, Nat.reduceMul, Nat.reduceEqDiff, reduceCtorEq, Nat.reduceSub, Nat.reduceLeDiff, Nat.reducePow, Nat.lt_add_one, Nat.zero_lt_succ, ne_eq, not_false_eq_true, decide_true, decide_false, Bool.not_true, Bool.not_false, Bool.false_eq_true]; refine hK _ _ ?_
 clear hK K; refine nx ?_
 generalize hy : x = y at *
 refine nx ?_; refine rG hN hk noc [] [0, 2, 4] fun K hK => ?_; simp only [go_sem, reduceIte, Nat.reduceAdd, Nat.reduceMul, Nat.reduceEqDiff, reduceCtorEq, Nat.reduceSub, Nat.reduceLeDiff, Nat.reducePow, Nat.lt_add_one, Nat.zero_lt_succ, ne_eq, not_false_eq_true, decide_true, decide_false, Bool.not_true, Bool.not_false, Bool.false_eq_true]; refine hK _ _ ?_
 clear hK K; refine nx ?_
 refine AW.join hk 0 ⟨[(0, U64 ((lenS 32 y : Nat) : Int)), (2, I ((lenN 32 y : Nat) : Int))], []⟩ ?_ ?_
 · refine AW.condB rfl (fun h => ?_) (fun h => AW.skip (qNext ?_))
   · simp only [ge_iff_le, decide_eq_true_eq] at h
     have e1 : lenS 32 y = y / 2 ^ 32 := by unfold lenS; rw [if_pos (by omega)]
     have e2 : lenN 32 y = 32 := by unfold lenN; rw [if_pos (by omega)]
     have e3 : (y : Int).fdiv (2 ^ min (Int.toNat 32) 64) = ((y / 2 ^ 32 : Nat) : Int) := by
       rw [show min (Int.toNat 32) 64 = 32 by decide, Int.fdiv_eq_ediv_of_nonneg _ (by decide)]
       omega
     rw [e1, e2]
     refine nx ?_; refine rG hN hk noc [] [0, 2] fun K hK => ?_; simp only [go_sem, reduceIte, Nat.reduceAdd, Nat.reduceMul, Nat.reduceEqDiff, reduceCtorEq, Nat.reduceSub, Nat.reduceLeDiff, Nat.reducePow, Nat.lt_add_one, Nat.zero_lt_succ, ne_eq, not_false_eq_true, decide_true, decide_false, Bool.not_true, Bool.not_false, Bool.false_eq_true, e3]
     first | with_reducible refine hK _ _ ?_ | refine ⟨by decide, hK _ _ ?_⟩ | refine obK (hK _ _ ?_)
     clear hK K; refine nx ?_
     refine rG hN hk noc [] [0, 2] fun K hK => ?_; simp only [go_sem, reduceIte, Nat.reduceAdd, Nat.reduceMul, Nat.reduceEqDiff, reduceCtorEq, Nat.reduceSub, Nat.reduceLeDiff, Nat.reducePow, Nat.lt_add_one, Nat.zero_lt_succ, ne_eq, not_false_eq_true, decide_true, decide_false, Bool.not_true, Bool.not_false, Bool.false_eq_true]; refine hK _ _ ?_
     clear hK K; refine nx ?_
     exact mkWk [] [] (by simp [wkEnv, wk, lk, I, U64]) (by simp [wkHp])
   · simp only [ge_iff_le, decide_eq_false_iff_not] at h
     have e1 : lenS 32 y = y := by unfold lenS; rw [if_neg (by omega)]
     have e2 : lenN 32 y = 0 := by unfold lenN; rw [if_neg (by omega)]
     rw [e1, e2]
     exact mkWk [] [] (by simp [wkEnv, wk, lk, I, U64]) (by simp [wkHp])
 have g1 : lenN 32 y ≤ 32 := by unfold lenN; split <;> omega
 unfold len64F
 generalize lenN 32 y = c at *
 have hcl : c ≤ 32 := by omega
 generalize lenS 32 y = y at *
 have h0 := hcl
 refine nx ?_; refine rG hN hk noc [] [0, 2, 8] fun K hK => ?_; simp only [go_sem, reduceIte, Nat.reduceAdd, Nat.reduceMul, Nat.reduceEqDiff, reduceCtorEq, Nat.reduceSub, Nat.reduceLeDiff, Nat.reducePow, Nat.lt_add_one, Nat.zero_lt_succ, ne_eq, not_false_eq_true, decide_true, decide_false, Bool.not_true, Bool.not_false, Bool.false_eq_true]; refine hK _ _ ?_
 clear hK K; refine nx ?_
 refine AW.join hk 0 ⟨[(0, U64 ((lenS 16 y : Nat) : Int)), (2, I ((c + lenN 16 y : Nat) : Int))], []⟩ ?_ ?_
 · refine AW.condB rfl (fun h => ?_) (fun h => AW.skip (qNext ?_))
   · simp only [ge_iff_le, decide_eq_true_eq] at h
     have e1 : lenS 16 y = y / 2 ^ 16 := by unfold lenS; rw [if_pos (by omega)]
     have e2 : lenN 16 y = 16 := by unfold lenN; rw [if_pos (by omega)]
     have e3 : (y : Int).fdiv (2 ^ min (Int.toNat 16) 64) = ((y / 2 ^ 16 : Nat) : Int) := by
       rw [show min (Int.toNat 16) 64 = 16 by decide, Int.fdiv_eq_ediv_of_nonneg _ (by decide)]
       omega
     have e4 := wrap64 (n := (c : Int) + 16) (by omega)
     rw [e1, e2]
     refine nx ?_; refine rG hN hk noc [] [0, 2] fun K hK => ?_; simp only [go_sem, reduceIte, Nat.reduceAdd, Nat.reduceMul, Nat.reduceEqDiff, reduceCtorEq, Nat.reduceSub, Nat.reduceLeDiff, Nat.reducePow, Nat.lt_add_one, Nat.zero_lt_succ, ne_eq, not_false_eq_true, decide_true, decide_false, Bool.not_true, Bool.not_false, Bool.false_eq_true, e3]
     first | with_reducible refine hK _ _ ?_ | refine ⟨by decide, hK _ _ ?_⟩ | refine obK (hK _ _ ?_)
     clear hK K; refine nx ?_
     refine rG hN hk noc [] [0, 2] fun K hK => ?_; simp only [go_sem, reduceIte, Nat.reduceAdd, Nat.reduceMul, Nat.reduceEqDiff, reduceCtorEq, Nat.reduceSub, Nat.reduceLeDiff, Nat.reducePow, Nat.lt_add_one, Nat.zero_lt_succ, ne_eq, not_false_eq_true, decide_true, decide_false, Bool.not_true, Bool.not_false, Bool.false_eq_true, e4]; refine hK _ _ ?_
     clear hK K; refine nx ?_
     exact mkWk [] [] (by simp [wkEnv, wk, lk, I, U64, h0]) (by simp [wkHp])
   · simp only [ge_iff_le, decide_eq_false_iff_not] at h
     have e1 : lenS 16 y = y := by unfold lenS; rw [if_neg (by omega)]
     have e2 : lenN 16 y = 0 := by unfold lenN; rw [if_neg (by omega)]
     rw [e1, e2]
     exact mkWk [] [] (by simp [wkEnv, wk, lk, I, U64]) (by simp [wkHp])
 have g2 : lenN 16 y ≤ 16 := by unfold lenN; split <;> omega
 generalize hcc2 : c + lenN 16 y = c
 have hcl : c ≤ 48 := by omega
 generalize lenS 16 y = y at *
 have h0 := hcl
 refine nx ?_; refine rG hN hk noc [] [0, 2, 14] fun K hK => ?_; simp only [go_sem, reduceIte, Nat.reduceAdd, Nat.reduceMul, Nat.reduceEqDiff, reduceCtorEq, Nat.reduceSub, Nat.reduceLeDiff, Nat.reducePow, Nat.lt_add_one, Nat.zero_lt_succ, ne_eq, not_false_eq_true, decide_true, decide_false, Bool.not_true, Bool.not_false, Bool.false_eq_true]; refine hK _ _ ?_
 clear hK K; refine nx ?_
 refine AW.join hk 0 ⟨[(0, U64 ((lenS 8 y : Nat) : Int)), (2, I ((c + lenN 8 y : Nat) : Int))], []⟩ ?_ ?_
 · refine AW.condB rfl (fun h => ?_) (fun h => AW.skip (qNext ?_))
   · simp only [ge_iff_le, decide_eq_true_eq] at h
     have e1 : lenS 8 y = y / 2 ^ 8 := by unfold lenS; rw [if_pos (by omega)]
     have e2 : lenN 8 y = 8 := by unfold lenN; rw [if_pos (by omega)]
     have e3 : (y : Int).fdiv (2 ^ min (Int.toNat 8) 64) = ((y / 2 ^ 8 : Nat) : Int) := by
       rw [show min (Int.toNat 8) 64 = 8 by decide, Int.fdiv_eq_ediv_of_nonneg _ (by decide)]
       omega
     have e4 := wrap64 (n := (c : Int) + 8) (by omega)
     rw [e1, e2]
     refine nx ?_; refine rG hN hk noc [] [0, 2] fun K hK => ?_; simp only [go_sem, reduceIte, Nat.reduceAdd, Nat.reduceMul, Nat.reduceEqDiff, reduceCtorEq, Nat.reduceSub, Nat.reduceLeDiff, Nat.reducePow, Nat.lt_add_one, Nat.zero_lt_succ, ne_eq, not_false_eq_true, decide_true, decide_false, Bool.not_true, Bool.not_false, Bool.false_eq_true, e3]
     first | with_reducible refine hK _ _ ?_ | refine ⟨by decide, hK _ _ ?_⟩ | refine obK (hK _ _ ?_)
     clear hK K; refine nx ?_
     refine rG hN hk noc [] [0, 2] fun K hK => ?_; simp only [go_sem, reduceIte, Nat.reduceAdd, Nat.reduceMul, Nat.reduceEqDiff, reduceCtorEq, Nat.reduceSub, Nat.reduceLeDiff, Nat.reducePow, Nat.lt_add_one, Nat.zero_lt_succ, ne_eq, not_false_eq_true, decide_true, decide_false, Bool.not_true, Bool.not_false, Bool.false_eq_true, e4]; refine hK _ _ ?_
     clear hK K; refine nx ?_
     exact mkWk [] [] (by simp [wkEnv, wk, lk, I, U64, h0]) (by simp [wkHp])
   · simp only [ge_iff_le, decide_eq_false_iff_not] at h
     have e1 : lenS 8 y = y := by unfold lenS; rw [if_neg (by omega)]
     have e2 : lenN 8 y = 0 := by unfold lenN; rw [if_neg (by omega)]
     rw [e1, e2]
     exact mkWk [] [] (by simp [wkEnv, wk, lk, I, U64]) (by simp [wkHp])
 have g3 : lenN 8 y ≤ 8 := by unfold lenN; split <;> omega
 generalize hcc3 : c + lenN 8 y = c
 generalize lenS 8 y = y at *
 have g4 := len8_le y h3
 have e4 : IntKind.u8.wrap (y : Int) = y := by rw [wrap8]; omega
 have e5 := lenTab y h3
 have e6 := ofNat_toNat (len8 y) (by omega)
 have e7 := wrap64 (n := (len8 y : Int)) (by omega)
 have e8 := wrap64 (n := (c : Int) + (len8 y : Int)) (by omega)
 refine nx ?_; refine rG hN hk noc [] [2] fun K hK => ?_; simp only [go_sem, reduceIte, Nat.reduceAdd, Nat.reduceMul, Nat.reduceEqDiff, reduceCtorEq, Nat.reduceSub, Nat.reduceLeDiff, Nat.reducePow, Nat.lt_add_one, Nat.zero_lt_succ, ne_eq, not_false_eq_true, decide_true, decide_false, Bool.not_true, Bool.not_false, Bool.false_eq_true, e4, e5, e6, e7, e8]; refine hK _ _ ?_
 clear hK K; refine nx ?_
 refine AW.ret (mkRet [] [] rfl ?_ ?_)
 · simp [resOf, lk, wk, I]
 · simp [wkHp]
end Go.Proofs.YtffchapiaampmaaGreatDoor
namespace Go.Proofs.YtffchapiaampmaaGreatDoor
open Go.Av
def In64 (x : Int) : Prop := -9223372036854775808 ≤ x ∧ x < 9223372036854775808
end Go.Proofs.YtffchapiaampmaaGreatDoor
namespace Go.Proofs.YtffchapiaampmaaGreatDoor
open Go.Av
attribute [local irreducible] ACall
abbrev U32 (n : Int) : AV := .val (.int .u32 n)
end Go.Proofs.YtffchapiaampmaaGreatDoor
