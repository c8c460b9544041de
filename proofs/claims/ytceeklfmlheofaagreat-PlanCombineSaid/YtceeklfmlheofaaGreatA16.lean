/-
  Part 16 of the proof that logtidelaw41.PlanCombine returns true for every list of bytes and leaves its argument as it was; no condition.
-/
import Derived.Test.YtceeklfmlheofaaGreatA15
set_option linter.unusedSimpArgs false
set_option linter.unusedVariables false
namespace Go.Proofs.YtceeklfmlheofaaGreat
open Go.Av
attribute [local irreducible] ACall
abbrev S := List UInt8
def strE (l : List S) : List (List AV) := l.map fun s => [str s]
theorem strE_len (l : List S) : (strE l).length = l.length := by simp [strE]
theorem strE_getE (l : List S) (i : Nat) : (strE l)[i]? = (l[i]?).map (fun s => [str s]) := by simp [strE]
theorem strE_snoc (l : List S) (s : S) : strE l ++ [[str s]] = strE (l ++ [s]) := by simp [strE]
theorem strE_app (l m : List S) : strE l ++ strE m = strE (l ++ m) := by simp [strE]
@[simp] theorem strE_id (k : Nat) (l : List S) : idLtE k (strE l) = true := by
 simp only [idLtE, strE, List.all_map, List.all_eq_true]
 intro x _
 rfl
@[simp] theorem strE_st (l : List S) : (strE l).all (fun c => c.all storable) = true := by
 simp only [strE, List.all_map, List.all_eq_true]
 intro x _
 rfl
@[simp] theorem strE_ns (l : List S) : noSlE (strE l) = true := by
 simp only [noSlE, strE, List.all_map, List.all_eq_true]
 intro x _
 rfl
theorem strE_drop (l : List S) (i : Nat) : (strE l).drop i = strE (l.drop i) := by simp [strE]
theorem strE_take (l : List S) (i : Nat) : (strE l).take i = strE (l.take i) := by simp [strE]
theorem renC_strE (L : List Nat) (l : List S) : renCE L (strE l) = strE l := by
 simp only [renCE, strE, List.map_map]
 apply List.map_congr_left
 intro x _
 rfl
theorem strE_snoc' (l : List S) (s : S) : strE l ++ [[AV.val (.string ⟨s.toArray⟩)]] = strE (l ++ [s]) := by simp [strE, str]
attribute [go_sem] strE_len strE_getE renC_strE strE_snoc' strE_app strE_drop strE_take
def intE (l : List Int) : List (List AV) := l.map fun n => [I n]
theorem intE_len (l : List Int) : (intE l).length = l.length := by simp [intE]
theorem intE_getE (l : List Int) (i : Nat) : (intE l)[i]? = (l[i]?).map (fun s => [I s]) := by simp [intE]
theorem intE_snoc (l : List Int) (s : Int) : intE l ++ [[I s]] = intE (l ++ [s]) := by simp [intE]
@[simp] theorem intE_id (k : Nat) (l : List Int) : idLtE k (intE l) = true := by
 simp only [idLtE, intE, List.all_map, List.all_eq_true]
 intro x _
 rfl
@[simp] theorem intE_st (l : List Int) : (intE l).all (fun c => c.all storable) = true := by
 simp only [intE, List.all_map, List.all_eq_true]
 intro x _
 rfl
theorem renC_intE (L : List Nat) (l : List Int) : renCE L (intE l) = intE l := by
 simp only [renCE, intE, List.map_map]
 apply List.map_congr_left
 intro x _
 rfl
theorem intE_snoc' (l : List Int) (s : Int) : intE l ++ [[AV.val (.int .i64 s)]] = intE (l ++ [s]) := by simp [intE, I]
theorem intE_app (l m : List Int) : intE l ++ intE m = intE (l ++ m) := by simp [intE]
theorem bytesE_snoc' (l : List UInt8) (b : UInt8) : bytesE l ++ [[AV.val (.int .u8 b.toNat)]] = bytesE (l ++ [b]) := by simp [bytesE, byteE]
theorem bytesE_drop (l : List UInt8) (i : Nat) : (bytesE l).drop i = bytesE (l.drop i) := by simp [bytesE]
theorem bytesE_take (l : List UInt8) (i : Nat) : (bytesE l).take i = bytesE (l.take i) := by simp [bytesE]
attribute [go_sem] intE_len intE_getE renC_intE intE_snoc' intE_app bytesE_snoc' bytesE_app bytesE_drop bytesE_take
@[simp] theorem intE_ns (l : List Int) : noSlE (intE l) = true := by
 simp only [noSlE, intE, List.all_map, List.all_eq_true]
 intro x _
 rfl
theorem renE_strE (ρ : Nat → Nat) (l : List S) : (strE l).map (renL ρ) = strE l := renE_noid ρ (strE_id 0 l)
theorem renE_intE (ρ : Nat → Nat) (l : List Int) : (intE l).map (renL ρ) = intE l := renE_noid ρ (intE_id 0 l)
attribute [go_sem] renE_strE renE_intE
def comGo (a b : S) : Nat → Nat → Nat
 | 0, i => i
 | f + 1, i => match a[i]?, b[i]? with
   | some x, some y => if x = y then comGo a b f (i + 1) else i
   | _, _ => i
def comF (a b : S) : Nat := comGo a b a.length 0
theorem common1 (a b : S) (ha : a.length ≤ 2 ^ 40) (hb : b.length ≤ 2 ^ 40) : ACall Tryz.prog 108 [str a, str b] [] (I (comF a b)) [] := by
 refine acall 28 0 Tryz.func108 rfl rfl rfl (by simp) rfl rfl ?_
 intro C hN hk
 refine nx ?_; refine rG hN hk noc [] [0, 1] fun K hK => ?_; simp only [go_sem, seval]; refine hK _ _ ?_
 clear hK K; refine nx ?_
 refine rG hN hk noc [] [0, 1, 5] fun K hK => ?_; simp only [go_sem, seval]; refine hK _ _ ?_
 clear hK K; refine nx ?_
 refine AW.loopF hk 1 (fun i : Nat => ⟨[(0, str a), (1, str b), (5, I i)], []⟩) (fun i => i ≤ a.length ∧ comGo a b (a.length - i) i = comF a b) (fun i => a.length - i) 0 ⟨by omega, rfl⟩ ⟨[], [], ⟨by simp [srcIds], by simp [srcIds], by simp⟩, by simp, by simp [wkEnv, wk, lk, I, str], by simp [wkHp]⟩ ?_
 rintro i ⟨h1, h2⟩
 by_cases hi : i < a.length
 · have e1 : decide ((i : Int) < a.length) = true := by simp; omega
   obtain ⟨x, hx⟩ : ∃ x, a[i]? = some x := ⟨_, List.getElem?_eq_getElem hi⟩
   obtain ⟨f, hf⟩ : ∃ f, a.length - i = f + 1 := ⟨a.length - i - 1, by omega⟩
   rw [hf, comGo, hx] at h2
   by_cases hj : i < b.length
   · have e2 : decide ((i : Int) < b.length) = true := by simp; omega
     obtain ⟨y, hy⟩ : ∃ y, b[i]? = some y := ⟨_, List.getElem?_eq_getElem hj⟩
     rw [hy] at h2
     simp only at h2
     by_cases he : x = y
     · subst he
       rw [if_pos rfl] at h2
       refine nx ?_
       refine rD hN hk noc [] [0, 1, 5, 24] fun K tok htok hK => ?_
       simp only [go_sem, seval, e1, e2, hx, hy]
       refine ⟨htok _ (by decide +kernel), hK _ _ ?_⟩
       clear hK K htok tok
       refine nx ?_
       refine AW.condT rfl (AW.skip (qNext ?_))
       refine nx ?_; refine rG hN hk noc [] [0, 1, 5] fun K hK => ?_; simp only [go_sem, seval, wrap64 (n := (i : Int) + 1) (by omega)]
       refine hK _ _ ?_; clear hK K; refine nx ?_
       exact ⟨i + 1, ⟨by omega, by rw [show a.length - (i + 1) = f by omega]; exact h2⟩, by omega, ⟨[], [], ⟨by simp [srcIds], by simp [srcIds], by simp⟩, by simp, by simp [wkEnv, wk, lk, I, str], by simp [wkHp]⟩⟩
     · rw [if_neg he] at h2
       have e3 : ((x.toNat : Int) == y.toNat) = false := by simp [he]
       refine nx ?_
       refine rD hN hk noc [] [5, 24] fun K tok htok hK => ?_
       simp only [go_sem, seval, e1, e2, hx, hy, e3]
       refine ⟨htok _ (by decide +kernel), hK _ _ ?_⟩
       clear hK K htok tok
       refine nx ?_
       refine AW.condF rfl (AW.exit (qThen (qThen (qHere (qNext ?_)))))
       refine nx ?_; refine rG hN hk noc [] [4] fun K hK => ?_; simp only [go_sem, seval]; refine hK _ _ ?_
       clear hK K; refine nx ?_
       refine AW.ret (mkRet [] [] rfl ?_ ?_)
       · simp [resOf, lk, wk, ← h2, I]
       · simp [wkHp]
   · have e2 : decide ((i : Int) < b.length) = false := by simp; omega
     rw [List.getElem?_eq_none (by omega)] at h2
     refine nx ?_
     refine rD hN hk noc [] [5, 24] fun K tok htok hK => ?_
     simp only [go_sem, seval, e1, e2]
     refine ⟨htok _ (by decide +kernel), hK _ _ ?_⟩
     clear hK K htok tok
     refine nx ?_
     refine AW.condF rfl (AW.exit (qThen (qThen (qHere (qNext ?_)))))
     refine nx ?_; refine rG hN hk noc [] [4] fun K hK => ?_; simp only [go_sem, seval]; refine hK _ _ ?_
     clear hK K; refine nx ?_
     refine AW.ret (mkRet [] [] rfl ?_ ?_)
     · simp [resOf, lk, wk, ← h2, I]
     · simp [wkHp]
 · have e1 : decide ((i : Int) < a.length) = false := by simp; omega
   rw [show a.length - i = 0 by omega, comGo] at h2
   refine nx ?_
   refine rD hN hk noc [] [5, 24] fun K tok htok hK => ?_
   simp only [go_sem, seval, e1]
   refine ⟨htok _ (by decide +kernel), hK _ _ ?_⟩
   clear hK K htok tok
   refine nx ?_
   refine AW.condF rfl (AW.exit (qThen (qThen (qHere (qNext ?_)))))
   refine nx ?_; refine rG hN hk noc [] [4] fun K hK => ?_; simp only [go_sem, seval]; refine hK _ _ ?_
   clear hK K; refine nx ?_
   refine AW.ret (mkRet [] [] rfl ?_ ?_)
   · simp [resOf, lk, wk, ← h2, I]
   · simp [wkHp]
/-- Index: halving. -/
def idxGo (d : List S) (w : S) : Nat → Nat → Nat → Nat
 | 0, a, _ => a
 | f + 1, a, b => if a < b then (if Op.bytesLess (d.getD ((a + b) / 2) []) w then idxGo d w f ((a + b) / 2 + 1) b else idxGo d w f a ((a + b) / 2)) else a
def idxF (d : List S) (w : S) : Nat := idxGo d w d.length 0 d.length
def idxB (d : List S) (w : S) : Bool := match d[idxF d w]? with
 | some x => x == w
 | none => false
theorem index1 (d : List S) (w : S) (hd : d.length ≤ 2 ^ 40) : ACall Tryz.prog 80 [.sl 1 (strE d), str w] [] (.tup [I (idxF d w), B (idxB d w)]) [] := by
 refine acall 40 0 Tryz.func80 rfl rfl rfl (by simp) rfl rfl ?_
 intro C hN hk
 refine nx ?_; refine rG hN hk noc [] [0, 1] fun K hK => ?_; simp only [go_sem, seval]; refine hK _ _ ?_
 clear hK K; refine nx ?_
 refine rG hN hk noc [] [0, 1, 6, 7] fun K hK => ?_; simp only [go_sem, seval]; refine hK _ _ ?_
 clear hK K; refine nx ?_
 refine AW.loopF hk 1 (α := Nat × Nat) (fun a => ⟨[(0, .sl 1 (strE d)), (1, str w), (6, I a.1), (7, I a.2)], []⟩) (fun a => a.1 ≤ a.2 ∧ a.2 ≤ d.length ∧ ∃ f, a.2 - a.1 ≤ f ∧ idxGo d w f a.1 a.2 = idxF d w) (fun a => a.2 - a.1) (0, d.length) ⟨by simp, by simp, d.length, by simp, rfl⟩ ⟨[], [], ⟨by simp [srcIds], by simp [srcIds], by simp⟩, by simp, by simp [wkEnv, wk, lk, I, str], by simp [wkHp]⟩ ?_
 rintro ⟨a, b⟩ ⟨h1, h2, f, h3, h4⟩
 simp only at h1 h2 h3 h4
 by_cases hlt : a < b
 · obtain ⟨f, rfl⟩ : ∃ f', f = f' + 1 := ⟨f - 1, by omega⟩
   rw [idxGo, if_pos hlt] at h4
   have e1 : decide ((a : Int) < b) = true := by simp; omega
   refine nx ?_; refine rG hN hk noc [] [0, 1, 6, 7, 13] fun K hK => ?_; simp only [go_sem, seval, e1]; refine hK _ _ ?_
   clear hK K; refine nx ?_
   refine AW.condT rfl (AW.skip (qNext ?_))
   have e2 := wrap64 (n := (a : Int) + b) (by omega)
   have e3 : ((a : Int) + b).tdiv 2 = ((a + b) / 2 : Nat) := by rw [Int.tdiv_eq_ediv_of_nonneg (by omega)]; omega
   have e4 := wrap64 (n := (((a + b) / 2 : Nat) : Int)) (by omega)
   refine nx ?_; refine rG hN hk noc [] [0, 1, 6, 7, 8] fun K hK => ?_; simp only [go_sem, seval, e2, e3, e4]
   first | with_reducible refine hK _ _ ?_ | refine ⟨by decide, hK _ _ ?_⟩ | refine obK (hK _ _ ?_)
   clear hK K; refine nx ?_
   have hm : (a + b) / 2 < d.length := by omega
   have hx := List.getElem?_eq_getElem hm
   have hx2 : d.getD ((a + b) / 2) [] = d[(a + b) / 2] := by simp [List.getD, hm]
   rw [hx2] at h4
   generalize d[(a + b) / 2] = x at hx h4
   rcases bt (Op.bytesLess x w) with e5 | e5
   · rw [e5, if_pos rfl] at h4
     refine nx ?_; refine rG hN hk noc [] [0, 1, 6, 7, 8, 23] fun K hK => ?_; simp only [go_sem, seval, hx, e5]; refine hK _ _ ?_
     clear hK K; refine nx ?_
     refine cT ?_; refine nx ?_; refine rG hN hk noc [] [0, 1, 6, 7] fun K hK => ?_; simp only [go_sem, seval, wrap64 (n := (((a + b) / 2 : Nat) : Int) + 1) (by omega)]
     refine hK _ _ ?_; clear hK K; refine nx ?_
     exact ⟨((a + b) / 2 + 1, b), ⟨by simp only; omega, h2, f, by simp only; omega, h4⟩, by simp only; omega, ⟨[], [], ⟨by simp [srcIds], by simp [srcIds], by simp⟩, by simp, by simp [wkEnv, wk, lk, I, str], by simp [wkHp]⟩⟩
   · rw [e5, if_neg (by simp)] at h4
     refine nx ?_; refine rG hN hk noc [] [0, 1, 6, 7, 8, 23] fun K hK => ?_; simp only [go_sem, seval, hx, e5]; refine hK _ _ ?_
     clear hK K; refine nx ?_
     refine cF ?_; refine nx ?_; refine rG hN hk noc [] [0, 1, 6, 7] fun K hK => ?_; simp only [go_sem, seval]; refine hK _ _ ?_
     clear hK K; refine nx ?_
     exact ⟨(a, (a + b) / 2), ⟨by simp only; omega, by simp only; omega, f, by simp only; omega, h4⟩, by simp only; omega, ⟨[], [], ⟨by simp [srcIds], by simp [srcIds], by simp⟩, by simp, by simp [wkEnv, wk, lk, I, str], by simp [wkHp]⟩⟩
 · have e1 : decide ((a : Int) < b) = false := by simp; omega
   have h5 : idxF d w = a := by rw [← h4]; cases f <;> simp [idxGo, hlt]
   refine nx ?_; refine rG hN hk noc [] [0, 1, 6, 7, 13] fun K hK => ?_; simp only [go_sem, seval, e1]; refine hK _ _ ?_
   clear hK K; refine nx ?_
   refine AW.condF rfl (AW.exit (qThen (qThen (qHere (qNext ?_)))))
   by_cases hin : a < d.length
   · have e6 : decide ((a : Int) < d.length) = true := by simp; omega
     have hx := List.getElem?_eq_getElem hin
     have h6 : idxB d w = (d[a] == w) := by simp only [idxB, h5, hx]
     generalize d[a] = x at hx h6
     refine nx ?_
     refine rD hN hk noc [] [4, 5] fun K tok htok hK => ?_
     simp only [go_sem, seval, e6, hx]
     refine ⟨htok _ (by decide +kernel), hK _ _ ?_⟩
     clear hK K htok tok
     refine nx ?_
     refine AW.ret (mkRet [] [] rfl ?_ ?_)
     · simp [resOf, lk, wk, wkL, I, B, h5, h6]
     · simp [wkHp]
   · have e6 : decide ((a : Int) < d.length) = false := by simp; omega
     have h6 : idxB d w = false := by simp only [idxB, h5, List.getElem?_eq_none (Nat.not_lt.1 hin)]
     refine nx ?_
     refine rD hN hk noc [] [4, 5] fun K tok htok hK => ?_
     simp only [go_sem, seval, e6]
     refine ⟨htok _ (by decide +kernel), hK _ _ ?_⟩
     clear hK K htok tok
     refine nx ?_
     refine AW.ret (mkRet [] [] rfl ?_ ?_)
     · simp [resOf, lk, wk, wkL, I, B, h5, h6]
     · simp [wkHp]
def leS (x y : S) : Bool := Op.bytesLess x y || x == y
def unord : List S → Bool
 | a :: b :: r => leS b a || unord (b :: r)
 | _ => false
def longS (d : List S) : Bool := d.any fun s => decide (2048 < s.length)
def check23F (d : List S) : Int := if 32768 < d.length then 4 else if longS d then 3 else if unord d then 19 else 0
theorem any_take {α : Type} {p : α → Bool} {l : List α} {i : Nat} (h : i < l.length) : (l.take (i + 1)).any p = ((l.take i).any p || p l[i]) := by
 rw [List.take_succ_eq_append_getElem h, List.any_append]; simp only [List.any_cons, List.any_nil, Bool.or_false]
theorem any_at {α : Type} {p : α → Bool} {l : List α} {i : Nat} {x : α} (h : l[i]? = some x) (hp : p x = true) : l.any p = true := by
 rw [List.any_eq_true]; exact ⟨x, List.mem_of_getElem? h, hp⟩
theorem check23 (d : List S) (hd : d.length ≤ 2 ^ 40) (hs : ∀ s ∈ d, s.length ≤ 2 ^ 40) : ACall Tryz.prog 107 [.sl 1 (strE d)] [] (I (check23F d)) [] := by
 refine acall 36 0 Tryz.func107 rfl rfl rfl (by simp) rfl rfl ?_
 intro C hN hk
 refine nx ?_; refine rG hN hk noc [] [0] fun K hK => ?_; simp only [go_sem, seval]; refine hK _ _ ?_
 clear hK K; refine nx ?_
 refine rG hN hk noc [] [0, 7] fun K hK => ?_; simp only [go_sem, seval]; refine hK _ _ ?_
 clear hK K; refine nx ?_
 refine AW.condB rfl (fun h => ?_) (fun h => AW.skip (qNext ?_))
 · simp only [gt_iff_lt, decide_eq_true_eq] at h
   refine nx ?_; refine rG hN hk noc [] [2] fun K hK => ?_; simp only [go_sem, seval]; refine hK _ _ ?_
   clear hK K; refine nx ?_
   refine AW.ret (mkRet [] [] rfl ?_ ?_)
   · simp [resOf, lk, wk, I, check23F, show 32768 < d.length by omega]
   · simp [wkHp]
 · simp only [gt_iff_lt, decide_eq_false_iff_not] at h
   have hlen : ¬ 32768 < d.length := by omega
   refine nx ?_; refine rG hN hk noc [] [0, 3] fun K hK => ?_; simp only [go_sem, seval]; refine hK _ _ ?_
   clear hK K; refine nx ?_
   refine AW.loopF hk 1 (fun i : Nat => ⟨[(0, .sl 1 (strE d)), (3, I i)], []⟩) (fun i => i ≤ d.length ∧ (d.take i).any (fun s => decide (2048 < s.length)) = false) (fun i => d.length - i) 0 ⟨by omega, by simp⟩ ⟨[], [], ⟨by simp [srcIds], by simp [srcIds], by simp⟩, by simp, by simp [wkEnv, wk, lk, I], by simp [wkHp]⟩ ?_
   rintro i ⟨h1, h2⟩
   by_cases hi : i < d.length
   · have e1 : decide ((i : Int) < d.length) = true := by simp; omega
     have hx := List.getElem?_eq_getElem hi
     have hnext := any_take (p := fun s : S => decide (2048 < s.length)) hi
     have hany : ∀ hp : decide (2048 < d[i].length) = true, longS d = true := fun hp => any_at (p := fun s : S => decide (2048 < s.length)) hx hp
     generalize d[i] = x at hx hnext hany
     refine nx ?_; refine rG hN hk noc [] [0, 3, 11] fun K hK => ?_; simp only [go_sem, seval, e1]; refine hK _ _ ?_
     clear hK K; refine nx ?_
     refine AW.condT rfl (AW.skip (qNext ?_))
     refine nx ?_; refine rG hN hk noc [] [0, 3, 19] fun K hK => ?_; simp only [go_sem, seval, hx]; refine hK _ _ ?_
     clear hK K; refine nx ?_
     refine AW.condB rfl (fun h => ?_) (fun h => AW.skip (qBlock (qNext ?_)))
     · simp only [gt_iff_lt, decide_eq_true_eq] at h
       have := hany (by simp; omega)
       refine nx ?_; refine rG hN hk noc [] [2] fun K hK => ?_; simp only [go_sem, seval]; refine hK _ _ ?_
       clear hK K; refine nx ?_
       refine AW.ret (mkRet [] [] rfl ?_ ?_)
       · simp [resOf, lk, wk, I, check23F, hlen, this]
       · simp [wkHp]
     · simp only [gt_iff_lt, decide_eq_false_iff_not] at h
       refine nx ?_; refine rG hN hk noc [] [0, 3] fun K hK => ?_; simp only [go_sem, seval, wrap64 (n := (i : Int) + 1) (by omega)]
       refine hK _ _ ?_; clear hK K; refine nx ?_
       exact ⟨i + 1, ⟨by omega, by rw [hnext, h2]; simp; omega⟩, by omega, ⟨[], [], ⟨by simp [srcIds], by simp [srcIds], by simp⟩, by simp, by simp [wkEnv, wk, lk, I], by simp [wkHp]⟩⟩
   · have e1 : decide ((i : Int) < d.length) = false := by simp; omega
     have hnl : longS d = false := by rw [List.take_of_length_le (by omega)] at h2; exact h2
     refine nx ?_; refine rG hN hk noc [] [0, 11] fun K hK => ?_; simp only [go_sem, seval, e1]; refine hK _ _ ?_
     clear hK K; refine nx ?_
     refine AW.condF rfl (AW.exit (qThen (qThen (qHere (qNext ?_)))))
     refine nx ?_; refine rG hN hk noc [] [0, 4] fun K hK => ?_; simp only [go_sem, seval]; refine hK _ _ ?_
     clear hK K; refine nx ?_
     refine AW.loopF hk 1 (fun i : Nat => ⟨[(0, .sl 1 (strE d)), (4, I ((i : Int) + 1))], []⟩) (fun i => i ≤ d.length ∧ unord (d.drop i) = unord d) (fun i => d.length - i) 0 ⟨by omega, by simp⟩ ⟨[], [], ⟨by simp [srcIds], by simp [srcIds], by simp⟩, by simp, by simp [wkEnv, wk, lk, I], by simp [wkHp]⟩ ?_
     clear h1 h2 hi e1
     rintro i ⟨h1, h2⟩
     by_cases hi : i + 1 < d.length
     · have e1 : decide ((i : Int) + 1 < d.length) = true := by simp; omega
       have hx := List.getElem?_eq_getElem hi
       have hy := List.getElem?_eq_getElem (show i < d.length by omega)
       have hdr : d.drop i = d[i] :: d[i + 1] :: d.drop (i + 2) := by
         rw [← List.getElem_cons_drop (show i < d.length by omega), ← List.getElem_cons_drop hi]
       have hdr1 : d.drop (i + 1) = d[i + 1] :: d.drop (i + 2) := by rw [← List.getElem_cons_drop hi]
       rw [hdr, unord] at h2
       rw [← hdr1] at h2
       generalize d[i + 1] = x at hx h2
       generalize d[i] = y at hy h2
       have e2 : ((i : Int) + 1).toNat = i + 1 := by omega
       have e3 := wrap64 (n := (i : Int) + 1 - 1) (by omega)
       have e4 : ((i : Int) + 1 - 1).toNat = i := by omega
       refine nx ?_; refine rG hN hk noc [] [0, 4, 23] fun K hK => ?_; simp only [go_sem, seval, e1]; refine hK _ _ ?_
       clear hK K; refine nx ?_
       refine AW.condT rfl (AW.skip (qNext ?_))
       refine nx ?_
       refine rD hN hk noc [] [0, 4, 35] fun K tok htok hK => ?_
       simp only [go_sem, seval, hx, hy, e2, e3, e4]
       refine ⟨htok _ (by decide +kernel), by omega, hK _ _ ?_⟩
       clear hK K htok tok
       refine nx ?_
       refine AW.condB rfl (fun h => ?_) (fun h => AW.skip (qBlock (qNext ?_)))
       · have : unord d = true := by rw [← h2, leS, h]; rfl
         refine nx ?_; refine rG hN hk noc [] [2] fun K hK => ?_; simp only [go_sem, seval]; refine hK _ _ ?_
         clear hK K; refine nx ?_
         refine AW.ret (mkRet [] [] rfl ?_ ?_)
         · simp [resOf, lk, wk, I, check23F, hlen, hnl, this]
         · simp [wkHp]
       · rw [leS, h, Bool.false_or] at h2
         refine nx ?_; refine rG hN hk noc [] [0, 4] fun K hK => ?_; simp only [go_sem, seval, wrap64 (n := (i : Int) + 1 + 1) (by omega)]
         refine hK _ _ ?_; clear hK K; refine nx ?_
         exact ⟨i + 1, ⟨by omega, h2⟩, by omega, ⟨[], [], ⟨by simp [srcIds], by simp [srcIds], by simp⟩, by simp, by simp [wkEnv, wk, lk, I], by simp [wkHp]⟩⟩
     · have e1 : decide ((i : Int) + 1 < d.length) = false := by simp; omega
       have hu : unord d = false := by
         rw [← h2]
         match hdd : d.drop i with
         | [] => rfl
         | [_] => rfl
         | _ :: _ :: _ => have := congrArg List.length hdd; simp at this; omega
       refine nx ?_; refine rG hN hk noc [] [0, 23] fun K hK => ?_; simp only [go_sem, seval, e1]; refine hK _ _ ?_
       clear hK K; refine nx ?_
       refine AW.condF rfl (AW.exit (qThen (qThen (qHere (qNext ?_)))))
       refine nx ?_; refine rG hN hk noc [] [2] fun K hK => ?_; simp only [go_sem, seval]; refine hK _ _ ?_
       clear hK K; refine nx ?_
       refine AW.ret (mkRet [] [] rfl ?_ ?_)
       · simp [resOf, lk, wk, I, check23F, hlen, hnl, hu]
       · simp [wkHp]
structure Un where
 i : Nat
 k : Nat
 out : List S
 x : List Int
 y : List Int
def unStep (a b : List S) (s : Un) : Un :=
 if s.k = b.length ∨ s.i < a.length ∧ Op.bytesLess (a.getD s.i []) (b.getD s.k []) = true then ⟨s.i + 1, s.k, s.out ++ [a.getD s.i []], s.x ++ [(s.out.length : Int)], s.y⟩
 else if s.i = a.length ∨ Op.bytesLess (b.getD s.k []) (a.getD s.i []) = true then ⟨s.i, s.k + 1, s.out ++ [b.getD s.k []], s.x, s.y ++ [(s.out.length : Int)]⟩
 else ⟨s.i + 1, s.k + 1, s.out ++ [a.getD s.i []], s.x ++ [(s.out.length : Int)], s.y ++ [(s.out.length : Int)]⟩
def unGo (a b : List S) : Nat → Un → Un
 | 0, s => s
 | f + 1, s => if s.i < a.length ∨ s.k < b.length then unGo a b f (unStep a b s) else s
def unF (a b : List S) : Un := unGo a b (a.length + b.length) ⟨0, 0, [], [], []⟩
def unS (a b : List S) (s : Un) : AS := ⟨[(0, .sl 1 (strE a)), (1, .sl 1 (strE b)), (7, .osl 0 s.out.length 1), (8, .osl 1 s.x.length 1), (9, .osl 2 s.y.length 1), (10, I s.i), (11, I s.k)], [(0, some ⟨9, 1, strE s.out⟩), (1, some ⟨3, 1, intE s.x⟩), (2, some ⟨3, 1, intE s.y⟩)]⟩
attribute [simp] unS
theorem union1 (a b : List S) (ha : a.length ≤ 2 ^ 38) (hb : b.length ≤ 2 ^ 38) :
   ACall Tryz.prog 98 [.sl 1 (strE a), .sl 1 (strE b)] [] (.tup [.osl 0 (unF a b).out.length 1, .osl 1 (unF a b).x.length 1, .osl 2 (unF a b).y.length 1])
     [some ⟨9, 1, strE (unF a b).out⟩, some ⟨3, 1, intE (unF a b).x⟩, some ⟨3, 1, intE (unF a b).y⟩] := by
 refine acall 112 0 Tryz.func98 rfl rfl rfl (by simp) rfl rfl ?_
 intro C hN hk
 refine nx ?_; refine rG hN hk noc [] [0, 1] fun K hK => ?_; simp only [go_sem, seval]; refine hK _ _ ?_
 clear hK K; refine nx ?_
 refine rG hN hk noc [] [0, 1, 7] fun K hK => ?_; simp only [go_sem, seval]; refine hK _ _ ?_
 clear hK K; refine nx ?_
 refine rG hN hk noc [] [0, 1, 7, 8, 9] fun K hK => ?_; simp only [go_sem, seval]; refine hK _ _ ?_
 clear hK K; refine nx ?_
 refine rG hN hk noc [] [0, 1, 7, 8, 9, 10, 11] fun K hK => ?_; simp only [go_sem, seval]; refine hK _ _ ?_
 clear hK K; refine nx ?_
 refine AW.loopF hk 3 (unS a b) (fun s => s.i ≤ a.length ∧ s.k ≤ b.length ∧ s.out.length ≤ s.i + s.k ∧ s.x.length ≤ s.i + s.k ∧ s.y.length ≤ s.i + s.k ∧ ∃ f, a.length - s.i + (b.length - s.k) ≤ f ∧ unGo a b f s = unF a b) (fun s => a.length - s.i + (b.length - s.k)) ⟨0, 0, [], [], []⟩ ⟨by simp, by simp, by simp, by simp, by simp, a.length + b.length, by simp, rfl⟩ ⟨[none, none, none], [], ⟨by simp [srcIds], by simp [srcIds], by simp⟩, by simp, by simp [unS, wkEnv, wk, lk, I], by simp [unS, wkHp, wkHp1, wkEnt, lkh, strE, intE]⟩ ?_
 rintro ⟨i, k, out, x, y⟩ ⟨h1, h2, h3, h4, h5, f, h6, h7⟩
 simp only at h1 h2 h3 h4 h5 h6 h7
 simp only [unS]
 by_cases hlt : i < a.length ∨ k < b.length
 · obtain ⟨f, rfl⟩ : ∃ f', f = f' + 1 := ⟨f - 1, by omega⟩
   rw [unGo, if_pos hlt] at h7
   by_cases hk0 : k = b.length
   · -- the rest of a
     have hi : i < a.length := by omega
     have hx := List.getElem?_eq_getElem hi
     have hx2 : a.getD i [] = a[i] := by simp [List.getD, hi]
     rw [unStep, if_pos (.inl hk0)] at h7
     simp only [hx2] at h7
     generalize a[i] = p at hx h7
     have f1 : decide ((i : Int) < a.length) = true := by simp; omega
     have f3 : ((k : Int) == b.length) = true := by simp; omega
     refine nx ?_; refine rG hN hk noc [] [0, 1, 7, 8, 9, 10, 11, 21] fun K hK => ?_; simp only [go_sem, seval, f1]; refine hK _ _ ?_
     clear hK K; refine nx ?_
     refine AW.condT rfl (AW.skip (qNext ?_))
     refine nx ?_
     refine rD hN hk noc [] [0, 1, 7, 8, 9, 10, 11, 43] fun K tok htok hK => ?_
     simp only [go_sem, seval, f3]
     refine ⟨htok _ (by decide +kernel), hK _ _ ?_⟩
     clear hK K htok tok
     refine nx ?_; refine cT ?_; refine nx ?_; refine rG hN hk noc [] [0, 1, 7, 8, 9, 10, 11] fun K hK => ?_; simp only [go_sem, seval]
     first | with_reducible refine hK _ _ ?_ | refine ⟨by simp; omega, hK _ _ ?_⟩ | refine obK (hK _ _ ?_)
     clear hK K; refine nx ?_
     refine rG hN hk noc [] [0, 1, 7, 8, 9, 10, 11] fun K hK => ?_; simp only [go_sem, seval, hx]
     first | with_reducible refine hK _ _ ?_ | refine ⟨by simp; omega, hK _ _ ?_⟩ | refine obK (hK _ _ ?_)
     clear hK K; refine nx ?_
     refine rG hN hk noc [] [0, 1, 7, 8, 9, 10, 11] fun K hK => ?_; simp only [go_sem, seval, wrap64 (n := (i : Int) + 1) (by omega)]
     refine hK _ _ ?_; clear hK K; refine nx ?_
     exact ⟨⟨i + 1, k, out ++ [p], x ++ [(out.length : Int)], y⟩, ⟨by simp only; omega, by simp only; omega, by simp; omega, by simp; omega, by simp only; omega, f, by simp only; omega, h7⟩, by simp only; omega, ⟨[some 0, some 1, some 2], [], ⟨by simp [srcIds], by simp [srcIds], by simp⟩, by simp, by simp [wkEnv, wk, lk, I, B], by simp [wkHp, wkHp1, wkEnt, lkh]⟩⟩
   · have hk1 : k < b.length := by omega
     have hy := List.getElem?_eq_getElem hk1
     have hy2 : b.getD k [] = b[k] := by simp [List.getD, hk1]
     have f2 : decide ((k : Int) < b.length) = true := by simp; omega
     have f3 : ((k : Int) == b.length) = false := by simp; omega
     by_cases hi : i < a.length
     · have hx := List.getElem?_eq_getElem hi
       have hx2 : a.getD i [] = a[i] := by simp [List.getD, hi]
       have f1 : decide ((i : Int) < a.length) = true := by simp; omega
       have f5 : ((i : Int) == a.length) = false := by simp; omega
       rw [unStep] at h7
       simp only [hx2, hy2] at h7
       generalize a[i] = p at hx h7
       generalize b[k] = q at hy h7
       rcases bt (Op.bytesLess p q) with f4 | f4
       · rw [if_pos (.inr ⟨hi, f4⟩)] at h7
         refine nx ?_; refine rG hN hk noc [] [0, 1, 7, 8, 9, 10, 11, 21] fun K hK => ?_; simp only [go_sem, seval, f1]; refine hK _ _ ?_
         clear hK K; refine nx ?_
         refine AW.condT rfl (AW.skip (qNext ?_))
         refine nx ?_
         refine rD hN hk noc [] [0, 1, 7, 8, 9, 10, 11, 43] fun K tok htok hK => ?_
         simp only [go_sem, seval, f3, f1, hx, hy, f4]
         refine ⟨htok _ (by decide +kernel), hK _ _ ?_⟩
         clear hK K htok tok
         refine nx ?_; refine cT ?_; refine nx ?_; refine rG hN hk noc [] [0, 1, 7, 8, 9, 10, 11] fun K hK => ?_; simp only [go_sem, seval]
         first | with_reducible refine hK _ _ ?_ | refine ⟨by simp; omega, hK _ _ ?_⟩ | refine obK (hK _ _ ?_)
         clear hK K; refine nx ?_
         refine rG hN hk noc [] [0, 1, 7, 8, 9, 10, 11] fun K hK => ?_; simp only [go_sem, seval, hx]
         first | with_reducible refine hK _ _ ?_ | refine ⟨by simp; omega, hK _ _ ?_⟩ | refine obK (hK _ _ ?_)
         clear hK K; refine nx ?_
         refine rG hN hk noc [] [0, 1, 7, 8, 9, 10, 11] fun K hK => ?_; simp only [go_sem, seval, wrap64 (n := (i : Int) + 1) (by omega)]
         refine hK _ _ ?_; clear hK K; refine nx ?_
         exact ⟨⟨i + 1, k, out ++ [p], x ++ [(out.length : Int)], y⟩, ⟨by simp only; omega, by simp only; omega, by simp; omega, by simp; omega, by simp only; omega, f, by simp only; omega, h7⟩, by simp only; omega, ⟨[some 0, some 1, some 2], [], ⟨by simp [srcIds], by simp [srcIds], by simp⟩, by simp, by simp [wkEnv, wk, lk, I, B], by simp [wkHp, wkHp1, wkEnt, lkh]⟩⟩
       · rw [if_neg (by rw [f4]; simp; omega)] at h7
         rcases bt (Op.bytesLess q p) with f6 | f6
         · rw [if_pos (.inr f6)] at h7
           refine nx ?_; refine rG hN hk noc [] [0, 1, 7, 8, 9, 10, 11, 21] fun K hK => ?_; simp only [go_sem, seval, f1]; refine hK _ _ ?_
           clear hK K; refine nx ?_
           refine AW.condT rfl (AW.skip (qNext ?_))
           refine nx ?_
           refine rD hN hk noc [] [0, 1, 7, 8, 9, 10, 11, 43] fun K tok htok hK => ?_
           simp only [go_sem, seval, f3, f1, hx, hy, f4]
           refine ⟨htok _ (by decide +kernel), hK _ _ ?_⟩
           clear hK K htok tok
           refine nx ?_; refine cF ?_; refine nx ?_
           refine rD hN hk noc [] [0, 1, 7, 8, 9, 10, 11, 79] fun K tok htok hK => ?_
           simp only [go_sem, seval, f5, hx, hy, f6]
           refine ⟨htok _ (by decide +kernel), hK _ _ ?_⟩
           clear hK K htok tok
           refine nx ?_; refine cT ?_; refine nx ?_; refine rG hN hk noc [] [0, 1, 7, 8, 9, 10, 11] fun K hK => ?_; simp only [go_sem, seval]
           first | with_reducible refine hK _ _ ?_ | refine ⟨by simp; omega, hK _ _ ?_⟩ | refine obK (hK _ _ ?_)
           clear hK K; refine nx ?_
           refine rG hN hk noc [] [0, 1, 7, 8, 9, 10, 11] fun K hK => ?_; simp only [go_sem, seval, hy]
           first | with_reducible refine hK _ _ ?_ | refine ⟨by simp; omega, hK _ _ ?_⟩ | refine obK (hK _ _ ?_)
           clear hK K; refine nx ?_
           refine rG hN hk noc [] [0, 1, 7, 8, 9, 10, 11] fun K hK => ?_; simp only [go_sem, seval, wrap64 (n := (k : Int) + 1) (by omega)]
           refine hK _ _ ?_; clear hK K; refine nx ?_
           exact ⟨⟨i, k + 1, out ++ [q], x, y ++ [(out.length : Int)]⟩, ⟨by simp only; omega, by simp only; omega, by simp; omega, by simp only; omega, by simp; omega, f, by simp only; omega, h7⟩, by simp only; omega, ⟨[some 0, some 1, some 2], [], ⟨by simp [srcIds], by simp [srcIds], by simp⟩, by simp, by simp [wkEnv, wk, lk, I, B], by simp [wkHp, wkHp1, wkEnt, lkh]⟩⟩
         · rw [if_neg (by rw [f6]; simp; omega)] at h7
           refine nx ?_; refine rG hN hk noc [] [0, 1, 7, 8, 9, 10, 11, 21] fun K hK => ?_; simp only [go_sem, seval, f1]; refine hK _ _ ?_
           clear hK K; refine nx ?_
           refine AW.condT rfl (AW.skip (qNext ?_))
           refine nx ?_
           refine rD hN hk noc [] [0, 1, 7, 8, 9, 10, 11, 43] fun K tok htok hK => ?_
           simp only [go_sem, seval, f3, f1, hx, hy, f4]
           refine ⟨htok _ (by decide +kernel), hK _ _ ?_⟩
           clear hK K htok tok
           refine nx ?_; refine cF ?_; refine nx ?_
           refine rD hN hk noc [] [0, 1, 7, 8, 9, 10, 11, 79] fun K tok htok hK => ?_
           simp only [go_sem, seval, f5, hx, hy, f6]
           refine ⟨htok _ (by decide +kernel), hK _ _ ?_⟩
           clear hK K htok tok
           refine nx ?_; refine cF ?_; refine nx ?_; refine rG hN hk noc [] [0, 1, 7, 8, 9, 10, 11] fun K hK => ?_; simp only [go_sem, seval]
           first | with_reducible refine hK _ _ ?_ | refine ⟨by simp; omega, hK _ _ ?_⟩ | refine obK (hK _ _ ?_)
           clear hK K; refine nx ?_
           refine rG hN hk noc [] [0, 1, 7, 8, 9, 10, 11] fun K hK => ?_; simp only [go_sem, seval, hx]
           first | with_reducible refine hK _ _ ?_ | refine ⟨by simp; omega, hK _ _ ?_⟩ | refine obK (hK _ _ ?_)
           clear hK K; refine nx ?_
           refine rG hN hk noc [] [0, 1, 7, 8, 9, 10, 11] fun K hK => ?_; simp only [go_sem, seval, wrap64 (n := (i : Int) + 1) (by omega)]
           refine hK _ _ ?_; clear hK K; refine nx ?_; refine rG hN hk noc [] [0, 1, 7, 8, 9, 10, 11] fun K hK => ?_; simp only [go_sem, seval, wrap64 (n := (k : Int) + 1) (by omega)]
           refine hK _ _ ?_; clear hK K; refine nx ?_
           exact ⟨⟨i + 1, k + 1, out ++ [p], x ++ [(out.length : Int)], y ++ [(out.length : Int)]⟩, ⟨by simp only; omega, by simp only; omega, by simp; omega, by simp; omega, by simp; omega, f, by simp only; omega, h7⟩, by simp only; omega, ⟨[some 0, some 1, some 2], [], ⟨by simp [srcIds], by simp [srcIds], by simp⟩, by simp, by simp [wkEnv, wk, lk, I, B], by simp [wkHp, wkHp1, wkEnt, lkh]⟩⟩
     · have hi' : i = a.length := by omega
       have f1 : decide ((i : Int) < a.length) = false := by simp; omega
       have f5 : ((i : Int) == a.length) = true := by simp; omega
       rw [unStep, if_neg (by simp only; omega), if_pos (.inl hi')] at h7
       simp only [hy2] at h7
       generalize b[k] = q at hy h7
       refine nx ?_; refine rG hN hk noc [] [0, 1, 7, 8, 9, 10, 11, 21] fun K hK => ?_; simp only [go_sem, seval, f1, f2]; refine hK _ _ ?_
       clear hK K; refine nx ?_
       refine AW.condT rfl (AW.skip (qNext ?_))
       refine nx ?_
       refine rD hN hk noc [] [0, 1, 7, 8, 9, 10, 11, 43] fun K tok htok hK => ?_
       simp only [go_sem, seval, f3, f1]
       refine ⟨htok _ (by decide +kernel), hK _ _ ?_⟩
       clear hK K htok tok
       refine nx ?_; refine cF ?_; refine nx ?_
       refine rD hN hk noc [] [0, 1, 7, 8, 9, 10, 11, 79] fun K tok htok hK => ?_
       simp only [go_sem, seval, f5]
       refine ⟨htok _ (by decide +kernel), hK _ _ ?_⟩
       clear hK K htok tok
       refine nx ?_; refine cT ?_; refine nx ?_; refine rG hN hk noc [] [0, 1, 7, 8, 9, 10, 11] fun K hK => ?_; simp only [go_sem, seval]
       first | with_reducible refine hK _ _ ?_ | refine ⟨by simp; omega, hK _ _ ?_⟩ | refine obK (hK _ _ ?_)
       clear hK K; refine nx ?_
       refine rG hN hk noc [] [0, 1, 7, 8, 9, 10, 11] fun K hK => ?_; simp only [go_sem, seval, hy]
       first | with_reducible refine hK _ _ ?_ | refine ⟨by simp; omega, hK _ _ ?_⟩ | refine obK (hK _ _ ?_)
       clear hK K; refine nx ?_
       refine rG hN hk noc [] [0, 1, 7, 8, 9, 10, 11] fun K hK => ?_; simp only [go_sem, seval, wrap64 (n := (k : Int) + 1) (by omega)]
       refine hK _ _ ?_; clear hK K; refine nx ?_
       exact ⟨⟨i, k + 1, out ++ [q], x, y ++ [(out.length : Int)]⟩, ⟨by simp only; omega, by simp only; omega, by simp; omega, by simp only; omega, by simp; omega, f, by simp only; omega, h7⟩, by simp only; omega, ⟨[some 0, some 1, some 2], [], ⟨by simp [srcIds], by simp [srcIds], by simp⟩, by simp, by simp [wkEnv, wk, lk, I, B], by simp [wkHp, wkHp1, wkEnt, lkh]⟩⟩
 · obtain ⟨rfl, rfl⟩ : i = a.length ∧ k = b.length := by omega
   have f1 : decide ((a.length : Int) < a.length) = false := by simp
   have f2 : decide ((b.length : Int) < b.length) = false := by simp
   have h8 : (⟨a.length, b.length, out, x, y⟩ : Un) = unF a b := by rw [← h7]; cases f <;> simp [unGo]
   refine nx ?_; refine rG hN hk noc [] [7, 8, 9, 21] fun K hK => ?_; simp only [go_sem, seval, f1, f2]; refine hK _ _ ?_
   clear hK K; refine nx ?_
   refine AW.condF rfl (AW.exit (qThen (qThen (qHere (qNext ?_)))))
   refine nx ?_; refine rG hN hk noc [] [4, 5, 6] fun K hK => ?_; simp only [go_sem, seval]; refine hK _ _ ?_
   clear hK K; refine nx ?_
   rw [← h8]
   refine AW.ret (mkRet [some 0, some 1, some 2] [] rfl ?_ ?_)
   · simp [resOf, lk, wk, wkL]
   · simp [wkHp, wkHp1, wkEnt, lkh]
def distGo : Nat → List S → List S
 | 0, l => l
 | f + 1, l => if l.length < 2 then l else (unF (distGo f (l.take (l.length / 2))) (distGo f (l.drop (l.length / 2)))).out
def distF (l : List S) : List S := distGo l.length l
theorem unStep_len (a b : List S) (s : Un) : (unStep a b s).out.length = s.out.length + 1 := by
 unfold unStep; split
 · simp
 · split <;> simp
theorem unGo_len (a b : List S) : ∀ f s, (unGo a b f s).out.length ≤ s.out.length + f
 | 0, s => by simp [unGo]
 | f + 1, s => by
   rw [unGo]; split
   · have := unGo_len a b f (unStep a b s); rw [unStep_len] at this; omega
   · omega
theorem unF_len (a b : List S) : (unF a b).out.length ≤ a.length + b.length := by
 have := unGo_len a b (a.length + b.length) ⟨0, 0, [], [], []⟩; simp at this; exact this
theorem distGo_len : ∀ f l, (distGo f l).length ≤ l.length
 | 0, l => by simp [distGo]
 | f + 1, l => by
   rw [distGo]; split
   · omega
   · have h1 := distGo_len f (l.take (l.length / 2))
     have h2 := distGo_len f (l.drop (l.length / 2))
     have h3 := unF_len (distGo f (l.take (l.length / 2))) (distGo f (l.drop (l.length / 2)))
     simp at h1 h2
     omega
theorem distGo_fuel : ∀ f g l, l.length ≤ f → l.length ≤ g → distGo f l = distGo g l
 | 0, g, l, h, _ => by
   have : l = [] := List.eq_nil_of_length_eq_zero (by omega)
   subst this
   cases g <;> simp [distGo]
 | f + 1, 0, l, _, h => by
   have : l = [] := List.eq_nil_of_length_eq_zero (by omega)
   subst this
   simp [distGo]
 | f + 1, g + 1, l, h, h' => by
   rw [distGo, distGo]
   split
   · rfl
   · rw [distGo_fuel f g _ (by simp; omega) (by simp; omega), distGo_fuel f g _ (by simp; omega) (by simp; omega)]
theorem distF_eq (l : List S) (h : ¬ l.length < 2) : distF l = (unF (distF (l.take (l.length / 2))) (distF (l.drop (l.length / 2)))).out := by
 obtain ⟨n, hn⟩ : ∃ n, l.length = n + 1 := ⟨l.length - 1, by omega⟩
 unfold distF
 rw [hn, distGo, if_neg h]
 rw [distGo_fuel n _ _ (by simp; omega) (Nat.le_refl _), distGo_fuel n _ (l.drop _) (by simp; omega) (Nat.le_refl _)]
 rw [hn]
theorem distF_small (l : List S) (h : l.length < 2) : distF l = l := by
 unfold distF
 match l, h with
 | [], _ => rfl
 | [x], _ => simp [distGo]
theorem distF_len (l : List S) : (distF l).length ≤ l.length := distGo_len _ _
theorem distinct1 : ∀ (m : Nat) (l : List S), l.length ≤ m → l.length ≤ 2 ^ 37 → ACall Tryz.prog 79 [.sl 1 (strE l)] [] (.osl 0 (distF l).length 1) [some ⟨9, 1, strE (distF l)⟩] := by
 intro m
 induction m with
 | zero =>
   intro l h0 hl
   obtain rfl : l = [] := List.eq_nil_of_length_eq_zero (by omega)
   refine acall 29 0 Tryz.func79 rfl rfl rfl (by simp) rfl rfl ?_
   intro C hN hk
   refine nx ?_; refine rG hN hk noc [] [0] fun K hK => ?_; simp only [go_sem, seval]; refine hK _ _ ?_
   clear hK K; refine nx ?_
   refine rG hN hk noc [] [0, 9] fun K hK => ?_; simp only [go_sem, seval]; refine hK _ _ ?_
   clear hK K; refine nx ?_
   refine cT ?_; refine nx ?_; refine rG hN hk noc [] [2] fun K hK => ?_; simp only [go_sem, seval]; refine hK _ _ ?_
   clear hK K; refine nx ?_
   refine AW.ret (mkRet [some 0] [] rfl ?_ ?_)
   · simp [resOf, lk, wk, distF, distGo]
   · simp [wkHp, wkHp1, wkEnt, lkh, distF, distGo]
 | succ m ih =>
   intro l h0 hl
   refine acall 29 0 Tryz.func79 rfl rfl rfl (by simp) rfl rfl ?_
   intro C hN hk
   by_cases h2 : l.length < 2
   · have e1 : decide ((l.length : Int) < 2) = true := by simp; omega
     refine nx ?_; refine rG hN hk noc [] [0] fun K hK => ?_; simp only [go_sem, seval]; refine hK _ _ ?_
     clear hK K; refine nx ?_
     refine rG hN hk noc [] [0, 9] fun K hK => ?_; simp only [go_sem, seval, e1]; refine hK _ _ ?_
     clear hK K; refine nx ?_
     refine cT ?_; refine nx ?_; refine rG hN hk noc [] [2] fun K hK => ?_; simp only [go_sem, seval]
     first | with_reducible refine hK _ _ ?_ | refine ⟨by omega, hK _ _ ?_⟩ | refine obK (hK _ _ ?_)
     clear hK K; refine nx ?_
     rw [distF_small l h2]
     refine AW.ret (mkRet [some 0] [] rfl ?_ ?_)
     · simp [resOf, lk, wk]
     · simp [wkHp, wkHp1, wkEnt, lkh]
   · have e1 : decide ((l.length : Int) < 2) = false := by simp; omega
     refine nx ?_; refine rG hN hk noc [] [0] fun K hK => ?_; simp only [go_sem, seval]; refine hK _ _ ?_
     clear hK K; refine nx ?_
     refine rG hN hk noc [] [0, 9] fun K hK => ?_; simp only [go_sem, seval, e1]; refine hK _ _ ?_
     clear hK K; refine nx ?_
     refine AW.condF rfl (AW.skip (qNext ?_))
     have e2 : (l.length : Int).tdiv 2 = (l.length / 2 : Nat) := by rw [Int.tdiv_eq_ediv_of_nonneg (by omega)]; omega
     have e3 := wrap64 (n := ((l.length / 2 : Nat) : Int)) (by omega)
     refine nx ?_; refine rG hN hk noc [] [0, 3] fun K hK => ?_; simp only [go_sem, seval, e2, e3]
     first | with_reducible refine hK _ _ ?_ | refine ⟨by decide, hK _ _ ?_⟩ | refine obK (hK _ _ ?_)
     clear hK K; refine nx ?_
     rw [distF_eq l h2]
     have q1 := ih (l.take (l.length / 2)) (by simp; omega) (by simp; omega)
     have q2 := ih (l.drop (l.length / 2)) (by simp; omega) (by simp; omega)
     have n1 := distF_len (l.take (l.length / 2))
     have n2 := distF_len (l.drop (l.length / 2))
     simp only [List.length_take, List.length_drop] at n1 n2
     have q3 := union1 (distF (l.take (l.length / 2))) (distF (l.drop (l.length / 2))) (by omega) (by omega)
     have e4 : List.take l.length (strE l) = strE l := List.take_of_length_le (by rw [strE_len]; omega)
     have e5 : List.take l.length l = l := List.take_of_length_le (by omega)
     generalize distF (l.take (l.length / 2)) = A at *
     generalize distF (l.drop (l.length / 2)) = B' at *
     refine nx ?_
     refine rD hN hk (onc 3 (pc [.sl 1 (strE (l.take (l.length / 2)))] (.osl 0 A.length 1) [some ⟨9, 1, strE A⟩]) (onc 7 (pc [.sl 1 (strE (l.drop (l.length / 2)))] (.osl 0 B'.length 1) [some ⟨9, 1, strE B'⟩]) (onc 8 (bc [24, 56] [.sl 1 (strE A), .sl 1 (strE B')] (.tup [.osl 0 (unF A B').out.length 1, .osl 1 (unF A B').x.length 1, .osl 2 (unF A B').y.length 1]) [some ⟨9, 1, strE (unF A B').out⟩, some ⟨3, 1, intE (unF A B').x⟩, some ⟨3, 1, intE (unF A B').y⟩]) noc))) [] [4] fun K tok htok hK => ?_
     simp only [go_sem, seval, e4, e5]
     refine ⟨htok _ (by decide +kernel), ⟨⟨⟨⟨by omega, pureOb q1 rfl (by simp)⟩, by omega⟩, pureOb q2 rfl (by simp)⟩, borrowOb q3 rfl (by simp) ⟨viewO (by simp) rfl rfl (by simp [strE_len]) rfl, viewO (by simp) rfl rfl (by simp [strE_len]) rfl, trivial⟩ rfl (by simp) (by simp [borOb])⟩, hK _ _ ?_⟩
     clear hK K htok tok
     refine nx ?_; refine rG hN hk noc [] [2] fun K hK => ?_; simp only [go_sem, seval]; refine hK _ _ ?_
     clear hK K; refine nx ?_
     refine AW.ret (mkRet [some 0] [] rfl ?_ ?_)
     · simp [resOf, lk, wk]
     · simp [wkHp, wkHp1, wkEnt, lkh]
theorem putVarintN (v : Nat) (hv : v < 2 ^ 64) :
   ACall Tryz.prog 90 [.val (.slice none 0 0), .val (.int .u64 v)] [] (.osl 0 (varint v).length 1) [some ⟨5, 1, bytesE (varint v)⟩] := by
 refine acall 20 0 Tryz.func90 rfl rfl rfl (by simp) rfl rfl ?_
 intro C hN hk
 refine nx ?_; refine rG hN hk noc [] [0, 1] fun K hK => ?_; simp only [go_sem, seval]; refine hK _ _ ?_
 clear hK K; refine nx ?_
 refine AW.loopF hk 1 (α := List UInt8 × Nat × Nat) (fun a => ⟨[(0, .osl 0 a.1.length 1), (1, .val (.int .u64 a.2.1))], [(0, some ⟨5, 1, bytesE a.1⟩)]⟩)
   (fun a => a.1 ++ varintF a.2.2 a.2.1 = varint v ∧ a.2.1 < 128 ^ (a.2.2 + 1) ∧ a.1.length + a.2.2 = 10 ∧ a.2.2 ≤ 10) (fun a => a.2.2) ([], v, 10) ⟨rfl, by simp only; omega, rfl, by simp⟩ ?_ ?_
 · exact mkWk [none] [] (by simp [wkEnv, wk, lk]) (by simp [wkHp, wkHp1, wkEnt, lkh, bytesE_id, bytesE])
 · rintro ⟨d, u, k⟩ ⟨h1, h2, h3, h4⟩
   simp only at h1 h2 h3 h4
   refine nx ?_; refine rG hN hk noc [] [0, 1, 6] fun K hK => ?_; simp only [go_sem, seval]; refine hK _ _ ?_
   clear hK K; refine nx ?_
   refine AW.condB rfl (fun h => ?_) (fun h => ?_)
   · simp only [ge_iff_le, decide_eq_true_eq] at h
     obtain ⟨k, rfl⟩ : ∃ k', k = k' + 1 := by
       cases k with
       | zero => simp at h2; omega
       | succ k => exact ⟨k, rfl⟩
     rw [varintF, if_neg (by omega)] at h1
     have h5 : u / 128 < 128 ^ (k + 1) := by
       rw [Nat.div_lt_iff_lt_mul (by omega), ← Nat.pow_succ]; exact h2
     refine AW.skip (qNext ?_)
     refine nx ?_; refine rG hN hk noc [] [0, 1] fun K hK => ?_; simp only [go_sem, seval]
     first | with_reducible refine hK _ _ ?_ | refine ⟨by simp [bytesE_len, storable]; omega, hK _ _ ?_⟩ | refine obK (hK _ _ ?_)
     clear hK K; refine nx ?_
     rw [or128, byteE_of _ (by omega), bytesE_snoc]
     refine nx ?_; refine rG hN hk noc [] [0, 1] fun K hK => ?_; simp only [go_sem, seval]
     first | with_reducible refine hK _ _ ?_ | refine ⟨by simp, hK _ _ ?_⟩ | refine obK (hK _ _ ?_)
     clear hK K; refine nx ?_
     refine ⟨(d ++ [UInt8.ofNat (u % 128 + 128)], u / 128, k), ⟨by rw [← h1]; simp, h5, by simp; omega, by show k ≤ 10; omega⟩, by simp, ?_⟩
     refine ⟨[some 0], [], ⟨by simp [srcIds], by simp [srcIds], by simp⟩, by simp, ?_, by simp [wkHp, wkHp1, wkEnt, lkh, bytesE_id]⟩
     simp [wkEnv, wk, lk]
     exact Int.fdiv_eq_ediv_of_nonneg _ (by omega)
   · simp only [ge_iff_le, decide_eq_false_iff_not] at h
     refine AW.exit (qThen (qThen (qHere (qNext ?_))))
     refine nx ?_; refine rG hN hk noc [] [4] fun K hK => ?_; simp only [go_sem, seval]
     first | with_reducible refine hK _ _ ?_ | refine ⟨by simp [bytesE_len, storable]; omega, hK _ _ ?_⟩ | refine obK (hK _ _ ?_)
     clear hK K; refine nx ?_
     have h6 : varintF k u = [UInt8.ofNat u] := by
       cases k with
       | zero => rfl
       | succ k => rw [varintF, if_pos (by omega)]
     rw [h6] at h1
     rw [wrap8, Nat.mod_eq_of_lt (by omega), byteE_of _ (by omega), bytesE_snoc, h1]
     refine AW.ret (mkRet [some 0] [] rfl ?_ ?_ (h2 := trivial))
     · simp [resOf, lk, wk]
       have := congrArg List.length h1
       simp at this
       omega
     · simp [wkHp, wkHp1, wkEnt, lkh, bytesE_id]
theorem varintF_len : ∀ k v, (varintF k v).length ≤ k + 1
 | 0, v => by simp [varintF]
 | k + 1, v => by
   rw [varintF]; split
   · simp
   · have := varintF_len k (v / 128); simp; omega
theorem varint_len (v : Nat) : (varint v).length ≤ 11 := varintF_len 10 v
theorem comGo_le (a b : S) : ∀ f i, i ≤ a.length → comGo a b f i ≤ a.length ∧ (i ≤ b.length → comGo a b f i ≤ b.length)
 | 0, i, h => by simp only [comGo]; exact ⟨h, fun h => h⟩
 | f + 1, i, h => by
   rw [comGo]
   split
   · rename_i x y hx hy
     split
     · have h1 : i < a.length := by
         rcases Nat.lt_or_ge i a.length with h | h
         · exact h
         · rw [List.getElem?_eq_none h] at hx; cases hx
       have h2 : i < b.length := by
         rcases Nat.lt_or_ge i b.length with h | h
         · exact h
         · rw [List.getElem?_eq_none h] at hy; cases hy
       have := comGo_le a b f (i + 1) (by omega)
       exact ⟨this.1, fun _ => this.2 (by omega)⟩
     · exact ⟨h, fun h => h⟩
   · exact ⟨h, fun h => h⟩
theorem comF_le (a b : S) : comF a b ≤ a.length := (comGo_le a b _ 0 (by omega)).1
theorem comF_le2 (a b : S) : comF a b ≤ b.length := (comGo_le a b _ 0 (by omega)).2 (by omega)
theorem wrapU_range (n : Int) : 0 ≤ IntKind.u64.wrap n ∧ IntKind.u64.wrap n < 18446744073709551616 := by
 have e1 : ((2 : Int) ^ IntKind.u64.bits) = 18446744073709551616 := by decide
 have e3 : IntKind.u64.signed = false := rfl
 unfold IntKind.wrap
 simp only [e1, e3, Bool.false_and, Bool.false_eq_true, if_false]
 omega
theorem zig_range (x : Int) : 0 ≤ zigF x ∧ zigF x < 2 ^ 64 := wrapU_range _
def putIntF (x : Int) : List UInt8 := varint (zigF x).toNat
theorem putInt (b : List UInt8) (x : Int) (hb : b.length ≤ 2 ^ 40) :
   ACall Tryz.prog 92 [.osl 0 b.length 1, I x] [some ⟨5, 1, bytesE b⟩] (.osl 1 (b ++ putIntF x).length 1) [none, some ⟨5, 1, bytesE (b ++ putIntF x)⟩] := by
 refine acall 9 1 Tryz.func92 rfl rfl rfl (by simp) rfl rfl ?_
 intro C hN hk
 have hz := zig_range x
 have q := putVarint b (zigF x).toNat (by omega) hb
 have e1 : ((zigF x).toNat : Int) = zigF x := by omega
 rw [e1] at q
 have q0 := zigzag1 x
 unfold putIntF
 generalize varint (zigF x).toNat = vv at *
 refine nx ?_; refine rG hN hk noc [0] [0, 1] fun K hK => ?_; simp only [go_sem, seval]; refine hK _ _ ?_
 clear hK K; refine nx ?_
 refine rG hN hk (onc 2 (pc [I x] (U64 (zigF x)) []) (onc 3 (oc 0 ⟨5, 1, bytesE b⟩ [.osl 0 b.length 1, U64 (zigF x)] (.osl 1 (b ++ vv).length 1) [none, some ⟨5, 1, bytesE (b ++ vv)⟩]) noc)) [0] [4] fun K hK => ?_; simp only [go_sem, seval]
 refine ⟨⟨pureOb q0 rfl (by simp), ownOb q rfl (by simp) (by simp) rfl (by simp) (by simp) rfl⟩, hK _ _ ?_⟩
 clear hK K; refine nx ?_
 refine AW.ret (mkRet [some 0, some 1] [] rfl ?_ ?_)
 · simp [resOf, lk, wk]
 · simp [wkHp, wkHp1, wkEnt, lkh]
/-- What one word of a dictionary is written as. -/
def pieceN (d : List S) (i : Nat) : Nat := if i % 16 = 0 then 0 else comF (d.getD i []) (d.getD (i - 1) [])
def piece (d : List S) (i : Nat) : S := (if i % 16 = 0 then [] else varint (pieceN d i)) ++ varint ((d.getD i []).length - pieceN d i) ++ (d.getD i []).drop (pieceN d i)
def enc23To (d : List S) : Nat → S
 | 0 => varint d.length
 | i + 1 => enc23To d i ++ piece d i
def enc23F (d : List S) : S := enc23To d d.length
theorem piece_len (d : List S) (i : Nat) (h : (d.getD i []).length ≤ 2048) : (piece d i).length ≤ 2070 := by
 unfold piece
 have h1 := varint_len (pieceN d i)
 have h2 := varint_len ((d.getD i []).length - pieceN d i)
 generalize d.getD i [] = x at *
 generalize pieceN d i = n at *
 split
 · simp only [List.length_append, List.length_drop, List.length_nil]; omega
 · simp only [List.length_append, List.length_drop]; omega
theorem enc23To_len (d : List S) (h : longS d = false) : ∀ i, i ≤ d.length → (enc23To d i).length ≤ 11 + i * 2070
 | 0, _ => by simp only [enc23To]; have := varint_len d.length; omega
 | i + 1, hi => by
   have := enc23To_len d h i (by omega)
   have h2 := piece_len d i (by
     simp only [longS, List.any_eq_false, decide_eq_true_eq] at h
     have hm : i < d.length := by omega
     have := h d[i] (List.getElem_mem hm)
     simp [List.getD, hm]; omega)
   simp only [enc23To, List.length_append]
   omega
def enc23R (d : List S) : AV × List (Option Ent) := if check23F d = 0 then (.tup [.osl 0 (enc23F d).length 1, I 0], [some ⟨5, 1, bytesE (enc23F d)⟩]) else (.tup [.val (.slice none 0 0), I (check23F d)], [])
theorem encode23 (d : List S) (hd : d.length ≤ 2 ^ 40) (hs : ∀ s ∈ d, s.length ≤ 2 ^ 40) : ACall Tryz.prog 93 [.sl 1 (strE d)] [] (enc23R d).1 (enc23R d).2 := by
 refine acall 59 0 Tryz.func93 rfl rfl rfl (by simp) rfl rfl ?_
 intro C hN hk
 have q0 := check23 d hd hs
 refine nx ?_; refine rG hN hk noc [] [0] fun K hK => ?_; simp only [go_sem, seval]; refine hK _ _ ?_
 clear hK K; refine nx ?_
 refine rG hN hk (onc 1 (pc [.sl 1 (strE d)] (I (check23F d)) []) noc) [] [0, 4] fun K hK => ?_; simp only [go_sem, seval]
 first | with_reducible refine hK _ _ ?_ | refine ⟨by exact pureOb q0 rfl (by simp), hK _ _ ?_⟩ | refine obK (hK _ _ ?_)
 clear hK K; refine nx ?_
 by_cases hc : check23F d = 0
 · have hlen : d.length ≤ 32768 := by unfold check23F at hc; split at hc <;> omega
   have hlong : longS d = false := by
     unfold check23F at hc
     rw [if_neg (by omega)] at hc
     cases h : longS d with
     | false => rfl
     | true => rw [h] at hc; simp at hc
   have e0 : (check23F d != 0) = false := by simp [hc]
   unfold enc23R
   rw [if_pos hc]
   refine nx ?_; refine rG hN hk noc [] [0, 11] fun K hK => ?_; simp only [go_sem, seval, e0]; refine hK _ _ ?_
   clear hK K; refine nx ?_
   refine AW.condF rfl (AW.skip (qNext ?_))
   have q1 := putVarintN d.length (by omega)
   have e1 : IntKind.u64.wrap (d.length : Int) = d.length := IntWalk.u64_in _ (by omega)
   refine nx ?_; refine rG hN hk (onc 3 (pc [.val (.slice none 0 0), U64 d.length] (.osl 0 (varint d.length).length 1) [some ⟨5, 1, bytesE (varint d.length)⟩]) noc) [] [0, 5] fun K hK => ?_; simp only [go_sem, seval, e1]
   first | with_reducible refine hK _ _ ?_ | refine ⟨by exact pureOb q1 rfl (by simp), hK _ _ ?_⟩ | refine obK (hK _ _ ?_)
   clear hK K; refine nx ?_
   refine rG hN hk noc [] [0, 5, 6] fun K hK => ?_; simp only [go_sem, seval]; refine hK _ _ ?_
   clear hK K; refine nx ?_
   refine AW.loopF hk 1 (fun i : Nat => ⟨[(0, .sl 1 (strE d)), (5, .osl 0 (enc23To d i).length 1), (6, I i)], [(0, some ⟨5, 1, bytesE (enc23To d i)⟩)]⟩) (fun i => i ≤ d.length) (fun i => d.length - i) 0 (by omega) ⟨[some 0], [], ⟨by simp [srcIds], by simp [srcIds], by simp⟩, by simp, by simp [wkEnv, wk, lk, I, enc23To], by simp [wkHp, wkHp1, wkEnt, lkh, enc23To]⟩ ?_
   intro i h1
   have hle := enc23To_len d hlong i h1
   by_cases hi : i < d.length
   · have e2 : decide ((i : Int) < d.length) = true := by simp; omega
     refine nx ?_; refine rG hN hk noc [] [0, 5, 6, 20] fun K hK => ?_; simp only [go_sem, seval, e2]; refine hK _ _ ?_
     clear hK K; refine nx ?_
     refine AW.condT rfl (AW.skip (qNext ?_))
     refine nx ?_; refine rG hN hk noc [] [0, 5, 6, 7] fun K hK => ?_; simp only [go_sem, seval]; refine hK _ _ ?_
     clear hK K; refine nx ?_
     have hx := List.getElem?_eq_getElem hi
     have hx2 : d.getD i [] = d[i] := by simp [List.getD, hi]
     have hxl : d[i].length ≤ 2048 := by
       simp only [longS, List.any_eq_false, decide_eq_true_eq] at hlong
       have := hlong d[i] (List.getElem_mem hi)
       omega
     have hp1 : enc23To d (i + 1) = enc23To d i ++ piece d i := rfl
     have e3 : (i : Int).tmod 16 = ((i % 16 : Nat) : Int) := by rw [Int.tmod_eq_emod_of_nonneg (by omega)]; omega
     have e7 := wrap64 (n := (i : Int) + 1) (by omega)
     by_cases h16 : i % 16 = 0
     · have e4 : (((i % 16 : Nat) : Int) != 0) = false := by simp; omega
       rw [piece, if_pos h16, show pieceN d i = 0 by unfold pieceN; rw [if_pos h16], hx2] at hp1
       generalize d[i] = x at hx hp1 hxl
       refine nx ?_; refine rG hN hk noc [] [0, 5, 6, 7, 25] fun K hK => ?_; simp only [go_sem, seval, e3, e4]
       first | with_reducible refine hK _ _ ?_ | refine ⟨by decide, hK _ _ ?_⟩ | refine obK (hK _ _ ?_)
       clear hK K; refine nx ?_
       refine AW.condF rfl (AW.skip (qNext ?_))
       have q2 := putVarint (enc23To d i) (x.length - 0) (by omega) (by omega)
       have e5 := wrap64 (n := (x.length : Int) - 0) (by omega)
       have e6 : IntKind.u64.wrap ((x.length : Int) - 0) = ((x.length - 0 : Nat) : Int) := by rw [IntWalk.u64_in _ (by omega)]; omega
       simp only [List.nil_append, List.drop_zero] at hp1
       have hvl := varint_len (x.length - 0)
       generalize varint (x.length - 0) = vv at *
       generalize enc23To d i = o at *
       refine nx ?_; refine rG hN hk (onc 9 (oc 0 ⟨5, 1, bytesE o⟩ [.osl 0 o.length 1, U64 ((x.length - 0 : Nat) : Int)] (.osl 1 (o ++ vv).length 1) [none, some ⟨5, 1, bytesE (o ++ vv)⟩]) noc) [] [0, 5, 6, 7] fun K hK => ?_; simp only [go_sem, seval, hx, e5, e6]
       first | with_reducible refine hK _ _ ?_ | refine ⟨by exact ownOb q2 rfl (by simp) (by simp) rfl (by simp) (by simp) rfl, hK _ _ ?_⟩ | refine obK (hK _ _ ?_)
       clear hK K; refine nx ?_
       generalize ho2 : o ++ vv = o2 at *
       have hl2 : o2.length = o.length + vv.length := by rw [← ho2]; simp
       refine nx ?_; refine rG hN hk noc [] [0, 5, 6] fun K hK => ?_; simp only [go_sem, seval, hx, List.drop_zero]
       first | with_reducible refine hK _ _ ?_ | refine ⟨by simp [List.length_drop]; omega, hK _ _ ?_⟩ | refine obK (hK _ _ ?_)
       clear hK K; refine nx ?_
       refine rG hN hk noc [] [0, 5, 6] fun K hK => ?_; simp only [go_sem, seval, e7]; refine hK _ _ ?_
       clear hK K; refine nx ?_
       exact ⟨i + 1, by omega, by omega, ⟨[some 0], [], ⟨by simp [srcIds], by simp [srcIds], by simp⟩, by simp, by simp [wkEnv, wk, lk, I, hp1, ← ho2, Nat.add_assoc], by simp [wkHp, wkHp1, wkEnt, lkh, hp1, ← ho2]⟩⟩
     · have e4 : (((i % 16 : Nat) : Int) != 0) = true := by simp; omega
       have hi0 : 0 < i := by omega
       have hy := List.getElem?_eq_getElem (show i - 1 < d.length by omega)
       have hy2 : d.getD (i - 1) [] = d[i - 1] := by simp [List.getD, show i - 1 < d.length by omega]
       have hyl : d[i - 1].length ≤ 2048 := by
         simp only [longS, List.any_eq_false, decide_eq_true_eq] at hlong
         have := hlong d[i - 1] (List.getElem_mem (by omega))
         omega
       rw [piece, if_neg h16, show pieceN d i = comF (d.getD i []) (d.getD (i - 1) []) by unfold pieceN; rw [if_neg h16], hx2, hy2] at hp1
       generalize d[i] = x at hx hp1 hxl
       generalize d[i - 1] = y at hy hp1 hyl
       have q3 := common1 x y (by omega) (by omega)
       have hcl := comF_le x y
       have e8 := wrap64 (n := (i : Int) - 1) (by omega)
       have e9 : ((i : Int) - 1).toNat = i - 1 := by omega
       generalize comF x y = n at *
       refine nx ?_; refine rG hN hk noc [] [0, 5, 6, 7, 25] fun K hK => ?_; simp only [go_sem, seval, e3, e4]
       first | with_reducible refine hK _ _ ?_ | refine ⟨by decide, hK _ _ ?_⟩ | refine obK (hK _ _ ?_)
       clear hK K; refine nx ?_
       refine cT ?_; refine nx ?_
       refine rD hN hk (onc 9 (pc [str x, str y] (I n) []) noc) [] [0, 5, 6, 7] fun K tok htok hK => ?_
       simp only [go_sem, seval, hx, hy, e8, e9]
       refine ⟨htok _ (by decide +kernel), by exact ⟨by omega, pureOb q3 rfl (by simp)⟩, hK _ _ ?_⟩
       clear hK K htok tok
       refine nx ?_
       have e10 : IntKind.u64.wrap (n : Int) = n := IntWalk.u64_in _ (by omega)
       have q4 := putVarint (enc23To d i) n (by omega) (by omega)
       have hvn := varint_len n
       have q2 := putVarint (enc23To d i ++ varint n) (x.length - n) (by omega) (by simp; omega)
       have e5 := wrap64 (n := (x.length : Int) - n) (by omega)
       have e6 : IntKind.u64.wrap ((x.length : Int) - n) = ((x.length - n : Nat) : Int) := by rw [IntWalk.u64_in _ (by omega)]; omega
       have hvl := varint_len (x.length - n)
       have e11 : (n : Int).toNat = n := by omega
       generalize varint (x.length - n) = vv at *
       generalize varint n = vn at *
       generalize enc23To d i = o at *
       refine nx ?_; refine rG hN hk (onc 3 (oc 0 ⟨5, 1, bytesE o⟩ [.osl 0 o.length 1, U64 n] (.osl 1 (o ++ vn).length 1) [none, some ⟨5, 1, bytesE (o ++ vn)⟩]) noc) [] [0, 5, 6, 7] fun K hK => ?_; simp only [go_sem, seval, e10]
       first | with_reducible refine hK _ _ ?_ | refine ⟨by exact ownOb q4 rfl (by simp) (by simp) rfl (by simp) (by simp) rfl, hK _ _ ?_⟩ | refine obK (hK _ _ ?_)
       clear hK K; refine nx ?_
       have hl1 : (o ++ vn).length = o.length + vn.length := by simp
       generalize ho1 : o ++ vn = o1 at *
       refine nx ?_; refine rG hN hk (onc 9 (oc 0 ⟨5, 1, bytesE o1⟩ [.osl 0 o1.length 1, U64 ((x.length - n : Nat) : Int)] (.osl 1 (o1 ++ vv).length 1) [none, some ⟨5, 1, bytesE (o1 ++ vv)⟩]) noc) [] [0, 5, 6, 7] fun K hK => ?_; simp only [go_sem, seval, hx, e5, e6]
       first | with_reducible refine hK _ _ ?_ | refine ⟨by exact ownOb q2 rfl (by simp) (by simp) rfl (by simp) (by simp) rfl, hK _ _ ?_⟩ | refine obK (hK _ _ ?_)
       clear hK K; refine nx ?_
       have hl2 : (o1 ++ vv).length = o1.length + vv.length := by simp
       have hp2 : enc23To d (i + 1) = (o1 ++ vv) ++ x.drop n := by rw [hp1, ← ho1]; simp [List.append_assoc]
       generalize ho2 : o1 ++ vv = o2 at *
       refine nx ?_; refine rG hN hk noc [] [0, 5, 6] fun K hK => ?_; simp only [go_sem, seval, hx, e11]
       first | with_reducible refine hK _ _ ?_ | refine ⟨by simp [List.length_drop]; omega, hK _ _ ?_⟩ | refine obK (hK _ _ ?_)
       clear hK K; refine nx ?_
       refine rG hN hk noc [] [0, 5, 6] fun K hK => ?_; simp only [go_sem, seval, e7]; refine hK _ _ ?_
       clear hK K; refine nx ?_
       exact ⟨i + 1, by omega, by omega, ⟨[some 0], [], ⟨by simp [srcIds], by simp [srcIds], by simp⟩, by simp, by simp [wkEnv, wk, lk, I, hp2], by simp [wkHp, wkHp1, wkEnt, lkh, hp2]⟩⟩
   · have e2 : decide ((i : Int) < d.length) = false := by simp; omega
     have : i = d.length := by omega
     refine nx ?_; refine rG hN hk noc [] [0, 5, 6, 20] fun K hK => ?_; simp only [go_sem, seval, e2]; refine hK _ _ ?_
     clear hK K; refine nx ?_
     refine AW.condF rfl (AW.exit (qThen (qThen (qHere (qNext ?_)))))
     subst this
     refine nx ?_; refine rG hN hk noc [] [2, 3] fun K hK => ?_; simp only [go_sem, seval]; refine hK _ _ ?_
     clear hK K; refine nx ?_
     refine AW.ret (mkRet [some 0] [] rfl ?_ ?_)
     · simp [resOf, lk, wk, wkL, I, enc23F]
     · simp [wkHp, wkHp1, wkEnt, lkh, enc23F]
 · have e0 : (check23F d != 0) = true := by simp [hc]
   unfold enc23R
   rw [if_neg hc]
   refine nx ?_; refine rG hN hk noc [] [0, 4, 11] fun K hK => ?_; simp only [go_sem, seval, e0]; refine hK _ _ ?_
   clear hK K; refine nx ?_
   refine cT ?_; refine nx ?_; refine rG hN hk noc [] [2, 3] fun K hK => ?_; simp only [go_sem, seval]; refine hK _ _ ?_
   clear hK K; refine nx ?_
   refine AW.ret (mkRet [] [] rfl ?_ ?_)
   · simp [resOf, lk, wk, wkL, I]
   · simp [wkHp]
theorem orU (a b : Nat) (ha : a < 2 ^ 64) (hb : b < 2 ^ 64) : bitsOf .or .u64 (a : Int) (b : Int) = ((a ||| b : Nat) : Int) := by
 simp only [bitsOf]
 have e : IntKind.u64.bits = 64 := rfl
 rw [BitVec.toNat_or, BitVec.ofInt_natCast, BitVec.ofInt_natCast, BitVec.toNat_ofNat, BitVec.toNat_ofNat, e, Nat.mod_eq_of_lt ha, Nat.mod_eq_of_lt hb]
 have := Nat.or_lt_two_pow ha hb
 exact IntWalk.u64_in _ (by omega)
theorem and127 (d : Nat) (h : d < 256) : bitsOf .and .u64 (d : Int) 127 = ((d % 128 : Nat) : Int) := by
 have h2 : ∀ x : Fin 256, bitsOf .and .u64 ((x.val : Nat) : Int) 127 = ((x.val % 128 : Nat) : Int) := by decide +kernel
 exact h2 ⟨d, h⟩
theorem orAdd (v x k : Nat) (hv : v < 2 ^ (7 * k)) (ht : v + x * 2 ^ (7 * k) < 2 ^ 64) (hx : x < 128) :
   bitsOf .or .u64 (v : Int) (IntKind.u64.wrap ((x : Int) * 2 ^ (7 * k))) = ((v + x * 2 ^ (7 * k) : Nat) : Int) := by
 have e : ((x : Int) * 2 ^ (7 * k)) = ((x * 2 ^ (7 * k) : Nat) : Int) := by push_cast; rfl
 rw [e, IntWalk.u64_in _ (by omega), orU _ _ (by omega) (by omega)]
 have := Nat.two_pow_add_eq_or_of_lt hv x
 rw [Nat.or_comm, Nat.mul_comm x, ← this, Nat.add_comm]
@[simp, go_sem] theorem eBytes_bytesE (l : List UInt8) : eBytes (bytesE l) = l := by
 induction l with
 | nil => rfl
 | cons a l ih =>
   simp only [bytesE, eBytes, List.map_cons, List.map_map] at ih ⊢
   rw [ih]
   simp [byteE, byteOf1]
theorem isByte_bytesE (l : List UInt8) : ∀ c ∈ bytesE l, isByte c = true := by
 intro c hc
 simp only [bytesE, List.mem_map] at hc
 obtain ⟨x, _, rfl⟩ := hc
 have := x.toNat_lt
 simp only [byteE, isByte, decide_eq_true_eq]
 omega
theorem ofNat_toNat (n : Nat) (h : n < 256) : (UInt8.ofNat n).toNat = n := by simp; omega
theorem getGo_varint (at_ : Nat) (post : List UInt8) : ∀ (f k m v : Nat) (pre : List UInt8), f + k = 10 → pre.length = at_ + k → v < 2 ^ (7 * k) → v + m * 2 ^ (7 * k) < 2 ^ 64 → (0 < k → 0 < m) →
   getGo (pre ++ varintF f m ++ post) at_ f k (v : Int) = some (((v + m * 2 ^ (7 * k) : Nat) : Int), pre.length + (varintF f m).length)
 | 0, k, m, v, pre, hf, hp, hv, ht, hm => by
   obtain rfl : k = 10 := by omega
   have := hm (by omega)
   exfalso
   have : 2 ^ (7 * 10) ≤ m * 2 ^ (7 * 10) := Nat.le_mul_of_pos_left _ this
   omega
 | f + 1, k, m, v, pre, hf, hp, hv, ht, hm => by
   have hk9 : k ≤ 9 := by omega
   have hm9 : k = 9 → m < 2 := by rintro rfl; omega
   rw [getGo]
   by_cases h : m < 128
   · have e : varintF (f + 1) m = [UInt8.ofNat m] := by rw [varintF, if_pos h]
     have hg : (pre ++ varintF (f + 1) m ++ post)[at_ + k]? = some (UInt8.ofNat m) := by
       rw [e, ← hp, List.append_assoc, List.getElem?_append_right (by omega)]; simp
     rw [hg]
     simp only [ofNat_toNat m (by omega)]
     rw [if_neg (by omega), if_pos h, if_neg (by omega), and127 m (by omega), Nat.mod_eq_of_lt h, orAdd v m k hv ht h, e, hp]
     rfl
   · have e : varintF (f + 1) m = UInt8.ofNat (m % 128 + 128) :: varintF f (m / 128) := by rw [varintF, if_neg h]
     have hg : (pre ++ varintF (f + 1) m ++ post)[at_ + k]? = some (UInt8.ofNat (m % 128 + 128)) := by
       rw [e, ← hp, List.append_assoc, List.getElem?_append_right (by omega)]; simp
     rw [hg]
     have hpw : 2 ^ (7 * (k + 1)) = 2 ^ (7 * k) * 128 := by rw [show 7 * (k + 1) = 7 * k + 7 by omega, Nat.pow_add]
     have hsum : v + m % 128 * 2 ^ (7 * k) + m / 128 * 2 ^ (7 * (k + 1)) = v + m * 2 ^ (7 * k) := by
       rw [hpw]
       generalize 2 ^ (7 * k) = p
       have h1 : m / 128 * (p * 128) = (m / 128 * 128) * p := by rw [Nat.mul_comm p, Nat.mul_assoc]
       rw [h1, Nat.add_assoc, ← Nat.add_mul]
       congr 2
       omega
     have hle : m % 128 * 2 ^ (7 * k) ≤ m * 2 ^ (7 * k) := Nat.mul_le_mul_right _ (Nat.mod_le _ _)
     simp only [ofNat_toNat (m % 128 + 128) (by omega)]
     rw [if_neg (by omega), if_neg (by omega), and127 _ (by omega), show (m % 128 + 128) % 128 = m % 128 by omega, orAdd v (m % 128) k hv (by omega) (by omega)]
     have hv2 : v + m % 128 * 2 ^ (7 * k) < 2 ^ (7 * (k + 1)) := by
       rw [hpw]
       have : m % 128 * 2 ^ (7 * k) ≤ 127 * 2 ^ (7 * k) := Nat.mul_le_mul_right _ (by omega)
       omega
     have ih := getGo_varint at_ post f (k + 1) (m / 128) (v + m % 128 * 2 ^ (7 * k)) (pre ++ [UInt8.ofNat (m % 128 + 128)]) (by omega) (by simp; omega) hv2 (by omega) (by omega)
     rw [e]
     rw [hsum] at ih
     have hl : pre ++ UInt8.ofNat (m % 128 + 128) :: varintF f (m / 128) ++ post = pre ++ [UInt8.ofNat (m % 128 + 128)] ++ varintF f (m / 128) ++ post := by simp
     rw [hl, ih]
     simp only [List.length_append, List.length_cons, List.length_nil]
     congr 2
     omega
theorem getVar_varint (pre post : List UInt8) (m : Nat) (hm : m < 2 ^ 64) : getVarF (pre ++ varint m ++ post) pre.length = some ((m : Int), pre.length + (varint m).length) := by
 have := getGo_varint pre.length post 10 0 m 0 pre rfl (by simp) (by simp) (by simpa using hm) (by omega)
 simpa [getVarF, varint] using this
end Go.Proofs.YtceeklfmlheofaaGreat
