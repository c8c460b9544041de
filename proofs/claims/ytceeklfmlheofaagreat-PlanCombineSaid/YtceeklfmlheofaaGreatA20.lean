/-
  Part 20 of the proof that logtidelaw41.PlanCombine returns true for every list of bytes and leaves its argument as it was; no condition.
-/
import Derived.Test.YtceeklfmlheofaaGreatA06
import Derived.Test.YtceeklfmlheofaaGreatA19
set_option linter.unusedSimpArgs false
set_option linter.unusedVariables false
namespace Go.Proofs.YtceeklfmlheofaaGreat
open Go.Av
attribute [local irreducible] ACall
def part25 (l : List Int) (j : Nat) : List Int := (l.take (32 * j + 32)).drop (32 * j)
def gap25 (p : List Int) (k : Nat) : Int := if 0 < k then p.getD k 0 - p.getD (k - 1) 0 else p.getD k 0
def blk25 (p : List Int) : Nat → List UInt8
 | 0 => []
 | k + 1 => blk25 p k ++ varint (gap25 p k).toNat
def blkF (l : List Int) (j : Nat) : List UInt8 := blk25 (part25 l j) (part25 l j).length
def lastF (l : List Int) (j : Nat) : Nat := ((part25 l j).getD ((part25 l j).length - 1) 0).toNat
def head25 (l : List Int) : Nat → List UInt8
 | 0 => varint l.length
 | j + 1 => head25 l j ++ varint (lastF l j) ++ varint (blkF l j).length
def body25 (l : List Int) : Nat → List UInt8
 | 0 => []
 | j + 1 => body25 l j ++ blkF l j
def nb25 (l : List Int) : Nat := (l.length + 31) / 32
def enc25 (l : List Int) : List UInt8 := head25 l (nb25 l) ++ body25 l (nb25 l)
theorem blk25_len (p : List Int) : ∀ k, (blk25 p k).length ≤ k * 11
 | 0 => by simp [blk25]
 | k + 1 => by
   have := blk25_len p k
   have := varint_len (gap25 p k).toNat
   simp only [blk25, List.length_append]; omega
theorem part25_len (l : List Int) (j : Nat) : (part25 l j).length = min (32 * j + 32) l.length - 32 * j := by simp [part25]
theorem part25_get (l : List Int) (j k : Nat) (hk : k < (part25 l j).length) : ∃ h : 32 * j + k < l.length, (part25 l j)[k] = l[32 * j + k] := by
 have := part25_len l j
 exact ⟨by omega, by simp [part25]⟩
theorem blkF_len (l : List Int) (j : Nat) : (blkF l j).length ≤ 352 := by
 have h1 := blk25_len (part25 l j) (part25 l j).length
 have h2 := part25_len l j
 unfold blkF; omega
theorem head25_len (l : List Int) : ∀ j, (head25 l j).length ≤ 11 + j * 22
 | 0 => by have := varint_len l.length; simp only [head25]; omega
 | j + 1 => by
   have := head25_len l j
   have := varint_len (lastF l j)
   have := varint_len (blkF l j).length
   simp only [head25, List.length_append]; omega
theorem body25_len (l : List Int) : ∀ j, (body25 l j).length ≤ j * 352
 | 0 => by simp [body25]
 | j + 1 => by
   have := body25_len l j
   have := blkF_len l j
   simp only [body25, List.length_append]; omega
theorem intE_take (l : List Int) (n : Nat) : List.take n (intE l) = intE (List.take n l) := by simp [intE, List.map_take]
theorem intE_drop (l : List Int) (n : Nat) : List.drop n (intE l) = intE (List.drop n l) := by simp [intE, List.map_drop]
theorem gap_rng (l : List Int) (hp : Post l) (j k : Nat) (hk : k < (part25 l j).length) : 0 ≤ gap25 (part25 l j) k ∧ gap25 (part25 l j) k < 4096 := by
 obtain ⟨h1, e1⟩ := part25_get l j k hk
 have r1 := hp.rng _ h1
 have d1 : (part25 l j).getD k 0 = (part25 l j)[k] := by simp [List.getD, hk]
 unfold gap25
 split
 · next h0 =>
   obtain ⟨h2, e2⟩ := part25_get l j (k - 1) (by omega)
   have r2 := hp.rng _ h2
   have d2 : (part25 l j).getD (k - 1) 0 = (part25 l j)[k - 1] := by simp [List.getD, show k - 1 < (part25 l j).length by omega]
   have asc := hp.asc (32 * j + (k - 1)) (by omega)
   have e3 : l[32 * j + (k - 1) + 1]'(by omega) = l[32 * j + k] := by congr 1; omega
   rw [d1, d2, e1, e2]
   omega
 · rw [d1, e1]; omega
theorem encode25 (l : List Int) (hp : Post l) :
   ACall Tryz.prog 94 [.sl 1 (intE l)] [] (.tup [.osl 0 (enc25 l).length 1, I 0]) [some ⟨5, 1, bytesE (enc25 l)⟩] := by
 have hl := hp.len
 refine acall 77 0 Tryz.func94 rfl rfl rfl (by simp) rfl rfl ?_
 intro C hN hk
 have q0 := check25 l hp
 have q1 := putVarintN l.length (by omega)
 have a1 : IntKind.u64.wrap (l.length : Int) = l.length := IntWalk.u64_in _ (by omega)
 refine nx ?_; refine rG hN hk noc [] [0] fun K hK => ?_; simp only [go_sem, seval]; refine hK _ _ ?_
 clear hK K; refine nx ?_
 refine rG hN hk (onc 1 (pc [.sl 1 (intE l)] (I 0) []) noc) [] [0, 4] fun K hK => ?_; simp only [go_sem, seval]
 first | with_reducible refine hK _ _ ?_ | refine ⟨by exact pureOb q0 rfl (by simp), hK _ _ ?_⟩ | refine obK (hK _ _ ?_)
 clear hK K; refine nx ?_
 refine rG hN hk noc [] [0, 15] fun K hK => ?_; simp only [go_sem, seval, bne_self_eq_false]; refine hK _ _ ?_
 clear hK K; refine nx ?_
 refine AW.condF rfl (AW.skip (qNext ?_))
 refine nx ?_; refine rG hN hk (onc 3 (pc [.val (.slice none 0 0), U64 l.length] (.osl 0 (varint l.length).length 1) [some ⟨5, 1, bytesE (varint l.length)⟩]) noc) [] [0, 5] fun K hK => ?_; simp only [go_sem, seval, a1]
 first | with_reducible refine hK _ _ ?_ | refine ⟨by exact pureOb q1 rfl (by simp), hK _ _ ?_⟩ | refine obK (hK _ _ ?_)
 clear hK K; refine nx ?_
 clear q0 q1 a1
 refine nx ?_; refine rG hN hk noc [] [0, 5, 6] fun K hK => ?_; simp only [go_sem, seval]; refine hK _ _ ?_
 clear hK K; refine nx ?_
 refine rG hN hk noc [] [0, 5, 6, 7] fun K hK => ?_; simp only [go_sem, seval]; refine hK _ _ ?_
 clear hK K; refine nx ?_
 refine AW.loopF hk 2 (fun j : Nat => ⟨[(0, .sl 1 (intE l)), (5, .osl 0 (head25 l j).length 1), (6, .osl 1 (body25 l j).length 1), (7, I ((32 * j : Nat) : Int))], [(0, some ⟨5, 1, bytesE (head25 l j)⟩), (1, some ⟨5, 1, bytesE (body25 l j)⟩)]⟩) (fun j => j ≤ nb25 l) (fun j => nb25 l - j) 0 (by omega) ⟨[some 0, none], [], ⟨by simp [srcIds], by simp [srcIds], by simp⟩, by simp, by simp [wkEnv, wk, lk, I, head25, body25], by simp [wkHp, wkHp1, wkEnt, lkh, head25, body25]; rfl⟩ ?_
 intro j h1
 have hhl := head25_len l j
 have hbl := body25_len l j
 have hnb : nb25 l ≤ 128 := by unfold nb25; omega
 by_cases hj : 32 * j < l.length
 · have b1 : decide (((32 * j : Nat) : Int) < l.length) = true := by simp; omega
   refine nx ?_; refine rG hN hk noc [] [0, 5, 6, 7, 24] fun K hK => ?_; simp only [go_sem, seval, b1]; refine hK _ _ ?_
   clear hK K; refine nx ?_
   refine AW.condT rfl (AW.skip (qNext ?_))
   have b2 := wrap64 (n := ((32 * j : Nat) : Int) + 32) (by omega)
   have hm : (if ((32 * j : Nat) : Int) + 32 < (l.length : Int) then ((32 * j : Nat) : Int) + 32 else (l.length : Int)) = ((min (32 * j + 32) l.length : Nat) : Int) := by split <;> omega
   have hq : List.drop (32 * j) (List.take (min (32 * j + 32) l.length) l) = part25 l j := by
     unfold part25
     rw [← List.take_take, List.take_length]
   have hpl := part25_len l j
   have hgr := gap_rng l hp j
   have hget : ∀ k (hk : k < (part25 l j).length), 0 ≤ (part25 l j)[k] ∧ (part25 l j)[k] < 4096 := by
     intro k hk
     obtain ⟨h2, e2⟩ := part25_get l j k hk
     rw [e2]; exact hp.rng _ h2
   have hH : head25 l (j + 1) = head25 l j ++ varint (lastF l j) ++ varint (blkF l j).length := rfl
   have hB : body25 l (j + 1) = body25 l j ++ blkF l j := rfl
   have hbk := blkF_len l j
   unfold lastF at hH
   unfold blkF at hH hB hbk
   refine nx ?_; refine rG hN hk noc [] [0, 5, 6, 7, 8] fun K hK => ?_; simp only [go_sem, seval, b2, hm, intE_take, intE_drop, hq]
   first | with_reducible refine hK _ _ ?_ | refine ⟨by omega, hK _ _ ?_⟩ | refine obK (hK _ _ ?_)
   clear hK K; refine nx ?_
   generalize part25 l j = p at *
   generalize head25 l j = hd at *
   generalize body25 l j = bd at *
   refine nx ?_; refine rG hN hk noc [] [0, 5, 6, 7, 8, 9] fun K hK => ?_; simp only [go_sem, seval]; refine hK _ _ ?_
   clear hK K; refine nx ?_
   refine rG hN hk noc [] [0, 5, 6, 7, 8, 9, 10] fun K hK => ?_; simp only [go_sem, seval]; refine hK _ _ ?_
   clear hK K; refine nx ?_
   refine AW.loopF hk 3 (fun k : Nat => ⟨[(0, .sl 1 (intE l)), (5, .osl 0 hd.length 1), (6, .osl 1 bd.length 1), (7, I ((32 * j : Nat) : Int)), (8, .sl 1 (intE p)), (9, .osl 2 (blk25 p k).length 1), (10, I k)], [(0, some ⟨5, 1, bytesE hd⟩), (1, some ⟨5, 1, bytesE bd⟩), (2, some ⟨5, 1, bytesE (blk25 p k)⟩)]⟩) (fun k => k ≤ p.length) (fun k => p.length - k) 0 (by omega) ⟨[some 0, some 1, none], [], ⟨by simp [srcIds], by simp [srcIds], by simp⟩, by simp, by simp [wkEnv, wk, lk, I, blk25], by simp [wkHp, wkHp1, wkEnt, lkh, blk25]; rfl⟩ ?_
   intro k h2
   have hkl := blk25_len p k
   by_cases hkp : k < p.length
   · have c1 : decide ((k : Int) < p.length) = true := by simp; omega
     have hx := List.getElem?_eq_getElem hkp
     have hx2 : p.getD k 0 = p[k] := by simp [List.getD, hkp]
     have hg := hgr k hkp
     have hxr := hget k hkp
     have hbs : blk25 p (k + 1) = blk25 p k ++ varint (gap25 p k).toNat := rfl
     have c2 := wrap64 (n := (k : Int) + 1) (by omega)
     have q2 := putVarint (blk25 p k) (gap25 p k).toNat (by omega) (by omega)
     have c3 : (((gap25 p k).toNat : Nat) : Int) = gap25 p k := by omega
     have c4 : IntKind.u64.wrap (gap25 p k) = gap25 p k := IntWalk.u64_in _ (by omega)
     have hgu : gap25 p k = if 0 < k then p.getD k 0 - p.getD (k - 1) 0 else p.getD k 0 := rfl
     rw [hx2] at hgu
     rw [c3] at q2
     generalize varint (gap25 p k).toNat = vv at *
     generalize blk25 p k = bk at *
     generalize p[k] = x at *
     generalize gap25 p k = g at *
     refine nx ?_; refine rG hN hk noc [] [0, 5, 6, 7, 8, 9, 10, 38] fun K hK => ?_; simp only [go_sem, seval, c1]; refine hK _ _ ?_
     clear hK K; refine nx ?_
     refine AW.condT rfl (AW.skip (qNext ?_))
     refine nx ?_; refine rG hN hk noc [] [0, 5, 6, 7, 8, 9, 10, 11] fun K hK => ?_; simp only [go_sem, seval, hx]; refine hK _ _ ?_
     clear hK K; refine nx ?_
     refine rG hN hk noc [] [0, 5, 6, 7, 8, 9, 10, 11, 46] fun K hK => ?_; simp only [go_sem, seval]; refine hK _ _ ?_
     clear hK K; refine nx ?_
     refine AW.join hk 3 ⟨[(0, .sl 1 (intE l)), (5, .osl 0 hd.length 1), (6, .osl 1 bd.length 1), (7, I ((32 * j : Nat) : Int)), (8, .sl 1 (intE p)), (9, .osl 2 bk.length 1), (10, I k), (11, I g)], [(0, some ⟨5, 1, bytesE hd⟩), (1, some ⟨5, 1, bytesE bd⟩), (2, some ⟨5, 1, bytesE bk⟩)]⟩ ?_ ?_
     · refine AW.condB rfl (fun h => ?_) (fun h => AW.skip (qNext ?_))
       · simp only [gt_iff_lt, decide_eq_true_eq] at h
         have hy := List.getElem?_eq_getElem (show k - 1 < p.length by omega)
         have hy2 : p.getD (k - 1) 0 = p[k - 1] := by simp [List.getD, show k - 1 < p.length by omega]
         rw [if_pos (by omega), hy2] at hgu
         have d1 := wrap64 (n := (k : Int) - 1) (by omega)
         have d2 : ((k : Int) - 1).toNat = k - 1 := by omega
         generalize p[k - 1] = y at *
         have d3 := wrap64 (n := x - y) (by omega)
         rw [← hgu] at d3
         refine nx ?_; refine rG hN hk noc [] [0, 5, 6, 7, 8, 9, 10, 11] fun K hK => ?_; simp only [go_sem, seval, hy, d1, d2, ← hgu, d3]
         first | with_reducible refine hK _ _ ?_ | refine ⟨by omega, hK _ _ ?_⟩ | refine obK (hK _ _ ?_)
         clear hK K; refine nx ?_
         exact mkWk [some 0, some 1, some 2] [] (by simp [wkEnv, wk, lk, I]) (by simp [wkHp, wkHp1, wkEnt, lkh])
       · simp only [gt_iff_lt, decide_eq_false_iff_not] at h
         rw [if_neg (by omega)] at hgu
         rw [hgu]
         exact mkWk [some 0, some 1, some 2] [] (by simp [wkEnv, wk, lk, I]) (by simp [wkHp, wkHp1, wkEnt, lkh])
     refine nx ?_; refine rG hN hk (onc 3 (oc 2 ⟨5, 1, bytesE bk⟩ [.osl 0 bk.length 1, U64 g] (.osl 1 (bk ++ vv).length 1) [none, some ⟨5, 1, bytesE (bk ++ vv)⟩]) noc) [] [0, 5, 6, 7, 8, 9, 10] fun K hK => ?_; simp only [go_sem, seval, c4]
     first | with_reducible refine hK _ _ ?_ | refine ⟨by exact ownOb q2 rfl (by simp) (by simp) rfl (by simp) (by simp) rfl, hK _ _ ?_⟩ | refine obK (hK _ _ ?_)
     clear hK K; refine nx ?_
     refine rG hN hk noc [] [0, 5, 6, 7, 8, 9, 10] fun K hK => ?_; simp only [go_sem, seval, c2]; refine hK _ _ ?_
     clear hK K; refine nx ?_
     exact ⟨k + 1, by omega, by omega, ⟨[some 0, some 1, some 2], [], ⟨by simp [srcIds], by simp [srcIds], by simp⟩, by simp, by simp [wkEnv, wk, lk, I, hbs], by simp [wkHp, wkHp1, wkEnt, lkh, hbs]⟩⟩
   · have c1 : decide ((k : Int) < p.length) = false := by simp; omega
     have : k = p.length := by omega
     subst this
     have hlast : p.length - 1 < p.length := by omega
     have hx := List.getElem?_eq_getElem hlast
     have hx2 : p.getD (p.length - 1) 0 = p[p.length - 1] := by simp [List.getD, hlast]
     have hxr := hget _ hlast
     rw [hx2] at hH
     generalize p[p.length - 1] = x at *
     have c2 := wrap64 (n := (p.length : Int) - 1) (by omega)
     have c3 : ((p.length : Int) - 1).toNat = p.length - 1 := by omega
     have c4 : IntKind.u64.wrap x = ((x.toNat : Nat) : Int) := by rw [IntWalk.u64_in _ (by omega)]; omega
     generalize blk25 p p.length = bk at *
     have c5 : IntKind.u64.wrap (bk.length : Int) = bk.length := IntWalk.u64_in _ (by omega)
     have q2 := putVarint hd x.toNat (by omega) (by omega)
     have hv1 := varint_len x.toNat
     have q3 := putVarint (hd ++ varint x.toNat) bk.length (by omega) (by simp; omega)
     generalize varint x.toNat = v1 at *
     generalize varint bk.length = v2 at *
     refine nx ?_; refine rG hN hk noc [] [0, 5, 6, 7, 8, 9, 38] fun K hK => ?_; simp only [go_sem, seval, c1]; refine hK _ _ ?_
     clear hK K; refine nx ?_
     refine AW.condF rfl (AW.exit (qThen (qThen (qHere (qNext ?_)))))
     refine nx ?_; refine rG hN hk (onc 8 (oc 0 ⟨5, 1, bytesE hd⟩ [.osl 0 hd.length 1, U64 ((x.toNat : Nat) : Int)] (.osl 1 (hd ++ v1).length 1) [none, some ⟨5, 1, bytesE (hd ++ v1)⟩]) (onc 12 (oc 67 ⟨5, 1, bytesE (hd ++ v1)⟩ [.osl 0 (hd ++ v1).length 1, U64 bk.length] (.osl 1 (hd ++ v1 ++ v2).length 1) [none, some ⟨5, 1, bytesE (hd ++ v1 ++ v2)⟩]) noc)) [] [0, 5, 6, 7, 9] fun K hK => ?_; simp only [go_sem, seval, hx, c2, c3, c4, c5]
     refine ⟨⟨⟨by omega, ownOb q2 rfl (by simp) (by simp) rfl (by simp) (by simp) rfl⟩, ownOb q3 rfl (by simp) (by simp) rfl (by simp) (by simp) rfl⟩, hK _ _ ?_⟩
     clear hK K; refine nx ?_
     refine rG hN hk noc [] [0, 5, 6, 7] fun K hK => ?_; simp only [go_sem, seval]
     first | with_reducible refine hK _ _ ?_ | refine ⟨by exact ⟨bytesE_st bk, by omega⟩, hK _ _ ?_⟩ | refine obK (hK _ _ ?_)
     clear hK K; refine nx ?_
     refine rG hN hk noc [] [0, 5, 6, 7] fun K hK => ?_; simp only [go_sem, seval, b2]; refine hK _ _ ?_
     clear hK K; refine nx ?_
     exact ⟨j + 1, by unfold nb25; omega, by unfold nb25; omega, ⟨[some 0, some 1], [], ⟨by simp [srcIds], by simp [srcIds], by simp⟩, by simp, by simp [wkEnv, wk, lk, I, hH, hB, Int.mul_add], by simp [wkHp, wkHp1, wkEnt, lkh, hH, hB]⟩⟩
 · have b1 : decide (((32 * j : Nat) : Int) < l.length) = false := by simp; omega
   have hjn : j = nb25 l := by unfold nb25 at *; omega
   subst hjn
   unfold enc25
   generalize head25 l (nb25 l) = hd at *
   generalize body25 l (nb25 l) = bd at *
   refine nx ?_; refine rG hN hk noc [] [5, 6, 24] fun K hK => ?_; simp only [go_sem, seval, b1]; refine hK _ _ ?_
   clear hK K; refine nx ?_
   refine AW.condF rfl (AW.exit (qThen (qThen (qHere (qNext ?_)))))
   refine nx ?_; refine rG hN hk noc [] [2, 3] fun K hK => ?_; simp only [go_sem, seval]
   first | with_reducible refine hK _ _ ?_ | refine ⟨by exact ⟨bytesE_st bd, by omega⟩, hK _ _ ?_⟩ | refine obK (hK _ _ ?_)
   clear hK K; refine nx ?_
   refine AW.ret (mkRet [some 0] [] rfl ?_ ?_)
   · simp [resOf, lk, wk, wkL, I]
   · simp [wkHp, wkHp1, wkEnt, lkh]
def hv25 (l : List Int) (n : Nat) : Nat := if n % 2 = 0 then lastF l (n / 2) else (blkF l (n / 2)).length
def headH (l : List Int) : Nat → List UInt8
 | 0 => varint l.length
 | n + 1 => headH l n ++ varint (hv25 l n)
def g25 (l : List Int) (i : Nat) : Int := if i % 32 = 0 then l.getD i 0 else l.getD i 0 - l.getD (i - 1) 0
def bodyE (l : List Int) : Nat → List UInt8
 | 0 => []
 | i + 1 => bodyE l i ++ varint (g25 l i).toNat
theorem head_H (l : List Int) : ∀ j, head25 l j = headH l (2 * j)
 | 0 => rfl
 | j + 1 => by
   rw [head25, head_H l j, show 2 * (j + 1) = 2 * j + 1 + 1 by omega, headH, headH]
   have e1 : hv25 l (2 * j) = lastF l j := by unfold hv25; rw [if_pos (by omega)]; congr 1; omega
   have e2 : hv25 l (2 * j + 1) = (blkF l j).length := by unfold hv25; rw [if_neg (by omega)]; congr 2; omega
   rw [e1, e2]
theorem part_getD (l : List Int) (j k : Nat) (hk : k < (part25 l j).length) : (part25 l j).getD k 0 = l.getD (32 * j + k) 0 := by
 obtain ⟨h, e⟩ := part25_get l j k hk
 rw [show (part25 l j).getD k 0 = (part25 l j)[k] by simp [List.getD, hk], e]
 simp [List.getD, h]
theorem gap_g (l : List Int) (j k : Nat) (hk : k < (part25 l j).length) : gap25 (part25 l j) k = g25 l (32 * j + k) := by
 have hl := part25_len l j
 unfold gap25 g25
 rw [part_getD l j k hk]
 by_cases h : 0 < k
 · rw [if_pos h, if_neg (by omega), part_getD l j (k - 1) (by omega), show 32 * j + (k - 1) = 32 * j + k - 1 by omega]
 · rw [if_neg h, if_pos (by omega)]
theorem blk_E (l : List Int) (j : Nat) : ∀ k, k ≤ (part25 l j).length → bodyE l (32 * j) ++ blk25 (part25 l j) k = bodyE l (32 * j + k)
 | 0, _ => by simp [blk25]
 | k + 1, h => by
   rw [blk25, ← List.append_assoc, blk_E l j k (by omega), gap_g l j k (by omega)]
   rfl
theorem body_E (l : List Int) : ∀ j, j ≤ nb25 l → body25 l j = bodyE l (min (32 * j) l.length)
 | 0, _ => by simp [body25, bodyE]
 | j + 1, h => by
   have hl := part25_len l j
   unfold nb25 at h
   rw [body25, body_E l j (by unfold nb25; omega), show min (32 * j) l.length = 32 * j by omega, blkF, blk_E l j _ (Nat.le_refl _)]
   congr 1
   omega
theorem enc25_eq (l : List Int) : enc25 l = headH l (2 * nb25 l) ++ bodyE l l.length := by
 unfold enc25
 rw [head_H, body_E l _ (Nat.le_refl _), show min (32 * nb25 l) l.length = l.length by unfold nb25; omega]
theorem headH_split (l : List Int) (i : Nat) : ∀ j, ∃ t, headH l (i + j) = headH l i ++ t
 | 0 => ⟨[], by simp⟩
 | j + 1 => by
   obtain ⟨t, ht⟩ := headH_split l i j
   exact ⟨t ++ varint (hv25 l (i + j)), by rw [← Nat.add_assoc, headH, ht, List.append_assoc]⟩
theorem bodyE_split (l : List Int) (i : Nat) : ∀ j, ∃ t, bodyE l (i + j) = bodyE l i ++ t
 | 0 => ⟨[], by simp⟩
 | j + 1 => by
   obtain ⟨t, ht⟩ := bodyE_split l i j
   exact ⟨t ++ varint (g25 l (i + j)).toNat, by rw [← Nat.add_assoc, bodyE, ht, List.append_assoc]⟩
theorem enc25_head (l : List Int) (n : Nat) (h : n ≤ 2 * nb25 l) : ∃ t, enc25 l = headH l n ++ t := by
 obtain ⟨t, ht⟩ := headH_split l n (2 * nb25 l - n)
 rw [show n + (2 * nb25 l - n) = 2 * nb25 l by omega] at ht
 exact ⟨t ++ bodyE l l.length, by rw [enc25_eq, ht, List.append_assoc]⟩
theorem enc25_body (l : List Int) (i : Nat) (h : i ≤ l.length) : ∃ t, enc25 l = headH l (2 * nb25 l) ++ bodyE l i ++ t := by
 obtain ⟨t, ht⟩ := bodyE_split l i (l.length - i)
 rw [show i + (l.length - i) = l.length by omega] at ht
 exact ⟨t, by rw [enc25_eq, ht, List.append_assoc]⟩
theorem enc25_len (l : List Int) (hp : Post l) : (enc25 l).length ≤ 100000 := by
 have h1 := head25_len l (nb25 l)
 have h2 := body25_len l (nb25 l)
 have h3 : nb25 l ≤ 128 := by have := hp.len; unfold nb25; omega
 simp only [enc25, List.length_append]
 omega
theorem hv25_lt (l : List Int) (hp : Post l) (n : Nat) (hn : n < 2 * nb25 l) : hv25 l n < 2 ^ 64 := by
 unfold hv25
 split
 · unfold lastF
   have hl := part25_len l (n / 2)
   have hnb : 32 * (n / 2) < l.length := by unfold nb25 at hn; omega
   obtain ⟨h, e⟩ := part25_get l (n / 2) ((part25 l (n / 2)).length - 1) (by omega)
   rw [part_getD _ _ _ (by omega)]
   have := hp.rng _ h
   rw [show l.getD (32 * (n / 2) + ((part25 l (n / 2)).length - 1)) 0 = l[32 * (n / 2) + ((part25 l (n / 2)).length - 1)] by simp [List.getD, h]]
   omega
 · have := blkF_len l (n / 2); omega
theorem decode25 (l : List Int) (hp : Post l) :
   ACall Tryz.prog 65 [.sl 1 (bytesE (enc25 l))] [] (.tup [.osl 0 l.length 1, I 0]) [some ⟨3, 1, intE l⟩] := by
 have hl := hp.len
 have hel := enc25_len l hp
 refine acall 95 0 Tryz.func65 rfl rfl rfl (by simp) rfl rfl ?_
 intro C hN hk
 have q0 := getVarint1 (enc25 l) 0 (by omega) (by omega)
 obtain ⟨t0, ht0⟩ := enc25_head l 0 (by omega)
 rw [show getVarF (enc25 l) 0 = some ((l.length : Int), (headH l 0).length) by
   have := getVar_varint [] t0 l.length (by omega)
   simp only [List.nil_append, List.length_nil, Nat.zero_add] at this
   rw [ht0]; exact this] at q0
 simp only [getRes] at q0
 have q8 := encode25 l hp
 have q9 := sameBytes (enc25 l) (enc25 l) (by omega) (by omega)
 rw [decide_eq_true rfl] at q9
 have hhd := enc25_head l
 have hbd := enc25_body l
 generalize enc25 l = e at *
 have a1 : decide ((l.length : Int) > 4096) = false := by simp; omega
 have a2 := wrap64 (n := (l.length : Int)) (by omega)
 refine nx ?_; refine rG hN hk noc [] [0] fun K hK => ?_; simp only [go_sem, seval]; refine hK _ _ ?_
 clear hK K; refine nx ?_
 refine rG hN hk (onc 1 (pc [.sl 1 (bytesE e), I 0] (.tup [U64 l.length, I (headH l 0).length, B true]) []) noc) [] [0, 4, 5, 6] fun K hK => ?_; simp only [go_sem, seval]
 first | with_reducible refine hK _ _ ?_ | refine ⟨by exact pureOb q0 rfl (by simp), hK _ _ ?_⟩ | refine obK (hK _ _ ?_)
 clear hK K; refine nx ?_
 refine rG hN hk noc [] [0, 4, 5, 26] fun K hK => ?_; simp only [go_sem, seval, a1]; refine hK _ _ ?_
 clear hK K; refine nx ?_
 refine AW.condF rfl (AW.skip (qNext ?_))
 refine nx ?_; refine rG hN hk noc [] [0, 5, 7] fun K hK => ?_; simp only [go_sem, seval, a2]; refine hK _ _ ?_
 clear hK K; refine nx ?_
 refine rG hN hk noc [] [0, 5, 7, 8] fun K hK => ?_; simp only [go_sem, seval]; refine hK _ _ ?_
 clear hK K; refine nx ?_
 have b1 := wrap64 (n := (l.length : Int) + 32) (by omega)
 have b2 := wrap64 (n := (l.length : Int) + 32 - 1) (by omega)
 have b3 : ((l.length : Int) + 32 - 1).tdiv 32 = ((nb25 l : Nat) : Int) := by rw [Int.tdiv_eq_ediv_of_nonneg (by omega)]; unfold nb25; omega
 have hnb : nb25 l ≤ 128 := by unfold nb25; omega
 have b4 := wrap64 (n := ((nb25 l : Nat) : Int)) (by omega)
 have b5 := wrap64 (n := 2 * ((nb25 l : Nat) : Int)) (by omega)
 refine AW.loopF hk 0 (fun n : Nat => ⟨[(0, .sl 1 (bytesE e)), (5, I (headH l n).length), (7, I l.length), (8, I n)], []⟩) (fun n => n ≤ 2 * nb25 l) (fun n => 2 * nb25 l - n) 0 (by omega) ⟨[], [], ⟨by simp [srcIds], by simp [srcIds], by simp⟩, by simp, by simp [wkEnv, wk, lk, I], by simp [wkHp]⟩ ?_
 intro n h1
 by_cases hn : n < 2 * nb25 l
 · have c1 : decide ((n : Int) < 2 * ((nb25 l : Nat) : Int)) = true := by simp; omega
   have c2 := wrap64 (n := (n : Int) + 1) (by omega)
   obtain ⟨t, ht⟩ := hhd (n + 1) (by omega)
   have hlen : (headH l n).length ≤ e.length := by rw [ht, headH]; simp
   have q := getVarint1 e (headH l n).length (by omega) (by omega)
   have hgv := getVar_varint (headH l n) t (hv25 l n) (hv25_lt l hp n hn)
   rw [show headH l n ++ varint (hv25 l n) ++ t = e from ht.symm] at hgv
   rw [hgv] at q
   simp only [getRes] at q
   have hH : (headH l (n + 1)).length = (headH l n).length + (varint (hv25 l n)).length := by rw [headH]; simp
   rw [← hH] at q
   generalize hv25 l n = hv at *
   refine nx ?_; refine rG hN hk noc [] [0, 5, 7, 8, 35] fun K hK => ?_; simp only [go_sem, seval, b1, b2, b3, b4, b5, c1]
   first | with_reducible refine hK _ _ ?_ | refine ⟨by decide, hK _ _ ?_⟩ | refine obK (hK _ _ ?_)
   clear hK K; refine nx ?_
   refine AW.condT rfl (AW.skip (qNext ?_))
   refine nx ?_; refine rG hN hk (onc 2 (pc [.sl 1 (bytesE e), I (headH l n).length] (.tup [U64 hv, I (headH l (n + 1)).length, B true]) []) noc) [] [0, 5, 6, 7, 8] fun K hK => ?_; simp only [go_sem, seval]
   first | with_reducible refine hK _ _ ?_ | refine ⟨by exact pureOb q rfl (by simp), hK _ _ ?_⟩ | refine obK (hK _ _ ?_)
   clear hK K; refine nx ?_
   refine rG hN hk noc [] [0, 5, 7, 8, 46] fun K hK => ?_; simp only [go_sem, seval]; refine hK _ _ ?_
   clear hK K; refine nx ?_
   refine AW.condF rfl (AW.skip (qBlock (qNext ?_)))
   refine nx ?_; refine rG hN hk noc [] [0, 5, 7, 8] fun K hK => ?_; simp only [go_sem, seval, c2]; refine hK _ _ ?_
   clear hK K; refine nx ?_
   exact ⟨n + 1, by omega, by omega, ⟨[], [], ⟨by simp [srcIds], by simp [srcIds], by simp⟩, by simp, by simp [wkEnv, wk, lk, I], by simp [wkHp]⟩⟩
 · have c1 : decide ((n : Int) < 2 * ((nb25 l : Nat) : Int)) = false := by simp; omega
   have : n = 2 * nb25 l := by omega
   subst this
   refine nx ?_; refine rG hN hk noc [] [0, 5, 7, 35] fun K hK => ?_; simp only [go_sem, seval, b1, b2, b3, b4, b5, c1]
   first | with_reducible refine hK _ _ ?_ | refine ⟨by decide, hK _ _ ?_⟩ | refine obK (hK _ _ ?_)
   clear hK K; refine nx ?_
   refine AW.condF rfl (AW.exit (qThen (qThen (qHere (qNext ?_)))))
   generalize headH l (2 * nb25 l) = hd at *
   refine nx ?_; refine rG hN hk noc [] [0, 5, 7, 9] fun K hK => ?_; simp only [go_sem, seval]; refine hK _ _ ?_
   clear hK K; refine nx ?_
   refine rG hN hk noc [] [0, 5, 7, 9, 10] fun K hK => ?_; simp only [go_sem, seval]; refine hK _ _ ?_
   clear hK K; refine nx ?_
   refine AW.loopF hk 1 (fun i : Nat => ⟨[(0, .sl 1 (bytesE e)), (5, I (hd ++ bodyE l i).length), (7, I l.length), (9, .osl 0 i 1), (10, I i)], [(0, some ⟨3, 1, intE (l.take i)⟩)]⟩) (fun i => i ≤ l.length) (fun i => l.length - i) 0 (by omega) ⟨[none], [], ⟨by simp [srcIds], by simp [srcIds], by simp⟩, by simp, by simp [wkEnv, wk, lk, I, bodyE], by simp [wkHp, wkHp1, wkEnt, lkh, intE]⟩ ?_
   intro i h2
   by_cases hi : i < l.length
   · have d1 : decide ((i : Int) < l.length) = true := by simp; omega
     have d2 := wrap64 (n := (i : Int) + 1) (by omega)
     obtain ⟨t, ht⟩ := hbd (i + 1) (by omega)
     have hlen : (hd ++ bodyE l i).length ≤ e.length := by rw [ht, bodyE]; simp
     have hx2 : l.getD i 0 = l[i] := by simp [List.getD, hi]
     have hxr := hp.rng i hi
     have htk : l.take (i + 1) = l.take i ++ [l[i]] := List.take_succ_eq_append_getElem hi
     have htl : (l.take i).length = i := by simp; omega
     have hg : 0 ≤ g25 l i ∧ g25 l i < 4096 ∧ (i % 32 = 0 → g25 l i = l[i]) ∧ (i % 32 ≠ 0 → ∃ y, (l.take i)[i - 1]? = some y ∧ g25 l i + y = l[i] ∧ 0 ≤ y ∧ y < 4096) := by
       unfold g25
       by_cases h : i % 32 = 0
       · rw [if_pos h, hx2]; exact ⟨hxr.1, hxr.2, fun _ => rfl, fun h' => absurd h h'⟩
       · have hi1 : i - 1 < l.length := by omega
         have hy2 : l.getD (i - 1) 0 = l[i - 1] := by simp [List.getD, hi1]
         have hyr := hp.rng (i - 1) hi1
         have asc := hp.asc (i - 1) (by omega)
         have e3 : l[i - 1 + 1]'(by omega) = l[i] := by congr 1; omega
         rw [if_neg h, hx2, hy2]
         refine ⟨by omega, by omega, fun h' => absurd h' h, fun _ => ⟨l[i - 1], ?_, by omega, by omega, by omega⟩⟩
         rw [List.getElem?_take_of_lt (by omega), List.getElem?_eq_getElem hi1]
     have q := getVarint1 e (hd ++ bodyE l i).length (by omega) (by omega)
     have hgv := getVar_varint (hd ++ bodyE l i) t (g25 l i).toNat (by omega)
     rw [show hd ++ bodyE l i ++ varint (g25 l i).toNat ++ t = e by rw [ht, bodyE]; simp [List.append_assoc]] at hgv
     rw [hgv] at q
     simp only [getRes] at q
     have hB : (hd ++ bodyE l (i + 1)).length = (hd ++ bodyE l i).length + (varint (g25 l i).toNat).length := by rw [bodyE]; simp [Nat.add_assoc]
     rw [← hB, show (((g25 l i).toNat : Nat) : Int) = g25 l i by omega] at q
     generalize g25 l i = g at *
     generalize l[i] = x at *
     refine nx ?_; refine rG hN hk noc [] [0, 5, 7, 9, 10, 49] fun K hK => ?_; simp only [go_sem, seval, d1]; refine hK _ _ ?_
     clear hK K; refine nx ?_
     refine AW.condT rfl (AW.skip (qNext ?_))
     refine nx ?_; refine rG hN hk noc [] [0, 5, 7, 9, 10, 11] fun K hK => ?_; simp only [go_sem, seval]; refine hK _ _ ?_
     clear hK K; refine nx ?_
     refine rG hN hk (onc 2 (pc [.sl 1 (bytesE e), I (hd ++ bodyE l i).length] (.tup [U64 g, I (hd ++ bodyE l (i + 1)).length, B true]) []) noc) [] [0, 5, 6, 7, 9, 10, 11] fun K hK => ?_; simp only [go_sem, seval]
     first | with_reducible refine hK _ _ ?_ | refine ⟨by exact pureOb q rfl (by simp), hK _ _ ?_⟩ | refine obK (hK _ _ ?_)
     clear hK K; refine nx ?_
     have d3 : decide (g ≥ 4096) = false := by simp; omega
     refine nx ?_; refine rG hN hk noc [] [0, 5, 7, 9, 10, 11, 64] fun K hK => ?_; simp only [go_sem, seval, d3]; refine hK _ _ ?_
     clear hK K; refine nx ?_
     refine AW.condF rfl (AW.skip (qNext ?_))
     have d4 := wrap64 (n := g) (by omega)
     refine nx ?_; refine rG hN hk noc [] [0, 5, 7, 9, 10, 12] fun K hK => ?_; simp only [go_sem, seval, d4]; refine hK _ _ ?_
     clear hK K; refine nx ?_
     have e3 : (i : Int).tmod 32 = ((i % 32 : Nat) : Int) := by rw [Int.tmod_eq_emod_of_nonneg (by omega)]; omega
     refine nx ?_; refine rG hN hk noc [] [0, 5, 7, 9, 10, 12, 69] fun K hK => ?_; simp only [go_sem, seval, e3]
     first | with_reducible refine hK _ _ ?_ | refine ⟨by decide, hK _ _ ?_⟩ | refine obK (hK _ _ ?_)
     clear hK K; refine nx ?_
     refine AW.join hk 1 ⟨[(0, .sl 1 (bytesE e)), (5, I (hd ++ bodyE l (i + 1)).length), (7, I l.length), (9, .osl 0 i 1), (10, I i), (12, I x)], [(0, some ⟨3, 1, intE (l.take i)⟩)]⟩ ?_ ?_
     · refine AW.condB rfl (fun h => ?_) (fun h => AW.skip (qNext ?_))
       · simp only [bne_iff_ne, ne_eq] at h
         obtain ⟨y, hy, hyx, hy0, hy1⟩ := hg.2.2.2 (by omega)
         have f1 := wrap64 (n := (i : Int) - 1) (by omega)
         have f2 : ((i : Int) - 1).toNat = i - 1 := by omega
         have f3 := wrap64 (n := g + y) (by omega)
         rw [hyx] at f3
         refine nx ?_; refine rG hN hk noc [] [0, 5, 7, 9, 10, 12] fun K hK => ?_; simp only [go_sem, seval, hy, f1, f2, hyx, f3]
         first | with_reducible refine hK _ _ ?_ | refine ⟨by omega, hK _ _ ?_⟩ | refine obK (hK _ _ ?_)
         clear hK K; refine nx ?_
         exact mkWk [some 0] [] (by simp [wkEnv, wk, lk, I]) (by simp [wkHp, wkHp1, wkEnt, lkh])
       · have h' : i % 32 = 0 := by simp at h; omega
         rw [hg.2.2.1 h']
         exact mkWk [some 0] [] (by simp [wkEnv, wk, lk, I]) (by simp [wkHp, wkHp1, wkEnt, lkh])
     refine nx ?_; refine rG hN hk noc [] [0, 5, 7, 9, 10] fun K hK => ?_; simp only [go_sem, seval]
     first | with_reducible refine hK _ _ ?_ | refine ⟨by exact ⟨by simp, by omega, htl⟩, hK _ _ ?_⟩ | refine obK (hK _ _ ?_)
     clear hK K; refine nx ?_
     refine rG hN hk noc [] [0, 5, 7, 9, 10] fun K hK => ?_; simp only [go_sem, seval, d2]; refine hK _ _ ?_
     clear hK K; refine nx ?_
     exact ⟨i + 1, by omega, by omega, ⟨[some 0], [], ⟨by simp [srcIds], by simp [srcIds], by simp⟩, by simp, by simp [wkEnv, wk, lk, I], by simp [wkHp, wkHp1, wkEnt, lkh, htk]⟩⟩
   · have d1 : decide ((i : Int) < l.length) = false := by simp; omega
     have : i = l.length := by omega
     subst this
     rw [List.take_length]
     refine nx ?_; refine rG hN hk noc [] [0, 9, 49] fun K hK => ?_; simp only [go_sem, seval, d1]; refine hK _ _ ?_
     clear hK K; refine nx ?_
     refine AW.condF rfl (AW.exit (qThen (qThen (qHere (qNext ?_)))))
     refine nx ?_; refine rG hN hk (onc 1 (bc [0] [.sl 1 (intE l)] (.tup [.osl 0 e.length 1, I 0]) [some ⟨5, 1, bytesE e⟩]) noc) [] [0, 9, 13, 14] fun K hK => ?_; simp only [go_sem, seval]
     first | with_reducible refine hK _ _ ?_ | refine ⟨by exact borrowOb q8 rfl (by simp) ⟨viewO (by simp) rfl rfl (by simp [intE]) rfl, trivial⟩ rfl (by simp) (by simp [borOb]), hK _ _ ?_⟩ | refine obK (hK _ _ ?_)
     clear hK K; refine nx ?_
     refine rG hN hk (onc 5 (bc [1] [.sl 1 (bytesE e), .sl 1 (bytesE e)] (B true) []) noc) [] [9, 93] fun K hK => ?_; simp only [go_sem, seval, bne_self_eq_false]
     first | with_reducible refine hK _ _ ?_ | refine ⟨by exact borrowOb q9 rfl (by simp) ⟨viewO (by simp) rfl rfl (by simp [bytesE]) rfl, viewR, trivial⟩ rfl (by simp) (by simp [borOb]), hK _ _ ?_⟩ | refine obK (hK _ _ ?_)
     clear hK K; refine nx ?_
     refine AW.condF rfl (AW.skip (qNext ?_))
     refine nx ?_; refine rG hN hk noc [] [2, 3] fun K hK => ?_; simp only [go_sem, seval]; refine hK _ _ ?_
     clear hK K; refine nx ?_
     refine AW.ret (mkRet [some 0] [] rfl ?_ ?_)
     · simp [resOf, lk, wk, wkL, I]
     · simp [wkHp, wkHp1, wkEnt, lkh]
abbrev U32 (n : Int) : AV := .val (.int .u32 n)
def hashTo (s : Int) (w : S) : Nat → Int
 | 0 => bitsOf .xor .u32 2166136261 s
 | i + 1 => IntKind.u32.wrap (bitsOf .xor .u32 (hashTo s w i) (IntKind.u32.wrap ((w.getD i 0).toNat : Int)) * 16777619)
def hashA (h : Int) : Int := bitsOf .xor .u32 h (h.fdiv (2 ^ min (Int.toNat 15) 32))
def hashB (h : Int) : Int := IntKind.u32.wrap (hashA h * 2246822519)
def hashC (h : Int) : Int := bitsOf .xor .u32 (hashB h) ((hashB h).fdiv (2 ^ min (Int.toNat 13) 32))
def hashF (s : Int) (w : S) : Int := hashC (hashTo s w w.length)
theorem hash1 (s : Int) (w : S) (hw : w.length ≤ 2 ^ 40) : ACall Tryz.prog 112 [U32 s, str w] [] (U32 (hashF s w)) [] := by
 refine acall 32 0 Tryz.func112 rfl rfl rfl (by simp) rfl rfl ?_
 intro C hN hk
 refine nx ?_; refine rG hN hk noc [] [0, 1] fun K hK => ?_; simp only [go_sem, seval]; refine hK _ _ ?_
 clear hK K; refine nx ?_
 refine rG hN hk noc [] [1, 5] fun K hK => ?_; simp only [go_sem, seval]; refine hK _ _ ?_
 clear hK K; refine nx ?_
 refine rG hN hk noc [] [1, 5, 6] fun K hK => ?_; simp only [go_sem, seval]; refine hK _ _ ?_
 clear hK K; refine nx ?_
 refine AW.loopF hk 0 (fun i : Nat => ⟨[(1, str w), (5, U32 (hashTo s w i)), (6, I i)], []⟩) (fun i => i ≤ w.length) (fun i => w.length - i) 0 (by omega) ⟨[], [], ⟨by simp [srcIds], by simp [srcIds], by simp⟩, by simp, by simp [wkEnv, wk, lk, I, U32, str, hashTo], by simp [wkHp]⟩ ?_
 intro i h1
 by_cases hi : i < w.length
 · have b1 : decide ((i : Int) < w.length) = true := by simp; omega
   have b2 := wrap64 (n := (i : Int) + 1) (by omega)
   have hx := List.getElem?_eq_getElem hi
   have hx2 : w.getD i 0 = w[i] := by simp [List.getD, hi]
   have hs : hashTo s w (i + 1) = IntKind.u32.wrap (bitsOf .xor .u32 (hashTo s w i) (IntKind.u32.wrap ((w[i]).toNat : Int)) * 16777619) := by rw [hashTo, hx2]
   generalize w[i] = x at *
   refine nx ?_; refine rG hN hk noc [] [1, 5, 6, 12] fun K hK => ?_; simp only [go_sem, seval, b1]; refine hK _ _ ?_
   clear hK K; refine nx ?_
   refine AW.condT rfl (AW.skip (qNext ?_))
   refine nx ?_; refine rG hN hk noc [] [1, 5, 6] fun K hK => ?_; simp only [go_sem, seval, hx]; refine hK _ _ ?_
   clear hK K; refine nx ?_
   refine rG hN hk noc [] [1, 5, 6] fun K hK => ?_; simp only [go_sem, seval, b2]; refine hK _ _ ?_
   clear hK K; refine nx ?_
   exact ⟨i + 1, by omega, by omega, ⟨[], [], ⟨by simp [srcIds], by simp [srcIds], by simp⟩, by simp, by simp [wkEnv, wk, lk, I, str, hs], by simp [wkHp]⟩⟩
 · have b1 : decide ((i : Int) < w.length) = false := by simp; omega
   have : i = w.length := by omega
   subst this
   generalize hh : hashTo s w w.length = h at *
   refine nx ?_; refine rG hN hk noc [] [5, 12] fun K hK => ?_; simp only [go_sem, seval, b1]; refine hK _ _ ?_
   clear hK K; refine nx ?_
   refine AW.condF rfl (AW.exit (qThen (qThen (qHere (qNext ?_)))))
   refine nx ?_; refine rG hN hk noc [] [5] fun K hK => ?_; simp only [go_sem, seval]
   first | with_reducible refine hK _ _ ?_ | refine ⟨by decide, hK _ _ ?_⟩ | refine obK (hK _ _ ?_)
   clear hK K; refine nx ?_
   refine rG hN hk noc [] [5] fun K hK => ?_; simp only [go_sem, seval]; refine hK _ _ ?_
   clear hK K; refine nx ?_
   refine rG hN hk noc [] [4] fun K hK => ?_; simp only [go_sem, seval]
   first | with_reducible refine hK _ _ ?_ | refine ⟨by decide, hK _ _ ?_⟩ | refine obK (hK _ _ ?_)
   clear hK K; refine nx ?_
   refine AW.ret (mkRet [] [] rfl ?_ ?_)
   · simp [resOf, lk, wk, hashF, hashC, hashB, hashA, hh]
   · simp [wkHp]
def u64E (l : List Int) : List (List AV) := l.map fun n => [U64 n]
theorem u64E_len (l : List Int) : (u64E l).length = l.length := by simp [u64E]
theorem u64E_getE (l : List Int) (i : Nat) : (u64E l)[i]? = (l[i]?).map (fun s => [U64 s]) := by simp [u64E]
@[simp] theorem u64E_id (k : Nat) (l : List Int) : idLtE k (u64E l) = true := by
 simp only [idLtE, u64E, List.all_map, List.all_eq_true]
 intro x _
 rfl
@[simp] theorem u64E_st (l : List Int) : (u64E l).all (fun c => c.all storable) = true := by
 simp only [u64E, List.all_map, List.all_eq_true]
 intro x _
 rfl
theorem renC_u64E (L : List Nat) (l : List Int) : renCE L (u64E l) = u64E l := by
 simp only [renCE, u64E, List.map_map]
 apply List.map_congr_left
 intro x _
 rfl
theorem u64E_snoc' (l : List Int) (s : Int) : u64E l ++ [[AV.val (.int .u64 s)]] = u64E (l ++ [s]) := by simp [u64E, U64]
theorem u64E_app (l m : List Int) : u64E l ++ u64E m = u64E (l ++ m) := by simp [u64E]
@[simp] theorem u64E_ns (l : List Int) : noSlE (u64E l) = true := by
 simp only [noSlE, u64E, List.all_map, List.all_eq_true]
 intro x _
 rfl
theorem renE_u64E (ρ : Nat → Nat) (l : List Int) : (u64E l).map (renL ρ) = u64E l := renE_noid ρ (u64E_id 0 l)
@[simp] theorem intE_nil : intE [] = [] := rfl
@[simp] theorem strE_nil : strE [] = [] := rfl
@[simp] theorem bytesE_nil : bytesE [] = [] := rfl
@[simp] theorem u64E_nil : u64E [] = [] := rfl
attribute [go_sem] u64E_len u64E_getE renC_u64E u64E_snoc' u64E_app renE_u64E
theorem u32rng (n : Int) : 0 ≤ IntKind.u32.wrap n ∧ IntKind.u32.wrap n < 4294967296 := ⟨Int.emod_nonneg _ (by decide), Int.emod_lt_of_pos _ (by decide)⟩
theorem hashE (s : Int) (w : S) (hw : w.length ≤ 2 ^ 40) : ∃ v, ACall Tryz.prog 112 [U32 s, str w] [] (U32 v) [] := ⟨_, hash1 s w hw⟩
theorem positions (h : Nat) (hh : h ≤ 8) (b : List Int) (hb0 : 0 < b.length) (hb : b.length ≤ 2 ^ 20) (w : S) (hw : w.length ≤ 2 ^ 40) :
   ACallE Tryz.prog 101 [.agg [I h, .sl 1 (u64E b)], str w] [] (fun x => ∃ p : List Int, x = (.osl 0 p.length 1, [some ⟨3, 1, intE p⟩]) ∧ p.length ≤ 8 ∧ ∀ i ∈ p, 0 ≤ i ∧ i < 64 * b.length) := by
 refine acallE 35 0 Tryz.func101 rfl rfl rfl (by simp) rfl rfl ?_
 obtain ⟨a, q0⟩ := hashE 0 w hw
 obtain ⟨b2, q1⟩ := hashE 1 w hw
 apply EX.step
 · intro xX C hN hk hqX
   refine nx ?_; refine rG hN hk noc [] [1, 2] fun K hK => ?_; simp only [go_sem, seval]; refine hK _ _ ?_
   clear hK K; refine nx ?_
   exact hqX
 apply EX.step
 · intro xX C hN hk hqX
   refine nx ?_; refine rG hN hk (onc 1 (pcq q0) (onc 3 (pcq q1) noc)) [] [2, 5, 6] fun K hK => ?_; simp only [go_sem, seval]; refine obK (hK _ _ ?_)
   clear hK K; refine nx ?_
   exact hqX
 apply EX.step
 · intro xX C hN hk hqX
   refine nx ?_; refine rG hN hk noc [] [2, 5, 6, 7] fun K hK => ?_; simp only [go_sem, seval]; refine hK _ _ ?_
   clear hK K; refine nx ?_
   exact hqX
 apply EX.step
 · intro xX C hN hk hqX
   refine nx ?_; refine rG hN hk noc [] [2, 5, 6, 7, 8] fun K hK => ?_; simp only [go_sem, seval]; refine hK _ _ ?_
   clear hK K; refine nx ?_
   exact hqX
 apply EX.step
 · intro xX C hN hk hqX
   refine nx ?_
   exact hqX
 refine lpX 2 (fun z : Nat × List Int => ⟨[(2, .ptr 0 2 0 0), (5, U32 a), (6, U32 b2), (7, .osl 1 z.2.length 1), (8, I z.1)], [(0, some ⟨151, 2, [[I h, .sl 1 (u64E b)]]⟩), (1, some ⟨3, 1, intE z.2⟩)]⟩) (fun z => z.1 ≤ h ∧ z.2.length = z.1 ∧ ∀ i ∈ z.2, 0 ≤ i ∧ i < 64 * b.length) (fun z => h - z.1) (0, []) (mkWk [some 0, none] [] (by simp [wkEnv, wk, wkL, wkE, lk, I, str, B, U8, U64, U32] <;> omega) (by first | (simp [wkHp, wkHp1, wkEnt, lkh]; done) | (simp [wkHp, wkHp1, wkEnt, lkh, idLtL, idLt, I, str]; done) | simp [wkHp, wkHp1, wkEnt, wkL, wk, wkE, lkh, I, str])) ?_
 intro ⟨i, p⟩ hI Y hY
 simp only at hI ⊢
 obtain ⟨h1, h2, h3⟩ := hI
 by_cases hi : i < h
 · apply EX.step
   · intro xX C hN hk hqX
     refine nx ?_; refine rG hN hk noc [] [2, 5, 6, 7, 8, 16] fun K hK => ?_; simp only [go_sem, seval]
     try simp (disch := omega) only [au]
     refine hK _ _ ?_; clear hK K; refine nx ?_
     exact hqX
   apply EX.step
   · intro xX C hN hk hqX
     refine cT ?_; refine nx ?_
     exact hqX
   obtain ⟨v, hv⟩ : ∃ v, ((IntKind.i64.wrap (IntKind.u32.wrap (a + IntKind.u32.wrap ((i : Int) * b2)))).tmod (64 * b.length)) = v := ⟨_, rfl⟩
   apply EX.step
   · intro xX C hN hk hqX
     refine nx ?_; refine rG hN hk noc [] [2, 5, 6, 7, 8] fun K hK => ?_; simp only [go_sem, seval]
     try simp (disch := omega) only [au, hv]
     (first | with_reducible refine hK _ _ ?_ | refine obK (hK _ _ ?_)); clear hK K; refine nx ?_
     exact hqX
   apply EX.step
   · intro xX C hN hk hqX
     refine nx ?_; refine rG hN hk noc [] [2, 5, 6, 7, 8] fun K hK => ?_; simp only [go_sem, seval]
     try simp (disch := omega) only [au]
     refine hK _ _ ?_; clear hK K; refine nx ?_
     exact hqX
   have hm : 0 < (64 * (b.length : Int)) := by omega
   have hinv : i + 1 ≤ h ∧ (p ++ [v]).length = i + 1 ∧ ∀ j ∈ p ++ [v], 0 ≤ j ∧ j < 64 * (b.length : Int) := by
     refine ⟨by omega, by simp [h2], ?_⟩
     intro j hj
     rcases List.mem_append.1 hj with hj | hj
     · exact h3 j hj
     · rw [List.mem_singleton.1 hj, ← hv]
       have hp : 0 ≤ IntKind.i64.wrap (IntKind.u32.wrap (a + IntKind.u32.wrap ((i : Int) * b2))) := by
         have h5 := u32rng (a + IntKind.u32.wrap ((i : Int) * b2))
         rw [wrap64 (by omega)]; exact h5.1
       exact ⟨Int.tmod_nonneg _ hp, Int.tmod_lt_of_pos _ hm⟩
   refine hY (i + 1, p ++ [v]) (by first | assumption | omega | (simp; done) | ((repeat' apply And.intro) <;> first | assumption | omega | (simp; done) | (simp; omega))) (by first | omega | (simp; omega)) _ _ ⟨[some 0, some 1], [], ⟨by simp [srcIds], by simp [srcIds], by simp⟩, by simp, by simp [wkEnv, wk, wkL, wkE, lk, I, str, B, U8, U64, U32] <;> omega, by first | (simp [wkHp, wkHp1, wkEnt, lkh]; done) | (simp [wkHp, wkHp1, wkEnt, lkh, idLtL, idLt, I, str]; done) | simp [wkHp, wkHp1, wkEnt, wkL, wk, wkE, lkh, I, str]⟩
 · apply EX.step
   · intro xX C hN hk hqX
     refine nx ?_; refine rG hN hk noc [] [2, 5, 6, 7, 8, 16] fun K hK => ?_; simp only [go_sem, seval]
     try simp (disch := omega) only [au]
     refine hK _ _ ?_; clear hK K; refine nx ?_
     exact hqX
   apply EX.step
   · intro xX C hN hk hqX
     refine cF ?_; refine nx ?_
     exact hqX
   apply EX.step
   · intro xX C hN hk hqX
     refine nx ?_; refine rG hN hk noc [] [4] fun K hK => ?_; simp only [go_sem, seval]; refine hK _ _ ?_
     clear hK K; refine nx ?_
     exact hqX
   refine EX.ret (.osl 0 p.length 1) [some ⟨3, 1, intE p⟩] ?_ (fun C hN hk => AW.ret (mkRet [some 0] [] rfl (by simp [resOf, lk, lkh, wk, wkL, wkE, I, str, B, U8, U64, U32] <;> omega) (by first | (simp [wkHp, wkHp1, wkEnt, lkh]; done) | (simp [wkHp, wkHp1, wkEnt, lkh, idLtL, idLt, I, str]; done) | simp [wkHp, wkHp1, wkEnt, wkL, wk, wkE, lkh, I, str])))
   exact ⟨p, rfl, by omega, h3⟩
theorem isAgg_mk (a b : Nat) (d : TypeDesc) (z : List Value) : TI.isAgg ⟨a, b, d, z⟩ = aggD d := rfl
attribute [go_sem ↓] isAgg_mk A7 A8 A13 A14 A18 A19 A25 A26 A30 A31 A47 A48 A58 A59 A69 A70 A72 A73 A75 A76 A80 A81 A128 A129 A130 A131 A150 A151 A178 A179 A181 A182 A189 A190
theorem u64E_rep (n : Nat) : List.replicate n [AV.val (.int .u64 0)] = u64E (List.replicate n 0) := by simp [u64E, U64]
attribute [go_sem] u64E_rep
theorem new26 (m : Nat) (h1 : 1 ≤ m) (h2 : m ≤ 65536) : ACall Tryz.prog 100 [I m, I 3] [] (.tup [.agg [I 3, .osl 0 ((m + 63) / 64) 1], I 0]) [some ⟨85, 1, u64E (List.replicate ((m + 63) / 64) 0)⟩] := by
 refine acall 27 0 Tryz.func100 rfl rfl rfl (by simp) rfl rfl ?_
 intro C hN hk
 have b1 : decide ((m : Int) < 1) = false := dLtF (by omega)
 have b2 : decide ((m : Int) > 65536) = false := dGtF (by omega)
 have w1 := wrap64 (n := (m : Int) + 63) (by omega)
 have w2 : ((m : Int) + 63).tdiv 64 = (((m + 63) / 64 : Nat) : Int) := by
   rw [Int.tdiv_eq_ediv_of_nonneg (by omega)]; omega
 have w3 := wrap64 (n := (((m + 63) / 64 : Nat) : Int)) (by omega)
 refine nx ?_; refine rG hN hk noc [] [0, 1, 4] fun K hK => ?_; simp only [go_sem, seval]; refine hK _ _ ?_
 clear hK K; refine nx ?_
 refine rG hN hk noc [] [0, 1, 4, 19] fun K hK => ?_; simp only [go_sem, seval, b1, b2]
 try simp (disch := omega) only [au]
 try simp only [go_sem, seval, b1, b2]
 iterate 3 try (simp (disch := omega) only [au]; try simp only [go_sem, seval, b1, b2])
 refine hK _ _ ?_; clear hK K; refine nx ?_; refine cF ?_; refine nx ?_; refine rG hN hk noc [] [4, 5] fun K hK => ?_; simp only [go_sem, seval, w1, w2, w3]
 try simp (disch := omega) only [au]
 (first | with_reducible refine hK _ _ ?_ | refine obK (hK _ _ ?_)); clear hK K; refine nx ?_
 refine AW.ret (mkRet [some 1] [] (by simp only [resList, go_sem, seval]; rfl) (by simp [resOf, lk, lkh, wk, wkL, wkE, I, str, B, U8, U64, U32] <;> omega) (by first | (simp [wkHp, wkHp1, wkEnt, lkh]; done) | (simp [wkHp, wkHp1, wkEnt, lkh, idLtL, idLt, I, str]; done) | simp [wkHp, wkHp1, wkEnt, wkL, wk, wkE, lkh, I, str]))
theorem check26 (h : Nat) (b : List Int) (h1 : 1 ≤ h) (h2 : h ≤ 8) (hb : 1 ≤ b.length) (hb2 : b.length ≤ 1024) : ACall Tryz.prog 102 [.agg [I h, .sl 1 (u64E b)]] [] (I 0) [] := by
 refine acall 23 0 Tryz.func102 rfl rfl rfl (by simp) rfl rfl ?_
 intro C hN hk
 have b1 : decide ((h : Int) < 1) = false := dLtF (by omega)
 have b2 : decide ((h : Int) > 8) = false := dGtF (by omega)
 have b3 : decide ((b.length : Int) < 1) = false := dLtF (by omega)
 have b4 : decide ((b.length : Int) > 1024) = false := dGtF (by omega)
 refine nx ?_; refine rG hN hk noc [] [1] fun K hK => ?_; simp only [go_sem, seval]; refine hK _ _ ?_
 clear hK K; refine nx ?_
 refine rG hN hk noc [] [22] fun K hK => ?_; simp only [go_sem, seval, b1, b2, b3, b4]
 try simp (disch := omega) only [au]
 try simp only [go_sem, seval, b1, b2, b3, b4]
 iterate 3 try (simp (disch := omega) only [au]; try simp only [go_sem, seval, b1, b2, b3, b4])
 (first | with_reducible refine hK _ _ ?_ | refine obK (hK _ _ ?_)); clear hK K; refine nx ?_
 refine cF ?_; refine nx ?_; refine rG hN hk noc [] [2] fun K hK => ?_; simp only [go_sem, seval]; refine hK _ _ ?_
 clear hK K; refine nx ?_
 refine AW.ret (mkRet [] [] rfl (by simp [resOf, lk, lkh, wk, wkL, wkE, I, str, B, U8, U64, U32] <;> omega) (by first | (simp [wkHp, wkHp1, wkEnt, lkh]; done) | (simp [wkHp, wkHp1, wkEnt, lkh, idLtL, idLt, I, str]; done) | simp [wkHp, wkHp1, wkEnt, wkL, wk, wkE, lkh, I, str]))
def lowF (c : UInt8) : UInt8 := if (97 ≤ c.toNat ∧ c.toNat ≤ 122) ∨ (48 ≤ c.toNat ∧ c.toNat ≤ 57) ∨ c.toNat = 95 then c else if 65 ≤ c.toNat ∧ c.toNat ≤ 90 then c + 32 else 0
theorem letter27 (c : UInt8) : ACall Tryz.prog 97 [U8 c] [] (U8 (lowF c)) [] := by
 refine acall 32 0 Tryz.func97 rfl rfl rfl (by simp) rfl rfl ?_
 intro C hN hk
 have hc := c.toNat_lt
 by_cases h1 : (97 ≤ c.toNat ∧ c.toNat ≤ 122) ∨ (48 ≤ c.toNat ∧ c.toNat ≤ 57) ∨ c.toNat = 95
 · have e : lowF c = c := by simp [lowF, h1]
   rw [e]
   rcases dq ((c.toNat : Int) ≥ 97) with ⟨p0, e0⟩ | ⟨p0, e0⟩ <;> (try omega) <;> rcases dq ((c.toNat : Int) ≤ 122) with ⟨p1, e1⟩ | ⟨p1, e1⟩ <;> (try omega) <;> rcases dq ((c.toNat : Int) ≥ 48) with ⟨p2, e2⟩ | ⟨p2, e2⟩ <;> (try omega) <;> rcases dq ((c.toNat : Int) ≤ 57) with ⟨p3, e3⟩ | ⟨p3, e3⟩ <;> (try omega) <;> rcases dqE ((c.toNat : Int) ) ( 95) with ⟨p4, e4, f4⟩ | ⟨p4, e4, f4⟩ <;> try omega
   all_goals
     refine nx ?_; refine rG hN hk noc [] [0] fun K hK => ?_; simp only [go_sem, seval, e0, e1, e2, e3, e4]; refine hK _ _ ?_
     clear hK K; refine nx ?_
     refine rG hN hk noc [] [0, 3] fun K hK => ?_; simp only [go_sem, seval, e0, e1, e2, e3, e4]
     try simp (disch := omega) only [au]
     try simp only [go_sem, seval, e0, e1, e2, e3, e4]
     iterate 4 try (simp (disch := omega) only [au]; try simp only [go_sem, seval, e0, e1, e2, e3, e4])
     refine hK _ _ ?_; clear hK K; refine nx ?_; refine cT ?_; refine nx ?_; refine rG hN hk noc [] [2] fun K hK => ?_; simp only [go_sem, seval, e0, e1, e2, e3, e4]; refine hK _ _ ?_
     clear hK K; refine nx ?_
     refine AW.ret (mkRet [] [] rfl (by simp [resOf, lk, lkh, wk, wkL, wkE, I, str, B, U8, U64, U32] <;> omega) (by first | (simp [wkHp, wkHp1, wkEnt, lkh]; done) | (simp [wkHp, wkHp1, wkEnt, lkh, idLtL, idLt, I, str]; done) | simp [wkHp, wkHp1, wkEnt, wkL, wk, wkE, lkh, I, str]))
 · by_cases h2 : 65 ≤ c.toNat ∧ c.toNat ≤ 90
   · have e : ((lowF c).toNat : Int) = (c.toNat : Int) + 32 := by
       rw [lowF, if_neg h1, if_pos h2, UInt8.toNat_add]
       simp; omega
     simp only [U8, e]
     rcases dq ((c.toNat : Int) ≥ 97) with ⟨p0, e0⟩ | ⟨p0, e0⟩ <;> (try omega) <;> rcases dq ((c.toNat : Int) ≤ 122) with ⟨p1, e1⟩ | ⟨p1, e1⟩ <;> (try omega) <;> rcases dq ((c.toNat : Int) ≥ 48) with ⟨p2, e2⟩ | ⟨p2, e2⟩ <;> (try omega) <;> rcases dq ((c.toNat : Int) ≤ 57) with ⟨p3, e3⟩ | ⟨p3, e3⟩ <;> (try omega) <;> rcases dqE ((c.toNat : Int) ) ( 95) with ⟨p4, e4, f4⟩ | ⟨p4, e4, f4⟩ <;> (try omega) <;> rcases dq ((c.toNat : Int) ≥ 65) with ⟨p5, e5⟩ | ⟨p5, e5⟩ <;> (try omega) <;> rcases dq ((c.toNat : Int) ≤ 90) with ⟨p6, e6⟩ | ⟨p6, e6⟩ <;> try omega
     refine nx ?_; refine rG hN hk noc [] [0] fun K hK => ?_; simp only [go_sem, seval, e0, e1, e2, e3, e4, e5, e6]; refine hK _ _ ?_
     clear hK K; refine nx ?_
     refine rG hN hk noc [] [0, 3] fun K hK => ?_; simp only [go_sem, seval, e0, e1, e2, e3, e4, e5, e6]
     try simp (disch := omega) only [au]
     try simp only [go_sem, seval, e0, e1, e2, e3, e4, e5, e6]
     iterate 4 try (simp (disch := omega) only [au]; try simp only [go_sem, seval, e0, e1, e2, e3, e4, e5, e6])
     refine hK _ _ ?_; clear hK K; refine nx ?_; refine cF ?_; refine nx ?_; refine rG hN hk noc [] [0, 23] fun K hK => ?_; simp only [go_sem, seval, e0, e1, e2, e3, e4, e5, e6]
     try simp (disch := omega) only [au]
     try simp only [go_sem, seval, e0, e1, e2, e3, e4, e5, e6]
     refine hK _ _ ?_; clear hK K; refine nx ?_; refine cT ?_; refine nx ?_; refine rG hN hk noc [] [2] fun K hK => ?_; simp only [go_sem, seval, e0, e1, e2, e3, e4, e5, e6]
     try simp (disch := omega) only [au]
     refine hK _ _ ?_; clear hK K; refine nx ?_
     refine AW.ret (mkRet [] [] rfl (by simp [resOf, lk, lkh, wk, wkL, wkE, I, str, B, U8, U64, U32] <;> omega) (by first | (simp [wkHp, wkHp1, wkEnt, lkh]; done) | (simp [wkHp, wkHp1, wkEnt, lkh, idLtL, idLt, I, str]; done) | simp [wkHp, wkHp1, wkEnt, wkL, wk, wkE, lkh, I, str]))
   · have e : lowF c = 0 := by simp [lowF, h1, h2]
     rw [e]
     rcases dq ((c.toNat : Int) ≥ 97) with ⟨p0, e0⟩ | ⟨p0, e0⟩ <;> (try omega) <;> rcases dq ((c.toNat : Int) ≤ 122) with ⟨p1, e1⟩ | ⟨p1, e1⟩ <;> (try omega) <;> rcases dq ((c.toNat : Int) ≥ 48) with ⟨p2, e2⟩ | ⟨p2, e2⟩ <;> (try omega) <;> rcases dq ((c.toNat : Int) ≤ 57) with ⟨p3, e3⟩ | ⟨p3, e3⟩ <;> (try omega) <;> rcases dqE ((c.toNat : Int) ) ( 95) with ⟨p4, e4, f4⟩ | ⟨p4, e4, f4⟩ <;> (try omega) <;> rcases dq ((c.toNat : Int) ≥ 65) with ⟨p5, e5⟩ | ⟨p5, e5⟩ <;> (try omega) <;> rcases dq ((c.toNat : Int) ≤ 90) with ⟨p6, e6⟩ | ⟨p6, e6⟩ <;> try omega
     all_goals
       refine nx ?_; refine rG hN hk noc [] [0] fun K hK => ?_; simp only [go_sem, seval, e0, e1, e2, e3, e4, e5, e6]; refine hK _ _ ?_
       clear hK K; refine nx ?_
       refine rG hN hk noc [] [0, 3] fun K hK => ?_; simp only [go_sem, seval, e0, e1, e2, e3, e4, e5, e6]
       try simp (disch := omega) only [au]
       try simp only [go_sem, seval, e0, e1, e2, e3, e4, e5, e6]
       iterate 4 try (simp (disch := omega) only [au]; try simp only [go_sem, seval, e0, e1, e2, e3, e4, e5, e6])
       refine hK _ _ ?_; clear hK K; refine nx ?_; refine cF ?_; refine nx ?_; refine rG hN hk noc [] [0, 23] fun K hK => ?_; simp only [go_sem, seval, e0, e1, e2, e3, e4, e5, e6]
       try simp (disch := omega) only [au]
       try simp only [go_sem, seval, e0, e1, e2, e3, e4, e5, e6]
       refine hK _ _ ?_; clear hK K; refine nx ?_; refine cF ?_; refine nx ?_; refine rG hN hk noc [] [2] fun K hK => ?_; simp only [go_sem, seval, e0, e1, e2, e3, e4, e5, e6]; refine hK _ _ ?_
       clear hK K; refine nx ?_
       refine AW.ret (mkRet [] [] rfl (by simp [resOf, lk, lkh, wk, wkL, wkE, I, str, B, U8, U64, U32] <;> omega) (by first | (simp [wkHp, wkHp1, wkEnt, lkh]; done) | (simp [wkHp, wkHp1, wkEnt, lkh, idLtL, idLt, I, str]; done) | simp [wkHp, wkHp1, wkEnt, wkL, wk, wkE, lkh, I, str]))
structure Ln where
 off : Int
 len : Int
 text : S
structure Fl where
 name : S
 val : S
def lnC (x : Ln) : List AV := [I x.off, I x.len, str x.text]
def flC (x : Fl) : List AV := [str x.name, str x.val]
def lnE (l : List Ln) : List (List AV) := l.map lnC
theorem lnE_len (l : List Ln) : (lnE l).length = l.length := by simp [lnE]
theorem lnE_getE (l : List Ln) (i : Nat) : (lnE l)[i]? = (l[i]?).map lnC := by simp [lnE]
@[simp] theorem lnE_id (k : Nat) (l : List Ln) : idLtE k (lnE l) = true := by
 simp only [idLtE, lnE, List.all_map, List.all_eq_true]
 intro x _
 rfl
@[simp] theorem lnE_st (l : List Ln) : (lnE l).all (fun c => c.all storable) = true := by
 simp only [lnE, List.all_map, List.all_eq_true]
 intro x _
 rfl
@[simp] theorem lnE_ns (l : List Ln) : noSlE (lnE l) = true := by
 simp only [noSlE, lnE, List.all_map, List.all_eq_true]
 intro x _
 rfl
theorem lnE_drop (l : List Ln) (i : Nat) : (lnE l).drop i = lnE (l.drop i) := by simp [lnE]
theorem lnE_take (l : List Ln) (i : Nat) : (lnE l).take i = lnE (l.take i) := by simp [lnE]
theorem lnE_ren (L : List Nat) (l : List Ln) : renCE L (lnE l) = lnE l := by
 simp only [renCE, lnE, List.map_map]
 apply List.map_congr_left
 intro x _
 rfl
theorem lnE_renE (ρ : Nat → Nat) (l : List Ln) : (lnE l).map (renL ρ) = lnE l := renE_noid ρ (lnE_id 0 l)
theorem lnE_snoc (l : List Ln) (x : Ln) : lnE l ++ [[.val (.int .i64 x.off), .val (.int .i64 x.len), .val (.string ⟨x.text.toArray⟩)]] = lnE (l ++ [x]) := by simp [lnE, lnC, I, str]
theorem lnE_snoc' (l : List Ln) (x : Ln) : lnE l ++ [lnC x] = lnE (l ++ [x]) := by simp [lnE]
theorem lnE_app (l m : List Ln) : lnE l ++ lnE m = lnE (l ++ m) := by simp [lnE]
@[simp] theorem lnE_nil : lnE [] = [] := rfl
theorem lnE_set (l : List Ln) (i : Nat) (x : Ln) : (lnE l).set i [.val (.int .i64 x.off), .val (.int .i64 x.len), .val (.string ⟨x.text.toArray⟩)] = lnE (l.set i x) := by simp [lnE, List.map_set, lnC, I, str]
attribute [go_sem] lnE_len lnE_getE lnE_drop lnE_take lnE_ren lnE_renE lnE_snoc lnE_snoc' lnE_app lnE_set lnC
def flE (l : List Fl) : List (List AV) := l.map flC
theorem flE_len (l : List Fl) : (flE l).length = l.length := by simp [flE]
theorem flE_getE (l : List Fl) (i : Nat) : (flE l)[i]? = (l[i]?).map flC := by simp [flE]
@[simp] theorem flE_id (k : Nat) (l : List Fl) : idLtE k (flE l) = true := by
 simp only [idLtE, flE, List.all_map, List.all_eq_true]
 intro x _
 rfl
@[simp] theorem flE_st (l : List Fl) : (flE l).all (fun c => c.all storable) = true := by
 simp only [flE, List.all_map, List.all_eq_true]
 intro x _
 rfl
@[simp] theorem flE_ns (l : List Fl) : noSlE (flE l) = true := by
 simp only [noSlE, flE, List.all_map, List.all_eq_true]
 intro x _
 rfl
theorem flE_drop (l : List Fl) (i : Nat) : (flE l).drop i = flE (l.drop i) := by simp [flE]
theorem flE_take (l : List Fl) (i : Nat) : (flE l).take i = flE (l.take i) := by simp [flE]
theorem flE_ren (L : List Nat) (l : List Fl) : renCE L (flE l) = flE l := by
 simp only [renCE, flE, List.map_map]
 apply List.map_congr_left
 intro x _
 rfl
theorem flE_renE (ρ : Nat → Nat) (l : List Fl) : (flE l).map (renL ρ) = flE l := renE_noid ρ (flE_id 0 l)
theorem flE_snoc (l : List Fl) (x : Fl) : flE l ++ [[.val (.string ⟨x.name.toArray⟩), .val (.string ⟨x.val.toArray⟩)]] = flE (l ++ [x]) := by simp [flE, flC, I, str]
theorem flE_snoc' (l : List Fl) (x : Fl) : flE l ++ [flC x] = flE (l ++ [x]) := by simp [flE]
theorem flE_app (l m : List Fl) : flE l ++ flE m = flE (l ++ m) := by simp [flE]
@[simp] theorem flE_nil : flE [] = [] := rfl
theorem flE_set (l : List Fl) (i : Nat) (x : Fl) : (flE l).set i [.val (.string ⟨x.name.toArray⟩), .val (.string ⟨x.val.toArray⟩)] = flE (l.set i x) := by simp [flE, List.map_set, flC, I, str]
attribute [go_sem] flE_len flE_getE flE_drop flE_take flE_ren flE_renE flE_snoc flE_snoc' flE_app flE_set flC
structure Ev where
 host : Int
 file : Int
 frm : Int
 to : Int
 lines : List Ln
 time : Int
 weight : Int
 trace : S
 stream : S
 fields : List Fl
def evC (x : Ev) : List AV := [I x.host, I x.file, I x.frm, I x.to, .sl 3 (lnE x.lines), I x.time, I x.weight, str x.trace, str x.stream, .sl 2 (flE x.fields)]
def evE (l : List Ev) : List (List AV) := l.map evC
theorem evE_len (l : List Ev) : (evE l).length = l.length := by simp [evE]
theorem evE_getE (l : List Ev) (i : Nat) : (evE l)[i]? = (l[i]?).map evC := by simp [evE]
@[simp] theorem evE_id (k : Nat) (l : List Ev) : idLtE k (evE l) = true := by
 simp only [idLtE, evE, List.all_map, List.all_eq_true]
 intro x _
 rfl
@[simp] theorem evE_st (l : List Ev) : (evE l).all (fun c => c.all storable) = true := by
 simp only [evE, List.all_map, List.all_eq_true]
 intro x _
 rfl
theorem evE_drop (l : List Ev) (i : Nat) : (evE l).drop i = evE (l.drop i) := by simp [evE]
theorem evE_take (l : List Ev) (i : Nat) : (evE l).take i = evE (l.take i) := by simp [evE]
theorem evE_ren (L : List Nat) (l : List Ev) : renCE L (evE l) = evE l := by
 simp only [renCE, evE, List.map_map]
 apply List.map_congr_left
 intro x _
 rfl
theorem evE_renE (ρ : Nat → Nat) (l : List Ev) : (evE l).map (renL ρ) = evE l := renE_noid ρ (evE_id 0 l)
theorem evE_snoc (l : List Ev) (x : Ev) : evE l ++ [[.val (.int .i64 x.host), .val (.int .i64 x.file), .val (.int .i64 x.frm), .val (.int .i64 x.to), .sl 3 (lnE x.lines), .val (.int .i64 x.time), .val (.int .i64 x.weight), .val (.string ⟨x.trace.toArray⟩), .val (.string ⟨x.stream.toArray⟩), .sl 2 (flE x.fields)]] = evE (l ++ [x]) := by simp [evE, evC, I, str]
theorem evE_snoc' (l : List Ev) (x : Ev) : evE l ++ [evC x] = evE (l ++ [x]) := by simp [evE]
theorem evE_app (l m : List Ev) : evE l ++ evE m = evE (l ++ m) := by simp [evE]
@[simp] theorem evE_nil : evE [] = [] := rfl
theorem evE_set (l : List Ev) (i : Nat) (x : Ev) : (evE l).set i [.val (.int .i64 x.host), .val (.int .i64 x.file), .val (.int .i64 x.frm), .val (.int .i64 x.to), .sl 3 (lnE x.lines), .val (.int .i64 x.time), .val (.int .i64 x.weight), .val (.string ⟨x.trace.toArray⟩), .val (.string ⟨x.stream.toArray⟩), .sl 2 (flE x.fields)] = evE (l.set i x) := by simp [evE, List.map_set, evC, I, str]
attribute [go_sem] evE_len evE_getE evE_drop evE_take evE_ren evE_renE evE_snoc evE_snoc' evE_app evE_set evC
def bbC (x : List UInt8) : List AV := [.sl 1 (bytesE x)]
def elC (x : List Ev) : List AV := [.sl 10 (evE x)]
def llC (x : List Ln) : List AV := [.sl 3 (lnE x)]
def ffC (x : List Fl) : List AV := [.sl 2 (flE x)]
def iiC (x : List Int) : List AV := [.sl 1 (intE x)]
def bbE (l : List (List UInt8)) : List (List AV) := l.map bbC
theorem bbE_len (l : List (List UInt8)) : (bbE l).length = l.length := by simp [bbE]
theorem bbE_getE (l : List (List UInt8)) (i : Nat) : (bbE l)[i]? = (l[i]?).map bbC := by simp [bbE]
@[simp] theorem bbE_id (k : Nat) (l : List (List UInt8)) : idLtE k (bbE l) = true := by
 simp only [idLtE, bbE, List.all_map, List.all_eq_true]
 intro x _
 rfl
@[simp] theorem bbE_st (l : List (List UInt8)) : (bbE l).all (fun c => c.all storable) = true := by
 simp only [bbE, List.all_map, List.all_eq_true]
 intro x _
 rfl
theorem bbE_drop (l : List (List UInt8)) (i : Nat) : (bbE l).drop i = bbE (l.drop i) := by simp [bbE]
theorem bbE_take (l : List (List UInt8)) (i : Nat) : (bbE l).take i = bbE (l.take i) := by simp [bbE]
theorem bbE_ren (L : List Nat) (l : List (List UInt8)) : renCE L (bbE l) = bbE l := by
 simp only [renCE, bbE, List.map_map]
 apply List.map_congr_left
 intro x _
 rfl
theorem bbE_renE (ρ : Nat → Nat) (l : List (List UInt8)) : (bbE l).map (renL ρ) = bbE l := renE_noid ρ (bbE_id 0 l)
theorem bbE_snoc (l : List (List UInt8)) (x : (List UInt8)) : bbE l ++ [[.sl 1 (bytesE x)]] = bbE (l ++ [x]) := by simp [bbE, bbC, I, str]
theorem bbE_snoc' (l : List (List UInt8)) (x : (List UInt8)) : bbE l ++ [bbC x] = bbE (l ++ [x]) := by simp [bbE]
theorem bbE_app (l m : List (List UInt8)) : bbE l ++ bbE m = bbE (l ++ m) := by simp [bbE]
@[simp] theorem bbE_nil : bbE [] = [] := rfl
theorem bbE_set (l : List (List UInt8)) (i : Nat) (x : (List UInt8)) : (bbE l).set i [.sl 1 (bytesE x)] = bbE (l.set i x) := by simp [bbE, List.map_set, bbC, I, str]
attribute [go_sem] bbE_len bbE_getE bbE_drop bbE_take bbE_ren bbE_renE bbE_snoc bbE_snoc' bbE_app bbE_set bbC
def elE (l : List (List Ev)) : List (List AV) := l.map elC
theorem elE_len (l : List (List Ev)) : (elE l).length = l.length := by simp [elE]
theorem elE_getE (l : List (List Ev)) (i : Nat) : (elE l)[i]? = (l[i]?).map elC := by simp [elE]
@[simp] theorem elE_id (k : Nat) (l : List (List Ev)) : idLtE k (elE l) = true := by
 simp only [idLtE, elE, List.all_map, List.all_eq_true]
 intro x _
 rfl
@[simp] theorem elE_st (l : List (List Ev)) : (elE l).all (fun c => c.all storable) = true := by
 simp only [elE, List.all_map, List.all_eq_true]
 intro x _
 rfl
theorem elE_drop (l : List (List Ev)) (i : Nat) : (elE l).drop i = elE (l.drop i) := by simp [elE]
theorem elE_take (l : List (List Ev)) (i : Nat) : (elE l).take i = elE (l.take i) := by simp [elE]
theorem elE_ren (L : List Nat) (l : List (List Ev)) : renCE L (elE l) = elE l := by
 simp only [renCE, elE, List.map_map]
 apply List.map_congr_left
 intro x _
 rfl
theorem elE_renE (ρ : Nat → Nat) (l : List (List Ev)) : (elE l).map (renL ρ) = elE l := renE_noid ρ (elE_id 0 l)
theorem elE_snoc (l : List (List Ev)) (x : (List Ev)) : elE l ++ [[.sl 10 (evE x)]] = elE (l ++ [x]) := by simp [elE, elC, I, str]
theorem elE_snoc' (l : List (List Ev)) (x : (List Ev)) : elE l ++ [elC x] = elE (l ++ [x]) := by simp [elE]
theorem elE_app (l m : List (List Ev)) : elE l ++ elE m = elE (l ++ m) := by simp [elE]
@[simp] theorem elE_nil : elE [] = [] := rfl
theorem elE_set (l : List (List Ev)) (i : Nat) (x : (List Ev)) : (elE l).set i [.sl 10 (evE x)] = elE (l.set i x) := by simp [elE, List.map_set, elC, I, str]
attribute [go_sem] elE_len elE_getE elE_drop elE_take elE_ren elE_renE elE_snoc elE_snoc' elE_app elE_set elC
def llE (l : List (List Ln)) : List (List AV) := l.map llC
theorem llE_len (l : List (List Ln)) : (llE l).length = l.length := by simp [llE]
theorem llE_getE (l : List (List Ln)) (i : Nat) : (llE l)[i]? = (l[i]?).map llC := by simp [llE]
@[simp] theorem llE_id (k : Nat) (l : List (List Ln)) : idLtE k (llE l) = true := by
 simp only [idLtE, llE, List.all_map, List.all_eq_true]
 intro x _
 rfl
@[simp] theorem llE_st (l : List (List Ln)) : (llE l).all (fun c => c.all storable) = true := by
 simp only [llE, List.all_map, List.all_eq_true]
 intro x _
 rfl
theorem llE_drop (l : List (List Ln)) (i : Nat) : (llE l).drop i = llE (l.drop i) := by simp [llE]
theorem llE_take (l : List (List Ln)) (i : Nat) : (llE l).take i = llE (l.take i) := by simp [llE]
theorem llE_ren (L : List Nat) (l : List (List Ln)) : renCE L (llE l) = llE l := by
 simp only [renCE, llE, List.map_map]
 apply List.map_congr_left
 intro x _
 rfl
theorem llE_renE (ρ : Nat → Nat) (l : List (List Ln)) : (llE l).map (renL ρ) = llE l := renE_noid ρ (llE_id 0 l)
theorem llE_snoc (l : List (List Ln)) (x : (List Ln)) : llE l ++ [[.sl 3 (lnE x)]] = llE (l ++ [x]) := by simp [llE, llC, I, str]
theorem llE_snoc' (l : List (List Ln)) (x : (List Ln)) : llE l ++ [llC x] = llE (l ++ [x]) := by simp [llE]
theorem llE_app (l m : List (List Ln)) : llE l ++ llE m = llE (l ++ m) := by simp [llE]
@[simp] theorem llE_nil : llE [] = [] := rfl
theorem llE_set (l : List (List Ln)) (i : Nat) (x : (List Ln)) : (llE l).set i [.sl 3 (lnE x)] = llE (l.set i x) := by simp [llE, List.map_set, llC, I, str]
attribute [go_sem] llE_len llE_getE llE_drop llE_take llE_ren llE_renE llE_snoc llE_snoc' llE_app llE_set llC
def ffE (l : List (List Fl)) : List (List AV) := l.map ffC
theorem ffE_len (l : List (List Fl)) : (ffE l).length = l.length := by simp [ffE]
theorem ffE_getE (l : List (List Fl)) (i : Nat) : (ffE l)[i]? = (l[i]?).map ffC := by simp [ffE]
@[simp] theorem ffE_id (k : Nat) (l : List (List Fl)) : idLtE k (ffE l) = true := by
 simp only [idLtE, ffE, List.all_map, List.all_eq_true]
 intro x _
 rfl
@[simp] theorem ffE_st (l : List (List Fl)) : (ffE l).all (fun c => c.all storable) = true := by
 simp only [ffE, List.all_map, List.all_eq_true]
 intro x _
 rfl
theorem ffE_drop (l : List (List Fl)) (i : Nat) : (ffE l).drop i = ffE (l.drop i) := by simp [ffE]
theorem ffE_take (l : List (List Fl)) (i : Nat) : (ffE l).take i = ffE (l.take i) := by simp [ffE]
theorem ffE_ren (L : List Nat) (l : List (List Fl)) : renCE L (ffE l) = ffE l := by
 simp only [renCE, ffE, List.map_map]
 apply List.map_congr_left
 intro x _
 rfl
theorem ffE_renE (ρ : Nat → Nat) (l : List (List Fl)) : (ffE l).map (renL ρ) = ffE l := renE_noid ρ (ffE_id 0 l)
theorem ffE_snoc (l : List (List Fl)) (x : (List Fl)) : ffE l ++ [[.sl 2 (flE x)]] = ffE (l ++ [x]) := by simp [ffE, ffC, I, str]
theorem ffE_snoc' (l : List (List Fl)) (x : (List Fl)) : ffE l ++ [ffC x] = ffE (l ++ [x]) := by simp [ffE]
theorem ffE_app (l m : List (List Fl)) : ffE l ++ ffE m = ffE (l ++ m) := by simp [ffE]
@[simp] theorem ffE_nil : ffE [] = [] := rfl
theorem ffE_set (l : List (List Fl)) (i : Nat) (x : (List Fl)) : (ffE l).set i [.sl 2 (flE x)] = ffE (l.set i x) := by simp [ffE, List.map_set, ffC, I, str]
attribute [go_sem] ffE_len ffE_getE ffE_drop ffE_take ffE_ren ffE_renE ffE_snoc ffE_snoc' ffE_app ffE_set ffC
def iiE (l : List (List Int)) : List (List AV) := l.map iiC
theorem iiE_len (l : List (List Int)) : (iiE l).length = l.length := by simp [iiE]
theorem iiE_getE (l : List (List Int)) (i : Nat) : (iiE l)[i]? = (l[i]?).map iiC := by simp [iiE]
@[simp] theorem iiE_id (k : Nat) (l : List (List Int)) : idLtE k (iiE l) = true := by
 simp only [idLtE, iiE, List.all_map, List.all_eq_true]
 intro x _
 rfl
@[simp] theorem iiE_st (l : List (List Int)) : (iiE l).all (fun c => c.all storable) = true := by
 simp only [iiE, List.all_map, List.all_eq_true]
 intro x _
 rfl
theorem iiE_drop (l : List (List Int)) (i : Nat) : (iiE l).drop i = iiE (l.drop i) := by simp [iiE]
theorem iiE_take (l : List (List Int)) (i : Nat) : (iiE l).take i = iiE (l.take i) := by simp [iiE]
theorem iiE_ren (L : List Nat) (l : List (List Int)) : renCE L (iiE l) = iiE l := by
 simp only [renCE, iiE, List.map_map]
 apply List.map_congr_left
 intro x _
 rfl
theorem iiE_renE (ρ : Nat → Nat) (l : List (List Int)) : (iiE l).map (renL ρ) = iiE l := renE_noid ρ (iiE_id 0 l)
theorem iiE_snoc (l : List (List Int)) (x : (List Int)) : iiE l ++ [[.sl 1 (intE x)]] = iiE (l ++ [x]) := by simp [iiE, iiC, I, str]
theorem iiE_snoc' (l : List (List Int)) (x : (List Int)) : iiE l ++ [iiC x] = iiE (l ++ [x]) := by simp [iiE]
theorem iiE_app (l m : List (List Int)) : iiE l ++ iiE m = iiE (l ++ m) := by simp [iiE]
@[simp] theorem iiE_nil : iiE [] = [] := rfl
theorem iiE_set (l : List (List Int)) (i : Nat) (x : (List Int)) : (iiE l).set i [.sl 1 (intE x)] = iiE (l.set i x) := by simp [iiE, List.map_set, iiC, I, str]
attribute [go_sem] iiE_len iiE_getE iiE_drop iiE_take iiE_ren iiE_renE iiE_snoc iiE_snoc' iiE_app iiE_set iiC
end Go.Proofs.YtceeklfmlheofaaGreat
