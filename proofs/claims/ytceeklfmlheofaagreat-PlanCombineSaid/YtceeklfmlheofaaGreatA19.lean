/-
  Part 19 of the proof that logtidelaw41.PlanCombine returns true for every list of bytes and leaves its argument as it was; no condition.
-/
import Derived.Test.YtceeklfmlheofaaGreatA18
set_option linter.unusedSimpArgs false
set_option linter.unusedVariables false
namespace Go.Proofs.YtceeklfmlheofaaGreat
open Go.Av
attribute [local irreducible] ACall
theorem wrapI_range (n : Int) : In64 (IntKind.i64.wrap n) := by
 have e1 : ((2 : Int) ^ IntKind.i64.bits) = 18446744073709551616 := by decide
 have e2 : IntKind.i64.signed = true := rfl
 have e3 : ((2 : Int) ^ (IntKind.i64.bits - 1)) = 9223372036854775808 := by decide
 unfold In64 IntKind.wrap
 simp only [e1, e2, e3, Bool.true_and, ge_iff_le, decide_eq_true_eq]
 split <;> omega
theorem wrapI_add (x y : Int) (hx : In64 x) : IntKind.i64.wrap (y + IntKind.i64.wrap (x - y)) = x := by
 obtain ⟨h1, h2⟩ := hx
 have e1 : ((2 : Int) ^ IntKind.i64.bits) = 18446744073709551616 := by decide
 have e2 : IntKind.i64.signed = true := rfl
 have e3 : ((2 : Int) ^ (IntKind.i64.bits - 1)) = 9223372036854775808 := by decide
 unfold IntKind.wrap
 simp only [e1, e2, e3, Bool.true_and, ge_iff_le, decide_eq_true_eq]
 split <;> split <;> omega
theorem pl24_split (v : List Int) (i : Nat) : ∀ j, ∃ t, pl24 v (i + j) = pl24 v i ++ t
 | 0 => ⟨[], by simp⟩
 | j + 1 => by
   obtain ⟨t, ht⟩ := pl24_split v i j
   exact ⟨t ++ putIntF (v.getD (i + j) 0), by rw [← Nat.add_assoc, pl24, ht, List.append_assoc]⟩
theorem pl24_tail (v : List Int) (i : Nat) (h : i ≤ v.length) : ∃ t, pl24 v v.length = pl24 v i ++ t := by
 obtain ⟨t, ht⟩ := pl24_split v i (v.length - i)
 rw [show i + (v.length - i) = v.length by omega] at ht
 exact ⟨t, ht⟩
theorem valuesPlain (v : List Int) (hl : v.length ≤ 16384) (hv : ∀ x ∈ v, In64 x) :
   ACall Tryz.prog 61 [.sl 1 (bytesE (pl24 v v.length)), I (hd24 0 v).length, I v.length, I 0] [] (.tup [.osl 0 v.length 1, B true]) [some ⟨3, 1, intE v⟩] := by
 refine acall 89 0 Tryz.func61 rfl rfl rfl (by simp) rfl rfl ?_
 intro C hN hk
 have a7 : ((0 : Int) == 2) = false := by decide
 have a8 : ((0 : Int) == 1) = false := by decide
 have hel := pl24_len v v.length
 refine nx ?_; refine rG hN hk noc [] [0, 1, 2, 3] fun K hK => ?_; simp only [go_sem, seval]; refine hK _ _ ?_
 clear hK K; refine nx ?_
 refine rG hN hk noc [] [0, 1, 2, 3, 10] fun K hK => ?_; simp only [go_sem, seval]; refine hK _ _ ?_
 clear hK K; refine nx ?_
 refine AW.loopF hk 1 (fun i : Nat => ⟨[(0, .sl 1 (bytesE (pl24 v v.length))), (1, I (pl24 v i).length), (2, I v.length), (3, I 0), (10, .osl 0 i 1)], [(0, some ⟨3, 1, intE (v.take i)⟩)]⟩) (fun i => i ≤ v.length) (fun i => v.length - i) 0 (by omega) ⟨[none], [], ⟨by simp [srcIds], by simp [srcIds], by simp⟩, by simp, by simp [wkEnv, wk, lk, I, pl24], by simp [wkHp, wkHp1, wkEnt, lkh, intE]⟩ ?_
 intro i h1
 by_cases hi : i < v.length
 · have b1 : decide ((i : Int) < v.length) = true := by simp; omega
   have hx := List.getElem?_eq_getElem hi
   have hx2 : v.getD i 0 = v[i] := by simp [List.getD, hi]
   have hxr := hv _ (List.getElem_mem hi)
   have htk : v.take (i + 1) = v.take i ++ [v[i]] := List.take_succ_eq_append_getElem hi
   have htl : (v.take i).length = i := by simp; omega
   obtain ⟨t1, ht1⟩ := pl24_tail v (i + 1) (by omega)
   have hpk : pl24 v (i + 1) = pl24 v i ++ putIntF (v.getD i 0) := rfl
   rw [hpk] at ht1
   rw [hx2] at hpk ht1
   generalize v[i] = x at *
   have q := getInt_put (pl24 v i) t1 (pl24 v v.length) (x) hxr ht1 (by omega)
   rw [← hpk] at q
   refine nx ?_; refine rG hN hk noc [] [0, 1, 2, 3, 10, 20] fun K hK => ?_; simp only [go_sem, seval, b1]; refine hK _ _ ?_
   clear hK K; refine nx ?_
   refine AW.condT rfl (AW.skip (qNext ?_))
   generalize pl24 v v.length = e at *
   refine nx ?_; refine rG hN hk (onc 2 (pc [.sl 1 (bytesE e), I (pl24 v i).length] (.tup [I (x), I (pl24 v (i + 1)).length, B true]) []) noc) [] [0, 2, 3, 10, 11, 12, 13] fun K hK => ?_; simp only [go_sem, seval]
   first | with_reducible refine hK _ _ ?_ | refine ⟨by exact pureOb q rfl (by simp), hK _ _ ?_⟩ | refine obK (hK _ _ ?_)
   clear hK K; refine nx ?_
   refine rG hN hk noc [] [0, 2, 3, 10, 11, 12, 29] fun K hK => ?_; simp only [go_sem, seval]; refine hK _ _ ?_
   clear hK K; refine nx ?_
   refine AW.condF rfl (AW.skip (qNext ?_))
   refine nx ?_; refine rG hN hk noc [] [0, 1, 2, 3, 10, 11] fun K hK => ?_; simp only [go_sem, seval]; refine hK _ _ ?_
   clear hK K; refine nx ?_
   refine rG hN hk noc [] [0, 1, 2, 3, 10, 11, 35] fun K hK => ?_; simp only [go_sem, seval, a7]; refine hK _ _ ?_
   clear hK K; refine nx ?_
   refine cF ?_; refine nx ?_; refine rG hN hk noc [] [0, 1, 2, 3, 10, 11, 69] fun K hK => ?_; simp only [go_sem, seval, a8]; refine hK _ _ ?_
   clear hK K; refine nx ?_
   refine cF ?_; refine nx ?_; refine rG hN hk noc [] [0, 1, 2, 3, 10] fun K hK => ?_; simp only [go_sem, seval]
   first | with_reducible refine hK _ _ ?_ | refine ⟨by exact ⟨by simp, by omega, htl⟩, hK _ _ ?_⟩ | refine obK (hK _ _ ?_)
   clear hK K; refine nx ?_
   exact ⟨i + 1, by omega, by omega, ⟨[some 0], [], ⟨by simp [srcIds], by simp [srcIds], by simp⟩, by simp, by simp [wkEnv, wk, lk, I], by simp [wkHp, wkHp1, wkEnt, lkh, htk]⟩⟩
 · have b1 : decide ((i : Int) < v.length) = false := by simp; omega
   have : i = v.length := by omega
   subst this
   rw [List.take_length]
   refine nx ?_; refine rG hN hk noc [] [10, 20] fun K hK => ?_; simp only [go_sem, seval, b1]; refine hK _ _ ?_
   clear hK K; refine nx ?_
   refine AW.condF rfl (AW.exit (qThen (qThen (qHere (qNext ?_)))))
   refine nx ?_; refine rG hN hk noc [] [8, 9] fun K hK => ?_; simp only [go_sem, seval]; refine hK _ _ ?_
   clear hK K; refine nx ?_
   refine AW.ret (mkRet [some 0] [] rfl ?_ ?_)
   · simp [resOf, lk, wk, wkL, I, B]
   · simp [wkHp, wkHp1, wkEnt, lkh]
theorem de24_split (v : List Int) (i : Nat) : ∀ j, ∃ t, de24 v (i + j) = de24 v i ++ t
 | 0 => ⟨[], by simp⟩
 | j + 1 => by
   obtain ⟨t, ht⟩ := de24_split v i j
   exact ⟨t ++ putIntF (de24V v (i + j)), by rw [← Nat.add_assoc, de24, ht, List.append_assoc]⟩
theorem de24_tail (v : List Int) (i : Nat) (h : i ≤ v.length) : ∃ t, de24 v v.length = de24 v i ++ t := by
 obtain ⟨t, ht⟩ := de24_split v i (v.length - i)
 rw [show i + (v.length - i) = v.length by omega] at ht
 exact ⟨t, ht⟩
theorem valuesDelta (v : List Int) (hl : v.length ≤ 16384) (hv : ∀ x ∈ v, In64 x) :
   ACall Tryz.prog 61 [.sl 1 (bytesE (de24 v v.length)), I (hd24 1 v).length, I v.length, I 1] [] (.tup [.osl 0 v.length 1, B true]) [some ⟨3, 1, intE v⟩] := by
 refine acall 89 0 Tryz.func61 rfl rfl rfl (by simp) rfl rfl ?_
 intro C hN hk
 have a7 : ((1 : Int) == 2) = false := by decide
 have a8 : ((1 : Int) == 1) = true := by decide
 have hel := de24_len v v.length
 refine nx ?_; refine rG hN hk noc [] [0, 1, 2, 3] fun K hK => ?_; simp only [go_sem, seval]; refine hK _ _ ?_
 clear hK K; refine nx ?_
 refine rG hN hk noc [] [0, 1, 2, 3, 10] fun K hK => ?_; simp only [go_sem, seval]; refine hK _ _ ?_
 clear hK K; refine nx ?_
 refine AW.loopF hk 1 (fun i : Nat => ⟨[(0, .sl 1 (bytesE (de24 v v.length))), (1, I (de24 v i).length), (2, I v.length), (3, I 1), (10, .osl 0 i 1)], [(0, some ⟨3, 1, intE (v.take i)⟩)]⟩) (fun i => i ≤ v.length) (fun i => v.length - i) 0 (by omega) ⟨[none], [], ⟨by simp [srcIds], by simp [srcIds], by simp⟩, by simp, by simp [wkEnv, wk, lk, I, de24], by simp [wkHp, wkHp1, wkEnt, lkh, intE]⟩ ?_
 intro i h1
 by_cases hi : i < v.length
 · have b1 : decide ((i : Int) < v.length) = true := by simp; omega
   have hx := List.getElem?_eq_getElem hi
   have hx2 : v.getD i 0 = v[i] := by simp [List.getD, hi]
   have hxr := hv _ (List.getElem_mem hi)
   have htk : v.take (i + 1) = v.take i ++ [v[i]] := List.take_succ_eq_append_getElem hi
   have htl : (v.take i).length = i := by simp; omega
   obtain ⟨t1, ht1⟩ := de24_tail v (i + 1) (by omega)
   have hpk : de24 v (i + 1) = de24 v i ++ putIntF (de24V v i) := rfl
   rw [hpk] at ht1
   by_cases hi0 : 0 < i
   · have b3 : decide ((i : Int) > 0) = true := by simp; omega
     have hy := List.getElem?_eq_getElem (show i - 1 < v.length by omega)
     have hyr := hv _ (List.getElem_mem (show i - 1 < v.length by omega))
     have hy2 : v.getD (i - 1) 0 = v[i - 1] := by simp [List.getD, show i - 1 < v.length by omega]
     have hy3 : (v.take i)[i - 1]? = some v[i - 1] := by rw [List.getElem?_take_of_lt (by omega)]; exact hy
     rw [de24V, if_pos hi0, hx2, hy2] at hpk ht1
     generalize v[i] = x at *
     generalize v[i - 1] = y at *
     have hzr := wrapI_range (x - y)
     have hzz := wrapI_add x y hxr
     generalize IntKind.i64.wrap (x - y) = z at *
     have b4 := wrap64 (n := (i : Int) - 1) (by omega)
     have b5 : ((i : Int) - 1).toNat = i - 1 := by omega
     have q := getInt_put (de24 v i) t1 (de24 v v.length) (z) hzr ht1 (by omega)
     rw [← hpk] at q
     refine nx ?_; refine rG hN hk noc [] [0, 1, 2, 3, 10, 20] fun K hK => ?_; simp only [go_sem, seval, b1]; refine hK _ _ ?_
     clear hK K; refine nx ?_
     refine AW.condT rfl (AW.skip (qNext ?_))
     generalize de24 v v.length = e at *
     refine nx ?_; refine rG hN hk (onc 2 (pc [.sl 1 (bytesE e), I (de24 v i).length] (.tup [I (z), I (de24 v (i + 1)).length, B true]) []) noc) [] [0, 2, 3, 10, 11, 12, 13] fun K hK => ?_; simp only [go_sem, seval]
     first | with_reducible refine hK _ _ ?_ | refine ⟨by exact pureOb q rfl (by simp), hK _ _ ?_⟩ | refine obK (hK _ _ ?_)
     clear hK K; refine nx ?_
     refine rG hN hk noc [] [0, 2, 3, 10, 11, 12, 29] fun K hK => ?_; simp only [go_sem, seval]; refine hK _ _ ?_
     clear hK K; refine nx ?_
     refine AW.condF rfl (AW.skip (qNext ?_))
     refine nx ?_; refine rG hN hk noc [] [0, 1, 2, 3, 10, 11] fun K hK => ?_; simp only [go_sem, seval]; refine hK _ _ ?_
     clear hK K; refine nx ?_
     refine rG hN hk noc [] [0, 1, 2, 3, 10, 11, 35] fun K hK => ?_; simp only [go_sem, seval, a7]; refine hK _ _ ?_
     clear hK K; refine nx ?_
     refine cF ?_; refine nx ?_; refine rG hN hk noc [] [0, 1, 2, 3, 10, 11, 69] fun K hK => ?_; simp only [go_sem, seval, a8, b3]; refine hK _ _ ?_
     clear hK K; refine nx ?_
     refine cT ?_; refine nx ?_; refine rG hN hk noc [] [0, 1, 2, 3, 10] fun K hK => ?_; simp only [go_sem, seval, b4, b5, hy3, hzz]
     first | with_reducible refine hK _ _ ?_ | refine ⟨by exact ⟨⟨by omega, by simp⟩, by omega, htl⟩, hK _ _ ?_⟩ | refine obK (hK _ _ ?_)
     clear hK K; refine nx ?_
     exact ⟨i + 1, by omega, by omega, ⟨[some 0], [], ⟨by simp [srcIds], by simp [srcIds], by simp⟩, by simp, by simp [wkEnv, wk, lk, I], by simp [wkHp, wkHp1, wkEnt, lkh, htk]⟩⟩
   · have b3 : decide ((i : Int) > 0) = false := by simp; omega
     rw [de24V, if_neg hi0, hx2] at hpk ht1
     generalize v[i] = x at *
     have q := getInt_put (de24 v i) t1 (de24 v v.length) (x) hxr ht1 (by omega)
     rw [← hpk] at q
     refine nx ?_; refine rG hN hk noc [] [0, 1, 2, 3, 10, 20] fun K hK => ?_; simp only [go_sem, seval, b1]; refine hK _ _ ?_
     clear hK K; refine nx ?_
     refine AW.condT rfl (AW.skip (qNext ?_))
     generalize de24 v v.length = e at *
     refine nx ?_; refine rG hN hk (onc 2 (pc [.sl 1 (bytesE e), I (de24 v i).length] (.tup [I (x), I (de24 v (i + 1)).length, B true]) []) noc) [] [0, 2, 3, 10, 11, 12, 13] fun K hK => ?_; simp only [go_sem, seval]
     first | with_reducible refine hK _ _ ?_ | refine ⟨by exact pureOb q rfl (by simp), hK _ _ ?_⟩ | refine obK (hK _ _ ?_)
     clear hK K; refine nx ?_
     refine rG hN hk noc [] [0, 2, 3, 10, 11, 12, 29] fun K hK => ?_; simp only [go_sem, seval]; refine hK _ _ ?_
     clear hK K; refine nx ?_
     refine AW.condF rfl (AW.skip (qNext ?_))
     refine nx ?_; refine rG hN hk noc [] [0, 1, 2, 3, 10, 11] fun K hK => ?_; simp only [go_sem, seval]; refine hK _ _ ?_
     clear hK K; refine nx ?_
     refine rG hN hk noc [] [0, 1, 2, 3, 10, 11, 35] fun K hK => ?_; simp only [go_sem, seval, a7]; refine hK _ _ ?_
     clear hK K; refine nx ?_
     refine cF ?_; refine nx ?_; refine rG hN hk noc [] [0, 1, 2, 3, 10, 11, 69] fun K hK => ?_; simp only [go_sem, seval, a8, b3]; refine hK _ _ ?_
     clear hK K; refine nx ?_
     refine cF ?_; refine nx ?_; refine rG hN hk noc [] [0, 1, 2, 3, 10] fun K hK => ?_; simp only [go_sem, seval]
     first | with_reducible refine hK _ _ ?_ | refine ⟨by exact ⟨by simp, by omega, htl⟩, hK _ _ ?_⟩ | refine obK (hK _ _ ?_)
     clear hK K; refine nx ?_
     exact ⟨i + 1, by omega, by omega, ⟨[some 0], [], ⟨by simp [srcIds], by simp [srcIds], by simp⟩, by simp, by simp [wkEnv, wk, lk, I], by simp [wkHp, wkHp1, wkEnt, lkh, htk]⟩⟩
 · have b1 : decide ((i : Int) < v.length) = false := by simp; omega
   have : i = v.length := by omega
   subst this
   rw [List.take_length]
   refine nx ?_; refine rG hN hk noc [] [10, 20] fun K hK => ?_; simp only [go_sem, seval, b1]; refine hK _ _ ?_
   clear hK K; refine nx ?_
   refine AW.condF rfl (AW.exit (qThen (qThen (qHere (qNext ?_)))))
   refine nx ?_; refine rG hN hk noc [] [8, 9] fun K hK => ?_; simp only [go_sem, seval]; refine hK _ _ ?_
   clear hK K; refine nx ?_
   refine AW.ret (mkRet [some 0] [] rfl ?_ ?_)
   · simp [resOf, lk, wk, wkL, I, B]
   · simp [wkHp, wkHp1, wkEnt, lkh]
theorem runEnd_eq (v : List Int) : ∀ f i k, i ≤ k → k ≤ runEnd v f i → i < v.length → v.getD k 0 = v.getD i 0
 | 0, i, k, h1, h2, h3 => by simp only [runEnd] at h2; rw [show k = i by omega]
 | f + 1, i, k, h1, h2, h3 => by
   rw [runEnd] at h2
   split at h2
   · next hh =>
     by_cases hk : k = i
     · rw [hk]
     · rw [runEnd_eq v f (i + 1) k (by omega) h2 hh.1, hh.2]
   · rw [show k = i by omega]
theorem ruG_len (v : List Int) : ∀ f i, (ruG v f i).length ≤ (v.length - i) * 22
 | 0, i => by simp [ruG]
 | f + 1, i => by
   rw [ruG]
   split
   · next h =>
     have h1 := runEnd_le v (v.length - i) i h
     have h2 := ruG_len v f (runEnd v (v.length - i) i + 1)
     have h3 := putIntF_len (v.getD (runEnd v (v.length - i) i) 0)
     have h4 := varint_len (runEnd v (v.length - i) i - i + 1)
     simp only [List.length_append]
     omega
   · simp
theorem ru24_len (v : List Int) : (ru24 v).length ≤ 12 + v.length * 22 := by
 have := ruG_len v v.length 0
 have := hd24_len 2 v
 simp only [ru24, List.length_append]
 omega
theorem valuesRuns (v : List Int) (hl : v.length ≤ 16384) (hv : ∀ x ∈ v, In64 x) :
   ACall Tryz.prog 61 [.sl 1 (bytesE (ru24 v)), I (hd24 2 v).length, I v.length, I 2] [] (.tup [.osl 0 v.length 1, B true]) [some ⟨3, 1, intE v⟩] := by
 refine acall 89 0 Tryz.func61 rfl rfl rfl (by simp) rfl rfl ?_
 intro C hN hk
 have a7 : ((2 : Int) == 2) = true := by decide
 have hel := ru24_len v
 refine nx ?_; refine rG hN hk noc [] [0, 1, 2, 3] fun K hK => ?_; simp only [go_sem, seval]; refine hK _ _ ?_
 clear hK K; refine nx ?_
 refine rG hN hk noc [] [0, 1, 2, 3, 10] fun K hK => ?_; simp only [go_sem, seval]; refine hK _ _ ?_
 clear hK K; refine nx ?_
 refine AW.loopF hk 1 (fun a : Nat × List UInt8 => ⟨[(0, .sl 1 (bytesE (ru24 v))), (1, I a.2.length), (2, I v.length), (3, I 2), (10, .osl 0 a.1 1)], [(0, some ⟨3, 1, intE (v.take a.1)⟩)]⟩) (fun a => a.1 ≤ v.length ∧ ∃ f, v.length - a.1 ≤ f ∧ a.2 ++ ruG v f a.1 = ru24 v) (fun a => v.length - a.1) (0, hd24 2 v) ⟨by omega, v.length, by simp, rfl⟩ ⟨[none], [], ⟨by simp [srcIds], by simp [srcIds], by simp⟩, by simp, by simp [wkEnv, wk, lk, I], by simp [wkHp, wkHp1, wkEnt, lkh, intE]⟩ ?_
 rintro ⟨i, p⟩ ⟨h1, f, h2, h3⟩
 simp only at h1 h2 h3 ⊢
 by_cases hi : i < v.length
 · have b1 : decide ((i : Int) < v.length) = true := by simp; omega
   obtain ⟨f, rfl⟩ : ∃ f', f = f' + 1 := ⟨f - 1, by omega⟩
   rw [ruG, if_pos hi] at h3
   have hre := runEnd_le v (v.length - i) i hi
   have hrq := runEnd_eq v (v.length - i) i
   generalize runEnd v (v.length - i) i = j at *
   have hjx : v.getD j 0 = v[j]'hre.2 := by simp [List.getD, hre.2]
   have hxr := hv _ (List.getElem_mem hre.2)
   have hall : ∀ k, i ≤ k → k ≤ j → v[k]? = some (v[j]'hre.2) := by
     intro k g1 g2
     have hkl : k < v.length := by omega
     have e1 := hrq k g1 g2 hi
     have e2 := hrq j hre.1 (Nat.le_refl _) hi
     rw [← e2, hjx] at e1
     rw [List.getElem?_eq_getElem hkl]
     simp [List.getD, hkl] at e1
     rw [e1]
   rw [hjx] at h3
   generalize v[j]'hre.2 = x at *
   have q := getInt_put p (varint (j - i + 1) ++ ruG v f (j + 1)) (ru24 v) x hxr (by rw [← h3]; simp [List.append_assoc]) (by omega)
   have hpl : (p ++ putIntF x).length ≤ 2 ^ 40 := by
     have := congrArg List.length h3
     simp only [List.length_append] at this ⊢
     omega
   have q2 := getVarint1 (ru24 v) (p ++ putIntF x).length (by omega) (by omega)
   have hgv := getVar_varint (p ++ putIntF x) (ruG v f (j + 1)) (j - i + 1) (by omega)
   rw [show p ++ putIntF x ++ varint (j - i + 1) ++ ruG v f (j + 1) = ru24 v by rw [← h3]; simp [List.append_assoc]] at hgv
   rw [hgv] at q2
   simp only [getRes] at q2
   rw [← List.length_append] at q2
   have h5 : p ++ putIntF x ++ varint (j - i + 1) ++ ruG v f (j + 1) = ru24 v := by rw [← h3]; simp [List.append_assoc]
   generalize hp1 : p ++ putIntF x = p1 at *
   generalize hp2 : p1 ++ varint (j - i + 1) = p2 at *
   generalize ru24 v = e at *
   refine nx ?_; refine rG hN hk noc [] [0, 1, 2, 3, 10, 20] fun K hK => ?_; simp only [go_sem, seval, b1]; refine hK _ _ ?_
   clear hK K; refine nx ?_
   refine AW.condT rfl (AW.skip (qNext ?_))
   refine nx ?_; refine rG hN hk (onc 2 (pc [.sl 1 (bytesE e), I p.length] (.tup [I x, I p1.length, B true]) []) noc) [] [0, 2, 3, 10, 11, 12, 13] fun K hK => ?_; simp only [go_sem, seval]
   first | with_reducible refine hK _ _ ?_ | refine ⟨by exact pureOb q rfl (by simp), hK _ _ ?_⟩ | refine obK (hK _ _ ?_)
   clear hK K; refine nx ?_
   refine rG hN hk noc [] [0, 2, 3, 10, 11, 12, 29] fun K hK => ?_; simp only [go_sem, seval]; refine hK _ _ ?_
   clear hK K; refine nx ?_
   refine AW.condF rfl (AW.skip (qNext ?_))
   refine nx ?_; refine rG hN hk noc [] [0, 1, 2, 3, 10, 11] fun K hK => ?_; simp only [go_sem, seval]; refine hK _ _ ?_
   clear hK K; refine nx ?_
   refine rG hN hk noc [] [0, 1, 2, 3, 10, 11, 35] fun K hK => ?_; simp only [go_sem, seval, a7]; refine hK _ _ ?_
   clear hK K; refine nx ?_
   refine cT ?_; refine nx ?_; refine rG hN hk (onc 2 (pc [.sl 1 (bytesE e), I p1.length] (.tup [U64 ((j - i + 1 : Nat) : Int), I p2.length, B true]) []) noc) [] [0, 1, 2, 3, 10, 11, 14, 15, 16] fun K hK => ?_; simp only [go_sem, seval]
   first | with_reducible refine hK _ _ ?_ | refine ⟨by exact pureOb q2 rfl (by simp), hK _ _ ?_⟩ | refine obK (hK _ _ ?_)
   clear hK K; refine nx ?_
   have c1 : decide (((j - i + 1 : Nat) : Int) < 1) = false := by simp; omega
   have c2 := wrap64 (n := (v.length : Int) - (i : Int)) (by omega)
   have c3 := IntWalk.u64_in ((v.length : Int) - (i : Int)) (by omega)
   have c4 : decide (((j - i + 1 : Nat) : Int) > (v.length : Int) - (i : Int)) = false := by simp; omega
   refine nx ?_; refine rG hN hk noc [] [0, 2, 3, 10, 11, 14, 15, 59] fun K hK => ?_; simp only [go_sem, seval, c1, c2, c3, c4]; refine hK _ _ ?_
   clear hK K; refine nx ?_
   refine AW.condF rfl (AW.skip (qNext ?_))
   refine nx ?_
   refine AW.loopF hk 1 (fun k : Nat => ⟨[(0, .sl 1 (bytesE e)), (2, I v.length), (3, I 2), (10, .osl 0 k 1), (11, I x), (14, U64 ((j + 1 - k : Nat) : Int)), (15, I p2.length)], [(0, some ⟨3, 1, intE (v.take k)⟩)]⟩) (fun k => i ≤ k ∧ k ≤ j + 1) (fun k => j + 1 - k) i ⟨by omega, by omega⟩ ⟨[some 0], [], ⟨by simp [srcIds], by simp [srcIds], by simp⟩, by simp, by simp [wkEnv, wk, lk, I, U64]; omega, by simp [wkHp, wkHp1, wkEnt, lkh]⟩ ?_
   rintro k ⟨g1, g2⟩
   by_cases hkj : k < j + 1
   · have d1 : decide (((j + 1 - k : Nat) : Int) > 0) = true := by simp; omega
     have d2 := IntWalk.u64_in (((j + 1 - k : Nat) : Int) - 1) (by omega)
     have hkx := hall k g1 (by omega)
     have htk : v.take (k + 1) = v.take k ++ [x] := by rw [List.take_add_one, hkx]; rfl
     have htl : (v.take k).length = k := by simp; omega
     refine nx ?_; refine rG hN hk noc [] [0, 2, 3, 10, 11, 14, 15, 61] fun K hK => ?_; simp only [go_sem, seval, d1]; refine hK _ _ ?_
     clear hK K; refine nx ?_
     refine AW.condT rfl (AW.skip (qNext ?_))
     refine nx ?_; refine rG hN hk noc [] [0, 2, 3, 10, 11, 14, 15] fun K hK => ?_; simp only [go_sem, seval]
     first | with_reducible refine hK _ _ ?_ | refine ⟨by exact ⟨by simp, by omega, htl⟩, hK _ _ ?_⟩ | refine obK (hK _ _ ?_)
     clear hK K; refine nx ?_
     refine rG hN hk noc [] [0, 2, 3, 10, 11, 14, 15] fun K hK => ?_; simp only [go_sem, seval, d2]; refine hK _ _ ?_
     clear hK K; refine nx ?_
     exact ⟨k + 1, ⟨by omega, by omega⟩, by omega, ⟨[some 0], [], ⟨by simp [srcIds], by simp [srcIds], by simp⟩, by simp, by simp [wkEnv, wk, lk, I, U64]; omega, by simp [wkHp, wkHp1, wkEnt, lkh, htk]⟩⟩
   · have d1 : decide (((j + 1 - k : Nat) : Int) > 0) = false := by simp; omega
     have hkk : k = j + 1 := by omega
     refine nx ?_; refine rG hN hk noc [] [0, 2, 3, 10, 15, 61] fun K hK => ?_; simp only [go_sem, seval, d1]; refine hK _ _ ?_
     clear hK K; refine nx ?_
     refine AW.condF rfl (AW.exit (qThen (qThen (qHere (qNext ?_)))))
     refine nx ?_; refine rG hN hk noc [] [0, 1, 2, 3, 10] fun K hK => ?_; simp only [go_sem, seval]; refine hK _ _ ?_
     clear hK K; refine nx ?_
     exact ⟨(j + 1, p2), ⟨by simp only; omega, f, by simp only; omega, h5⟩, by simp only; omega, ⟨[some 0], [], ⟨by simp [srcIds], by simp [srcIds], by simp⟩, by simp, by simp [wkEnv, wk, lk, I, hkk], by simp [wkHp, wkHp1, wkEnt, lkh, hkk]⟩⟩
 · have b1 : decide ((i : Int) < v.length) = false := by simp; omega
   have : i = v.length := by omega
   subst this
   rw [List.take_length]
   refine nx ?_; refine rG hN hk noc [] [10, 20] fun K hK => ?_; simp only [go_sem, seval, b1]; refine hK _ _ ?_
   clear hK K; refine nx ?_
   refine AW.condF rfl (AW.exit (qThen (qThen (qHere (qNext ?_)))))
   refine nx ?_; refine rG hN hk noc [] [8, 9] fun K hK => ?_; simp only [go_sem, seval]; refine hK _ _ ?_
   clear hK K; refine nx ?_
   refine AW.ret (mkRet [some 0] [] rfl ?_ ?_)
   · simp [resOf, lk, wk, wkL, I, B]
   · simp [wkHp, wkHp1, wkEnt, lkh]
def bitAt (o : List UInt8) (q : Nat) : Bool := (o.getD (q / 8) 0).toNat.testBit (q % 8)
theorem bit_set (o : List UInt8) (p q : Nat) (hp : p / 8 < o.length) : bitAt (setBit o p) q = (decide (q = p) || bitAt o q) := by
 unfold bitAt setBit
 by_cases h : q / 8 = p / 8
 · have h1 : (o.set (p / 8) (UInt8.ofNat ((o.getD (p / 8) 0).toNat ||| 2 ^ (p % 8)))).getD (q / 8) 0 = UInt8.ofNat ((o.getD (p / 8) 0).toNat ||| 2 ^ (p % 8)) := by
     rw [h]; simp [List.getD, hp]
   have h2 := (orU8 (o.getD (p / 8) 0).toNat (p % 8) (UInt8.toNat_lt _) (by omega)).2
   rw [h1, ofNat_toNat _ h2, Nat.testBit_or, Nat.testBit_two_pow, h]
   rw [Bool.or_comm]
   congr 1
   rw [Bool.eq_iff_iff]
   simp only [decide_eq_true_eq]
   omega
 · have h1 : (o.set (p / 8) (UInt8.ofNat ((o.getD (p / 8) 0).toNat ||| 2 ^ (p % 8)))).getD (q / 8) 0 = o.getD (q / 8) 0 := by
     simp [List.getD, Ne.symm h]
   rw [h1, show decide (q = p) = false by simp; intro hh; exact h (by rw [hh]), Bool.false_or]
theorem bit_packK (d a : Nat) (o : List UInt8) (q : Nat) : ∀ k, (a + k + 7) / 8 ≤ o.length → bitAt (packK d a k o) q = (bitAt o q || (decide (a ≤ q ∧ q < a + k) && d.testBit (q - a)))
 | 0, _ => by simp [packK]; omega
 | k + 1, h => by
   have ih := bit_packK d a o q k (by omega)
   rw [packK]
   by_cases hq : q = a + k
   · subst hq
     rw [show decide (a ≤ a + k ∧ a + k < a + k) = false by simp] at ih
     rw [show decide (a ≤ a + k ∧ a + k < a + (k + 1)) = true by simp, Nat.add_sub_cancel_left]
     split
     · next ht =>
       rw [bit_set _ _ _ (by rw [packK_len]; omega), ht]
       simp
     · next ht => rw [ih]; simp [ht]
   · have hd : decide (a ≤ q ∧ q < a + (k + 1)) = decide (a ≤ q ∧ q < a + k) := by
       rw [Bool.eq_iff_iff]; simp only [decide_eq_true_eq]; omega
     rw [hd, ← ih]
     split
     · rw [bit_set _ _ _ (by rw [packK_len]; omega)]; simp [hq]
     · rfl
theorem bit_zero (n q : Nat) : bitAt (List.replicate n 0) q = false := by
 unfold bitAt
 have : (List.replicate n (0 : UInt8)).getD (q / 8) 0 = 0 := by
   simp [List.getD, List.getElem?_replicate]; split <;> rfl
 rw [this]; simp
theorem bit_packTo (v : List Int) (lo : Int) (w : Nat) : ∀ n, n ≤ v.length → ∀ q, bitAt (packTo v lo w n) q = (decide (q < n * w) && (dU lo (v.getD (q / w) 0)).testBit (q % w))
 | 0, _, q => by rw [packTo, bit_zero]; simp
 | n + 1, hn, q => by
   have hnw : n * w + w ≤ v.length * w := by rw [← Nat.succ_mul]; exact Nat.mul_le_mul_right _ hn
   rw [packTo, bit_packK _ _ _ _ _ (by rw [packTo_len]; omega), bit_packTo v lo w n (by omega) q, Nat.succ_mul]
   by_cases h1 : q < n * w
   · rw [show decide (q < n * w) = true by simp [h1], show decide (n * w ≤ q ∧ q < n * w + w) = false by simp; omega, show decide (q < n * w + w) = true by simp; omega]
     simp
   · rw [show decide (q < n * w) = false by simp; omega]
     by_cases h2 : q < n * w + w
     · have h3 : q / w = n := by
         rw [Nat.div_eq_of_lt_le]
         · omega
         · rw [Nat.succ_mul]; omega
       have h4 : q % w = q - n * w := by
         have := Nat.div_add_mod q w
         rw [h3, Nat.mul_comm] at this
         omega
       rw [h3, h4, show decide (n * w ≤ q ∧ q < n * w + w) = true by simp; omega, show decide (q < n * w + w) = true by simp; omega]
       simp
     · rw [show decide (n * w ≤ q ∧ q < n * w + w) = false by simp; omega, show decide (q < n * w + w) = false by simp; omega]
       simp
theorem bit_pack (v : List Int) (lo : Int) (w i k : Nat) (hi : i < v.length) (hk : k < w) : bitAt (packTo v lo w v.length) (i * w + k) = (dU lo (v.getD i 0)).testBit k := by
 have h1 : (i * w + k) / w = i := by rw [Nat.mul_comm, Nat.mul_add_div (by omega), Nat.div_eq_of_lt hk]; rfl
 have h2 : (i * w + k) % w = k := by rw [Nat.mul_comm, Nat.mul_add_mod, Nat.mod_eq_of_lt hk]
 have h3 : i * w + w ≤ v.length * w := by rw [← Nat.succ_mul]; exact Nat.mul_le_mul_right _ hi
 rw [bit_packTo v lo w _ (Nat.le_refl _), h1, h2, show decide (i * w + k < v.length * w) = true by simp; omega, Bool.true_and]
theorem low_le (v : List Int) : ∀ n i, i < n → lowTo v n ≤ v.getD i 0
 | 0, i, h => by omega
 | n + 1, i, h => by
   rw [lowTo]
   by_cases hi : i = n
   · subst hi; split <;> omega
   · have := low_le v n i (by omega); split <;> omega
theorem le_high (v : List Int) : ∀ n i, i < n → v.getD i 0 ≤ highTo v n
 | 0, i, h => by omega
 | n + 1, i, h => by
   rw [highTo]
   by_cases hi : i = n
   · subst hi; split <;> omega
   · have := le_high v n i (by omega); split <;> omega
theorem low_mem (v : List Int) (h0 : 0 < v.length) : ∀ n, n ≤ v.length → lowTo v n ∈ v
 | 0, _ => by simp only [lowTo]; have : v.getD 0 0 = v[0] := by simp [List.getD, h0]
              rw [this]; exact List.getElem_mem _
 | n + 1, h => by
   rw [lowTo]
   split
   · have : v.getD n 0 = v[n] := by simp [List.getD, show n < v.length by omega]
     rw [this]; exact List.getElem_mem _
   · exact low_mem v h0 n (by omega)
theorem high_mem (v : List Int) (h0 : 0 < v.length) : ∀ n, n ≤ v.length → highTo v n ∈ v
 | 0, _ => by simp only [highTo]; have : v.getD 0 0 = v[0] := by simp [List.getD, h0]
              rw [this]; exact List.getElem_mem _
 | n + 1, h => by
   rw [highTo]
   split
   · have : v.getD n 0 = v[n] := by simp [List.getD, show n < v.length by omega]
     rw [this]; exact List.getElem_mem _
   · exact high_mem v h0 n (by omega)
theorem dU_sub (lo x : Int) (h1 : In64 lo) (h2 : In64 x) (h : lo ≤ x) : (dU lo x : Int) = x - lo := by
 rw [← dU_eq, wrapU_eq, wrapU_eq, wrapU_eq]
 unfold In64 at h1 h2
 omega
theorem lenS_lt2 (w x b : Nat) (hb : lenS w x < 2 ^ b) : x < 2 ^ (lenN w x + b) := by
 unfold lenS at hb
 unfold lenN
 split at hb
 · next h =>
   rw [if_pos h, Nat.pow_add, Nat.mul_comm]
   exact (Nat.div_lt_iff_lt_mul (Nat.two_pow_pos w)).1 hb
 · next h => rw [if_neg h, Nat.zero_add]; exact hb
theorem len64_lt (x : Nat) (hx : x < 2 ^ 64) : x < 2 ^ len64F x := by
 have h1 : lenS 32 x < 2 ^ 32 := lenS_lt (w := 32) hx (by omega)
 have h2 : lenS 16 (lenS 32 x) < 2 ^ 16 := lenS_lt (w := 16) h1 (by omega)
 have h3 : lenS 8 (lenS 16 (lenS 32 x)) < 2 ^ 8 := lenS_lt (w := 8) h2 (by omega)
 have h4 := (len8_le _ h3).2
 have := lenS_lt2 32 x _ (lenS_lt2 16 (lenS 32 x) _ (lenS_lt2 8 _ _ h4))
 unfold len64F
 rw [show lenN 32 x + lenN 16 (lenS 32 x) + lenN 8 (lenS 16 (lenS 32 x)) + len8 (lenS 8 (lenS 16 (lenS 32 x))) = lenN 32 x + (lenN 16 (lenS 32 x) + (lenN 8 (lenS 16 (lenS 32 x)) + len8 (lenS 8 (lenS 16 (lenS 32 x))))) by omega]
 exact this
theorem dU_wid (v : List Int) (hv : ∀ x ∈ v, In64 x) (i : Nat) (hi : i < v.length) : dU (loF v) (v.getD i 0) < 2 ^ widF v := by
 have h0 : 0 < v.length := by omega
 have hx : In64 (v.getD i 0) := by rw [show v.getD i 0 = v[i] by simp [List.getD, hi]]; exact hv _ (List.getElem_mem hi)
 have hlo := hv _ (low_mem v h0 v.length (Nat.le_refl _))
 have hhi := hv _ (high_mem v h0 v.length (Nat.le_refl _))
 have a1 := low_le v v.length i hi
 have a2 := le_high v v.length i hi
 have e1 := dU_sub _ _ hlo hx a1
 have e2 := dU_sub _ _ hlo hhi (Int.le_trans a1 a2)
 have := len64_lt (dU (loF v) (highTo v v.length)) (dU_lt _ _)
 unfold widF
 refine Nat.lt_of_le_of_lt ?_ this
 unfold loF
 omega
theorem dU_back (lo x : Int) (hx : In64 x) : IntKind.i64.wrap (IntKind.u64.wrap (IntKind.u64.wrap lo + (dU lo x : Int))) = x := by
 obtain ⟨h1, h2⟩ := hx
 rw [← dU_eq, wrapU_eq, wrapU_eq, wrapU_eq, wrapU_eq]
 have e1 : ((2 : Int) ^ IntKind.i64.bits) = 18446744073709551616 := by decide
 have e2 : IntKind.i64.signed = true := rfl
 have e3 : ((2 : Int) ^ (IntKind.i64.bits - 1)) = 9223372036854775808 := by decide
 unfold IntKind.wrap
 simp only [e1, e2, e3, Bool.true_and, ge_iff_le, decide_eq_true_eq]
 split <;> omega
theorem orAddG (v x j : Nat) (hv : v < 2 ^ j) (ht : v + x * 2 ^ j < 2 ^ 64) :
   bitsOf .or .u64 (v : Int) (IntKind.u64.wrap ((x : Int) * 2 ^ j)) = ((v + x * 2 ^ j : Nat) : Int) := by
 have e : ((x : Int) * 2 ^ j) = ((x * 2 ^ j : Nat) : Int) := by push_cast; rfl
 rw [e, IntWalk.u64_in _ (by omega), orU _ _ (by omega) (by omega)]
 have := Nat.two_pow_add_eq_or_of_lt hv x
 rw [Nat.or_comm, Nat.mul_comm x, ← this, Nat.add_comm]
theorem andU8 (a r : Nat) (ha : a < 256) (hr : r < 8) : bitsOf .and .u8 ((a : Int).fdiv (2 ^ min r 8)) 1 = ((a / 2 ^ r % 2 : Nat) : Int) := by
 have h2 : ∀ (x : Fin 256) (y : Fin 8), bitsOf .and .u8 (((x.val : Nat) : Int).fdiv (2 ^ min y.val 8)) 1 = ((x.val / 2 ^ y.val % 2 : Nat) : Int) := by decide +kernel
 exact h2 ⟨a, ha⟩ ⟨r, hr⟩
theorem bitN (o : List UInt8) (q : Nat) (b : Bool) (h : bitAt o q = b) : (o.getD (q / 8) 0).toNat / 2 ^ (q % 8) % 2 = b.toNat := by
 unfold bitAt at h
 rw [Nat.testBit_eq_decide_div_mod_eq] at h
 generalize (o.getD (q / 8) 0).toNat / 2 ^ (q % 8) = m at *
 cases b <;> simp at h ⊢ <;> omega
theorem unpack0 (e : List UInt8) (a : Int) : ACall Tryz.prog 60 [.sl 1 (bytesE e), I a, I 0] [] (.tup [.val (.slice none 0 0), B true]) [] := by
 refine acall 93 0 Tryz.func60 rfl rfl rfl (by simp) rfl rfl ?_
 intro C hN hk
 have a1 : ((0 : Int) == 0) = true := by decide
 refine nx ?_; refine rG hN hk noc [] [0, 1, 2] fun K hK => ?_; simp only [go_sem, seval]; refine hK _ _ ?_
 clear hK K; refine nx ?_
 refine rG hN hk noc [] [0, 1, 2, 17] fun K hK => ?_; simp only [go_sem, seval, a1]; refine hK _ _ ?_
 clear hK K; refine nx ?_
 refine cT ?_; refine nx ?_; refine rG hN hk noc [] [6, 7] fun K hK => ?_; simp only [go_sem, seval]; refine hK _ _ ?_
 clear hK K; refine nx ?_
 refine AW.ret (mkRet [] [] rfl ?_ ?_)
 · simp [resOf, lk, wk, wkL, I, B]
 · simp [wkHp]
theorem pk24_eq (v : List Int) (h0 : 0 < v.length) : pk24 v = hd24 3 v ++ putIntF (loF v) ++ ([UInt8.ofNat (widF v)] ++ packTo v (loF v) (widF v) v.length) := by
 unfold pk24 packF
 rw [if_neg (by omega)]
 simp [List.append_assoc]
theorem unpack1 (v : List Int) (h0 : 0 < v.length) (hl : v.length ≤ 16384) (hv : ∀ x ∈ v, In64 x) :
   ACall Tryz.prog 60 [.sl 1 (bytesE (pk24 v)), I (hd24 3 v).length, I v.length] [] (.tup [.osl 0 v.length 1, B true]) [some ⟨3, 1, intE v⟩] := by
 refine acall 93 0 Tryz.func60 rfl rfl rfl (by simp) rfl rfl ?_
 intro C hN hk
 have a1 : ((v.length : Int) == 0) = false := by simp; intro h; rw [h] at h0; simp at h0
 have he := pk24_eq v h0
 have hlo : In64 (loF v) := hv _ (low_mem v h0 v.length (Nat.le_refl _))
 have hw : widF v ≤ 64 := len64_le _ (dU_lt _ _)
 have hbit := bit_pack v (loF v) (widF v)
 have hwid := dU_wid v hv
 have hpl := packTo_len v (loF v) (widF v) v.length
 have hhl := hd24_len 3 v
 have hil := putIntF_len (loF v)
 generalize widF v = w at *
 generalize loF v = lo at *
 have hvw : v.length * w ≤ 16384 * 64 := Nat.mul_le_mul hl hw
 have hel : (pk24 v).length = (hd24 3 v ++ putIntF lo).length + 1 + (v.length * w + 7) / 8 := by rw [he]; simp [hpl]; omega
 have hel2 : (hd24 3 v ++ putIntF lo).length ≤ 23 := by simp; omega
 have q1 := getInt_put (hd24 3 v) ([UInt8.ofNat w] ++ packTo v lo w v.length) (pk24 v) lo hlo he (by omega)
 have hwb : (pk24 v)[(hd24 3 v ++ putIntF lo).length]? = some (UInt8.ofNat w) := by
   rw [he, List.getElem?_append_right (Nat.le_refl _)]; simp
 have hob : ∀ j, j < (v.length * w + 7) / 8 → (pk24 v)[(hd24 3 v ++ putIntF lo).length + 1 + j]? = some ((packTo v lo w v.length).getD j 0) := by
   intro j hj
   rw [he, List.getElem?_append_right (by omega), show (hd24 3 v ++ putIntF lo).length + 1 + j - (hd24 3 v ++ putIntF lo).length = j + 1 by omega]
   simp [List.getD, hpl, hj]
 generalize packTo v lo w v.length = o at *
 generalize (hd24 3 v ++ putIntF lo).length = p1 at *
 generalize (hd24 3 v).length = p0 at *
 generalize pk24 v = e at *
 clear he hpl
 refine nx ?_; refine rG hN hk noc [] [0, 1, 2] fun K hK => ?_; simp only [go_sem, seval]; refine hK _ _ ?_
 clear hK K; refine nx ?_
 refine rG hN hk noc [] [0, 1, 2, 17] fun K hK => ?_; simp only [go_sem, seval, a1]; refine hK _ _ ?_
 clear hK K; refine nx ?_
 refine AW.condF rfl (AW.skip (qNext ?_))
 refine nx ?_; refine rG hN hk (onc 2 (pc [.sl 1 (bytesE e), I p0] (.tup [I lo, I p1, B true]) []) noc) [] [0, 1, 2, 8, 9] fun K hK => ?_; simp only [go_sem, seval]
 first | with_reducible refine hK _ _ ?_ | refine ⟨by exact pureOb q1 rfl (by simp), hK _ _ ?_⟩ | refine obK (hK _ _ ?_)
 clear hK K; refine nx ?_
 have b1 : decide ((p1 : Int) ≥ e.length) = false := by simp; omega
 have b2 := ofNat_toNat w (by omega)
 have b3 : decide ((w : Int) > 64) = false := by simp; omega
 generalize UInt8.ofNat w = wb at *
 refine nx ?_; refine rG hN hk noc [] [0, 1, 2, 8, 39] fun K hK => ?_; simp only [go_sem, seval, b1, hwb, b2, b3]; refine hK _ _ ?_
 clear hK K; refine nx ?_
 refine AW.condF rfl (AW.skip (qNext ?_))
 have b4 := wrap64 (n := (w : Int)) (by omega)
 refine nx ?_; refine rG hN hk noc [] [0, 1, 2, 8, 10] fun K hK => ?_; simp only [go_sem, seval, hwb, b2, b4]; refine hK _ _ ?_
 clear hK K; refine nx ?_
 have b5 := wrap64 (n := (p1 : Int) + 1) (by omega)
 refine nx ?_; refine rG hN hk noc [] [0, 1, 2, 8, 10] fun K hK => ?_; simp only [go_sem, seval, b5]; refine hK _ _ ?_
 clear hK K; refine nx ?_
 have hvw2 : ((v.length * w : Nat) : Int) = (v.length : Int) * w := by push_cast; rfl
 have b6 := wrap64 (n := (e.length : Int) - ((p1 : Int) + 1)) (by omega)
 have b7 := wrap64 (n := ((e.length : Int) - ((p1 : Int) + 1)) * 8) (by omega)
 have b8 := wrap64 (n := (v.length : Int) * (w : Int)) (by omega)
 have b9 : decide (((e.length : Int) - ((p1 : Int) + 1)) * 8 < (v.length : Int) * (w : Int)) = false := by simp; omega
 refine nx ?_; refine rG hN hk noc [] [0, 1, 2, 8, 10, 55] fun K hK => ?_; simp only [go_sem, seval, b6, b7, b8, b9]; refine hK _ _ ?_
 clear hK K; refine nx ?_
 refine AW.condF rfl (AW.skip (qNext ?_))
 refine nx ?_; refine rG hN hk noc [] [0, 1, 2, 8, 10, 11] fun K hK => ?_; simp only [go_sem, seval]; refine hK _ _ ?_
 clear hK K; refine nx ?_
 refine rG hN hk noc [] [0, 1, 2, 8, 10, 11, 12] fun K hK => ?_; simp only [go_sem, seval]; refine hK _ _ ?_
 clear hK K; refine nx ?_
 refine rG hN hk noc [] [0, 1, 2, 8, 10, 11, 12, 13] fun K hK => ?_; simp only [go_sem, seval]; refine hK _ _ ?_
 clear hK K; refine nx ?_
 refine AW.loopF hk 1 (fun i : Nat => ⟨[(0, .sl 1 (bytesE e)), (1, I ((p1 : Int) + 1)), (2, I v.length), (8, I lo), (10, I w), (11, .osl 0 i 1), (12, I ((i * w : Nat) : Int)), (13, I i)], [(0, some ⟨3, 1, intE (v.take i)⟩)]⟩) (fun i => i ≤ v.length) (fun i => v.length - i) 0 (by omega) ⟨[none], [], ⟨by simp [srcIds], by simp [srcIds], by simp⟩, by simp, by simp [wkEnv, wk, lk, I], by simp [wkHp, wkHp1, wkEnt, lkh, intE]⟩ ?_
 intro i h1
 by_cases hi : i < v.length
 · have c1 : decide ((i : Int) < v.length) = true := by simp; omega
   have hx2 : v.getD i 0 = v[i] := by simp [List.getD, hi]
   have hxr := hv _ (List.getElem_mem hi)
   have htk : v.take (i + 1) = v.take i ++ [v[i]] := List.take_succ_eq_append_getElem hi
   have htl : (v.take i).length = i := by simp; omega
   have hD := hwid i hi
   have hB := fun k => hbit i k hi
   rw [hx2] at hD
   simp only [hx2] at hB
   have hback := dU_back lo v[i] hxr
   have hDl := dU_lt lo v[i]
   generalize v[i] = x at *
   generalize dU lo x = D at *
   have hiw : i * w + w ≤ v.length * w := by rw [← Nat.succ_mul]; exact Nat.mul_le_mul_right _ hi
   refine nx ?_; refine rG hN hk noc [] [0, 1, 2, 8, 10, 11, 12, 13, 58] fun K hK => ?_; simp only [go_sem, seval, c1]; refine hK _ _ ?_
   clear hK K; refine nx ?_
   refine AW.condT rfl (AW.skip (qNext ?_))
   refine nx ?_; refine rG hN hk noc [] [0, 1, 2, 8, 10, 11, 12, 13, 14] fun K hK => ?_; simp only [go_sem, seval]; refine hK _ _ ?_
   clear hK K; refine nx ?_
   refine rG hN hk noc [] [0, 1, 2, 8, 10, 11, 12, 13, 14, 15] fun K hK => ?_; simp only [go_sem, seval]; refine hK _ _ ?_
   clear hK K; refine nx ?_
   refine AW.loopF hk 1 (fun k : Nat => ⟨[(0, .sl 1 (bytesE e)), (1, I ((p1 : Int) + 1)), (2, I v.length), (8, I lo), (10, I w), (11, .osl 0 i 1), (12, I ((i * w + k : Nat) : Int)), (13, I i), (14, U64 ((D % 2 ^ k : Nat) : Int)), (15, I k)], [(0, some ⟨3, 1, intE (v.take i)⟩)]⟩) (fun k => k ≤ w) (fun k => w - k) 0 (by omega) ⟨[some 0], [], ⟨by simp [srcIds], by simp [srcIds], by simp⟩, by simp, by simp [wkEnv, wk, lk, I, U64, Nat.mod_one], by simp [wkHp, wkHp1, wkEnt, lkh]⟩ ?_
   intro k h2
   by_cases hkw : k < w
   · have d1 : decide ((k : Int) < w) = true := by simp; omega
     have hb := bitN o (i * w + k) _ (hB k hkw)
     have hms := Nat.mod_pow_succ (b := 2) (x := D) (k := k)
     have htb : (D.testBit k).toNat = D / 2 ^ k % 2 := by
       rw [Nat.testBit_eq_decide_div_mod_eq]
       have : D / 2 ^ k % 2 < 2 := Nat.mod_lt _ (by omega)
       by_cases h : D / 2 ^ k % 2 = 1
       · simp [h]
       · simp [h]; omega
     rw [htb] at hb
     have hmlt := Nat.mod_lt D (Nat.two_pow_pos k)
     have hmle := Nat.mod_le D (2 ^ (k + 1))
     rw [Nat.mul_comm] at hms
     have hor := orAddG (D % 2 ^ k) (D / 2 ^ k % 2) k hmlt (by omega)
     rw [← hms] at hor
     have hm2 : D / 2 ^ k % 2 < 2 := Nat.mod_lt _ (by omega)
     generalize D / 2 ^ k % 2 = m at *
     generalize hp : i * w + k = p at *
     have hy := hob (p / 8) (by omega)
     generalize o.getD (p / 8) 0 = y at *
     have d2 : (p : Int).tdiv 8 = ((p / 8 : Nat) : Int) := by rw [Int.tdiv_eq_ediv_of_nonneg (by omega)]; omega
     have d3 : (p : Int).tmod 8 = ((p % 8 : Nat) : Int) := by rw [Int.tmod_eq_emod_of_nonneg (by omega)]; omega
     have d4 := wrap64 (n := ((p / 8 : Nat) : Int)) (by omega)
     have d5 := wrap64 (n := (p1 : Int) + 1 + ((p / 8 : Nat) : Int)) (by omega)
     have d6 : ((p1 : Int) + 1 + ((p / 8 : Nat) : Int)).toNat = p1 + 1 + p / 8 := by omega
     have d7 := andU8 y.toNat (p % 8) y.toNat_lt (by omega)
     rw [hb] at d7
     have d8 := IntWalk.u64_in (m : Int) (by omega)
     have d9 : min k 64 = k := by omega
     have d10 := wrap64 (n := (p : Int) + 1) (by omega)
     have d11 := wrap64 (n := (k : Int) + 1) (by omega)
     refine nx ?_; refine rG hN hk noc [] [0, 1, 2, 8, 10, 11, 12, 13, 14, 15, 63] fun K hK => ?_; simp only [go_sem, seval, d1]; refine hK _ _ ?_
     clear hK K; refine nx ?_
     refine AW.condT rfl (AW.skip (qNext ?_))
     refine nx ?_; refine rG hN hk noc [] [0, 1, 2, 8, 10, 11, 12, 13, 14, 15] fun K hK => ?_; simp only [go_sem, seval, d2, d3, d4, d5, d6, hy, d7, d8, d9, hor]
     first | with_reducible refine hK _ _ ?_ | refine ⟨by exact ⟨⟨by decide, by omega⟩, by decide⟩, hK _ _ ?_⟩ | refine obK (hK _ _ ?_)
     clear hK K; refine nx ?_
     refine rG hN hk noc [] [0, 1, 2, 8, 10, 11, 12, 13, 14, 15] fun K hK => ?_; simp only [go_sem, seval, d10]; refine hK _ _ ?_
     clear hK K; refine nx ?_
     refine rG hN hk noc [] [0, 1, 2, 8, 10, 11, 12, 13, 14, 15] fun K hK => ?_; simp only [go_sem, seval, d11]; refine hK _ _ ?_
     clear hK K; refine nx ?_
     exact ⟨k + 1, by omega, by omega, ⟨[some 0], [], ⟨by simp [srcIds], by simp [srcIds], by simp⟩, by simp, by simp [wkEnv, wk, lk, I, U64, ← hp, Int.add_assoc], by simp [wkHp, wkHp1, wkEnt, lkh]⟩⟩
   · have d1 : decide ((k : Int) < w) = false := by simp; omega
     have : k = w := by omega
     subst this
     rw [Nat.mod_eq_of_lt hD]
     have d2 := wrap64 (n := (i : Int) + 1) (by omega)
     refine nx ?_; refine rG hN hk noc [] [0, 1, 2, 8, 10, 11, 12, 13, 14, 63] fun K hK => ?_; simp only [go_sem, seval, d1]; refine hK _ _ ?_
     clear hK K; refine nx ?_
     refine AW.condF rfl (AW.exit (qThen (qThen (qHere ?_))))
     refine nx ?_; refine rG hN hk noc [] [0, 1, 2, 8, 10, 11, 12, 13] fun K hK => ?_; simp only [go_sem, seval, hback]
     first | with_reducible refine hK _ _ ?_ | refine ⟨by exact ⟨by simp, by omega, htl⟩, hK _ _ ?_⟩ | refine obK (hK _ _ ?_)
     clear hK K; refine nx ?_
     refine rG hN hk noc [] [0, 1, 2, 8, 10, 11, 12, 13] fun K hK => ?_; simp only [go_sem, seval, d2]; refine hK _ _ ?_
     clear hK K; refine nx ?_
     exact ⟨i + 1, by omega, by omega, ⟨[some 0], [], ⟨by simp [srcIds], by simp [srcIds], by simp⟩, by simp, by simp [wkEnv, wk, lk, I, Int.add_mul], by simp [wkHp, wkHp1, wkEnt, lkh, htk]⟩⟩
 · have c1 : decide ((i : Int) < v.length) = false := by simp; omega
   have : i = v.length := by omega
   subst this
   rw [List.take_length]
   refine nx ?_; refine rG hN hk noc [] [11, 58] fun K hK => ?_; simp only [go_sem, seval, c1]; refine hK _ _ ?_
   clear hK K; refine nx ?_
   refine AW.condF rfl (AW.exit (qThen (qThen (qHere (qNext ?_)))))
   refine nx ?_; refine rG hN hk noc [] [6, 7] fun K hK => ?_; simp only [go_sem, seval]; refine hK _ _ ?_
   clear hK K; refine nx ?_
   refine AW.ret (mkRet [some 0] [] rfl ?_ ?_)
   · simp [resOf, lk, wk, wkL, I, B]
   · simp [wkHp, wkHp1, wkEnt, lkh]
theorem encAs_hd (v : List Int) (k : Nat) (hk : k ≤ 3) : ∃ t, encAs v k = UInt8.ofNat k :: varint v.length ++ t := by
 match k, hk with
 | 0, _ => obtain ⟨t, ht⟩ := pl24_tail v 0 (by omega); exact ⟨t, ht⟩
 | 1, _ => obtain ⟨t, ht⟩ := de24_tail v 0 (by omega); exact ⟨t, ht⟩
 | 2, _ => exact ⟨_, rfl⟩
 | 3, _ => exact ⟨_, rfl⟩
theorem packF_len (v : List Int) (hl : v.length ≤ 16384) : (packF v).length ≤ 12 + v.length * 8 := by
 unfold packF
 split
 · simp
 · have hw : widF v ≤ 64 := len64_le _ (dU_lt _ _)
   have h1 := putIntF_len (loF v)
   have h2 := packTo_len v (loF v) (widF v) v.length
   have h3 : v.length * widF v ≤ v.length * 64 := Nat.mul_le_mul_left _ hw
   simp only [List.length_append, List.length_cons, List.length_nil, h2]
   omega
theorem encAs_len (v : List Int) (k : Nat) (hk : k ≤ 3) (hl : v.length ≤ 16384) : (encAs v k).length ≤ 24 + v.length * 22 := by
 match k, hk with
 | 0, _ => have := pl24_len v v.length; simp only [encAs]; omega
 | 1, _ => have := de24_len v v.length; simp only [encAs]; omega
 | 2, _ => have := ru24_len v; simp only [encAs]; omega
 | 3, _ =>
   have h1 := packF_len v hl
   have h2 := hd24_len 3 v
   simp only [encAs, pk24, List.length_append]; omega
theorem hd24_l (k : Nat) (v : List Int) : (hd24 k v).length = 1 + (varint v.length).length := by simp [hd24]; omega
theorem values1 (v : List Int) (k : Nat) (hk : k ≤ 2) (hl : v.length ≤ 16384) (hv : ∀ x ∈ v, In64 x) :
   ACall Tryz.prog 61 [.sl 1 (bytesE (encAs v k)), I ((1 + (varint v.length).length : Nat) : Int), I v.length, I k] [] (.tup [.osl 0 v.length 1, B true]) [some ⟨3, 1, intE v⟩] := by
 rw [← hd24_l k v]
 match k, hk with
 | 0, _ => exact valuesPlain v hl hv
 | 1, _ => exact valuesDelta v hl hv
 | 2, _ => exact valuesRuns v hl hv
theorem decode24 (v : List Int) (k : Nat) (hk3 : k ≤ 3) (hl : v.length ≤ 16384) (hv : ∀ x ∈ v, In64 x) :
   ACall Tryz.prog 36 [.sl 1 (bytesE (encAs v k))] [] (.tup [.osl 0 v.length 1, I 0]) [some ⟨3, 1, intE v⟩] := by
 refine acall 69 0 Tryz.func36 rfl rfl rfl (by simp) rfl rfl ?_
 intro C hN hk
 obtain ⟨t, ht⟩ := encAs_hd v k hk3
 have hel := encAs_len v k hk3 hl
 have q1 := kind1 k hk3 (varint v.length ++ t)
 rw [show UInt8.ofNat k :: (varint v.length ++ t) = encAs v k from ht.symm] at q1
 have q2 := getVarint1 (encAs v k) 1 (by omega) (by omega)
 have hgv := getVar_varint [UInt8.ofNat k] t v.length (by omega)
 rw [show [UInt8.ofNat k] ++ varint v.length ++ t = encAs v k from ht.symm] at hgv
 rw [show ([UInt8.ofNat k] : List UInt8).length = 1 from rfl] at hgv
 rw [hgv] at q2
 simp only [getRes] at q2
 have q3 := encAs1 v k hk3 hl
 have q4 := sameBytes (encAs v k) (encAs v k) (by omega) (by omega)
 rw [decide_eq_true rfl] at q4
 have a1 : decide ((v.length : Int) > 16384) = false := by simp; omega
 have a2 := wrap64 (n := (v.length : Int)) (by omega)
 refine nx ?_; refine rG hN hk noc [] [0] fun K hK => ?_; simp only [go_sem, seval]; refine hK _ _ ?_
 clear hK K; refine nx ?_
 generalize he : encAs v k = e at *
 refine nx ?_; refine rG hN hk (onc 1 (pc [.sl 1 (bytesE e)] (.tup [I k, B true]) []) noc) [] [0, 4, 5] fun K hK => ?_; simp only [go_sem, seval]
 first | with_reducible refine hK _ _ ?_ | refine ⟨by exact pureOb q1 rfl (by simp), hK _ _ ?_⟩ | refine obK (hK _ _ ?_)
 clear hK K; refine nx ?_
 refine rG hN hk (onc 1 (pc [.sl 1 (bytesE e), I 1] (.tup [U64 v.length, I ((1 + (varint v.length).length : Nat) : Int), B true]) []) noc) [] [0, 4, 5, 6, 7, 8] fun K hK => ?_; simp only [go_sem, seval]
 first | with_reducible refine hK _ _ ?_ | refine ⟨by exact pureOb q2 rfl (by simp), hK _ _ ?_⟩ | refine obK (hK _ _ ?_)
 clear hK K; refine nx ?_
 refine rG hN hk noc [] [0, 4, 6, 7, 32] fun K hK => ?_; simp only [go_sem, seval, a1]; refine hK _ _ ?_
 clear hK K; refine nx ?_
 refine AW.condF rfl (AW.skip (qNext ?_))
 refine nx ?_; refine rG hN hk noc [] [0, 4, 6, 7, 9] fun K hK => ?_; simp only [go_sem, seval]; refine hK _ _ ?_
 clear hK K; refine nx ?_
 generalize hp0 : (1 + (varint v.length).length : Nat) = p0 at *
 by_cases hk2 : k = 3
 · have a3 : ((k : Int) == 3) = true := by simp; omega
   refine nx ?_; refine rG hN hk noc [] [0, 4, 6, 7, 34] fun K hK => ?_; simp only [go_sem, seval, a3]; refine hK _ _ ?_
   clear hK K; refine nx ?_
   refine AW.join hk 1 ⟨[(0, .sl 1 (bytesE e)), (4, I k), (5, B true), (9, .osl 0 v.length 1)], [(0, some ⟨3, 1, intE v⟩)]⟩ ?_ ?_
   · refine cT ?_
     by_cases h0 : v = []
     · have q5 := unpack0 e p0
       have hv0 : v.length = 0 := by rw [h0]; rfl
       rw [show ((0 : Int)) = (v.length : Int) by omega] at q5
       refine nx ?_; refine rG hN hk (onc 4 (pc [.sl 1 (bytesE e), I p0, I v.length] (.tup [.val (.slice none 0 0), B true]) []) noc) [] [0, 4, 5, 9] fun K hK => ?_; simp only [go_sem, seval, a2]
       first | with_reducible refine hK _ _ ?_ | refine ⟨by exact pureOb q5 rfl (by simp), hK _ _ ?_⟩ | refine obK (hK _ _ ?_)
       clear hK K; refine nx ?_
       exact mkWk [none] [] (by simp [wkEnv, wk, lk, I, B, hv0]) (by simp [wkHp, wkHp1, wkEnt, lkh, h0, intE])
     · have q5 := unpack1 v (List.length_pos_iff.2 h0) hl hv
       rw [hd24_l, hp0, show pk24 v = e by rw [← he, hk2]; rfl] at q5
       refine nx ?_; refine rG hN hk (onc 4 (pc [.sl 1 (bytesE e), I p0, I v.length] (.tup [.osl 0 v.length 1, B true]) [some ⟨3, 1, intE v⟩]) noc) [] [0, 4, 5, 9] fun K hK => ?_; simp only [go_sem, seval, a2]
       first | with_reducible refine hK _ _ ?_ | refine ⟨by exact pureOb q5 rfl (by simp), hK _ _ ?_⟩ | refine obK (hK _ _ ?_)
       clear hK K; refine nx ?_
       exact mkWk [some 0] [] (by simp [wkEnv, wk, lk, I, B]) (by simp [wkHp, wkHp1, wkEnt, lkh])
   refine nx ?_; refine rG hN hk noc [] [0, 4, 9, 53] fun K hK => ?_; simp only [go_sem, seval]; refine hK _ _ ?_
   clear hK K; refine nx ?_
   refine AW.condF rfl (AW.skip (qNext ?_))
   refine nx ?_; refine rG hN hk (onc 2 (bc [0] [I k, .sl 1 (intE v)] (.tup [.osl 0 e.length 1, I 0]) [some ⟨5, 1, bytesE e⟩]) noc) [] [0, 9, 10, 11] fun K hK => ?_; simp only [go_sem, seval]
   first | with_reducible refine hK _ _ ?_ | refine ⟨by exact borrowOb q3 rfl (by simp) ⟨viewR, viewO (by simp) rfl rfl (by simp [intE]) rfl, trivial⟩ rfl (by simp) (by simp [borOb]), hK _ _ ?_⟩ | refine obK (hK _ _ ?_)
   clear hK K; refine nx ?_
   refine rG hN hk (onc 5 (bc [1] [.sl 1 (bytesE e), .sl 1 (bytesE e)] (B true) []) noc) [] [9, 67] fun K hK => ?_; simp only [go_sem, seval, bne_self_eq_false]
   first | with_reducible refine hK _ _ ?_ | refine ⟨by exact borrowOb q4 rfl (by simp) ⟨viewO (by simp) rfl rfl (by simp [bytesE]) rfl, viewR, trivial⟩ rfl (by simp) (by simp [borOb]), hK _ _ ?_⟩ | refine obK (hK _ _ ?_)
   clear hK K; refine nx ?_
   refine AW.condF rfl (AW.skip (qNext ?_))
   refine nx ?_; refine rG hN hk noc [] [2, 3] fun K hK => ?_; simp only [go_sem, seval]; refine hK _ _ ?_
   clear hK K; refine nx ?_
   refine AW.ret (mkRet [some 0] [] rfl ?_ ?_)
   · simp [resOf, lk, wk, wkL, I]
   · simp [wkHp, wkHp1, wkEnt, lkh]
 · have a3 : ((k : Int) == 3) = false := by simp; omega
   have q5 := values1 v k (by omega) hl hv
   rw [he, hp0] at q5
   refine nx ?_; refine rG hN hk noc [] [0, 4, 6, 7, 34] fun K hK => ?_; simp only [go_sem, seval, a3]; refine hK _ _ ?_
   clear hK K; refine nx ?_
   refine cF ?_; refine nx ?_; refine rG hN hk (onc 5 (pc [.sl 1 (bytesE e), I p0, I v.length, I k] (.tup [.osl 0 v.length 1, B true]) [some ⟨3, 1, intE v⟩]) noc) [] [0, 4, 5, 9] fun K hK => ?_; simp only [go_sem, seval, a2]
   first | with_reducible refine hK _ _ ?_ | refine ⟨by exact pureOb q5 rfl (by simp), hK _ _ ?_⟩ | refine obK (hK _ _ ?_)
   clear hK K; refine nx ?_
   refine rG hN hk noc [] [0, 4, 9, 53] fun K hK => ?_; simp only [go_sem, seval]; refine hK _ _ ?_
   clear hK K; refine nx ?_
   refine AW.condF rfl (AW.skip (qNext ?_))
   refine nx ?_; refine rG hN hk (onc 2 (bc [0] [I k, .sl 1 (intE v)] (.tup [.osl 0 e.length 1, I 0]) [some ⟨5, 1, bytesE e⟩]) noc) [] [0, 9, 10, 11] fun K hK => ?_; simp only [go_sem, seval]
   first | with_reducible refine hK _ _ ?_ | refine ⟨by exact borrowOb q3 rfl (by simp) ⟨viewR, viewO (by simp) rfl rfl (by simp [intE]) rfl, trivial⟩ rfl (by simp) (by simp [borOb]), hK _ _ ?_⟩ | refine obK (hK _ _ ?_)
   clear hK K; refine nx ?_
   refine rG hN hk (onc 5 (bc [1] [.sl 1 (bytesE e), .sl 1 (bytesE e)] (B true) []) noc) [] [9, 67] fun K hK => ?_; simp only [go_sem, seval, bne_self_eq_false]
   first | with_reducible refine hK _ _ ?_ | refine ⟨by exact borrowOb q4 rfl (by simp) ⟨viewO (by simp) rfl rfl (by simp [bytesE]) rfl, viewR, trivial⟩ rfl (by simp) (by simp [borOb]), hK _ _ ?_⟩ | refine obK (hK _ _ ?_)
   clear hK K; refine nx ?_
   refine AW.condF rfl (AW.skip (qNext ?_))
   refine nx ?_; refine rG hN hk noc [] [2, 3] fun K hK => ?_; simp only [go_sem, seval]; refine hK _ _ ?_
   clear hK K; refine nx ?_
   refine AW.ret (mkRet [some 0] [] rfl ?_ ?_)
   · simp [resOf, lk, wk, wkL, I]
   · simp [wkHp, wkHp1, wkEnt, lkh]
/-- A list of postings: ascending, each within bounds. -/
structure Post (l : List Int) : Prop where
 len : l.length ≤ 4096
 rng : ∀ i (h : i < l.length), 0 ≤ l[i] ∧ l[i] < 4096
 asc : ∀ i (h : i + 1 < l.length), l[i] < l[i + 1]
theorem check25 (l : List Int) (hp : Post l) : ACall Tryz.prog 109 [.sl 1 (intE l)] [] (I 0) [] := by
 have hl := hp.len
 refine acall 42 0 Tryz.func109 rfl rfl rfl (by simp) rfl rfl ?_
 intro C hN hk
 have a1 : decide ((l.length : Int) > 4096) = false := by simp; omega
 refine nx ?_; refine rG hN hk noc [] [0] fun K hK => ?_; simp only [go_sem, seval]; refine hK _ _ ?_
 clear hK K; refine nx ?_
 refine rG hN hk noc [] [0, 7] fun K hK => ?_; simp only [go_sem, seval, a1]; refine hK _ _ ?_
 clear hK K; refine nx ?_
 refine AW.condF rfl (AW.skip (qNext ?_))
 refine nx ?_; refine rG hN hk noc [] [0, 3] fun K hK => ?_; simp only [go_sem, seval]; refine hK _ _ ?_
 clear hK K; refine nx ?_
 refine AW.loopF hk 0 (fun i : Nat => ⟨[(0, .sl 1 (intE l)), (3, I i)], []⟩) (fun i => i ≤ l.length) (fun i => l.length - i) 0 (by omega) ⟨[], [], ⟨by simp [srcIds], by simp [srcIds], by simp⟩, by simp, by simp [wkEnv, wk, lk, I], by simp [wkHp]⟩ ?_
 intro i h1
 by_cases hi : i < l.length
 · have b1 : decide ((i : Int) < l.length) = true := by simp; omega
   have hx := List.getElem?_eq_getElem hi
   have hr := hp.rng i hi
   generalize l[i] = x at *
   have b2 : decide (x < 0) = false := by simp; omega
   have b3 : decide (x ≥ 4096) = false := by simp; omega
   have b4 := wrap64 (n := (i : Int) + 1) (by omega)
   refine nx ?_; refine rG hN hk noc [] [0, 3, 11] fun K hK => ?_; simp only [go_sem, seval, b1]; refine hK _ _ ?_
   clear hK K; refine nx ?_
   refine AW.condT rfl (AW.skip (qNext ?_))
   refine nx ?_; refine rG hN hk noc [] [0, 3, 25] fun K hK => ?_; simp only [go_sem, seval, hx, b2, b3]; refine hK _ _ ?_
   clear hK K; refine nx ?_
   refine AW.condF rfl (AW.skip (qBlock (qNext ?_)))
   refine nx ?_; refine rG hN hk noc [] [0, 3] fun K hK => ?_; simp only [go_sem, seval, b4]; refine hK _ _ ?_
   clear hK K; refine nx ?_
   exact ⟨i + 1, by omega, by omega, ⟨[], [], ⟨by simp [srcIds], by simp [srcIds], by simp⟩, by simp, by simp [wkEnv, wk, lk, I], by simp [wkHp]⟩⟩
 · have b1 : decide ((i : Int) < l.length) = false := by simp; omega
   refine nx ?_; refine rG hN hk noc [] [0, 11] fun K hK => ?_; simp only [go_sem, seval, b1]; refine hK _ _ ?_
   clear hK K; refine nx ?_
   refine AW.condF rfl (AW.exit (qThen (qThen (qHere (qNext ?_)))))
   refine nx ?_; refine rG hN hk noc [] [0, 4] fun K hK => ?_; simp only [go_sem, seval]; refine hK _ _ ?_
   clear hK K; refine nx ?_
   refine AW.loopF hk 0 (fun i : Nat => ⟨[(0, .sl 1 (intE l)), (4, I ((i : Int) + 1))], []⟩) (fun i => i ≤ l.length) (fun i => l.length - i) 0 (by omega) ⟨[], [], ⟨by simp [srcIds], by simp [srcIds], by simp⟩, by simp, by simp [wkEnv, wk, lk, I], by simp [wkHp]⟩ ?_
   clear h1 hi b1 i
   intro i h1
   by_cases hi : i + 1 < l.length
   · have b1 : decide ((i : Int) + 1 < l.length) = true := by simp; omega
     have hx := List.getElem?_eq_getElem hi
     have hy := List.getElem?_eq_getElem (show i < l.length by omega)
     have hr := hp.asc i hi
     generalize l[i + 1] = x at *
     generalize l[i] = y at *
     have b2 : decide (x ≤ y) = false := by simp; omega
     have e2 : ((i : Int) + 1).toNat = i + 1 := by omega
     have e3 := wrap64 (n := (i : Int) + 1 - 1) (by omega)
     have e4 : ((i : Int) + 1 - 1).toNat = i := by omega
     have e5 := wrap64 (n := (i : Int) + 1 + 1) (by omega)
     refine nx ?_; refine rG hN hk noc [] [0, 4, 29] fun K hK => ?_; simp only [go_sem, seval, b1]; refine hK _ _ ?_
     clear hK K; refine nx ?_
     refine AW.condT rfl (AW.skip (qNext ?_))
     refine nx ?_
     refine rD hN hk noc [] [0, 4, 41] fun K tok htok hK => ?_
     simp only [go_sem, seval, hx, hy, e2, e3, e4, b2]
     refine ⟨htok _ (by decide +kernel), by omega, hK _ _ ?_⟩
     clear hK K htok tok
     refine nx ?_
     refine AW.condF rfl (AW.skip (qBlock (qNext ?_)))
     refine nx ?_; refine rG hN hk noc [] [0, 4] fun K hK => ?_; simp only [go_sem, seval, e5]; refine hK _ _ ?_
     clear hK K; refine nx ?_
     exact ⟨i + 1, by omega, by omega, ⟨[], [], ⟨by simp [srcIds], by simp [srcIds], by simp⟩, by simp, by simp [wkEnv, wk, lk, I], by simp [wkHp]⟩⟩
   · have b1 : decide ((i : Int) + 1 < l.length) = false := by simp; omega
     refine nx ?_; refine rG hN hk noc [] [0, 29] fun K hK => ?_; simp only [go_sem, seval, b1]; refine hK _ _ ?_
     clear hK K; refine nx ?_
     refine AW.condF rfl (AW.exit (qThen (qThen (qHere (qNext ?_)))))
     refine nx ?_; refine rG hN hk noc [] [2] fun K hK => ?_; simp only [go_sem, seval]; refine hK _ _ ?_
     clear hK K; refine nx ?_
     refine AW.ret (mkRet [] [] rfl ?_ ?_)
     · simp [resOf, lk, wk, I]
     · simp [wkHp]
end Go.Proofs.YtceeklfmlheofaaGreat
