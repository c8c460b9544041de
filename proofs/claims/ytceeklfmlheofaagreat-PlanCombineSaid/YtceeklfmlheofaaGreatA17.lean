/-
  Part 17 of the proof that logtidelaw41.PlanCombine returns true for every list of bytes and leaves its argument as it was; no condition.
-/
import Derived.Test.YtceeklfmlheofaaGreatA16
set_option linter.unusedSimpArgs false
set_option linter.unusedVariables false
namespace Go.Proofs.YtceeklfmlheofaaGreat
open Go.Av
attribute [local irreducible] ACall
theorem comGo_take (a b : S) : ∀ f i, a.take i = b.take i → a.take (comGo a b f i) = b.take (comGo a b f i)
 | 0, i, h => h
 | f + 1, i, h => by
   rw [comGo]
   split
   · next x y hx hy =>
     split
     · next hxy =>
       subst hxy
       refine comGo_take a b f (i + 1) ?_
       rw [List.take_add_one, List.take_add_one, h, hx, hy]
     · exact h
   · exact h
theorem comF_take (a b : S) : a.take (comF a b) = b.take (comF a b) := comGo_take a b _ 0 (by simp)
theorem enc23_split (d : List S) (i : Nat) : ∀ j, ∃ t, enc23To d (i + j) = enc23To d i ++ t
 | 0 => ⟨[], by simp⟩
 | j + 1 => by
   obtain ⟨t, ht⟩ := enc23_split d i j
   exact ⟨t ++ piece d (i + j), by rw [← Nat.add_assoc, enc23To, ht, List.append_assoc]⟩
theorem enc23_tail (d : List S) (i : Nat) (h : i ≤ d.length) : ∃ t, enc23F d = enc23To d i ++ t := by
 obtain ⟨t, ht⟩ := enc23_split d i (d.length - i)
 rw [show i + (d.length - i) = d.length by omega] at ht
 exact ⟨t, ht⟩
theorem decode23 (d : List S) (hc : check23F d = 0) :
   ACall Tryz.prog 64 [.sl 1 (bytesE (enc23F d))] [] (.tup [.osl 0 d.length 1, I 0]) [some ⟨9, 1, strE d⟩] := by
 have hlen : d.length ≤ 32768 := by unfold check23F at hc; split at hc <;> omega
 have hlong : longS d = false := by
   unfold check23F at hc
   rw [if_neg (by omega)] at hc
   cases h : longS d with
   | false => rfl
   | true => rw [h] at hc; simp at hc
 have hs : ∀ s ∈ d, s.length ≤ 2048 := by
   intro s hs
   simp only [longS, List.any_eq_false, decide_eq_true_eq] at hlong
   have := hlong s hs
   omega
 have hel := enc23To_len d hlong d.length (by omega)
 have hel' : (enc23F d).length ≤ 2 ^ 40 := by unfold enc23F; omega
 refine acall 114 0 Tryz.func64 rfl rfl rfl (by simp) rfl rfl ?_
 intro C hN hk
 have q0 := getVarint1 (enc23F d) 0 hel' (by omega)
 obtain ⟨t0, ht0⟩ := enc23_tail d 0 (by omega)
 rw [show getVarF (enc23F d) 0 = some ((d.length : Int), (enc23To d 0).length) by
   have := getVar_varint [] t0 d.length (by omega)
   simp only [List.nil_append, List.length_nil, Nat.zero_add] at this
   rw [ht0]; exact this] at q0
 simp only [getRes] at q0
 refine nx ?_; refine rG hN hk noc [] [0] fun K hK => ?_; simp only [go_sem, seval]; refine hK _ _ ?_
 clear hK K; refine nx ?_
 refine rG hN hk (onc 1 (pc [.sl 1 (bytesE (enc23F d)), I 0] (.tup [U64 d.length, I (enc23To d 0).length, B true]) []) noc) [] [0, 4, 5, 6] fun K hK => ?_; simp only [go_sem, seval]
 first | with_reducible refine hK _ _ ?_ | refine ⟨by exact pureOb q0 rfl (by simp), hK _ _ ?_⟩ | refine obK (hK _ _ ?_)
 clear hK K; refine nx ?_
 have e0 : decide ((d.length : Int) > 32768) = false := by simp; omega
 refine nx ?_; refine rG hN hk noc [] [0, 4, 5, 25] fun K hK => ?_; simp only [go_sem, seval, e0]; refine hK _ _ ?_
 clear hK K; refine nx ?_
 refine AW.condF rfl (AW.skip (qNext ?_))
 refine nx ?_; refine rG hN hk noc [] [0, 4, 5, 7] fun K hK => ?_; simp only [go_sem, seval]; refine hK _ _ ?_
 clear hK K; refine nx ?_
 refine rG hN hk noc [] [0, 4, 5, 7, 8] fun K hK => ?_; simp only [go_sem, seval]; refine hK _ _ ?_
 clear hK K; refine nx ?_
 refine AW.loopF hk 1 (fun i : Nat => ⟨[(0, .sl 1 (bytesE (enc23F d))), (4, U64 d.length), (5, I (enc23To d i).length), (7, .osl 0 i 1), (8, I i)], [(0, some ⟨9, 1, strE (d.take i)⟩)]⟩) (fun i => i ≤ d.length) (fun i => d.length - i) 0 (by omega) ⟨[none], [], ⟨by simp [srcIds], by simp [srcIds], by simp⟩, by simp, by simp [wkEnv, wk, lk, I, U64], by simp [wkHp, wkHp1, wkEnt, lkh, strE]⟩ ?_
 intro i h1
 have e1 := wrap64 (n := (d.length : Int)) (by omega)
 by_cases hi : i < d.length
 · have e2 : decide ((i : Int) < d.length) = true := by simp; omega
   refine nx ?_; refine rG hN hk noc [] [0, 4, 5, 7, 8, 29] fun K hK => ?_; simp only [go_sem, seval, e1, e2]; refine hK _ _ ?_
   clear hK K; refine nx ?_
   refine AW.condT rfl (AW.skip (qNext ?_))
   refine nx ?_; refine rG hN hk noc [] [0, 4, 5, 7, 8, 9] fun K hK => ?_; simp only [go_sem, seval]; refine hK _ _ ?_
   clear hK K; refine nx ?_
   have hx := List.getElem?_eq_getElem hi
   have hx2 : d.getD i [] = d[i] := by simp [List.getD, hi]
   have hxl : d[i].length ≤ 2048 := hs _ (List.getElem_mem hi)
   have htk : d.take (i + 1) = d.take i ++ [d[i]] := List.take_succ_eq_append_getElem hi
   have e3 : (i : Int).tmod 16 = ((i % 16 : Nat) : Int) := by rw [Int.tmod_eq_emod_of_nonneg (by omega)]; omega
   have e7 := wrap64 (n := (i : Int) + 1) (by omega)
   obtain ⟨t1, ht1⟩ := enc23_tail d (i + 1) (by omega)
   have htl : (d.take i).length = i := by simp; omega
   have hb1 := enc23To_len d hlong i (by omega)
   have hb2 := enc23To_len d hlong (i + 1) (by omega)
   have hp1 : enc23To d (i + 1) = enc23To d i ++ piece d i := rfl
   have hel2 : (enc23F d).length = (enc23To d (i + 1)).length + t1.length := by rw [ht1]; simp
   by_cases h16 : i % 16 = 0
   · have e4 : (((i % 16 : Nat) : Int) != 0) = false := by simp; omega
     rw [piece, if_pos h16, show pieceN d i = 0 by unfold pieceN; rw [if_pos h16], hx2] at hp1
     generalize d[i] = x at hx hp1 hxl htk
     simp only [List.nil_append, List.drop_zero, Nat.sub_zero] at hp1
     have q1 := getVarint1 (enc23F d) (enc23To d i).length hel' (by omega)
     have hgv := getVar_varint (enc23To d i) (x ++ t1) x.length (by omega)
     rw [show enc23To d i ++ varint x.length ++ (x ++ t1) = enc23F d by rw [ht1, hp1]; simp [List.append_assoc]] at hgv
     rw [hgv] at q1
     simp only [getRes] at q1
     have hd1 : ((enc23F d).drop ((enc23To d i).length + (varint x.length).length)).take x.length = x := by
       rw [ht1, hp1]
       rw [show (enc23To d i ++ (varint x.length ++ x) ++ t1) = (enc23To d i ++ varint x.length) ++ (x ++ t1) by simp [List.append_assoc]]
       rw [← List.length_append, List.drop_left]; simp
     have hl1 : (enc23To d (i + 1)).length = (enc23To d i).length + (varint x.length).length + x.length := by rw [hp1]; simp [Nat.add_assoc]
     generalize (varint x.length).length = vl at *
     generalize enc23F d = e at *
     generalize (enc23To d i).length = c at *
     refine nx ?_; refine rG hN hk noc [] [0, 4, 5, 7, 8, 9, 34] fun K hK => ?_; simp only [go_sem, seval, e3, e4]
     first | with_reducible refine hK _ _ ?_ | refine ⟨by decide, hK _ _ ?_⟩ | refine obK (hK _ _ ?_)
     clear hK K; refine nx ?_
     refine AW.condF rfl (AW.skip (qNext ?_))
     refine nx ?_; refine rG hN hk noc [] [0, 4, 5, 7, 8, 9, 10] fun K hK => ?_; simp only [go_sem, seval]; refine hK _ _ ?_
     clear hK K; refine nx ?_
     refine rG hN hk (onc 2 (pc [.sl 1 (bytesE e), I c] (.tup [U64 x.length, I ((c + vl : Nat) : Int), B true]) []) noc) [] [0, 4, 5, 6, 7, 8, 9, 10] fun K hK => ?_; simp only [go_sem, seval]
     first | with_reducible refine hK _ _ ?_ | refine ⟨by exact pureOb q1 rfl (by simp), hK _ _ ?_⟩ | refine obK (hK _ _ ?_)
     clear hK K; refine nx ?_
     have e8 := wrap64 (n := (e.length : Int) - ((c + vl : Nat) : Int)) (by omega)
     have e9 := IntWalk.u64_in ((e.length : Int) - ((c + vl : Nat) : Int)) (by omega)
     have e10 : decide ((x.length : Int) > (e.length : Int) - ((c + vl : Nat) : Int)) = false := by simp; omega
     refine nx ?_; refine rG hN hk noc [] [0, 4, 5, 7, 8, 9, 10, 72] fun K hK => ?_; simp only [go_sem, seval, e8, e9, e10]; refine hK _ _ ?_
     clear hK K; refine nx ?_
     refine AW.condF rfl (AW.skip (qNext ?_))
     refine nx ?_; refine rG hN hk noc [] [0, 4, 5, 7, 8, 9, 10, 11] fun K hK => ?_; simp only [go_sem, seval]; refine hK _ _ ?_
     clear hK K; refine nx ?_
     refine rG hN hk noc [] [0, 4, 5, 7, 8, 9, 10, 11, 75] fun K hK => ?_; simp only [go_sem, seval, e3, e4]
     first | with_reducible refine hK _ _ ?_ | refine ⟨by decide, hK _ _ ?_⟩ | refine obK (hK _ _ ?_)
     clear hK K; refine nx ?_
     refine AW.condF rfl (AW.skip (qNext ?_))
     have e11 := wrap64 (n := (x.length : Int)) (by omega)
     have e12 := wrap64 (n := ((c + vl : Nat) : Int) + x.length) (by omega)
     have e13 : (((c + vl : Nat) : Int)).toNat = c + vl := by omega
     have e14 : (((c + vl : Nat) : Int) + x.length).toNat = c + vl + x.length := by omega
     rw [List.take_drop] at hd1
     refine nx ?_; refine rG hN hk noc [] [0, 4, 5, 7, 8, 10] fun K hK => ?_; simp only [go_sem, seval, e11, e12, e13, e14, hd1]
     first | with_reducible refine hK _ _ ?_ | refine ⟨by exact ⟨⟨⟨⟨by omega, isByte_bytesE x⟩, by omega⟩, by simp⟩, by omega, htl⟩, hK _ _ ?_⟩ | refine obK (hK _ _ ?_)
     clear hK K; refine nx ?_
     refine rG hN hk noc [] [0, 4, 5, 7, 8] fun K hK => ?_; simp only [go_sem, seval, e11, e12]; refine hK _ _ ?_
     clear hK K; refine nx ?_
     refine rG hN hk noc [] [0, 4, 5, 7, 8] fun K hK => ?_; simp only [go_sem, seval, e7]; refine hK _ _ ?_
     clear hK K; refine nx ?_
     exact ⟨i + 1, by omega, by omega, ⟨[some 0], [], ⟨by simp [srcIds], by simp [srcIds], by simp⟩, by simp, by simp [wkEnv, wk, lk, I, U64, hl1], by simp [wkHp, wkHp1, wkEnt, lkh, htk]⟩⟩
   · have e4 : (((i % 16 : Nat) : Int) != 0) = true := by simp; omega
     have hi0 : 0 < i := by omega
     have hy := List.getElem?_eq_getElem (show i - 1 < d.length by omega)
     have hy2 : d.getD (i - 1) [] = d[i - 1] := by simp [List.getD, show i - 1 < d.length by omega]
     have hyl : d[i - 1].length ≤ 2048 := hs _ (List.getElem_mem (by omega))
     rw [piece, if_neg h16, show pieceN d i = comF (d.getD i []) (d.getD (i - 1) []) by unfold pieceN; rw [if_neg h16], hx2, hy2] at hp1
     have hy3 : (d.take i)[i - 1]? = some d[i - 1] := by rw [List.getElem?_take_of_lt (by omega)]; exact hy
     generalize d[i] = x at hx hp1 hxl htk
     generalize d[i - 1] = y at hy hp1 hyl hy3
     have hcl := comF_le x y
     have hcl2 := comF_le2 x y
     have hct := comF_take x y
     generalize comF x y = n at *
     have q1 := getVarint1 (enc23F d) (enc23To d i).length hel' (by omega)
     have hgv := getVar_varint (enc23To d i) (varint (x.length - n) ++ x.drop n ++ t1) n (by omega)
     rw [show enc23To d i ++ varint n ++ (varint (x.length - n) ++ x.drop n ++ t1) = enc23F d by rw [ht1, hp1]; simp [List.append_assoc]] at hgv
     rw [hgv] at q1
     have q2 := getVarint1 (enc23F d) (enc23To d i ++ varint n).length hel' (by simp; have := varint_len n; omega)
     have hgv2 := getVar_varint (enc23To d i ++ varint n) (x.drop n ++ t1) (x.length - n) (by omega)
     rw [show enc23To d i ++ varint n ++ varint (x.length - n) ++ (x.drop n ++ t1) = enc23F d by rw [ht1, hp1]; simp [List.append_assoc]] at hgv2
     rw [hgv2] at q2
     simp only [getRes, List.length_append] at q1 q2
     have hd1 : ((enc23F d).drop ((enc23To d i).length + (varint n).length + (varint (x.length - n)).length)).take (x.length - n) = x.drop n := by
       rw [ht1, hp1]
       rw [show (enc23To d i ++ (varint n ++ varint (x.length - n) ++ x.drop n) ++ t1) = (enc23To d i ++ varint n ++ varint (x.length - n)) ++ (x.drop n ++ t1) by simp [List.append_assoc]]
       rw [← List.length_append, ← List.length_append, List.drop_left, List.take_append_of_le_length (by simp), List.take_of_length_le (by simp)]
     have hl1 : (enc23To d (i + 1)).length = (enc23To d i).length + (varint n).length + (varint (x.length - n)).length + (x.length - n) := by rw [hp1]; simp [Nat.add_assoc]
     have hjoin : y.take n ++ x.drop n = x := by rw [← hct, List.take_append_drop]
     generalize (varint (x.length - n)).length = vl at *
     generalize (varint n).length = vn at *
     generalize enc23F d = e at *
     generalize (enc23To d i).length = c at *
     refine nx ?_; refine rG hN hk noc [] [0, 4, 5, 7, 8, 9, 34] fun K hK => ?_; simp only [go_sem, seval, e3, e4]
     first | with_reducible refine hK _ _ ?_ | refine ⟨by decide, hK _ _ ?_⟩ | refine obK (hK _ _ ?_)
     clear hK K; refine nx ?_
     refine cT ?_; refine nx ?_; refine rG hN hk (onc 2 (pc [.sl 1 (bytesE e), I c] (.tup [U64 n, I ((c + vn : Nat) : Int), B true]) []) noc) [] [0, 4, 5, 6, 7, 8, 9] fun K hK => ?_; simp only [go_sem, seval]
     first | with_reducible refine hK _ _ ?_ | refine ⟨by exact pureOb q1 rfl (by simp), hK _ _ ?_⟩ | refine obK (hK _ _ ?_)
     clear hK K; refine nx ?_
     have e15 := wrap64 (n := (i : Int) - 1) (by omega)
     have e16 : ((i : Int) - 1).toNat = i - 1 := by omega
     have e17 := IntWalk.u64_in (y.length : Int) (by omega)
     have e18 : decide ((n : Int) > (y.length : Int)) = false := by simp; omega
     refine nx ?_; refine rG hN hk noc [] [0, 4, 5, 7, 8, 9, 54] fun K hK => ?_; simp only [go_sem, seval, e15, e16, e17, e18, hy3]
     first | with_reducible refine hK _ _ ?_ | refine ⟨by omega, hK _ _ ?_⟩ | refine obK (hK _ _ ?_)
     clear hK K; refine nx ?_
     refine AW.condF rfl (AW.skip (qNext ?_))
     refine nx ?_; refine rG hN hk noc [] [0, 4, 5, 7, 8, 9, 10] fun K hK => ?_; simp only [go_sem, seval]; refine hK _ _ ?_
     clear hK K; refine nx ?_
     refine rG hN hk (onc 2 (pc [.sl 1 (bytesE e), I ((c + vn : Nat) : Int)] (.tup [U64 ((x.length - n : Nat) : Int), I ((c + vn + vl : Nat) : Int), B true]) []) noc) [] [0, 4, 5, 6, 7, 8, 9, 10] fun K hK => ?_; simp only [go_sem, seval]
     first | with_reducible refine hK _ _ ?_ | refine ⟨by exact pureOb q2 rfl (by simp), hK _ _ ?_⟩ | refine obK (hK _ _ ?_)
     clear hK K; refine nx ?_
     have e8 := wrap64 (n := (e.length : Int) - ((c + vn + vl : Nat) : Int)) (by omega)
     have e9 := IntWalk.u64_in ((e.length : Int) - ((c + vn + vl : Nat) : Int)) (by omega)
     have e10 : decide (((x.length - n : Nat) : Int) > (e.length : Int) - ((c + vn + vl : Nat) : Int)) = false := by simp; omega
     refine nx ?_; refine rG hN hk noc [] [0, 4, 5, 7, 8, 9, 10, 72] fun K hK => ?_; simp only [go_sem, seval, e8, e9, e10]; refine hK _ _ ?_
     clear hK K; refine nx ?_
     refine AW.condF rfl (AW.skip (qNext ?_))
     refine nx ?_; refine rG hN hk noc [] [0, 4, 5, 7, 8, 9, 10, 11] fun K hK => ?_; simp only [go_sem, seval]; refine hK _ _ ?_
     clear hK K; refine nx ?_
     refine rG hN hk noc [] [0, 4, 5, 7, 8, 9, 10, 11, 75] fun K hK => ?_; simp only [go_sem, seval, e3, e4]
     first | with_reducible refine hK _ _ ?_ | refine ⟨by decide, hK _ _ ?_⟩ | refine obK (hK _ _ ?_)
     clear hK K; refine nx ?_
     refine cT ?_
     have e19 : (n : Int).toNat = n := by omega
     refine nx ?_; refine rG hN hk noc [] [0, 4, 5, 7, 8, 10, 11] fun K hK => ?_; simp only [go_sem, seval, e15, e16, e19, hy3]
     first | with_reducible refine hK _ _ ?_ | refine ⟨by omega, hK _ _ ?_⟩ | refine obK (hK _ _ ?_)
     clear hK K; refine nx ?_
     have e11 := wrap64 (n := ((x.length - n : Nat) : Int)) (by omega)
     have e12 := wrap64 (n := ((c + vn + vl : Nat) : Int) + ((x.length - n : Nat) : Int)) (by omega)
     have e13 : (((c + vn + vl : Nat) : Int)).toNat = c + vn + vl := by omega
     have e14 : (((c + vn + vl : Nat) : Int) + ((x.length - n : Nat) : Int)).toNat = c + vn + vl + (x.length - n) := by omega
     rw [List.take_drop] at hd1
     refine nx ?_; refine rG hN hk noc [] [0, 4, 5, 7, 8, 10] fun K hK => ?_; simp only [go_sem, seval, e11, e12, e13, e14, hd1]
     first | with_reducible refine hK _ _ ?_ | refine ⟨by exact ⟨⟨⟨⟨by omega, isByte_bytesE _⟩, by simp; omega⟩, by simp⟩, by omega, htl⟩, hK _ _ ?_⟩ | refine obK (hK _ _ ?_)
     clear hK K; refine nx ?_
     rw [hjoin]
     refine nx ?_; refine rG hN hk noc [] [0, 4, 5, 7, 8] fun K hK => ?_; simp only [go_sem, seval, e11, e12]; refine hK _ _ ?_
     clear hK K; refine nx ?_
     refine rG hN hk noc [] [0, 4, 5, 7, 8] fun K hK => ?_; simp only [go_sem, seval, e7]; refine hK _ _ ?_
     clear hK K; refine nx ?_
     exact ⟨i + 1, by omega, by omega, ⟨[some 0], [], ⟨by simp [srcIds], by simp [srcIds], by simp⟩, by simp, by simp [wkEnv, wk, lk, I, U64, hl1], by simp [wkHp, wkHp1, wkEnt, lkh, htk]⟩⟩
 · have e2 : decide ((i : Int) < d.length) = false := by simp; omega
   have : i = d.length := by omega
   subst this
   refine nx ?_; refine rG hN hk noc [] [0, 7, 29] fun K hK => ?_; simp only [go_sem, seval, e1, e2]; refine hK _ _ ?_
   clear hK K; refine nx ?_
   refine AW.condF rfl (AW.exit (qThen (qThen (qHere (qNext ?_)))))
   rw [List.take_length]
   have q3 := encode23 d (by omega) (fun s h => by have := hs s h; omega)
   rw [enc23R, if_pos hc] at q3
   have q4 := sameBytes (enc23F d) (enc23F d) hel' hel'
   rw [decide_eq_true rfl] at q4
   generalize enc23F d = e at *
   refine nx ?_; refine rG hN hk (onc 1 (bc [0] [.sl 1 (strE d)] (.tup [.osl 0 e.length 1, I 0]) [some ⟨5, 1, bytesE e⟩]) noc) [] [0, 7, 12, 13] fun K hK => ?_; simp only [go_sem, seval]
   first | with_reducible refine hK _ _ ?_ | refine ⟨by exact borrowOb q3 rfl (by simp) ⟨viewO (by simp) rfl rfl (by simp [strE_len]) rfl, trivial⟩ rfl (by simp) (by simp [borOb]), hK _ _ ?_⟩ | refine obK (hK _ _ ?_)
   clear hK K; refine nx ?_
   refine rG hN hk (onc 5 (bc [1] [.sl 1 (bytesE e), .sl 1 (bytesE e)] (B true) []) noc) [] [0, 7, 112] fun K hK => ?_; simp only [go_sem, seval, bne_self_eq_false]
   first | with_reducible refine hK _ _ ?_ | refine ⟨by exact borrowOb q4 rfl (by simp) ⟨viewO (by simp) rfl rfl (by simp [bytesE]) rfl, viewR, trivial⟩ rfl (by simp) (by simp [borOb]), hK _ _ ?_⟩ | refine obK (hK _ _ ?_)
   clear hK K; refine nx ?_
   refine AW.condF rfl (AW.skip (qNext ?_))
   refine nx ?_; refine rG hN hk noc [] [2, 3] fun K hK => ?_; simp only [go_sem, seval]; refine hK _ _ ?_
   clear hK K; refine nx ?_
   refine AW.ret (mkRet [some 0] [] rfl ?_ ?_)
   · simp [resOf, lk, wk, wkL, I]
   · simp [wkHp, wkHp1, wkEnt, lkh]
theorem kind1 (k : Nat) (hk3 : k ≤ 3) (r : List UInt8) : ACall Tryz.prog 58 [.sl 1 (bytesE (UInt8.ofNat k :: r))] [] (.tup [I k, B true]) [] := by
 refine acall 17 0 Tryz.func58 rfl rfl rfl (by simp) rfl rfl ?_
 intro C hN hk
 have hx : (UInt8.ofNat k :: r)[0]? = some (UInt8.ofNat k) := rfl
 have e1 : (((UInt8.ofNat k :: r).length : Int) == 0) = false := by simp; omega
 have e2 := ofNat_toNat k (by omega)
 have e3 : decide ((k : Int) > 3) = false := by simp; omega
 have e4 : ((0 : Int) < ((UInt8.ofNat k :: r).length : Int)) := by simp
 have e5 := wrap64 (n := (k : Int)) (by omega)
 generalize UInt8.ofNat k :: r = b at *
 generalize UInt8.ofNat k = x at *
 refine nx ?_; refine rG hN hk noc [] [0] fun K hK => ?_; simp only [go_sem, reduceIte, Nat.reduceAdd, Nat.reduceMul, Nat.reduceEqDiff, reduceCtorEq, Nat.reduceSub, Nat.reduceLeDiff, Nat.reducePow, Nat.lt_add_one, Nat.zero_lt_succ, ne_eq, not_false_eq_true, decide_true, decide_false, Bool.not_true, Bool.not_false, Bool.false_eq_true]; refine hK _ _ ?_
 clear hK K; refine nx ?_
 refine rG hN hk noc [] [0, 12] fun K hK => ?_; simp only [go_sem, reduceIte, Nat.reduceAdd, Nat.reduceMul, Nat.reduceEqDiff, reduceCtorEq, Nat.reduceSub, Nat.reduceLeDiff, Nat.reducePow, Nat.lt_add_one, Nat.zero_lt_succ, ne_eq, not_false_eq_true, decide_true, decide_false, Bool.not_true, Bool.not_false, Bool.false_eq_true, e1, hx, e2, e3, Int.toNat_zero]
 first | with_reducible refine hK _ _ ?_ | refine ⟨by exact Int.le_refl _, hK _ _ ?_⟩ | refine obK (hK _ _ ?_)
 clear hK K; refine nx ?_
 refine AW.condF rfl (AW.skip (qNext ?_))
 refine nx ?_; refine rG hN hk noc [] [2, 3] fun K hK => ?_; simp only [go_sem, reduceIte, Nat.reduceAdd, Nat.reduceMul, Nat.reduceEqDiff, reduceCtorEq, Nat.reduceSub, Nat.reduceLeDiff, Nat.reducePow, Nat.lt_add_one, Nat.zero_lt_succ, ne_eq, not_false_eq_true, decide_true, decide_false, Bool.not_true, Bool.not_false, Bool.false_eq_true, hx, e2, e5, Int.toNat_zero]
 first | with_reducible refine hK _ _ ?_ | refine ⟨by exact Int.le_refl _, hK _ _ ?_⟩ | refine obK (hK _ _ ?_)
 clear hK K; refine nx ?_
 refine AW.ret (mkRet [] [] rfl ?_ ?_)
 · simp [resOf, lk, wk, wkL, I, B]
 · simp [wkHp]
theorem getInt1 (b : List UInt8) (at_ n : Nat) (v : Int) (hb : b.length ≤ 2 ^ 40) (ha : at_ ≤ 2 ^ 41) (h : getVarF b at_ = some (v, n)) : ACall Tryz.prog 89 [.sl 1 (bytesE b), I at_] [] (.tup [I (unzigF v), I n, B true]) [] := by
 refine acall 21 0 Tryz.func89 rfl rfl rfl (by simp) rfl rfl ?_
 intro C hN hk
 have q := getVarint1 b at_ hb ha
 rw [h] at q
 have q2 := unzig1 v
 simp only [getRes] at q
 refine nx ?_; refine rG hN hk noc [] [0, 1] fun K hK => ?_; simp only [go_sem, reduceIte, Nat.reduceAdd, Nat.reduceMul, Nat.reduceEqDiff, reduceCtorEq, Nat.reduceSub, Nat.reduceLeDiff, Nat.reducePow, Nat.lt_add_one, Nat.zero_lt_succ, ne_eq, not_false_eq_true, decide_true, decide_false, Bool.not_true, Bool.not_false, Bool.false_eq_true]; refine hK _ _ ?_
 clear hK K; refine nx ?_
 refine rG hN hk (onc 2 (pc [.sl 1 (bytesE b), I at_] (.tup [U64 v, I n, B true]) []) noc) [] [7, 8, 9] fun K hK => ?_; simp only [go_sem, reduceIte, Nat.reduceAdd, Nat.reduceMul, Nat.reduceEqDiff, reduceCtorEq, Nat.reduceSub, Nat.reduceLeDiff, Nat.reducePow, Nat.lt_add_one, Nat.zero_lt_succ, ne_eq, not_false_eq_true, decide_true, decide_false, Bool.not_true, Bool.not_false, Bool.false_eq_true]
 first | with_reducible refine hK _ _ ?_ | refine ⟨by exact pureOb q rfl (by simp), hK _ _ ?_⟩ | refine obK (hK _ _ ?_)
 clear hK K; refine nx ?_
 refine rG hN hk (onc 1 (pc [U64 v] (I (unzigF v)) []) noc) [] [4, 5, 6] fun K hK => ?_; simp only [go_sem, reduceIte, Nat.reduceAdd, Nat.reduceMul, Nat.reduceEqDiff, reduceCtorEq, Nat.reduceSub, Nat.reduceLeDiff, Nat.reducePow, Nat.lt_add_one, Nat.zero_lt_succ, ne_eq, not_false_eq_true, decide_true, decide_false, Bool.not_true, Bool.not_false, Bool.false_eq_true]
 first | with_reducible refine hK _ _ ?_ | refine ⟨by exact pureOb q2 rfl (by simp), hK _ _ ?_⟩ | refine obK (hK _ _ ?_)
 clear hK K; refine nx ?_
 refine AW.ret (mkRet [] [] rfl ?_ ?_)
 · simp [resOf, lk, wk, wkL, I, B]
 · simp [wkHp]
def lowTo (v : List Int) : Nat → Int
 | 0 => v.getD 0 0
 | i + 1 => if v.getD i 0 < lowTo v i then v.getD i 0 else lowTo v i
def highTo (v : List Int) : Nat → Int
 | 0 => v.getD 0 0
 | i + 1 => if v.getD i 0 > highTo v i then v.getD i 0 else highTo v i
theorem bounds1 (v : List Int) (h0 : 0 < v.length) (hl : v.length ≤ 2 ^ 40) : ACall Tryz.prog 104 [.sl 1 (intE v)] [] (.tup [I (lowTo v v.length), I (highTo v v.length), B true]) [] := by
 refine acall 37 0 Tryz.func104 rfl rfl rfl (by simp) rfl rfl ?_
 intro C hN hk
 have e1 : ((v.length : Int) == 0) = false := by simp; intro h; rw [h] at h0; simp at h0
 have hx := List.getElem?_eq_getElem h0
 have hx2 : v.getD 0 0 = v[0] := by simp [List.getD, h0]
 have e4 : ((0 : Int) < (v.length : Int)) := by omega
 refine nx ?_; refine rG hN hk noc [] [0] fun K hK => ?_; simp only [go_sem, reduceIte, Nat.reduceAdd, Nat.reduceMul, Nat.reduceEqDiff, reduceCtorEq, Nat.reduceSub, Nat.reduceLeDiff, Nat.reducePow, Nat.lt_add_one, Nat.zero_lt_succ, ne_eq, not_false_eq_true, decide_true, decide_false, Bool.not_true, Bool.not_false, Bool.false_eq_true]; refine hK _ _ ?_
 clear hK K; refine nx ?_
 refine rG hN hk noc [] [0, 10] fun K hK => ?_; simp only [go_sem, reduceIte, Nat.reduceAdd, Nat.reduceMul, Nat.reduceEqDiff, reduceCtorEq, Nat.reduceSub, Nat.reduceLeDiff, Nat.reducePow, Nat.lt_add_one, Nat.zero_lt_succ, ne_eq, not_false_eq_true, decide_true, decide_false, Bool.not_true, Bool.not_false, Bool.false_eq_true, e1]; refine hK _ _ ?_
 clear hK K; refine nx ?_
 refine AW.condF rfl (AW.skip (qNext ?_))
 refine nx ?_
 refine rD hN hk noc [] [0, 5, 6] fun K tok htok hK => ?_
 simp only [go_sem, reduceIte, Nat.reduceAdd, Nat.reduceMul, Nat.reduceEqDiff, reduceCtorEq, Nat.reduceSub, Nat.reduceLeDiff, Nat.reducePow, Nat.lt_add_one, Nat.zero_lt_succ, ne_eq, not_false_eq_true, decide_true, decide_false, Bool.not_true, Bool.not_false, Bool.false_eq_true, hx, Int.toNat_zero]
 refine ⟨htok _ (by decide +kernel), by exact Int.le_refl _, hK _ _ ?_⟩
 clear hK K htok tok
 refine nx ?_
 rw [← hx2]
 clear hx hx2 e1 e4
 refine nx ?_; refine rG hN hk noc [] [0, 5, 6, 7] fun K hK => ?_; simp only [go_sem, reduceIte, Nat.reduceAdd, Nat.reduceMul, Nat.reduceEqDiff, reduceCtorEq, Nat.reduceSub, Nat.reduceLeDiff, Nat.reducePow, Nat.lt_add_one, Nat.zero_lt_succ, ne_eq, not_false_eq_true, decide_true, decide_false, Bool.not_true, Bool.not_false, Bool.false_eq_true]; refine hK _ _ ?_
 clear hK K; refine nx ?_
 refine AW.loopF hk 0 (fun i : Nat => ⟨[(0, .sl 1 (intE v)), (5, I (lowTo v i)), (6, I (highTo v i)), (7, I i)], []⟩) (fun i => i ≤ v.length) (fun i => v.length - i) 0 (by omega) ⟨[], [], ⟨by simp [srcIds], by simp [srcIds], by simp⟩, by simp, by simp [wkEnv, wk, lk, I, lowTo, highTo], by simp [wkHp]⟩ ?_
 intro i h1
 by_cases hi : i < v.length
 · have e2 : decide ((i : Int) < v.length) = true := by simp; omega
   have hx := List.getElem?_eq_getElem hi
   have hx2 : v.getD i 0 = v[i] := by simp [List.getD, hi]
   have hlo : lowTo v (i + 1) = if v[i] < lowTo v i then v[i] else lowTo v i := by rw [lowTo, hx2]
   have hhi : highTo v (i + 1) = if v[i] > highTo v i then v[i] else highTo v i := by rw [highTo, hx2]
   generalize v[i] = x at *
   have e7 := wrap64 (n := (i : Int) + 1) (by omega)
   refine nx ?_; refine rG hN hk noc [] [0, 5, 6, 7, 20] fun K hK => ?_; simp only [go_sem, reduceIte, Nat.reduceAdd, Nat.reduceMul, Nat.reduceEqDiff, reduceCtorEq, Nat.reduceSub, Nat.reduceLeDiff, Nat.reducePow, Nat.lt_add_one, Nat.zero_lt_succ, ne_eq, not_false_eq_true, decide_true, decide_false, Bool.not_true, Bool.not_false, Bool.false_eq_true, e2]; refine hK _ _ ?_
   clear hK K; refine nx ?_
   refine AW.condT rfl (AW.skip (qNext ?_))
   refine nx ?_
   refine rD hN hk noc [] [0, 5, 6, 7] fun K tok htok hK => ?_
   simp only [go_sem, reduceIte, Nat.reduceAdd, Nat.reduceMul, Nat.reduceEqDiff, reduceCtorEq, Nat.reduceSub, Nat.reduceLeDiff, Nat.reducePow, Nat.lt_add_one, Nat.zero_lt_succ, ne_eq, not_false_eq_true, decide_true, decide_false, Bool.not_true, Bool.not_false, Bool.false_eq_true, hx]
   refine ⟨htok _ (by decide +kernel), hK _ _ ?_⟩
   clear hK K htok tok
   refine nx ?_; refine rG hN hk noc [] [0, 5, 6, 7] fun K hK => ?_; simp only [go_sem, reduceIte, Nat.reduceAdd, Nat.reduceMul, Nat.reduceEqDiff, reduceCtorEq, Nat.reduceSub, Nat.reduceLeDiff, Nat.reducePow, Nat.lt_add_one, Nat.zero_lt_succ, ne_eq, not_false_eq_true, decide_true, decide_false, Bool.not_true, Bool.not_false, Bool.false_eq_true, e7]; refine hK _ _ ?_
   clear hK K; refine nx ?_
   exact ⟨i + 1, by omega, by omega, ⟨[], [], ⟨by simp [srcIds], by simp [srcIds], by simp⟩, by simp, by simp [wkEnv, wk, lk, I, hlo, hhi], by simp [wkHp]⟩⟩
 · have e2 : decide ((i : Int) < v.length) = false := by simp; omega
   have : i = v.length := by omega
   subst this
   refine nx ?_; refine rG hN hk noc [] [5, 6, 20] fun K hK => ?_; simp only [go_sem, reduceIte, Nat.reduceAdd, Nat.reduceMul, Nat.reduceEqDiff, reduceCtorEq, Nat.reduceSub, Nat.reduceLeDiff, Nat.reducePow, Nat.lt_add_one, Nat.zero_lt_succ, ne_eq, not_false_eq_true, decide_true, decide_false, Bool.not_true, Bool.not_false, Bool.false_eq_true, e2]; refine hK _ _ ?_
   clear hK K; refine nx ?_
   refine AW.condF rfl (AW.exit (qThen (qThen (qHere (qNext ?_)))))
   refine nx ?_; refine rG hN hk noc [] [2, 3, 4] fun K hK => ?_; simp only [go_sem, reduceIte, Nat.reduceAdd, Nat.reduceMul, Nat.reduceEqDiff, reduceCtorEq, Nat.reduceSub, Nat.reduceLeDiff, Nat.reducePow, Nat.lt_add_one, Nat.zero_lt_succ, ne_eq, not_false_eq_true, decide_true, decide_false, Bool.not_true, Bool.not_false, Bool.false_eq_true]; refine hK _ _ ?_
   clear hK K; refine nx ?_
   refine AW.ret (mkRet [] [] rfl ?_ ?_)
   · simp [resOf, lk, wk, wkL, I, B]
   · simp [wkHp]
def len8 (b : Nat) : Nat := if b = 0 then 0 else Nat.log2 b + 1
theorem lenTab (x : Nat) (hx : x < 256) : ((List.append (List.append [0, 1, 2, 2, 3, 3, 3, 3, 4, 4, 4, 4, 4, 4, 4, 4, 5, 5, 5, 5, 5, 5, 5, 5, 5, 5, 5, 5, 5, 5, 5, 5, 6, 6, 6, 6, 6, 6, 6, 6, 6, 6, 6, 6, 6, 6, 6, 6, 6, 6, 6, 6, 6, 6, 6, 6, 6, 6, 6, 6, 6, 6, 6, 6] [7, 7, 7, 7, 7, 7, 7, 7, 7, 7, 7, 7, 7, 7, 7, 7, 7, 7, 7, 7, 7, 7, 7, 7, 7, 7, 7, 7, 7, 7, 7, 7, 7, 7, 7, 7, 7, 7, 7, 7, 7, 7, 7, 7, 7, 7, 7, 7, 7, 7, 7, 7, 7, 7, 7, 7, 7, 7, 7, 7, 7, 7, 7, 7]) (List.append [8, 8, 8, 8, 8, 8, 8, 8, 8, 8, 8, 8, 8, 8, 8, 8, 8, 8, 8, 8, 8, 8, 8, 8, 8, 8, 8, 8, 8, 8, 8, 8, 8, 8, 8, 8, 8, 8, 8, 8, 8, 8, 8, 8, 8, 8, 8, 8, 8, 8, 8, 8, 8, 8, 8, 8, 8, 8, 8, 8, 8, 8, 8, 8] [8, 8, 8, 8, 8, 8, 8, 8, 8, 8, 8, 8, 8, 8, 8, 8, 8, 8, 8, 8, 8, 8, 8, 8, 8, 8, 8, 8, 8, 8, 8, 8, 8, 8, 8, 8, 8, 8, 8, 8, 8, 8, 8, 8, 8, 8, 8, 8, 8, 8, 8, 8, 8, 8, 8, 8, 8, 8, 8, 8, 8, 8, 8, 8])) : List UInt8)[x]? = some (UInt8.ofNat (len8 x)) := by
 have h : ∀ i : Fin 256, ((List.append (List.append [0, 1, 2, 2, 3, 3, 3, 3, 4, 4, 4, 4, 4, 4, 4, 4, 5, 5, 5, 5, 5, 5, 5, 5, 5, 5, 5, 5, 5, 5, 5, 5, 6, 6, 6, 6, 6, 6, 6, 6, 6, 6, 6, 6, 6, 6, 6, 6, 6, 6, 6, 6, 6, 6, 6, 6, 6, 6, 6, 6, 6, 6, 6, 6] [7, 7, 7, 7, 7, 7, 7, 7, 7, 7, 7, 7, 7, 7, 7, 7, 7, 7, 7, 7, 7, 7, 7, 7, 7, 7, 7, 7, 7, 7, 7, 7, 7, 7, 7, 7, 7, 7, 7, 7, 7, 7, 7, 7, 7, 7, 7, 7, 7, 7, 7, 7, 7, 7, 7, 7, 7, 7, 7, 7, 7, 7, 7, 7]) (List.append [8, 8, 8, 8, 8, 8, 8, 8, 8, 8, 8, 8, 8, 8, 8, 8, 8, 8, 8, 8, 8, 8, 8, 8, 8, 8, 8, 8, 8, 8, 8, 8, 8, 8, 8, 8, 8, 8, 8, 8, 8, 8, 8, 8, 8, 8, 8, 8, 8, 8, 8, 8, 8, 8, 8, 8, 8, 8, 8, 8, 8, 8, 8, 8] [8, 8, 8, 8, 8, 8, 8, 8, 8, 8, 8, 8, 8, 8, 8, 8, 8, 8, 8, 8, 8, 8, 8, 8, 8, 8, 8, 8, 8, 8, 8, 8, 8, 8, 8, 8, 8, 8, 8, 8, 8, 8, 8, 8, 8, 8, 8, 8, 8, 8, 8, 8, 8, 8, 8, 8, 8, 8, 8, 8, 8, 8, 8, 8])) : List UInt8)[i.val]? = some (UInt8.ofNat (len8 i.val)) := by decide +kernel
 exact h ⟨x, hx⟩
theorem len8_le (x : Nat) (hx : x < 256) : len8 x ≤ 8 ∧ x < 2 ^ len8 x := by
 have h : ∀ i : Fin 256, len8 i.val ≤ 8 ∧ i.val < 2 ^ len8 i.val := by decide +kernel
 exact h ⟨x, hx⟩
def lenS (w : Nat) (x : Nat) : Nat := if 2 ^ w ≤ x then x / 2 ^ w else x
def lenN (w : Nat) (x : Nat) : Nat := if 2 ^ w ≤ x then w else 0
def len64F (x : Nat) : Nat := lenN 32 x + lenN 16 (lenS 32 x) + lenN 8 (lenS 16 (lenS 32 x)) + len8 (lenS 8 (lenS 16 (lenS 32 x)))
theorem lenS_lt {w v x : Nat} (h : x < 2 ^ (w + v)) (hv : w ≤ v) : lenS v x < 2 ^ v := by
 unfold lenS
 split
 · refine Nat.lt_of_lt_of_le ((Nat.div_lt_iff_lt_mul (Nat.two_pow_pos v)).2 (by rwa [← Nat.pow_add])) ?_
   exact Nat.pow_le_pow_right (by omega) hv
 · omega
theorem len64_1 (x : Nat) (hx : x < 2 ^ 64) : ACall Tryz.prog 105 [U64 x] [] (I (len64F x)) [] := by
 have h1 : lenS 32 x < 2 ^ 32 := lenS_lt (w := 32) hx (by omega)
 have h2 : lenS 16 (lenS 32 x) < 2 ^ 16 := lenS_lt (w := 16) h1 (by omega)
 have h3 : lenS 8 (lenS 16 (lenS 32 x)) < 2 ^ 8 := lenS_lt (w := 8) h2 (by omega)
 refine acall 25 0 Tryz.func105 rfl rfl rfl (by simp) rfl rfl ?_
 intro C hN hk
 refine nx ?_; refine rG hN hk noc [] [0, 2] fun K hK => ?_; simp only [go_sem, reduceIte, Nat.reduceAdd, Nat.reduceMul, Nat.reduceEqDiff, reduceCtorEq, Nat.reduceSub, Nat.reduceLeDiff, Nat.reducePow, Nat.lt_add_one, Nat.zero_lt_succ, ne_eq, not_false_eq_true, decide_true, decide_false, Bool.not_true, Bool.not_false, Bool.false_eq_true]; refine hK _ _ ?_
 clear hK K; refine nx ?_
 generalize hy : x = y at *
 refine nx ?_; refine rG hN hk noc [] [0, 2, 4] fun K hK => ?_; simp only [go_sem, reduceIte, Nat.reduceAdd, Nat.reduceMul, Nat.reduceEqDiff, reduceCtorEq, Nat.reduceSub, Nat.reduceLeDiff, Nat.reducePow, Nat.lt_add_one, Nat.zero_lt_succ, ne_eq, not_false_eq_true, decide_true, decide_false, Bool.not_true, Bool.not_false, Bool.false_eq_true]; refine hK _ _ ?_
 clear hK K; refine nx ?_
 refine AW.join hk 0 ⟨[(0, U64 ((lenS 32 y : Nat) : Int)), (2, I ((lenN 32 y : Nat) : Int))], []⟩ ?_ ?_
 · refine AW.condB rfl (fun h => ?_) (fun h => AW.skip (qNext ?_))
   · simp only [ge_iff_le, decide_eq_true_eq] at h
     have e1 : lenS 32 y = y / 2 ^ 32 := by unfold lenS; rw [if_pos (by omega)]
     have e2 : lenN 32 y = 32 := by unfold lenN; rw [if_pos (by omega)]
     have e3 : (y : Int).fdiv (2 ^ min (Int.toNat 32) 64) = ((y / 2 ^ 32 : Nat) : Int) := by
       rw [show min (Int.toNat 32) 64 = 32 by decide, Int.fdiv_eq_ediv_of_nonneg _ (by decide)]
       omega
     rw [e1, e2]
     refine nx ?_; refine rG hN hk noc [] [0, 2] fun K hK => ?_; simp only [go_sem, reduceIte, Nat.reduceAdd, Nat.reduceMul, Nat.reduceEqDiff, reduceCtorEq, Nat.reduceSub, Nat.reduceLeDiff, Nat.reducePow, Nat.lt_add_one, Nat.zero_lt_succ, ne_eq, not_false_eq_true, decide_true, decide_false, Bool.not_true, Bool.not_false, Bool.false_eq_true, e3]
     first | with_reducible refine hK _ _ ?_ | refine ⟨by decide, hK _ _ ?_⟩ | refine obK (hK _ _ ?_)
     clear hK K; refine nx ?_
     refine rG hN hk noc [] [0, 2] fun K hK => ?_; simp only [go_sem, reduceIte, Nat.reduceAdd, Nat.reduceMul, Nat.reduceEqDiff, reduceCtorEq, Nat.reduceSub, Nat.reduceLeDiff, Nat.reducePow, Nat.lt_add_one, Nat.zero_lt_succ, ne_eq, not_false_eq_true, decide_true, decide_false, Bool.not_true, Bool.not_false, Bool.false_eq_true]; refine hK _ _ ?_
     clear hK K; refine nx ?_
     exact mkWk [] [] (by simp [wkEnv, wk, lk, I, U64]) (by simp [wkHp])
   · simp only [ge_iff_le, decide_eq_false_iff_not] at h
     have e1 : lenS 32 y = y := by unfold lenS; rw [if_neg (by omega)]
     have e2 : lenN 32 y = 0 := by unfold lenN; rw [if_neg (by omega)]
     rw [e1, e2]
     exact mkWk [] [] (by simp [wkEnv, wk, lk, I, U64]) (by simp [wkHp])
 have g1 : lenN 32 y ≤ 32 := by unfold lenN; split <;> omega
 unfold len64F
 generalize lenN 32 y = c at *
 have hcl : c ≤ 32 := by omega
 generalize lenS 32 y = y at *
 have h0 := hcl
 refine nx ?_; refine rG hN hk noc [] [0, 2, 8] fun K hK => ?_; simp only [go_sem, reduceIte, Nat.reduceAdd, Nat.reduceMul, Nat.reduceEqDiff, reduceCtorEq, Nat.reduceSub, Nat.reduceLeDiff, Nat.reducePow, Nat.lt_add_one, Nat.zero_lt_succ, ne_eq, not_false_eq_true, decide_true, decide_false, Bool.not_true, Bool.not_false, Bool.false_eq_true]; refine hK _ _ ?_
 clear hK K; refine nx ?_
 refine AW.join hk 0 ⟨[(0, U64 ((lenS 16 y : Nat) : Int)), (2, I ((c + lenN 16 y : Nat) : Int))], []⟩ ?_ ?_
 · refine AW.condB rfl (fun h => ?_) (fun h => AW.skip (qNext ?_))
   · simp only [ge_iff_le, decide_eq_true_eq] at h
     have e1 : lenS 16 y = y / 2 ^ 16 := by unfold lenS; rw [if_pos (by omega)]
     have e2 : lenN 16 y = 16 := by unfold lenN; rw [if_pos (by omega)]
     have e3 : (y : Int).fdiv (2 ^ min (Int.toNat 16) 64) = ((y / 2 ^ 16 : Nat) : Int) := by
       rw [show min (Int.toNat 16) 64 = 16 by decide, Int.fdiv_eq_ediv_of_nonneg _ (by decide)]
       omega
     have e4 := wrap64 (n := (c : Int) + 16) (by omega)
     rw [e1, e2]
     refine nx ?_; refine rG hN hk noc [] [0, 2] fun K hK => ?_; simp only [go_sem, reduceIte, Nat.reduceAdd, Nat.reduceMul, Nat.reduceEqDiff, reduceCtorEq, Nat.reduceSub, Nat.reduceLeDiff, Nat.reducePow, Nat.lt_add_one, Nat.zero_lt_succ, ne_eq, not_false_eq_true, decide_true, decide_false, Bool.not_true, Bool.not_false, Bool.false_eq_true, e3]
     first | with_reducible refine hK _ _ ?_ | refine ⟨by decide, hK _ _ ?_⟩ | refine obK (hK _ _ ?_)
     clear hK K; refine nx ?_
     refine rG hN hk noc [] [0, 2] fun K hK => ?_; simp only [go_sem, reduceIte, Nat.reduceAdd, Nat.reduceMul, Nat.reduceEqDiff, reduceCtorEq, Nat.reduceSub, Nat.reduceLeDiff, Nat.reducePow, Nat.lt_add_one, Nat.zero_lt_succ, ne_eq, not_false_eq_true, decide_true, decide_false, Bool.not_true, Bool.not_false, Bool.false_eq_true, e4]; refine hK _ _ ?_
     clear hK K; refine nx ?_
     exact mkWk [] [] (by simp [wkEnv, wk, lk, I, U64, h0]) (by simp [wkHp])
   · simp only [ge_iff_le, decide_eq_false_iff_not] at h
     have e1 : lenS 16 y = y := by unfold lenS; rw [if_neg (by omega)]
     have e2 : lenN 16 y = 0 := by unfold lenN; rw [if_neg (by omega)]
     rw [e1, e2]
     exact mkWk [] [] (by simp [wkEnv, wk, lk, I, U64]) (by simp [wkHp])
 have g2 : lenN 16 y ≤ 16 := by unfold lenN; split <;> omega
 generalize hcc2 : c + lenN 16 y = c
 have hcl : c ≤ 48 := by omega
 generalize lenS 16 y = y at *
 have h0 := hcl
 refine nx ?_; refine rG hN hk noc [] [0, 2, 14] fun K hK => ?_; simp only [go_sem, reduceIte, Nat.reduceAdd, Nat.reduceMul, Nat.reduceEqDiff, reduceCtorEq, Nat.reduceSub, Nat.reduceLeDiff, Nat.reducePow, Nat.lt_add_one, Nat.zero_lt_succ, ne_eq, not_false_eq_true, decide_true, decide_false, Bool.not_true, Bool.not_false, Bool.false_eq_true]; refine hK _ _ ?_
 clear hK K; refine nx ?_
 refine AW.join hk 0 ⟨[(0, U64 ((lenS 8 y : Nat) : Int)), (2, I ((c + lenN 8 y : Nat) : Int))], []⟩ ?_ ?_
 · refine AW.condB rfl (fun h => ?_) (fun h => AW.skip (qNext ?_))
   · simp only [ge_iff_le, decide_eq_true_eq] at h
     have e1 : lenS 8 y = y / 2 ^ 8 := by unfold lenS; rw [if_pos (by omega)]
     have e2 : lenN 8 y = 8 := by unfold lenN; rw [if_pos (by omega)]
     have e3 : (y : Int).fdiv (2 ^ min (Int.toNat 8) 64) = ((y / 2 ^ 8 : Nat) : Int) := by
       rw [show min (Int.toNat 8) 64 = 8 by decide, Int.fdiv_eq_ediv_of_nonneg _ (by decide)]
       omega
     have e4 := wrap64 (n := (c : Int) + 8) (by omega)
     rw [e1, e2]
     refine nx ?_; refine rG hN hk noc [] [0, 2] fun K hK => ?_; simp only [go_sem, reduceIte, Nat.reduceAdd, Nat.reduceMul, Nat.reduceEqDiff, reduceCtorEq, Nat.reduceSub, Nat.reduceLeDiff, Nat.reducePow, Nat.lt_add_one, Nat.zero_lt_succ, ne_eq, not_false_eq_true, decide_true, decide_false, Bool.not_true, Bool.not_false, Bool.false_eq_true, e3]
     first | with_reducible refine hK _ _ ?_ | refine ⟨by decide, hK _ _ ?_⟩ | refine obK (hK _ _ ?_)
     clear hK K; refine nx ?_
     refine rG hN hk noc [] [0, 2] fun K hK => ?_; simp only [go_sem, reduceIte, Nat.reduceAdd, Nat.reduceMul, Nat.reduceEqDiff, reduceCtorEq, Nat.reduceSub, Nat.reduceLeDiff, Nat.reducePow, Nat.lt_add_one, Nat.zero_lt_succ, ne_eq, not_false_eq_true, decide_true, decide_false, Bool.not_true, Bool.not_false, Bool.false_eq_true, e4]; refine hK _ _ ?_
     clear hK K; refine nx ?_
     exact mkWk [] [] (by simp [wkEnv, wk, lk, I, U64, h0]) (by simp [wkHp])
   · simp only [ge_iff_le, decide_eq_false_iff_not] at h
     have e1 : lenS 8 y = y := by unfold lenS; rw [if_neg (by omega)]
     have e2 : lenN 8 y = 0 := by unfold lenN; rw [if_neg (by omega)]
     rw [e1, e2]
     exact mkWk [] [] (by simp [wkEnv, wk, lk, I, U64]) (by simp [wkHp])
 have g3 : lenN 8 y ≤ 8 := by unfold lenN; split <;> omega
 generalize hcc3 : c + lenN 8 y = c
 generalize lenS 8 y = y at *
 have g4 := len8_le y h3
 have e4 : IntKind.u8.wrap (y : Int) = y := by rw [wrap8]; omega
 have e5 := lenTab y h3
 have e6 := ofNat_toNat (len8 y) (by omega)
 have e7 := wrap64 (n := (len8 y : Int)) (by omega)
 have e8 := wrap64 (n := (c : Int) + (len8 y : Int)) (by omega)
 refine nx ?_; refine rG hN hk noc [] [2] fun K hK => ?_; simp only [go_sem, reduceIte, Nat.reduceAdd, Nat.reduceMul, Nat.reduceEqDiff, reduceCtorEq, Nat.reduceSub, Nat.reduceLeDiff, Nat.reducePow, Nat.lt_add_one, Nat.zero_lt_succ, ne_eq, not_false_eq_true, decide_true, decide_false, Bool.not_true, Bool.not_false, Bool.false_eq_true, e4, e5, e6, e7, e8]; refine hK _ _ ?_
 clear hK K; refine nx ?_
 refine AW.ret (mkRet [] [] rfl ?_ ?_)
 · simp [resOf, lk, wk, I]
 · simp [wkHp]
theorem andU1 (a : Nat) (ha : a < 2 ^ 64) : bitsOf .and .u64 (a : Int) 1 = ((a % 2 : Nat) : Int) := by
 simp only [bitsOf]
 have e : IntKind.u64.bits = 64 := rfl
 rw [BitVec.toNat_and, BitVec.ofInt_natCast, show (BitVec.ofInt IntKind.u64.bits 1).toNat = 1 by rfl, BitVec.toNat_ofNat, e, Nat.mod_eq_of_lt ha, Nat.and_one_is_mod]
 exact IntWalk.u64_in _ (by omega)
theorem fdivN (a k : Nat) (hk : k ≤ 64) : (a : Int).fdiv (2 ^ min (k : Int).toNat 64) = ((a / 2 ^ k : Nat) : Int) := by
 rw [show min (k : Int).toNat 64 = k by omega, Int.fdiv_eq_ediv_of_nonneg _ (Int.pow_nonneg (by decide))]
 push_cast
 rfl
theorem bitEq (d k : Nat) (hd : d < 2 ^ 64) (hk : k ≤ 64) : (bitsOf .and .u64 ((d : Int).fdiv (2 ^ min k 64)) 1 == 1) = d.testBit k := by
 have hh : min k 64 = min (k : Int).toNat 64 := by omega
 rw [hh]
 rw [fdivN d k hk, andU1 _ (by have := Nat.div_le_self d (2 ^ k); omega), Nat.testBit_eq_decide_div_mod_eq]
 rw [Bool.eq_iff_iff]
 generalize d / 2 ^ k = m
 simp only [beq_iff_eq, decide_eq_true_eq]
 omega
theorem rep0 (n : Nat) : List.replicate n [AV.val (.int .u8 0)] = bytesE (List.replicate n 0) := by simp [bytesE, byteE]
def setBit (o : List UInt8) (p : Nat) : List UInt8 := o.set (p / 8) (UInt8.ofNat ((o.getD (p / 8) 0).toNat ||| 2 ^ (p % 8)))
theorem orU8 (a p : Nat) (ha : a < 256) (hp : p < 8) : bitsOf .or .u8 (a : Int) (IntKind.u8.wrap (1 * 2 ^ min p 8)) = ((a ||| 2 ^ p : Nat) : Int) ∧ a ||| 2 ^ p < 256 := by
 have h2 : ∀ (x : Fin 256) (y : Fin 8), bitsOf .or .u8 ((x.val : Nat) : Int) (IntKind.u8.wrap (1 * 2 ^ min y.val 8)) = ((x.val ||| 2 ^ y.val : Nat) : Int) ∧ x.val ||| 2 ^ y.val < 256 := by decide +kernel
 exact h2 ⟨a, ha⟩ ⟨p, hp⟩
def dU (lo x : Int) : Nat := (IntKind.u64.wrap (IntKind.u64.wrap x - IntKind.u64.wrap lo)).toNat
def packK (d at_ : Nat) : Nat → List UInt8 → List UInt8
 | 0, o => o
 | k + 1, o => if d.testBit k then setBit (packK d at_ k o) (at_ + k) else packK d at_ k o
theorem packK_len (d at_ k : Nat) (o : List UInt8) : (packK d at_ k o).length = o.length := by
 induction k with
 | zero => rfl
 | succ k ih => simp only [packK]; split <;> simp [setBit, ih]
def packTo (v : List Int) (lo : Int) (w : Nat) : Nat → List UInt8
 | 0 => List.replicate ((v.length * w + 7) / 8) 0
 | i + 1 => packK (dU lo (v.getD i 0)) (i * w) w (packTo v lo w i)
theorem packTo_len (v : List Int) (lo : Int) (w i : Nat) : (packTo v lo w i).length = (v.length * w + 7) / 8 := by
 induction i with
 | zero => simp [packTo]
 | succ i ih => simp only [packTo, packK_len, ih]
def loF (v : List Int) : Int := lowTo v v.length
def widF (v : List Int) : Nat := len64F (dU (loF v) (highTo v v.length))
def packF (v : List Int) : List UInt8 := if v.length = 0 then [] else putIntF (loF v) ++ [UInt8.ofNat (widF v)] ++ packTo v (loF v) (widF v) v.length
theorem dU_lt (lo x : Int) : dU lo x < 2 ^ 64 := by
 have := wrapU_range (IntKind.u64.wrap x - IntKind.u64.wrap lo)
 unfold dU; omega
theorem dU_eq (lo x : Int) : IntKind.u64.wrap (IntKind.u64.wrap x - IntKind.u64.wrap lo) = (dU lo x : Int) := by
 have := wrapU_range (IntKind.u64.wrap x - IntKind.u64.wrap lo)
 unfold dU; omega
theorem lenS_le (w x : Nat) : lenN w x ≤ w := by unfold lenN; split <;> omega
theorem len64_le (x : Nat) (hx : x < 2 ^ 64) : len64F x ≤ 64 := by
 have h1 : lenS 32 x < 2 ^ 32 := lenS_lt (w := 32) hx (by omega)
 have h2 : lenS 16 (lenS 32 x) < 2 ^ 16 := lenS_lt (w := 16) h1 (by omega)
 have h3 : lenS 8 (lenS 16 (lenS 32 x)) < 2 ^ 8 := lenS_lt (w := 8) h2 (by omega)
 have := (len8_le _ h3).1
 have := lenS_le 32 x
 have := lenS_le 16 (lenS 32 x)
 have := lenS_le 8 (lenS 16 (lenS 32 x))
 unfold len64F; omega
theorem pack1 (b : List UInt8) (v : List Int) (h0 : 0 < v.length) (hl : v.length ≤ 2 ^ 30) (hb : b.length ≤ 2 ^ 30) :
   ACall Tryz.prog 91 [.osl 0 b.length 1, .sl 1 (intE v)] [some ⟨5, 1, bytesE b⟩] (.osl 1 (b ++ packF v).length 1) [none, some ⟨5, 1, bytesE (b ++ packF v)⟩] := by
 refine acall 83 1 Tryz.func91 rfl rfl rfl (by simp) rfl rfl ?_
 intro C hN hk
 have e1 : ((v.length : Int) == 0) = false := by simp; intro h; rw [h] at h0; simp at h0
 have q1 := bounds1 v h0 (by omega)
 have q2 := len64_1 (dU (loF v) (highTo v v.length)) (dU_lt _ _)
 have q3 := putInt b (loF v) (by omega)
 have e2 := dU_eq (loF v) (highTo v v.length)
 have hw := len64_le _ (dU_lt (loF v) (highTo v v.length))
 unfold packF
 rw [if_neg (by omega)]
 rw [show lowTo v v.length = loF v from rfl] at q1
 rw [show len64F (dU (loF v) (highTo v v.length)) = widF v from rfl] at q2 hw
 refine nx ?_; refine rG hN hk noc [0] [0, 1] fun K hK => ?_; simp only [go_sem, reduceIte, Nat.reduceAdd, Nat.reduceMul, Nat.reduceEqDiff, reduceCtorEq, Nat.reduceSub, Nat.reduceLeDiff, Nat.reducePow, Nat.lt_add_one, Nat.zero_lt_succ, ne_eq, not_false_eq_true, decide_true, decide_false, Bool.not_true, Bool.not_false, Bool.false_eq_true]; refine hK _ _ ?_
 clear hK K; refine nx ?_
 refine rG hN hk noc [0] [0, 1, 16] fun K hK => ?_; simp only [go_sem, reduceIte, Nat.reduceAdd, Nat.reduceMul, Nat.reduceEqDiff, reduceCtorEq, Nat.reduceSub, Nat.reduceLeDiff, Nat.reducePow, Nat.lt_add_one, Nat.zero_lt_succ, ne_eq, not_false_eq_true, decide_true, decide_false, Bool.not_true, Bool.not_false, Bool.false_eq_true, e1]; refine hK _ _ ?_
 clear hK K; refine nx ?_
 refine AW.condF rfl (AW.skip (qNext ?_))
 refine nx ?_; refine rG hN hk (onc 1 (pc [.sl 1 (intE v)] (.tup [I (loF v), I (highTo v v.length), B true]) []) noc) [0] [0, 1, 5, 6] fun K hK => ?_; simp only [go_sem, reduceIte, Nat.reduceAdd, Nat.reduceMul, Nat.reduceEqDiff, reduceCtorEq, Nat.reduceSub, Nat.reduceLeDiff, Nat.reducePow, Nat.lt_add_one, Nat.zero_lt_succ, ne_eq, not_false_eq_true, decide_true, decide_false, Bool.not_true, Bool.not_false, Bool.false_eq_true]
 first | with_reducible refine hK _ _ ?_ | refine ⟨by exact pureOb q1 rfl (by simp), hK _ _ ?_⟩ | refine obK (hK _ _ ?_)
 clear hK K; refine nx ?_
 refine rG hN hk (onc 5 (pc [U64 (dU (loF v) (highTo v v.length))] (I (widF v)) []) noc) [0] [0, 1, 5, 8] fun K hK => ?_; simp only [go_sem, reduceIte, Nat.reduceAdd, Nat.reduceMul, Nat.reduceEqDiff, reduceCtorEq, Nat.reduceSub, Nat.reduceLeDiff, Nat.reducePow, Nat.lt_add_one, Nat.zero_lt_succ, ne_eq, not_false_eq_true, decide_true, decide_false, Bool.not_true, Bool.not_false, Bool.false_eq_true, e2]
 first | with_reducible refine hK _ _ ?_ | refine ⟨by exact pureOb q2 rfl (by simp), hK _ _ ?_⟩ | refine obK (hK _ _ ?_)
 clear hK K; refine nx ?_
 clear q1 q2 e2
 generalize widF v = w at *
 generalize loF v = lo at *
 have hz : (putIntF lo).length ≤ 11 := varint_len _
 generalize putIntF lo = pl at *
 have e3 : IntKind.u8.wrap (w : Int) = w := by rw [wrap8]; omega
 refine nx ?_; refine rG hN hk (onc 2 (oc 0 ⟨5, 1, bytesE b⟩ [.osl 0 b.length 1, I lo] (.osl 1 (b ++ pl).length 1) [none, some ⟨5, 1, bytesE (b ++ pl)⟩]) noc) [0] [0, 1, 5, 8] fun K hK => ?_; simp only [go_sem, reduceIte, Nat.reduceAdd, Nat.reduceMul, Nat.reduceEqDiff, reduceCtorEq, Nat.reduceSub, Nat.reduceLeDiff, Nat.reducePow, Nat.lt_add_one, Nat.zero_lt_succ, ne_eq, not_false_eq_true, decide_true, decide_false, Bool.not_true, Bool.not_false, Bool.false_eq_true, e3, byteE_of w (by omega)]
 first | with_reducible refine hK _ _ ?_ | refine ⟨by exact ⟨⟨ownOb q3 rfl (by simp) (by simp) rfl (by simp) (by simp) rfl, by simp⟩, by simp; omega⟩, hK _ _ ?_⟩ | refine obK (hK _ _ ?_)
 clear hK K; refine nx ?_
 have hl3 : (b ++ pl).length + 1 = (b ++ pl ++ [UInt8.ofNat w]).length := by simp [Nat.add_assoc]
 rw [hl3]
 have hl4 : (b ++ pl ++ [UInt8.ofNat w]).length ≤ 2 ^ 31 := by simp; omega
 have hre : b ++ (pl ++ [UInt8.ofNat w] ++ packTo v lo w v.length) = b ++ pl ++ [UInt8.ofNat w] ++ packTo v lo w v.length := by simp
 rw [hre]
 clear hre hl3 q3 hz
 generalize b ++ pl ++ [UInt8.ofNat w] = b1 at *
 have hvw : v.length * w ≤ 2 ^ 30 * 64 := Nat.mul_le_mul hl hw
 have e4 := wrap64 (n := (v.length : Int) * (w : Int)) (by have : ((v.length * w : Nat) : Int) = (v.length : Int) * w := by push_cast; rfl
                                                           omega)
 have e5 := wrap64 (n := (v.length : Int) * (w : Int) + 7) (by have : ((v.length * w : Nat) : Int) = (v.length : Int) * w := by push_cast; rfl
                                                               omega)
 have e6 : ((v.length : Int) * (w : Int) + 7).tdiv 8 = (((v.length * w + 7) / 8 : Nat) : Int) := by
   have : ((v.length * w : Nat) : Int) = (v.length : Int) * w := by push_cast; rfl
   rw [Int.tdiv_eq_ediv_of_nonneg (by omega), ← this]; omega
 have e7 := wrap64 (n := (((v.length * w + 7) / 8 : Nat) : Int)) (by omega)
 refine nx ?_; refine rG hN hk noc [0] [0, 1, 5, 8, 9] fun K hK => ?_; simp only [go_sem, reduceIte, Nat.reduceAdd, Nat.reduceMul, Nat.reduceEqDiff, reduceCtorEq, Nat.reduceSub, Nat.reduceLeDiff, Nat.reducePow, Nat.lt_add_one, Nat.zero_lt_succ, ne_eq, not_false_eq_true, decide_true, decide_false, Bool.not_true, Bool.not_false, Bool.false_eq_true, e4, e5, e6, e7, rep0]
 first | with_reducible refine hK _ _ ?_ | refine ⟨by exact ⟨by decide, by omega, by omega⟩, hK _ _ ?_⟩ | refine obK (hK _ _ ?_)
 clear hK K; refine nx ?_
 refine rG hN hk noc [0] [0, 1, 5, 8, 9, 10] fun K hK => ?_; simp only [go_sem, reduceIte, Nat.reduceAdd, Nat.reduceMul, Nat.reduceEqDiff, reduceCtorEq, Nat.reduceSub, Nat.reduceLeDiff, Nat.reducePow, Nat.lt_add_one, Nat.zero_lt_succ, ne_eq, not_false_eq_true, decide_true, decide_false, Bool.not_true, Bool.not_false, Bool.false_eq_true]; refine hK _ _ ?_
 clear hK K; refine nx ?_
 refine rG hN hk noc [0] [0, 1, 5, 8, 9, 10, 11] fun K hK => ?_; simp only [go_sem, reduceIte, Nat.reduceAdd, Nat.reduceMul, Nat.reduceEqDiff, reduceCtorEq, Nat.reduceSub, Nat.reduceLeDiff, Nat.reducePow, Nat.lt_add_one, Nat.zero_lt_succ, ne_eq, not_false_eq_true, decide_true, decide_false, Bool.not_true, Bool.not_false, Bool.false_eq_true]; refine hK _ _ ?_
 clear hK K; refine nx ?_
 generalize hL : (v.length * w + 7) / 8 = L at *
 refine AW.loopF hk 3 (fun i : Nat => ⟨[(0, .osl 1 b1.length 1), (1, .sl 1 (intE v)), (5, I lo), (8, I w), (9, .osl 2 L 1), (10, I ((i * w : Nat) : Int)), (11, I i)], [(0, none), (1, some ⟨5, 1, bytesE b1⟩), (2, some ⟨5, 1, bytesE (packTo v lo w i)⟩)]⟩) (fun i => i ≤ v.length) (fun i => v.length - i) 0 (by omega) ⟨[some 0, some 1, some 2], [], ⟨by simp [srcIds], by simp [srcIds], by simp⟩, by simp, by simp [wkEnv, wk, lk, I], by simp [wkHp, wkHp1, wkEnt, lkh, packTo, hL]⟩ ?_
 intro i h1
 by_cases hi : i < v.length
 · have e8 : decide ((i : Int) < v.length) = true := by simp; omega
   have hx := List.getElem?_eq_getElem hi
   have hx2 : v.getD i 0 = v[i] := by simp [List.getD, hi]
   have hpk : packTo v lo w (i + 1) = packK (dU lo v[i]) (i * w) w (packTo v lo w i) := by rw [packTo, hx2]
   have hol := packTo_len v lo w i
   rw [hL] at hol
   generalize v[i] = x at *
   have e9 := dU_eq lo x
   have hdl := dU_lt lo x
   have e10 := wrap64 (n := (i : Int) + 1) (by omega)
   have hiw : i * w + w ≤ v.length * w := by rw [← Nat.succ_mul]; exact Nat.mul_le_mul_right _ hi
   refine nx ?_; refine rG hN hk noc [0] [0, 1, 5, 8, 9, 10, 11, 47] fun K hK => ?_; simp only [go_sem, reduceIte, Nat.reduceAdd, Nat.reduceMul, Nat.reduceEqDiff, reduceCtorEq, Nat.reduceSub, Nat.reduceLeDiff, Nat.reducePow, Nat.lt_add_one, Nat.zero_lt_succ, ne_eq, not_false_eq_true, decide_true, decide_false, Bool.not_true, Bool.not_false, Bool.false_eq_true, e8]; refine hK _ _ ?_
   clear hK K; refine nx ?_
   refine AW.condT rfl (AW.skip (qNext ?_))
   refine nx ?_; refine rG hN hk noc [0] [0, 1, 5, 8, 9, 10, 11, 12] fun K hK => ?_; simp only [go_sem, reduceIte, Nat.reduceAdd, Nat.reduceMul, Nat.reduceEqDiff, reduceCtorEq, Nat.reduceSub, Nat.reduceLeDiff, Nat.reducePow, Nat.lt_add_one, Nat.zero_lt_succ, ne_eq, not_false_eq_true, decide_true, decide_false, Bool.not_true, Bool.not_false, Bool.false_eq_true, hx, e9]; refine hK _ _ ?_
   clear hK K; refine nx ?_
   refine rG hN hk noc [0] [0, 1, 5, 8, 9, 10, 11, 12, 13] fun K hK => ?_; simp only [go_sem, reduceIte, Nat.reduceAdd, Nat.reduceMul, Nat.reduceEqDiff, reduceCtorEq, Nat.reduceSub, Nat.reduceLeDiff, Nat.reducePow, Nat.lt_add_one, Nat.zero_lt_succ, ne_eq, not_false_eq_true, decide_true, decide_false, Bool.not_true, Bool.not_false, Bool.false_eq_true]; refine hK _ _ ?_
   clear hK K; refine nx ?_
   generalize dU lo x = d at *
   generalize packTo v lo w i = o at *
   refine AW.loopF hk 3 (fun k : Nat => ⟨[(0, .osl 1 b1.length 1), (1, .sl 1 (intE v)), (5, I lo), (8, I w), (9, .osl 2 L 1), (10, I ((i * w + k : Nat) : Int)), (11, I i), (12, U64 d), (13, I k)], [(0, none), (1, some ⟨5, 1, bytesE b1⟩), (2, some ⟨5, 1, bytesE (packK d (i * w) k o)⟩)]⟩) (fun k => k ≤ w) (fun k => w - k) 0 (by omega) ⟨[some 0, some 1, some 2], [], ⟨by simp [srcIds], by simp [srcIds], by simp⟩, by simp, by simp [wkEnv, wk, lk, I, U64], by simp [wkHp, wkHp1, wkEnt, lkh, packK]⟩ ?_
   intro k h2
   by_cases hk2 : k < w
   · have e11 : decide ((k : Int) < w) = true := by simp; omega
     refine nx ?_; refine rG hN hk noc [0] [0, 1, 5, 8, 9, 10, 11, 12, 13, 60] fun K hK => ?_; simp only [go_sem, reduceIte, Nat.reduceAdd, Nat.reduceMul, Nat.reduceEqDiff, reduceCtorEq, Nat.reduceSub, Nat.reduceLeDiff, Nat.reducePow, Nat.lt_add_one, Nat.zero_lt_succ, ne_eq, not_false_eq_true, decide_true, decide_false, Bool.not_true, Bool.not_false, Bool.false_eq_true, e11]; refine hK _ _ ?_
     clear hK K; refine nx ?_
     refine AW.condT rfl (AW.skip (qNext ?_))
     have e12 := bitEq d k hdl (by omega)
     refine nx ?_; refine rG hN hk noc [0] [0, 1, 5, 8, 9, 10, 11, 12, 13, 67] fun K hK => ?_; simp only [go_sem, reduceIte, Nat.reduceAdd, Nat.reduceMul, Nat.reduceEqDiff, reduceCtorEq, Nat.reduceSub, Nat.reduceLeDiff, Nat.reducePow, Nat.lt_add_one, Nat.zero_lt_succ, ne_eq, not_false_eq_true, decide_true, decide_false, Bool.not_true, Bool.not_false, Bool.false_eq_true, e12]; refine hK _ _ ?_
     clear hK K; refine nx ?_
     have hpk2 : packK d (i * w) (k + 1) o = if d.testBit k then setBit (packK d (i * w) k o) (i * w + k) else packK d (i * w) k o := rfl
     have hpl := packK_len d (i * w) k o
     rw [hol] at hpl
     generalize packK d (i * w) k o = o2 at *
     generalize hp : i * w + k = p at *
     have hpb : p / 8 < L := by omega
     have e16 := wrap64 (n := (p : Int) + 1) (by omega)
     have e17 := wrap64 (n := (k : Int) + 1) (by omega)
     refine nx ?_
     refine AW.join hk 3 ⟨[(0, .osl 1 b1.length 1), (1, .sl 1 (intE v)), (5, I lo), (8, I w), (9, .osl 2 L 1), (10, I p), (11, I i), (12, U64 d), (13, I k)], [(0, none), (1, some ⟨5, 1, bytesE b1⟩), (2, some ⟨5, 1, bytesE (packK d (i * w) (k + 1) o)⟩)]⟩ ?_ ?_
     · refine AW.condB rfl (fun h => ?_) (fun h => AW.skip (qNext ?_))
       · rw [hpk2, if_pos h]
         have e13 : (p : Int).tdiv 8 = ((p / 8 : Nat) : Int) := by rw [Int.tdiv_eq_ediv_of_nonneg (by omega)]; omega
         have e14 : (p : Int).tmod 8 = ((p % 8 : Nat) : Int) := by rw [Int.tmod_eq_emod_of_nonneg (by omega)]; omega
         have e15 := wrap64 (n := ((p / 8 : Nat) : Int)) (by omega)
         have hy := List.getElem?_eq_getElem (show p / 8 < o2.length by omega)
         have hy2 : o2.getD (p / 8) 0 = o2[p / 8] := by simp [List.getD, show p / 8 < o2.length by omega]
         have hy3 : setBit o2 p = o2.set (p / 8) (UInt8.ofNat ((o2[p / 8]).toNat ||| 2 ^ (p % 8))) := by rw [setBit, hy2]
         generalize o2[p / 8] = y at *
         have e18 := orU8 y.toNat (p % 8) y.toNat_lt (by omega)
         have hset : (bytesE o2).set (p / 8) [AV.val (.int .u8 ((y.toNat ||| 2 ^ (p % 8) : Nat) : Int))] = bytesE (setBit o2 p) := by
           rw [hy3, byteE_of _ e18.2, bytesE, bytesE, List.map_set]
         refine nx ?_
         refine rD hN hk noc [0] [0, 1, 5, 8, 9, 10, 11, 12, 13] fun K tok htok hK => ?_
         simp only [go_sem, reduceIte, Nat.reduceAdd, Nat.reduceMul, Nat.reduceEqDiff, reduceCtorEq, Nat.reduceSub, Nat.reduceLeDiff, Nat.reducePow, Nat.lt_add_one, Nat.zero_lt_succ, ne_eq, not_false_eq_true, decide_true, decide_false, Bool.not_true, Bool.not_false, Bool.false_eq_true, e13, e14, e15, hy, e18.1, hset]
         refine ⟨htok _ (by decide +kernel), by exact ⟨⟨⟨by decide, by omega⟩, by decide⟩, by omega⟩, hK _ _ ?_⟩
         clear hK K htok tok
         refine nx ?_
         exact mkWk [some 0, some 1, some 2] [] (by simp [wkEnv, wk, lk, I, U64]) (by simp [wkHp, wkHp1, wkEnt, lkh])
       · rw [hpk2, if_neg (by simp [h])]
         exact mkWk [some 0, some 1, some 2] [] (by simp [wkEnv, wk, lk, I, U64]) (by simp [wkHp, wkHp1, wkEnt, lkh])
     refine nx ?_; refine rG hN hk noc [0] [0, 1, 5, 8, 9, 10, 11, 12, 13] fun K hK => ?_; simp only [go_sem, reduceIte, Nat.reduceAdd, Nat.reduceMul, Nat.reduceEqDiff, reduceCtorEq, Nat.reduceSub, Nat.reduceLeDiff, Nat.reducePow, Nat.lt_add_one, Nat.zero_lt_succ, ne_eq, not_false_eq_true, decide_true, decide_false, Bool.not_true, Bool.not_false, Bool.false_eq_true, e16]; refine hK _ _ ?_
     clear hK K; refine nx ?_
     refine rG hN hk noc [0] [0, 1, 5, 8, 9, 10, 11, 12, 13] fun K hK => ?_; simp only [go_sem, reduceIte, Nat.reduceAdd, Nat.reduceMul, Nat.reduceEqDiff, reduceCtorEq, Nat.reduceSub, Nat.reduceLeDiff, Nat.reducePow, Nat.lt_add_one, Nat.zero_lt_succ, ne_eq, not_false_eq_true, decide_true, decide_false, Bool.not_true, Bool.not_false, Bool.false_eq_true, e17]; refine hK _ _ ?_
     clear hK K; refine nx ?_
     exact ⟨k + 1, by omega, by omega, ⟨[some 0, some 1, some 2], [], ⟨by simp [srcIds], by simp [srcIds], by simp⟩, by simp, by simp [wkEnv, wk, lk, I, U64, ← hp, Int.add_assoc], by simp [wkHp, wkHp1, wkEnt, lkh]⟩⟩
   · have e11 : decide ((k : Int) < w) = false := by simp; omega
     have : k = w := by omega
     subst this
     refine nx ?_; refine rG hN hk noc [0] [0, 1, 5, 8, 9, 10, 11, 60] fun K hK => ?_; simp only [go_sem, reduceIte, Nat.reduceAdd, Nat.reduceMul, Nat.reduceEqDiff, reduceCtorEq, Nat.reduceSub, Nat.reduceLeDiff, Nat.reducePow, Nat.lt_add_one, Nat.zero_lt_succ, ne_eq, not_false_eq_true, decide_true, decide_false, Bool.not_true, Bool.not_false, Bool.false_eq_true, e11]; refine hK _ _ ?_
     clear hK K; refine nx ?_
     refine AW.condF rfl (AW.exit (qThen (qThen (qHere ?_))))
     refine nx ?_; refine rG hN hk noc [0] [0, 1, 5, 8, 9, 10, 11] fun K hK => ?_; simp only [go_sem, reduceIte, Nat.reduceAdd, Nat.reduceMul, Nat.reduceEqDiff, reduceCtorEq, Nat.reduceSub, Nat.reduceLeDiff, Nat.reducePow, Nat.lt_add_one, Nat.zero_lt_succ, ne_eq, not_false_eq_true, decide_true, decide_false, Bool.not_true, Bool.not_false, Bool.false_eq_true, e10]; refine hK _ _ ?_
     clear hK K; refine nx ?_
     exact ⟨i + 1, by omega, by omega, ⟨[some 0, some 1, some 2], [], ⟨by simp [srcIds], by simp [srcIds], by simp⟩, by simp, by simp [wkEnv, wk, lk, I, Int.add_mul], by simp [wkHp, wkHp1, wkEnt, lkh, hpk]⟩⟩
 · have e8 : decide ((i : Int) < v.length) = false := by simp; omega
   have : i = v.length := by omega
   subst this
   refine nx ?_; refine rG hN hk noc [0] [0, 9, 47] fun K hK => ?_; simp only [go_sem, reduceIte, Nat.reduceAdd, Nat.reduceMul, Nat.reduceEqDiff, reduceCtorEq, Nat.reduceSub, Nat.reduceLeDiff, Nat.reducePow, Nat.lt_add_one, Nat.zero_lt_succ, ne_eq, not_false_eq_true, decide_true, decide_false, Bool.not_true, Bool.not_false, Bool.false_eq_true, e8]; refine hK _ _ ?_
   clear hK K; refine nx ?_
   refine AW.condF rfl (AW.exit (qThen (qThen (qHere (qNext ?_)))))
   have hol := packTo_len v lo w v.length
   rw [hL] at hol
   generalize packTo v lo w v.length = o at *
   refine nx ?_; refine rG hN hk noc [0] [4] fun K hK => ?_; simp only [go_sem, reduceIte, Nat.reduceAdd, Nat.reduceMul, Nat.reduceEqDiff, reduceCtorEq, Nat.reduceSub, Nat.reduceLeDiff, Nat.reducePow, Nat.lt_add_one, Nat.zero_lt_succ, ne_eq, not_false_eq_true, decide_true, decide_false, Bool.not_true, Bool.not_false, Bool.false_eq_true]
   first | with_reducible refine hK _ _ ?_ | refine ⟨by exact ⟨hol, bytesE_st o, by omega⟩, hK _ _ ?_⟩ | refine obK (hK _ _ ?_)
   clear hK K; refine nx ?_
   refine AW.ret (mkRet [some 0, some 1] [] rfl ?_ ?_)
   · simp [resOf, lk, wk]
   · simp [wkHp, wkHp1, wkEnt, lkh]
end Go.Proofs.YtceeklfmlheofaaGreat
