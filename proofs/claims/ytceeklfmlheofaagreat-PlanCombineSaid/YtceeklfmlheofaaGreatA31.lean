/-
  Part 31 of the proof that logtidelaw41.PlanCombine returns true for every list of bytes and leaves its argument as it was; no condition.
-/
import Derived.Test.YtceeklfmlheofaaGreatA13
import Derived.Test.YtceeklfmlheofaaGreatA30
set_option linter.unusedSimpArgs false
set_option linter.unusedVariables false
namespace Go.Proofs.YtceeklfmlheofaaGreat
open Go.Av
attribute [local irreducible] ACall
/-- Tests. -/
inductive Ts where
 | mk (op : Int) (name text : S) (num : Int) (kids : List Ts)
def Ts.op : Ts → Int | .mk o _ _ _ _ => o
def Ts.name : Ts → S | .mk _ n _ _ _ => n
def Ts.text : Ts → S | .mk _ _ t _ _ => t
def Ts.num : Ts → Int | .mk _ _ _ m _ => m
def Ts.kids : Ts → List Ts | .mk _ _ _ _ k => k
mutual
def tsC : Ts → List AV
 | .mk o n t m k => [I o, str n, str t, I m, .sl 5 (tsCs k)]
def tsCs : List Ts → List (List AV)
 | [] => []
 | k :: ks => tsC k :: tsCs ks
end
theorem tsCs_map : ∀ l : List Ts, tsCs l = l.map tsC
 | [] => rfl
 | k :: ks => by rw [tsCs, tsCs_map ks]; rfl
def tsE (l : List Ts) : List (List AV) := l.map tsC
theorem tsC_c (x : Ts) : tsC x = [.val (.int .i64 x.op), .val (.string ⟨x.name.toArray⟩), .val (.string ⟨x.text.toArray⟩), .val (.int .i64 x.num), .sl 5 (tsE x.kids)] := by
 cases x with
 | mk o n t m k => rw [tsC, tsCs_map]; rfl
attribute [go_sem] tsC_c
theorem tsE_len (l : List Ts) : (tsE l).length = l.length := by simp [tsE]
theorem tsE_getE (l : List Ts) (i : Nat) : (tsE l)[i]? = (l[i]?).map tsC := by simp [tsE]
@[simp] theorem tsE_id (k : Nat) (l : List Ts) : idLtE k (tsE l) = true := by
 simp only [idLtE, tsE, List.all_map, List.all_eq_true]
 intro x _
 cases x; rfl
@[simp] theorem tsE_st (l : List Ts) : (tsE l).all (fun c => c.all storable) = true := by
 simp only [tsE, List.all_map, List.all_eq_true]
 intro x _
 cases x; rfl
theorem tsE_drop (l : List Ts) (i : Nat) : (tsE l).drop i = tsE (l.drop i) := by simp [tsE]
theorem tsE_take (l : List Ts) (i : Nat) : (tsE l).take i = tsE (l.take i) := by simp [tsE]
theorem tsE_ren (L : List Nat) (l : List Ts) : renCE L (tsE l) = tsE l := by
 simp only [renCE, tsE, List.map_map]
 apply List.map_congr_left
 intro x _
 cases x; rfl
theorem tsE_renE (ρ : Nat → Nat) (l : List Ts) : (tsE l).map (renL ρ) = tsE l := renE_noid ρ (tsE_id 0 l)
theorem tsE_snoc (l : List Ts) (x : Ts) : tsE l ++ [[.val (.int .i64 x.op), .val (.string ⟨x.name.toArray⟩), .val (.string ⟨x.text.toArray⟩), .val (.int .i64 x.num), .sl 5 (tsE x.kids)]] = tsE (l ++ [x]) := by rw [← tsC_c]; simp [tsE]
theorem tsE_snoc' (l : List Ts) (x : Ts) : tsE l ++ [tsC x] = tsE (l ++ [x]) := by simp [tsE]
theorem tsE_app (l m : List Ts) : tsE l ++ tsE m = tsE (l ++ m) := by simp [tsE]
@[simp] theorem tsE_nil : tsE [] = [] := rfl
theorem tsE_set (l : List Ts) (i : Nat) (x : Ts) : (tsE l).set i [.val (.int .i64 x.op), .val (.string ⟨x.name.toArray⟩), .val (.string ⟨x.text.toArray⟩), .val (.int .i64 x.num), .sl 5 (tsE x.kids)] = tsE (l.set i x) := by rw [← tsC_c]; simp [tsE, List.map_set]
attribute [go_sem] tsE_len tsE_getE tsE_drop tsE_take tsE_ren tsE_renE tsE_snoc tsE_snoc' tsE_app tsE_set
attribute [simp] tsE_len
@[simp] theorem ts_op (o : Int) (n t : S) (m : Int) (k : List Ts) : (Ts.mk o n t m k).op = o := rfl
@[simp] theorem ts_name (o : Int) (n t : S) (m : Int) (k : List Ts) : (Ts.mk o n t m k).name = n := rfl
@[simp] theorem ts_text (o : Int) (n t : S) (m : Int) (k : List Ts) : (Ts.mk o n t m k).text = t := rfl
@[simp] theorem ts_num (o : Int) (n t : S) (m : Int) (k : List Ts) : (Ts.mk o n t m k).num = m := rfl
@[simp] theorem ts_kids (o : Int) (n t : S) (m : Int) (k : List Ts) : (Ts.mk o n t m k).kids = k := rfl
/-- Tests that are drawn. -/
def TsB : Nat → Ts → Prop
 | 0, t => t.name.length ≤ 19 ∧ t.text.length ≤ 19 ∧ (0 ≤ t.op ∧ t.op ≤ 11) ∧ In64 t.num ∧ t.kids = []
 | d + 1, t => t.name.length ≤ 19 ∧ t.text.length ≤ 19 ∧ (0 ≤ t.op ∧ t.op ≤ 11) ∧ In64 t.num ∧ t.kids.length ≤ 3 ∧ ∀ k ∈ t.kids, TsB d k
theorem TsB.flat {t : Ts} (d : Nat) (h : TsB 0 t) : TsB d t := by
 cases d with
 | zero => exact h
 | succ d => exact ⟨h.1, h.2.1, h.2.2.1, h.2.2.2.1, by rw [h.2.2.2.2]; simp, by rw [h.2.2.2.2]; simp⟩
theorem TsB.mk0 (d : Nat) {o : Int} {n t : S} {m : Int} (h1 : n.length ≤ 19) (h2 : t.length ≤ 19) (h3 : 0 ≤ o ∧ o ≤ 11) (h4 : In64 m) : TsB d (.mk o n t m []) := TsB.flat d ⟨h1, h2, h3, h4, rfl⟩
theorem lit_get {l : List S} {v n : Nat} (hn : l.length = n) (h : v < n) : l[v]? = some (l.getD v []) := by
 subst hn; rw [getD_of h]; exact List.getElem?_eq_getElem h
def twL : List S := [[103, 101, 116], [101, 114, 114, 111, 114], [119, 97, 114, 110], [97, 49], [50, 48, 48], [110, 111, 116, 104, 105, 110, 103]]
theorem twL_len (i : Nat) : (twL.getD i []).length ≤ 19 := getD_len (by decide) i
@[simp] theorem twL_n : twL.length = 6 := rfl
theorem lit_twL : ([[AV.val (.string ⟨#[103, 101, 116]⟩)], [AV.val (.string ⟨#[101, 114, 114, 111, 114]⟩)], [AV.val (.string ⟨#[119, 97, 114, 110]⟩)], [AV.val (.string ⟨#[97, 49]⟩)], [AV.val (.string ⟨#[50, 48, 48]⟩)], [AV.val (.string ⟨#[110, 111, 116, 104, 105, 110, 103]⟩)]] : List (List AV)) = strE twL := rfl
def tbL : List S := [[101], [101, 114, 114], [117], [50], [113]]
theorem tbL_len (i : Nat) : (tbL.getD i []).length ≤ 19 := getD_len (by decide) i
@[simp] theorem tbL_n : tbL.length = 5 := rfl
theorem lit_tbL : ([[AV.val (.string ⟨#[101]⟩)], [AV.val (.string ⟨#[101, 114, 114]⟩)], [AV.val (.string ⟨#[117]⟩)], [AV.val (.string ⟨#[50]⟩)], [AV.val (.string ⟨#[113]⟩)]] : List (List AV)) = strE tbL := rfl
def tcL : List S := [[114], [71, 69, 84], [32], [84], [111, 32, 111]]
theorem tcL_len (i : Nat) : (tcL.getD i []).length ≤ 19 := getD_len (by decide) i
@[simp] theorem tcL_n : tcL.length = 5 := rfl
theorem lit_tcL : ([[AV.val (.string ⟨#[114]⟩)], [AV.val (.string ⟨#[71, 69, 84]⟩)], [AV.val (.string ⟨#[32]⟩)], [AV.val (.string ⟨#[84]⟩)], [AV.val (.string ⟨#[111, 32, 111]⟩)]] : List (List AV)) = strE tcL := rfl
def tnL : List S := [[64, 104, 111, 115, 116], [64, 115, 116, 114, 101, 97, 109], [64, 116, 114, 97, 99, 101], [64, 119, 101, 105, 103, 104, 116]]
theorem tnL_len (i : Nat) : (tnL.getD i []).length ≤ 19 := getD_len (by decide) i
@[simp] theorem tnL_n : tnL.length = 4 := rfl
theorem lit_tnL : ([[AV.val (.string ⟨#[64, 104, 111, 115, 116]⟩)], [AV.val (.string ⟨#[64, 115, 116, 114, 101, 97, 109]⟩)], [AV.val (.string ⟨#[64, 116, 114, 97, 99, 101]⟩)], [AV.val (.string ⟨#[64, 119, 101, 105, 103, 104, 116]⟩)]] : List (List AV)) = strE tnL := rfl
def txL : List S := [[49], [109, 97, 105, 110], [116, 49], [50]]
theorem txL_len (i : Nat) : (txL.getD i []).length ≤ 19 := getD_len (by decide) i
@[simp] theorem txL_n : txL.length = 4 := rfl
theorem lit_txL : ([[AV.val (.string ⟨#[49]⟩)], [AV.val (.string ⟨#[109, 97, 105, 110]⟩)], [AV.val (.string ⟨#[116, 49]⟩)], [AV.val (.string ⟨#[50]⟩)]] : List (List AV)) = strE txL := rfl
def nsL : List S := [[108, 101, 118, 101, 108], [64, 104, 111, 115, 116], [64, 115, 116, 114, 101, 97, 109], [99, 111, 100, 101], [64, 116, 114, 97, 99, 101]]
theorem nsL_len (i : Nat) : (nsL.getD i []).length ≤ 19 := getD_len (by decide) i
@[simp] theorem nsL_n : nsL.length = 5 := rfl
theorem lit_nsL : ([[AV.val (.string ⟨#[108, 101, 118, 101, 108]⟩)], [AV.val (.string ⟨#[64, 104, 111, 115, 116]⟩)], [AV.val (.string ⟨#[64, 115, 116, 114, 101, 97, 109]⟩)], [AV.val (.string ⟨#[99, 111, 100, 101]⟩)], [AV.val (.string ⟨#[64, 116, 114, 97, 99, 101]⟩)]] : List (List AV)) = strE nsL := rfl
@[simp] theorem nameL_n : nameL.length = 4 := rfl
theorem lit_name : ([[AV.val (.string ⟨#[108, 101, 118, 101, 108]⟩)], [AV.val (.string ⟨#[109, 115]⟩)], [AV.val (.string ⟨#[117, 115, 101, 114]⟩)], [AV.val (.string ⟨#[99, 111, 100, 101]⟩)]] : List (List AV)) = strE nameL := rfl
def kt24 : Nat → List Nat
 | 0 => [0, 1, 4]
 | 1 => [0, 1, 4, 5]
 | 2 => [0, 1, 4, 5, 12]
 | 3 => [0, 1, 4, 5]
 | 4 => [0, 1, 4, 5, 15]
 | 5 => [0, 1, 4, 5, 15, 16]
 | 6 => [0, 1, 4, 5, 15, 16]
 | 7 => [4]
 | 8 => [0, 1, 4, 5, 15, 25]
 | 9 => [4]
 | 10 => [0, 1, 4, 5, 15, 33]
 | 11 => [4]
 | 12 => [0, 1, 4, 5, 15, 41]
 | 13 => [0, 1, 4, 5, 15, 41]
 | 14 => [0, 4, 46]
 | 15 => [4]
 | 16 => [4]
 | 17 => [0, 1, 4, 5, 15, 63]
 | 18 => [4]
 | 19 => [0, 1, 4, 5, 15, 68]
 | 20 => [0, 1, 4, 5, 15, 68]
 | 21 => [0, 4, 6]
 | 22 => [0, 4, 6, 82]
 | 23 => [0, 4, 6]
 | 24 => [0, 4, 6, 90]
 | 25 => [4, 6]
 | 26 => [4]
 | 27 => [0, 1, 4, 5, 15, 99]
 | 28 => [4]
 | 29 => [0, 1, 4, 5, 102]
 | 30 => [4]
 | 31 => [0, 1, 4, 7]
 | 32 => [0, 1, 4, 7, 8]
 | 33 => [0, 1, 4, 7, 8, 118]
 | 34 => [0, 1, 4, 7, 8]
 | 35 => [0, 1, 4, 7, 8]
 | 36 => [4]
 | _ => []
def bodyOf (f : Func) : Code := f.body.getD .skip
def cR : Code → Code
 | .seq _ b => b
 | c => c
noncomputable def rest24 : Code := cR (cR (cR (bodyOf Tryz.f24)))
/-- What is returned by Test. -/
def R24 (L : List UInt8) (d : Nat) : Res → Prop := fun x => ∃ (t : Ts) (a' : Nat), x = (.agg (tsC t), [some (cdE L a')]) ∧ TsB d t ∧ a' ≤ L.length
theorem test24_0 (L : List UInt8) (hL : L.length ≤ 2 ^ 20) (d a2 : Nat) (ha2 : a2 ≤ L.length) :
   EX 131 1 (R24 L d) (fun x C => AW Tryz.prog C rest24 (retQ (tabOf Tryz.prog) [.cell 4 26] x.1 x.2 1) 2 ⟨[(0, .ptr 0 2 0 0), (1, I d), (4, .ptr 1 5 0 0), (5, I 0)], [(0, some (cdE L a2)), (1, some ⟨26, 5, [[I 0, str [], str [], I 0, nilV]]⟩)]⟩) := by
 dsimp only [rest24, cR, bodyOf, Tryz.f24, Option.getD]
 simp only [cdE, nilV]
 obtain ⟨v, b1, hb1, vlt, q⟩ := next13 L hL a2 6 ha2 (by omega) (by omega)
 have vx := lit_get (l := twL) rfl vlt
 have wl := twL_len v
 generalize twL.getD v [] = w at *
 apply EX.step
 · intro xX C hN hk hqX
   repeat first | (with_reducible first | apply s1 | apply s2 | apply s5 | apply s6 | refine s7 ?_ | apply s3 | apply s4 | apply s8 | apply s9) | refine AW.condT rfl ?_ | refine AW.condF rfl ?_ | (refine AW.rT mixed hN hk (atO 7 (onc 2 (ocq 0 q) noc) noO) kt24 [0] rfl (by decide +kernel) (fun K hK => ?_); simp only [go_sem, seval, kt24, lit_twL, vx]; (iterate 3 (try simp (disch := omega) only [au]; try simp only [go_sem, seval, kt24, lit_twL, vx])); (first | with_reducible refine hK _ _ ?_ | refine obK (hK _ _ ?_)); clear hK K) | (refine AW.rD mixed hN hk (atO 7 (onc 2 (ocq 0 q) noc) noO) kt24 [0] rfl (by decide +kernel) (fun K tok htok hK => ?_); simp only [go_sem, seval, kt24, lit_twL, vx]; (iterate 3 (try simp (disch := omega) only [au]; try simp only [go_sem, seval, kt24, lit_twL, vx])); refine ⟨htok _ (by decide +kernel), ?_⟩; (first | with_reducible refine hK _ _ ?_ | refine obK (hK _ _ ?_)); clear hK K htok tok)
   exact hqX
 refine EX.ret (.agg (tsC (.mk 1 [] w 0 []))) [some (cdE L b1)] ?_ (fun C hN hk => AW.ret (mkRet [some 0] [] (by simp only [resList, go_sem, seval]; rfl) (by simp [resOf, lk, lkh, I, str, B, U8, U64, U32, cdE, tsC_c] <;> omega) (by first | (simp [wkHp, wkHp1, wkEnt, lkh, cdE, tsC_c]; done) | simp [wkHp, wkHp1, wkEnt, lkh, I, str, cdE, tsC_c])))
 exact ⟨_, b1, rfl, TsB.mk0 _ (by simp) wl (by omega) (by unfold In64; omega), hb1⟩
theorem test24_1 (L : List UInt8) (hL : L.length ≤ 2 ^ 20) (d a2 : Nat) (ha2 : a2 ≤ L.length) :
   EX 131 1 (R24 L d) (fun x C => AW Tryz.prog C rest24 (retQ (tabOf Tryz.prog) [.cell 4 26] x.1 x.2 1) 2 ⟨[(0, .ptr 0 2 0 0), (1, I d), (4, .ptr 1 5 0 0), (5, I 1)], [(0, some (cdE L a2)), (1, some ⟨26, 5, [[I 0, str [], str [], I 0, nilV]]⟩)]⟩) := by
 dsimp only [rest24, cR, bodyOf, Tryz.f24, Option.getD]
 simp only [cdE, nilV]
 obtain ⟨v, b1, hb1, vlt, q⟩ := next13 L hL a2 6 ha2 (by omega) (by omega)
 have vx := lit_get (l := twL) rfl vlt
 have wl := twL_len v
 generalize twL.getD v [] = w at *
 apply EX.step
 · intro xX C hN hk hqX
   repeat first | (with_reducible first | apply s1 | apply s2 | apply s5 | apply s6 | refine s7 ?_ | apply s3 | apply s4 | apply s8 | apply s9) | refine AW.condT rfl ?_ | refine AW.condF rfl ?_ | (refine AW.rT mixed hN hk (atO 7 (onc 2 (ocq 0 q) noc) noO) kt24 [0] rfl (by decide +kernel) (fun K hK => ?_); simp only [go_sem, seval, kt24, lit_twL, vx]; (iterate 3 (try simp (disch := omega) only [au]; try simp only [go_sem, seval, kt24, lit_twL, vx])); (first | with_reducible refine hK _ _ ?_ | refine obK (hK _ _ ?_)); clear hK K) | (refine AW.rD mixed hN hk (atO 7 (onc 2 (ocq 0 q) noc) noO) kt24 [0] rfl (by decide +kernel) (fun K tok htok hK => ?_); simp only [go_sem, seval, kt24, lit_twL, vx]; (iterate 3 (try simp (disch := omega) only [au]; try simp only [go_sem, seval, kt24, lit_twL, vx])); refine ⟨htok _ (by decide +kernel), ?_⟩; (first | with_reducible refine hK _ _ ?_ | refine obK (hK _ _ ?_)); clear hK K htok tok)
   exact hqX
 refine EX.ret (.agg (tsC (.mk 1 [] w 0 []))) [some (cdE L b1)] ?_ (fun C hN hk => AW.ret (mkRet [some 0] [] (by simp only [resList, go_sem, seval]; rfl) (by simp [resOf, lk, lkh, I, str, B, U8, U64, U32, cdE, tsC_c] <;> omega) (by first | (simp [wkHp, wkHp1, wkEnt, lkh, cdE, tsC_c]; done) | simp [wkHp, wkHp1, wkEnt, lkh, I, str, cdE, tsC_c])))
 exact ⟨_, b1, rfl, TsB.mk0 _ (by simp) wl (by omega) (by unfold In64; omega), hb1⟩
theorem test24_2 (L : List UInt8) (hL : L.length ≤ 2 ^ 20) (d a2 : Nat) (ha2 : a2 ≤ L.length) :
   EX 131 1 (R24 L d) (fun x C => AW Tryz.prog C rest24 (retQ (tabOf Tryz.prog) [.cell 4 26] x.1 x.2 1) 2 ⟨[(0, .ptr 0 2 0 0), (1, I d), (4, .ptr 1 5 0 0), (5, I 2)], [(0, some (cdE L a2)), (1, some ⟨26, 5, [[I 0, str [], str [], I 0, nilV]]⟩)]⟩) := by
 dsimp only [rest24, cR, bodyOf, Tryz.f24, Option.getD]
 simp only [cdE, nilV]
 obtain ⟨v, b1, hb1, vlt, q⟩ := next13 L hL a2 5 ha2 (by omega) (by omega)
 have vx := lit_get (l := tbL) rfl vlt
 have wl := tbL_len v
 generalize tbL.getD v [] = w at *
 apply EX.step
 · intro xX C hN hk hqX
   repeat first | (with_reducible first | apply s1 | apply s2 | apply s5 | apply s6 | refine s7 ?_ | apply s3 | apply s4 | apply s8 | apply s9) | refine AW.condT rfl ?_ | refine AW.condF rfl ?_ | (refine AW.rT mixed hN hk (atO 9 (onc 2 (ocq 0 q) noc) noO) kt24 [0] rfl (by decide +kernel) (fun K hK => ?_); simp only [go_sem, seval, kt24, lit_tbL, vx]; (iterate 3 (try simp (disch := omega) only [au]; try simp only [go_sem, seval, kt24, lit_tbL, vx])); (first | with_reducible refine hK _ _ ?_ | refine obK (hK _ _ ?_)); clear hK K) | (refine AW.rD mixed hN hk (atO 9 (onc 2 (ocq 0 q) noc) noO) kt24 [0] rfl (by decide +kernel) (fun K tok htok hK => ?_); simp only [go_sem, seval, kt24, lit_tbL, vx]; (iterate 3 (try simp (disch := omega) only [au]; try simp only [go_sem, seval, kt24, lit_tbL, vx])); refine ⟨htok _ (by decide +kernel), ?_⟩; (first | with_reducible refine hK _ _ ?_ | refine obK (hK _ _ ?_)); clear hK K htok tok)
   exact hqX
 refine EX.ret (.agg (tsC (.mk 2 [] w 0 []))) [some (cdE L b1)] ?_ (fun C hN hk => AW.ret (mkRet [some 0] [] (by simp only [resList, go_sem, seval]; rfl) (by simp [resOf, lk, lkh, I, str, B, U8, U64, U32, cdE, tsC_c] <;> omega) (by first | (simp [wkHp, wkHp1, wkEnt, lkh, cdE, tsC_c]; done) | simp [wkHp, wkHp1, wkEnt, lkh, I, str, cdE, tsC_c])))
 exact ⟨_, b1, rfl, TsB.mk0 _ (by simp) wl (by omega) (by unfold In64; omega), hb1⟩
theorem test24_3 (L : List UInt8) (hL : L.length ≤ 2 ^ 20) (d a2 : Nat) (ha2 : a2 ≤ L.length) :
   EX 131 1 (R24 L d) (fun x C => AW Tryz.prog C rest24 (retQ (tabOf Tryz.prog) [.cell 4 26] x.1 x.2 1) 2 ⟨[(0, .ptr 0 2 0 0), (1, I d), (4, .ptr 1 5 0 0), (5, I 3)], [(0, some (cdE L a2)), (1, some ⟨26, 5, [[I 0, str [], str [], I 0, nilV]]⟩)]⟩) := by
 dsimp only [rest24, cR, bodyOf, Tryz.f24, Option.getD]
 simp only [cdE, nilV]
 obtain ⟨v, b1, hb1, vlt, q⟩ := next13 L hL a2 5 ha2 (by omega) (by omega)
 have vx := lit_get (l := tcL) rfl vlt
 have wl := tcL_len v
 generalize tcL.getD v [] = w at *
 apply EX.step
 · intro xX C hN hk hqX
   repeat first | (with_reducible first | apply s1 | apply s2 | apply s5 | apply s6 | refine s7 ?_ | apply s3 | apply s4 | apply s8 | apply s9) | refine AW.condT rfl ?_ | refine AW.condF rfl ?_ | (refine AW.rT mixed hN hk (atO 11 (onc 2 (ocq 0 q) noc) noO) kt24 [0] rfl (by decide +kernel) (fun K hK => ?_); simp only [go_sem, seval, kt24, lit_tcL, vx]; (iterate 3 (try simp (disch := omega) only [au]; try simp only [go_sem, seval, kt24, lit_tcL, vx])); (first | with_reducible refine hK _ _ ?_ | refine obK (hK _ _ ?_)); clear hK K) | (refine AW.rD mixed hN hk (atO 11 (onc 2 (ocq 0 q) noc) noO) kt24 [0] rfl (by decide +kernel) (fun K tok htok hK => ?_); simp only [go_sem, seval, kt24, lit_tcL, vx]; (iterate 3 (try simp (disch := omega) only [au]; try simp only [go_sem, seval, kt24, lit_tcL, vx])); refine ⟨htok _ (by decide +kernel), ?_⟩; (first | with_reducible refine hK _ _ ?_ | refine obK (hK _ _ ?_)); clear hK K htok tok)
   exact hqX
 refine EX.ret (.agg (tsC (.mk 3 [] w 0 []))) [some (cdE L b1)] ?_ (fun C hN hk => AW.ret (mkRet [some 0] [] (by simp only [resList, go_sem, seval]; rfl) (by simp [resOf, lk, lkh, I, str, B, U8, U64, U32, cdE, tsC_c] <;> omega) (by first | (simp [wkHp, wkHp1, wkEnt, lkh, cdE, tsC_c]; done) | simp [wkHp, wkHp1, wkEnt, lkh, I, str, cdE, tsC_c])))
 exact ⟨_, b1, rfl, TsB.mk0 _ (by simp) wl (by omega) (by unfold In64; omega), hb1⟩
theorem test24_4 (L : List UInt8) (hL : L.length ≤ 2 ^ 20) (d a2 : Nat) (ha2 : a2 ≤ L.length) :
   EX 131 1 (R24 L d) (fun x C => AW Tryz.prog C rest24 (retQ (tabOf Tryz.prog) [.cell 4 26] x.1 x.2 1) 2 ⟨[(0, .ptr 0 2 0 0), (1, I d), (4, .ptr 1 5 0 0), (5, I 4)], [(0, some (cdE L a2)), (1, some ⟨26, 5, [[I 0, str [], str [], I 0, nilV]]⟩)]⟩) := by
 dsimp only [rest24, cR, bodyOf, Tryz.f24, Option.getD]
 simp only [cdE, nilV]
 obtain ⟨u, b1, hb1, ult, q⟩ := next13 L hL a2 4 ha2 (by omega) (by omega)
 by_cases hu : u = 3
 · subst hu
   obtain ⟨v, b2, hb2, vlt, q2⟩ := next13 L hL b1 4 hb1 (by omega) (by omega)
   have vx := lit_get (l := tnL) rfl vlt
   have wl := tnL_len v
   generalize tnL.getD v [] = w at *
   obtain ⟨v3, b3, hb3, v3lt, q3⟩ := next13 L hL b2 4 hb2 (by omega) (by omega)
   have v3x := lit_get (l := txL) rfl v3lt
   have w3l := txL_len v3
   generalize txL.getD v3 [] = w3 at *
   apply EX.step
   · intro xX C hN hk hqX
     repeat first | (with_reducible first | apply s1 | apply s2 | apply s5 | apply s6 | refine s7 ?_ | apply s3 | apply s4 | apply s8 | apply s9) | refine AW.condT rfl ?_ | refine AW.condF rfl ?_ | (refine AW.rT mixed hN hk (atO 14 (onc 1 (ocq 0 q) noc) (atO 15 (onc 2 (ocq 0 q2) (onc 7 (ocq 0 q3) noc)) noO)) kt24 [0] rfl (by decide +kernel) (fun K hK => ?_); simp only [go_sem, seval, kt24, lit_tnL, lit_txL, vx, v3x]; (iterate 3 (try simp (disch := omega) only [au]; try simp only [go_sem, seval, kt24, lit_tnL, lit_txL, vx, v3x])); (first | with_reducible refine hK _ _ ?_ | refine obK (hK _ _ ?_)); clear hK K) | (refine AW.rD mixed hN hk (atO 14 (onc 1 (ocq 0 q) noc) (atO 15 (onc 2 (ocq 0 q2) (onc 7 (ocq 0 q3) noc)) noO)) kt24 [0] rfl (by decide +kernel) (fun K tok htok hK => ?_); simp only [go_sem, seval, kt24, lit_tnL, lit_txL, vx, v3x]; (iterate 3 (try simp (disch := omega) only [au]; try simp only [go_sem, seval, kt24, lit_tnL, lit_txL, vx, v3x])); refine ⟨htok _ (by decide +kernel), ?_⟩; (first | with_reducible refine hK _ _ ?_ | refine obK (hK _ _ ?_)); clear hK K htok tok)
     exact hqX
   refine EX.ret (.agg (tsC (.mk 4 w w3 0 []))) [some (cdE L b3)] ?_ (fun C hN hk => AW.ret (mkRet [some 0] [] (by simp only [resList, go_sem, seval]; rfl) (by simp [resOf, lk, lkh, I, str, B, U8, U64, U32, cdE, tsC_c] <;> omega) (by first | (simp [wkHp, wkHp1, wkEnt, lkh, cdE, tsC_c]; done) | simp [wkHp, wkHp1, wkEnt, lkh, I, str, cdE, tsC_c])))
   exact ⟨_, b3, rfl, TsB.mk0 _ wl w3l (by omega) (by unfold In64; omega), hb3⟩
 · have du : ((u : Int) == 3) = false := by simp; omega
   obtain ⟨v, b2, hb2, q2⟩ := name45 L hL b1 hb1
   obtain ⟨v3, b3, hb3, q3⟩ := value46 L hL b2 hb2
   have wl := nameL_len v
   have w3l := valL_len v3
   generalize nameL.getD v [] = w at *
   generalize valL.getD v3 [] = w3 at *
   apply EX.step
   · intro xX C hN hk hqX
     repeat first | (with_reducible first | apply s1 | apply s2 | apply s5 | apply s6 | refine s7 ?_ | apply s3 | apply s4 | apply s8 | apply s9) | refine AW.condT rfl ?_ | refine AW.condF rfl ?_ | (refine AW.rT mixed hN hk (atO 14 (onc 1 (ocq 0 q) noc) (atO 16 (onc 1 (ocq 0 q2) (onc 3 (ocq 0 q3) noc)) noO)) kt24 [0] rfl (by decide +kernel) (fun K hK => ?_); simp only [go_sem, seval, kt24, du]; (iterate 3 (try simp (disch := omega) only [au]; try simp only [go_sem, seval, kt24, du])); (first | with_reducible refine hK _ _ ?_ | refine obK (hK _ _ ?_)); clear hK K) | (refine AW.rD mixed hN hk (atO 14 (onc 1 (ocq 0 q) noc) (atO 16 (onc 1 (ocq 0 q2) (onc 3 (ocq 0 q3) noc)) noO)) kt24 [0] rfl (by decide +kernel) (fun K tok htok hK => ?_); simp only [go_sem, seval, kt24, du]; (iterate 3 (try simp (disch := omega) only [au]; try simp only [go_sem, seval, kt24, du])); refine ⟨htok _ (by decide +kernel), ?_⟩; (first | with_reducible refine hK _ _ ?_ | refine obK (hK _ _ ?_)); clear hK K htok tok)
     exact hqX
   refine EX.ret (.agg (tsC (.mk 4 w w3 0 []))) [some (cdE L b3)] ?_ (fun C hN hk => AW.ret (mkRet [some 0] [] (by simp only [resList, go_sem, seval]; rfl) (by simp [resOf, lk, lkh, I, str, B, U8, U64, U32, cdE, tsC_c] <;> omega) (by first | (simp [wkHp, wkHp1, wkEnt, lkh, cdE, tsC_c]; done) | simp [wkHp, wkHp1, wkEnt, lkh, I, str, cdE, tsC_c])))
   exact ⟨_, b3, rfl, TsB.mk0 _ wl w3l (by omega) (by unfold In64; omega), hb3⟩
theorem test24_5 (L : List UInt8) (hL : L.length ≤ 2 ^ 20) (d a2 : Nat) (ha2 : a2 ≤ L.length) :
   EX 131 1 (R24 L d) (fun x C => AW Tryz.prog C rest24 (retQ (tabOf Tryz.prog) [.cell 4 26] x.1 x.2 1) 2 ⟨[(0, .ptr 0 2 0 0), (1, I d), (4, .ptr 1 5 0 0), (5, I 5)], [(0, some (cdE L a2)), (1, some ⟨26, 5, [[I 0, str [], str [], I 0, nilV]]⟩)]⟩) := by
 dsimp only [rest24, cR, bodyOf, Tryz.f24, Option.getD]
 simp only [cdE, nilV]
 obtain ⟨u, b1, hb1, ult, q⟩ := next13 L hL a2 4 ha2 (by omega) (by omega)
 by_cases hu : u = 3
 · subst hu
   obtain ⟨v, b2, hb2, vlt, q2⟩ := next13 L hL b1 4 hb1 (by omega) (by omega)
   have vx := lit_get (l := tnL) rfl vlt
   have wl := tnL_len v
   generalize tnL.getD v [] = w at *
   obtain ⟨v3, b3, hb3, v3lt, q3⟩ := next13 L hL b2 4 hb2 (by omega) (by omega)
   have v3x := lit_get (l := txL) rfl v3lt
   have w3l := txL_len v3
   generalize txL.getD v3 [] = w3 at *
   apply EX.step
   · intro xX C hN hk hqX
     repeat first | (with_reducible first | apply s1 | apply s2 | apply s5 | apply s6 | refine s7 ?_ | apply s3 | apply s4 | apply s8 | apply s9) | refine AW.condT rfl ?_ | refine AW.condF rfl ?_ | (refine AW.rT mixed hN hk (atO 14 (onc 1 (ocq 0 q) noc) (atO 15 (onc 2 (ocq 0 q2) (onc 7 (ocq 0 q3) noc)) noO)) kt24 [0] rfl (by decide +kernel) (fun K hK => ?_); simp only [go_sem, seval, kt24, lit_tnL, lit_txL, vx, v3x]; (iterate 3 (try simp (disch := omega) only [au]; try simp only [go_sem, seval, kt24, lit_tnL, lit_txL, vx, v3x])); (first | with_reducible refine hK _ _ ?_ | refine obK (hK _ _ ?_)); clear hK K) | (refine AW.rD mixed hN hk (atO 14 (onc 1 (ocq 0 q) noc) (atO 15 (onc 2 (ocq 0 q2) (onc 7 (ocq 0 q3) noc)) noO)) kt24 [0] rfl (by decide +kernel) (fun K tok htok hK => ?_); simp only [go_sem, seval, kt24, lit_tnL, lit_txL, vx, v3x]; (iterate 3 (try simp (disch := omega) only [au]; try simp only [go_sem, seval, kt24, lit_tnL, lit_txL, vx, v3x])); refine ⟨htok _ (by decide +kernel), ?_⟩; (first | with_reducible refine hK _ _ ?_ | refine obK (hK _ _ ?_)); clear hK K htok tok)
     exact hqX
   refine EX.ret (.agg (tsC (.mk 4 w w3 0 []))) [some (cdE L b3)] ?_ (fun C hN hk => AW.ret (mkRet [some 0] [] (by simp only [resList, go_sem, seval]; rfl) (by simp [resOf, lk, lkh, I, str, B, U8, U64, U32, cdE, tsC_c] <;> omega) (by first | (simp [wkHp, wkHp1, wkEnt, lkh, cdE, tsC_c]; done) | simp [wkHp, wkHp1, wkEnt, lkh, I, str, cdE, tsC_c])))
   exact ⟨_, b3, rfl, TsB.mk0 _ wl w3l (by omega) (by unfold In64; omega), hb3⟩
 · have du : ((u : Int) == 3) = false := by simp; omega
   obtain ⟨v, b2, hb2, q2⟩ := name45 L hL b1 hb1
   obtain ⟨v3, b3, hb3, q3⟩ := value46 L hL b2 hb2
   have wl := nameL_len v
   have w3l := valL_len v3
   generalize nameL.getD v [] = w at *
   generalize valL.getD v3 [] = w3 at *
   apply EX.step
   · intro xX C hN hk hqX
     repeat first | (with_reducible first | apply s1 | apply s2 | apply s5 | apply s6 | refine s7 ?_ | apply s3 | apply s4 | apply s8 | apply s9) | refine AW.condT rfl ?_ | refine AW.condF rfl ?_ | (refine AW.rT mixed hN hk (atO 14 (onc 1 (ocq 0 q) noc) (atO 16 (onc 1 (ocq 0 q2) (onc 3 (ocq 0 q3) noc)) noO)) kt24 [0] rfl (by decide +kernel) (fun K hK => ?_); simp only [go_sem, seval, kt24, du]; (iterate 3 (try simp (disch := omega) only [au]; try simp only [go_sem, seval, kt24, du])); (first | with_reducible refine hK _ _ ?_ | refine obK (hK _ _ ?_)); clear hK K) | (refine AW.rD mixed hN hk (atO 14 (onc 1 (ocq 0 q) noc) (atO 16 (onc 1 (ocq 0 q2) (onc 3 (ocq 0 q3) noc)) noO)) kt24 [0] rfl (by decide +kernel) (fun K tok htok hK => ?_); simp only [go_sem, seval, kt24, du]; (iterate 3 (try simp (disch := omega) only [au]; try simp only [go_sem, seval, kt24, du])); refine ⟨htok _ (by decide +kernel), ?_⟩; (first | with_reducible refine hK _ _ ?_ | refine obK (hK _ _ ?_)); clear hK K htok tok)
     exact hqX
   refine EX.ret (.agg (tsC (.mk 4 w w3 0 []))) [some (cdE L b3)] ?_ (fun C hN hk => AW.ret (mkRet [some 0] [] (by simp only [resList, go_sem, seval]; rfl) (by simp [resOf, lk, lkh, I, str, B, U8, U64, U32, cdE, tsC_c] <;> omega) (by first | (simp [wkHp, wkHp1, wkEnt, lkh, cdE, tsC_c]; done) | simp [wkHp, wkHp1, wkEnt, lkh, I, str, cdE, tsC_c])))
   exact ⟨_, b3, rfl, TsB.mk0 _ wl w3l (by omega) (by unfold In64; omega), hb3⟩
theorem test24_6 (L : List UInt8) (hL : L.length ≤ 2 ^ 20) (d a2 : Nat) (ha2 : a2 ≤ L.length) :
   EX 131 1 (R24 L d) (fun x C => AW Tryz.prog C rest24 (retQ (tabOf Tryz.prog) [.cell 4 26] x.1 x.2 1) 2 ⟨[(0, .ptr 0 2 0 0), (1, I d), (4, .ptr 1 5 0 0), (5, I 6)], [(0, some (cdE L a2)), (1, some ⟨26, 5, [[I 0, str [], str [], I 0, nilV]]⟩)]⟩) := by
 dsimp only [rest24, cR, bodyOf, Tryz.f24, Option.getD]
 simp only [cdE, nilV]
 obtain ⟨v, b1, hb1, q⟩ := name45 L hL a2 ha2
 have wl := nameL_len v
 generalize nameL.getD v [] = w at *
 apply EX.step
 · intro xX C hN hk hqX
   repeat first | (with_reducible first | apply s1 | apply s2 | apply s5 | apply s6 | refine s7 ?_ | apply s3 | apply s4 | apply s8 | apply s9) | refine AW.condT rfl ?_ | refine AW.condF rfl ?_ | (refine AW.rT mixed hN hk (atO 18 (onc 1 (ocq 0 q) noc) noO) kt24 [0] rfl (by decide +kernel) (fun K hK => ?_); simp only [go_sem, seval, kt24]; (iterate 3 (try simp (disch := omega) only [au]; try simp only [go_sem, seval, kt24])); (first | with_reducible refine hK _ _ ?_ | refine obK (hK _ _ ?_)); clear hK K) | (refine AW.rD mixed hN hk (atO 18 (onc 1 (ocq 0 q) noc) noO) kt24 [0] rfl (by decide +kernel) (fun K tok htok hK => ?_); simp only [go_sem, seval, kt24]; (iterate 3 (try simp (disch := omega) only [au]; try simp only [go_sem, seval, kt24])); refine ⟨htok _ (by decide +kernel), ?_⟩; (first | with_reducible refine hK _ _ ?_ | refine obK (hK _ _ ?_)); clear hK K htok tok)
   exact hqX
 refine EX.ret (.agg (tsC (.mk 8 w [] 0 []))) [some (cdE L b1)] ?_ (fun C hN hk => AW.ret (mkRet [some 0] [] (by simp only [resList, go_sem, seval]; rfl) (by simp [resOf, lk, lkh, I, str, B, U8, U64, U32, cdE, tsC_c] <;> omega) (by first | (simp [wkHp, wkHp1, wkEnt, lkh, cdE, tsC_c]; done) | simp [wkHp, wkHp1, wkEnt, lkh, I, str, cdE, tsC_c])))
 exact ⟨_, b1, rfl, TsB.mk0 _ wl (by simp) (by omega) (by unfold In64; omega), hb1⟩
theorem test24_7 (L : List UInt8) (hL : L.length ≤ 2 ^ 20) (d a2 : Nat) (ha2 : a2 ≤ L.length) :
   EX 131 1 (R24 L d) (fun x C => AW Tryz.prog C rest24 (retQ (tabOf Tryz.prog) [.cell 4 26] x.1 x.2 1) 2 ⟨[(0, .ptr 0 2 0 0), (1, I d), (4, .ptr 1 5 0 0), (5, I 7)], [(0, some (cdE L a2)), (1, some ⟨26, 5, [[I 0, str [], str [], I 0, nilV]]⟩)]⟩) := by
 dsimp only [rest24, cR, bodyOf, Tryz.f24, Option.getD]
 simp only [cdE, nilV]
 obtain ⟨u, b1, hb1, ult, q⟩ := next13 L hL a2 3 ha2 (by omega) (by omega)
 obtain ⟨v, b2, hb2, q2⟩ := name45 L hL b1 hb1
 obtain ⟨m, b3, hb3, mlt, q3⟩ := next13 L hL b2 40 hb2 (by omega) (by omega)
 obtain ⟨c, b4, hb4, clt, q4⟩ := next13 L hL b3 2 hb3 (by omega) (by omega)
 have wl := nameL_len v
 generalize nameL.getD v [] = w at *
 have w1 := wrap64 (n := 9 + (u : Int)) (by omega)
 have w2 := wrap64 (n := (m : Int) - 5) (by omega)
 apply EX.step
 · intro xX C hN hk hqX
   repeat first | (with_reducible first | apply s1 | apply s2 | apply s5 | apply s6 | refine s7 ?_ | apply s3 | apply s4 | apply s8 | apply s9) | refine AW.condT rfl ?_ | refine AW.condF rfl ?_ | (refine AW.rT mixed hN hk (atO 21 (onc 1 (ocq 0 q) (onc 4 (ocq 0 q2) (onc 6 (ocq 0 q3) noc))) (atO 22 (onc 1 (ocq 0 q4) noc) noO)) kt24 [0] rfl (by decide +kernel) (fun K hK => ?_); simp only [go_sem, seval, kt24, w1, w2]; (iterate 3 (try simp (disch := omega) only [au]; try simp only [go_sem, seval, kt24, w1, w2])); (first | with_reducible refine hK _ _ ?_ | refine obK (hK _ _ ?_)); clear hK K) | (refine AW.rD mixed hN hk (atO 21 (onc 1 (ocq 0 q) (onc 4 (ocq 0 q2) (onc 6 (ocq 0 q3) noc))) (atO 22 (onc 1 (ocq 0 q4) noc) noO)) kt24 [0] rfl (by decide +kernel) (fun K tok htok hK => ?_); simp only [go_sem, seval, kt24, w1, w2]; (iterate 3 (try simp (disch := omega) only [au]; try simp only [go_sem, seval, kt24, w1, w2])); refine ⟨htok _ (by decide +kernel), ?_⟩; (first | with_reducible refine hK _ _ ?_ | refine obK (hK _ _ ?_)); clear hK K htok tok)
   exact hqX
 by_cases hc : c = 1
 · subst hc
   obtain ⟨y, b5, hb5, ylt, q5⟩ := next13 L hL b4 70 hb4 (by omega) (by omega)
   have w3 := wrap64 (n := 995 + (y : Int)) (by omega)
   obtain ⟨e, b6, hb6, elt, q6⟩ := next13 L hL b5 8 hb5 (by omega) (by omega)
   apply EX.step
   · intro xX C hN hk hqX
     repeat first | (with_reducible first | apply s1 | apply s2 | apply s5 | apply s6 | refine s7 ?_ | apply s3 | apply s4 | apply s8 | apply s9) | refine AW.condT rfl ?_ | refine AW.condF rfl ?_ | (refine AW.rT mixed hN hk (atO 23 (onc 1 (ocq 0 q5) noc) (atO 24 (onc 1 (ocq 0 q6) noc) noO)) kt24 [0] rfl (by decide +kernel) (fun K hK => ?_); simp only [go_sem, seval, kt24, w3]; (iterate 3 (try simp (disch := omega) only [au]; try simp only [go_sem, seval, kt24, w3])); (first | with_reducible refine hK _ _ ?_ | refine obK (hK _ _ ?_)); clear hK K) | (refine AW.rD mixed hN hk (atO 23 (onc 1 (ocq 0 q5) noc) (atO 24 (onc 1 (ocq 0 q6) noc) noO)) kt24 [0] rfl (by decide +kernel) (fun K tok htok hK => ?_); simp only [go_sem, seval, kt24, w3]; (iterate 3 (try simp (disch := omega) only [au]; try simp only [go_sem, seval, kt24, w3])); refine ⟨htok _ (by decide +kernel), ?_⟩; (first | with_reducible refine hK _ _ ?_ | refine obK (hK _ _ ?_)); clear hK K htok tok)
     exact hqX
   by_cases he : e = 7
   · subst he
     obtain ⟨z, b7, hb7, zlt, q7⟩ := next13 L hL b6 3 hb6 (by omega) (by omega)
     obtain rfl | rfl | rfl : z = 0 ∨ z = 1 ∨ z = 2 := by omega
     · apply EX.step
       · intro xX C hN hk hqX
         repeat first | (with_reducible first | apply s1 | apply s2 | apply s5 | apply s6 | refine s7 ?_ | apply s3 | apply s4 | apply s8 | apply s9) | refine AW.condT rfl ?_ | refine AW.condF rfl ?_ | (refine AW.rT mixed hN hk (atO 25 (onc 2 (ocq 0 q7) noc) noO) kt24 [0] rfl (by decide +kernel) (fun K hK => ?_); simp only [go_sem, seval, kt24]; (iterate 3 (try simp (disch := omega) only [au]; try simp only [go_sem, seval, kt24])); (first | with_reducible refine hK _ _ ?_ | refine obK (hK _ _ ?_)); clear hK K) | (refine AW.rD mixed hN hk (atO 25 (onc 2 (ocq 0 q7) noc) noO) kt24 [0] rfl (by decide +kernel) (fun K tok htok hK => ?_); simp only [go_sem, seval, kt24]; (iterate 3 (try simp (disch := omega) only [au]; try simp only [go_sem, seval, kt24])); refine ⟨htok _ (by decide +kernel), ?_⟩; (first | with_reducible refine hK _ _ ?_ | refine obK (hK _ _ ?_)); clear hK K htok tok)
         exact hqX
       refine EX.ret (.agg (tsC (.mk (9 + u) [64, 116, 105, 109, 101] [] (-5) []))) [some (cdE L b7)] ?_ (fun C hN hk => AW.ret (mkRet [some 0] [] (by simp only [resList, go_sem, seval]; rfl) (by simp [resOf, lk, lkh, I, str, B, U8, U64, U32, cdE, tsC_c] <;> omega) (by first | (simp [wkHp, wkHp1, wkEnt, lkh, cdE, tsC_c]; done) | simp [wkHp, wkHp1, wkEnt, lkh, I, str, cdE, tsC_c])))
       exact ⟨_, b7, rfl, TsB.mk0 _ (by decide) (by simp) (by omega) (by unfold In64; omega), hb7⟩
     · apply EX.step
       · intro xX C hN hk hqX
         repeat first | (with_reducible first | apply s1 | apply s2 | apply s5 | apply s6 | refine s7 ?_ | apply s3 | apply s4 | apply s8 | apply s9) | refine AW.condT rfl ?_ | refine AW.condF rfl ?_ | (refine AW.rT mixed hN hk (atO 25 (onc 2 (ocq 0 q7) noc) noO) kt24 [0] rfl (by decide +kernel) (fun K hK => ?_); simp only [go_sem, seval, kt24]; (iterate 3 (try simp (disch := omega) only [au]; try simp only [go_sem, seval, kt24])); (first | with_reducible refine hK _ _ ?_ | refine obK (hK _ _ ?_)); clear hK K) | (refine AW.rD mixed hN hk (atO 25 (onc 2 (ocq 0 q7) noc) noO) kt24 [0] rfl (by decide +kernel) (fun K tok htok hK => ?_); simp only [go_sem, seval, kt24]; (iterate 3 (try simp (disch := omega) only [au]; try simp only [go_sem, seval, kt24])); refine ⟨htok _ (by decide +kernel), ?_⟩; (first | with_reducible refine hK _ _ ?_ | refine obK (hK _ _ ?_)); clear hK K htok tok)
         exact hqX
       refine EX.ret (.agg (tsC (.mk (9 + u) [64, 116, 105, 109, 101] [] 253402300799999 []))) [some (cdE L b7)] ?_ (fun C hN hk => AW.ret (mkRet [some 0] [] (by simp only [resList, go_sem, seval]; rfl) (by simp [resOf, lk, lkh, I, str, B, U8, U64, U32, cdE, tsC_c] <;> omega) (by first | (simp [wkHp, wkHp1, wkEnt, lkh, cdE, tsC_c]; done) | simp [wkHp, wkHp1, wkEnt, lkh, I, str, cdE, tsC_c])))
       exact ⟨_, b7, rfl, TsB.mk0 _ (by decide) (by simp) (by omega) (by unfold In64; omega), hb7⟩
     · apply EX.step
       · intro xX C hN hk hqX
         repeat first | (with_reducible first | apply s1 | apply s2 | apply s5 | apply s6 | refine s7 ?_ | apply s3 | apply s4 | apply s8 | apply s9) | refine AW.condT rfl ?_ | refine AW.condF rfl ?_ | (refine AW.rT mixed hN hk (atO 25 (onc 2 (ocq 0 q7) noc) noO) kt24 [0] rfl (by decide +kernel) (fun K hK => ?_); simp only [go_sem, seval, kt24]; (iterate 3 (try simp (disch := omega) only [au]; try simp only [go_sem, seval, kt24])); (first | with_reducible refine hK _ _ ?_ | refine obK (hK _ _ ?_)); clear hK K) | (refine AW.rD mixed hN hk (atO 25 (onc 2 (ocq 0 q7) noc) noO) kt24 [0] rfl (by decide +kernel) (fun K tok htok hK => ?_); simp only [go_sem, seval, kt24]; (iterate 3 (try simp (disch := omega) only [au]; try simp only [go_sem, seval, kt24])); refine ⟨htok _ (by decide +kernel), ?_⟩; (first | with_reducible refine hK _ _ ?_ | refine obK (hK _ _ ?_)); clear hK K htok tok)
         exact hqX
       refine EX.ret (.agg (tsC (.mk (9 + u) [64, 116, 105, 109, 101] [] 999999999999999999 []))) [some (cdE L b7)] ?_ (fun C hN hk => AW.ret (mkRet [some 0] [] (by simp only [resList, go_sem, seval]; rfl) (by simp [resOf, lk, lkh, I, str, B, U8, U64, U32, cdE, tsC_c] <;> omega) (by first | (simp [wkHp, wkHp1, wkEnt, lkh, cdE, tsC_c]; done) | simp [wkHp, wkHp1, wkEnt, lkh, I, str, cdE, tsC_c])))
       exact ⟨_, b7, rfl, TsB.mk0 _ (by decide) (by simp) (by omega) (by unfold In64; omega), hb7⟩
   · have de : ((e : Int) == 7) = false := by simp; omega
     simp only [de]
     apply EX.step
     · intro xX C hN hk hqX
       repeat first | (with_reducible first | apply s1 | apply s2 | apply s5 | apply s6 | refine s7 ?_ | apply s3 | apply s4 | apply s8 | apply s9) | refine AW.condT rfl ?_ | refine AW.condF rfl ?_ | (refine AW.rT mixed hN hk noO kt24 [0] rfl (by decide +kernel) (fun K hK => ?_); simp only [go_sem, seval, kt24]; (iterate 3 (try simp (disch := omega) only [au]; try simp only [go_sem, seval, kt24])); (first | with_reducible refine hK _ _ ?_ | refine obK (hK _ _ ?_)); clear hK K) | (refine AW.rD mixed hN hk noO kt24 [0] rfl (by decide +kernel) (fun K tok htok hK => ?_); simp only [go_sem, seval, kt24]; (iterate 3 (try simp (disch := omega) only [au]; try simp only [go_sem, seval, kt24])); refine ⟨htok _ (by decide +kernel), ?_⟩; (first | with_reducible refine hK _ _ ?_ | refine obK (hK _ _ ?_)); clear hK K htok tok)
       exact hqX
     refine EX.ret (.agg (tsC (.mk (9 + u) [64, 116, 105, 109, 101] [] (995 + y) []))) [some (cdE L b6)] ?_ (fun C hN hk => AW.ret (mkRet [some 0] [] (by simp only [resList, go_sem, seval]; rfl) (by simp [resOf, lk, lkh, I, str, B, U8, U64, U32, cdE, tsC_c] <;> omega) (by first | (simp [wkHp, wkHp1, wkEnt, lkh, cdE, tsC_c]; done) | simp [wkHp, wkHp1, wkEnt, lkh, I, str, cdE, tsC_c])))
     exact ⟨_, b6, rfl, TsB.mk0 _ (by decide) (by simp) (by omega) (by unfold In64; omega), hb6⟩
 · have dc : ((c : Int) == 1) = false := by simp; omega
   simp only [dc]
   obtain ⟨e, b6, hb6, elt, q6⟩ := next13 L hL b4 8 hb4 (by omega) (by omega)
   apply EX.step
   · intro xX C hN hk hqX
     repeat first | (with_reducible first | apply s1 | apply s2 | apply s5 | apply s6 | refine s7 ?_ | apply s3 | apply s4 | apply s8 | apply s9) | refine AW.condT rfl ?_ | refine AW.condF rfl ?_ | (refine AW.rT mixed hN hk (atO 24 (onc 1 (ocq 0 q6) noc) noO) kt24 [0] rfl (by decide +kernel) (fun K hK => ?_); simp only [go_sem, seval, kt24]; (iterate 3 (try simp (disch := omega) only [au]; try simp only [go_sem, seval, kt24])); (first | with_reducible refine hK _ _ ?_ | refine obK (hK _ _ ?_)); clear hK K) | (refine AW.rD mixed hN hk (atO 24 (onc 1 (ocq 0 q6) noc) noO) kt24 [0] rfl (by decide +kernel) (fun K tok htok hK => ?_); simp only [go_sem, seval, kt24]; (iterate 3 (try simp (disch := omega) only [au]; try simp only [go_sem, seval, kt24])); refine ⟨htok _ (by decide +kernel), ?_⟩; (first | with_reducible refine hK _ _ ?_ | refine obK (hK _ _ ?_)); clear hK K htok tok)
     exact hqX
   by_cases he : e = 7
   · subst he
     obtain ⟨z, b7, hb7, zlt, q7⟩ := next13 L hL b6 3 hb6 (by omega) (by omega)
     obtain rfl | rfl | rfl : z = 0 ∨ z = 1 ∨ z = 2 := by omega
     · apply EX.step
       · intro xX C hN hk hqX
         repeat first | (with_reducible first | apply s1 | apply s2 | apply s5 | apply s6 | refine s7 ?_ | apply s3 | apply s4 | apply s8 | apply s9) | refine AW.condT rfl ?_ | refine AW.condF rfl ?_ | (refine AW.rT mixed hN hk (atO 25 (onc 2 (ocq 0 q7) noc) noO) kt24 [0] rfl (by decide +kernel) (fun K hK => ?_); simp only [go_sem, seval, kt24]; (iterate 3 (try simp (disch := omega) only [au]; try simp only [go_sem, seval, kt24])); (first | with_reducible refine hK _ _ ?_ | refine obK (hK _ _ ?_)); clear hK K) | (refine AW.rD mixed hN hk (atO 25 (onc 2 (ocq 0 q7) noc) noO) kt24 [0] rfl (by decide +kernel) (fun K tok htok hK => ?_); simp only [go_sem, seval, kt24]; (iterate 3 (try simp (disch := omega) only [au]; try simp only [go_sem, seval, kt24])); refine ⟨htok _ (by decide +kernel), ?_⟩; (first | with_reducible refine hK _ _ ?_ | refine obK (hK _ _ ?_)); clear hK K htok tok)
         exact hqX
       refine EX.ret (.agg (tsC (.mk (9 + u) [64, 116, 105, 109, 101] [] (-5) []))) [some (cdE L b7)] ?_ (fun C hN hk => AW.ret (mkRet [some 0] [] (by simp only [resList, go_sem, seval]; rfl) (by simp [resOf, lk, lkh, I, str, B, U8, U64, U32, cdE, tsC_c] <;> omega) (by first | (simp [wkHp, wkHp1, wkEnt, lkh, cdE, tsC_c]; done) | simp [wkHp, wkHp1, wkEnt, lkh, I, str, cdE, tsC_c])))
       exact ⟨_, b7, rfl, TsB.mk0 _ (by decide) (by simp) (by omega) (by unfold In64; omega), hb7⟩
     · apply EX.step
       · intro xX C hN hk hqX
         repeat first | (with_reducible first | apply s1 | apply s2 | apply s5 | apply s6 | refine s7 ?_ | apply s3 | apply s4 | apply s8 | apply s9) | refine AW.condT rfl ?_ | refine AW.condF rfl ?_ | (refine AW.rT mixed hN hk (atO 25 (onc 2 (ocq 0 q7) noc) noO) kt24 [0] rfl (by decide +kernel) (fun K hK => ?_); simp only [go_sem, seval, kt24]; (iterate 3 (try simp (disch := omega) only [au]; try simp only [go_sem, seval, kt24])); (first | with_reducible refine hK _ _ ?_ | refine obK (hK _ _ ?_)); clear hK K) | (refine AW.rD mixed hN hk (atO 25 (onc 2 (ocq 0 q7) noc) noO) kt24 [0] rfl (by decide +kernel) (fun K tok htok hK => ?_); simp only [go_sem, seval, kt24]; (iterate 3 (try simp (disch := omega) only [au]; try simp only [go_sem, seval, kt24])); refine ⟨htok _ (by decide +kernel), ?_⟩; (first | with_reducible refine hK _ _ ?_ | refine obK (hK _ _ ?_)); clear hK K htok tok)
         exact hqX
       refine EX.ret (.agg (tsC (.mk (9 + u) [64, 116, 105, 109, 101] [] 253402300799999 []))) [some (cdE L b7)] ?_ (fun C hN hk => AW.ret (mkRet [some 0] [] (by simp only [resList, go_sem, seval]; rfl) (by simp [resOf, lk, lkh, I, str, B, U8, U64, U32, cdE, tsC_c] <;> omega) (by first | (simp [wkHp, wkHp1, wkEnt, lkh, cdE, tsC_c]; done) | simp [wkHp, wkHp1, wkEnt, lkh, I, str, cdE, tsC_c])))
       exact ⟨_, b7, rfl, TsB.mk0 _ (by decide) (by simp) (by omega) (by unfold In64; omega), hb7⟩
     · apply EX.step
       · intro xX C hN hk hqX
         repeat first | (with_reducible first | apply s1 | apply s2 | apply s5 | apply s6 | refine s7 ?_ | apply s3 | apply s4 | apply s8 | apply s9) | refine AW.condT rfl ?_ | refine AW.condF rfl ?_ | (refine AW.rT mixed hN hk (atO 25 (onc 2 (ocq 0 q7) noc) noO) kt24 [0] rfl (by decide +kernel) (fun K hK => ?_); simp only [go_sem, seval, kt24]; (iterate 3 (try simp (disch := omega) only [au]; try simp only [go_sem, seval, kt24])); (first | with_reducible refine hK _ _ ?_ | refine obK (hK _ _ ?_)); clear hK K) | (refine AW.rD mixed hN hk (atO 25 (onc 2 (ocq 0 q7) noc) noO) kt24 [0] rfl (by decide +kernel) (fun K tok htok hK => ?_); simp only [go_sem, seval, kt24]; (iterate 3 (try simp (disch := omega) only [au]; try simp only [go_sem, seval, kt24])); refine ⟨htok _ (by decide +kernel), ?_⟩; (first | with_reducible refine hK _ _ ?_ | refine obK (hK _ _ ?_)); clear hK K htok tok)
         exact hqX
       refine EX.ret (.agg (tsC (.mk (9 + u) [64, 116, 105, 109, 101] [] 999999999999999999 []))) [some (cdE L b7)] ?_ (fun C hN hk => AW.ret (mkRet [some 0] [] (by simp only [resList, go_sem, seval]; rfl) (by simp [resOf, lk, lkh, I, str, B, U8, U64, U32, cdE, tsC_c] <;> omega) (by first | (simp [wkHp, wkHp1, wkEnt, lkh, cdE, tsC_c]; done) | simp [wkHp, wkHp1, wkEnt, lkh, I, str, cdE, tsC_c])))
       exact ⟨_, b7, rfl, TsB.mk0 _ (by decide) (by simp) (by omega) (by unfold In64; omega), hb7⟩
   · have de : ((e : Int) == 7) = false := by simp; omega
     simp only [de]
     apply EX.step
     · intro xX C hN hk hqX
       repeat first | (with_reducible first | apply s1 | apply s2 | apply s5 | apply s6 | refine s7 ?_ | apply s3 | apply s4 | apply s8 | apply s9) | refine AW.condT rfl ?_ | refine AW.condF rfl ?_ | (refine AW.rT mixed hN hk noO kt24 [0] rfl (by decide +kernel) (fun K hK => ?_); simp only [go_sem, seval, kt24]; (iterate 3 (try simp (disch := omega) only [au]; try simp only [go_sem, seval, kt24])); (first | with_reducible refine hK _ _ ?_ | refine obK (hK _ _ ?_)); clear hK K) | (refine AW.rD mixed hN hk noO kt24 [0] rfl (by decide +kernel) (fun K tok htok hK => ?_); simp only [go_sem, seval, kt24]; (iterate 3 (try simp (disch := omega) only [au]; try simp only [go_sem, seval, kt24])); refine ⟨htok _ (by decide +kernel), ?_⟩; (first | with_reducible refine hK _ _ ?_ | refine obK (hK _ _ ?_)); clear hK K htok tok)
       exact hqX
     refine EX.ret (.agg (tsC (.mk (9 + u) w [] (m - 5) []))) [some (cdE L b6)] ?_ (fun C hN hk => AW.ret (mkRet [some 0] [] (by simp only [resList, go_sem, seval]; rfl) (by simp [resOf, lk, lkh, I, str, B, U8, U64, U32, cdE, tsC_c] <;> omega) (by first | (simp [wkHp, wkHp1, wkEnt, lkh, cdE, tsC_c]; done) | simp [wkHp, wkHp1, wkEnt, lkh, I, str, cdE, tsC_c])))
     exact ⟨_, b6, rfl, TsB.mk0 _ wl (by simp) (by omega) (by unfold In64; omega), hb6⟩
theorem test24_8 (L : List UInt8) (hL : L.length ≤ 2 ^ 20) (d a2 : Nat) (ha2 : a2 ≤ L.length) :
   EX 131 1 (R24 L d) (fun x C => AW Tryz.prog C rest24 (retQ (tabOf Tryz.prog) [.cell 4 26] x.1 x.2 1) 2 ⟨[(0, .ptr 0 2 0 0), (1, I d), (4, .ptr 1 5 0 0), (5, I 8)], [(0, some (cdE L a2)), (1, some ⟨26, 5, [[I 0, str [], str [], I 0, nilV]]⟩)]⟩) := by
 dsimp only [rest24, cR, bodyOf, Tryz.f24, Option.getD]
 simp only [cdE, nilV]
 obtain ⟨u, b1, hb1, ult, q⟩ := next13 L hL a2 3 ha2 (by omega) (by omega)
 obtain ⟨v, b2, hb2, q2⟩ := name45 L hL b1 hb1
 obtain ⟨m, b3, hb3, mlt, q3⟩ := next13 L hL b2 40 hb2 (by omega) (by omega)
 obtain ⟨c, b4, hb4, clt, q4⟩ := next13 L hL b3 2 hb3 (by omega) (by omega)
 have wl := nameL_len v
 generalize nameL.getD v [] = w at *
 have w1 := wrap64 (n := 9 + (u : Int)) (by omega)
 have w2 := wrap64 (n := (m : Int) - 5) (by omega)
 apply EX.step
 · intro xX C hN hk hqX
   repeat first | (with_reducible first | apply s1 | apply s2 | apply s5 | apply s6 | refine s7 ?_ | apply s3 | apply s4 | apply s8 | apply s9) | refine AW.condT rfl ?_ | refine AW.condF rfl ?_ | (refine AW.rT mixed hN hk (atO 21 (onc 1 (ocq 0 q) (onc 4 (ocq 0 q2) (onc 6 (ocq 0 q3) noc))) (atO 22 (onc 1 (ocq 0 q4) noc) noO)) kt24 [0] rfl (by decide +kernel) (fun K hK => ?_); simp only [go_sem, seval, kt24, w1, w2]; (iterate 3 (try simp (disch := omega) only [au]; try simp only [go_sem, seval, kt24, w1, w2])); (first | with_reducible refine hK _ _ ?_ | refine obK (hK _ _ ?_)); clear hK K) | (refine AW.rD mixed hN hk (atO 21 (onc 1 (ocq 0 q) (onc 4 (ocq 0 q2) (onc 6 (ocq 0 q3) noc))) (atO 22 (onc 1 (ocq 0 q4) noc) noO)) kt24 [0] rfl (by decide +kernel) (fun K tok htok hK => ?_); simp only [go_sem, seval, kt24, w1, w2]; (iterate 3 (try simp (disch := omega) only [au]; try simp only [go_sem, seval, kt24, w1, w2])); refine ⟨htok _ (by decide +kernel), ?_⟩; (first | with_reducible refine hK _ _ ?_ | refine obK (hK _ _ ?_)); clear hK K htok tok)
   exact hqX
 by_cases hc : c = 1
 · subst hc
   obtain ⟨y, b5, hb5, ylt, q5⟩ := next13 L hL b4 70 hb4 (by omega) (by omega)
   have w3 := wrap64 (n := 995 + (y : Int)) (by omega)
   obtain ⟨e, b6, hb6, elt, q6⟩ := next13 L hL b5 8 hb5 (by omega) (by omega)
   apply EX.step
   · intro xX C hN hk hqX
     repeat first | (with_reducible first | apply s1 | apply s2 | apply s5 | apply s6 | refine s7 ?_ | apply s3 | apply s4 | apply s8 | apply s9) | refine AW.condT rfl ?_ | refine AW.condF rfl ?_ | (refine AW.rT mixed hN hk (atO 23 (onc 1 (ocq 0 q5) noc) (atO 24 (onc 1 (ocq 0 q6) noc) noO)) kt24 [0] rfl (by decide +kernel) (fun K hK => ?_); simp only [go_sem, seval, kt24, w3]; (iterate 3 (try simp (disch := omega) only [au]; try simp only [go_sem, seval, kt24, w3])); (first | with_reducible refine hK _ _ ?_ | refine obK (hK _ _ ?_)); clear hK K) | (refine AW.rD mixed hN hk (atO 23 (onc 1 (ocq 0 q5) noc) (atO 24 (onc 1 (ocq 0 q6) noc) noO)) kt24 [0] rfl (by decide +kernel) (fun K tok htok hK => ?_); simp only [go_sem, seval, kt24, w3]; (iterate 3 (try simp (disch := omega) only [au]; try simp only [go_sem, seval, kt24, w3])); refine ⟨htok _ (by decide +kernel), ?_⟩; (first | with_reducible refine hK _ _ ?_ | refine obK (hK _ _ ?_)); clear hK K htok tok)
     exact hqX
   by_cases he : e = 7
   · subst he
     obtain ⟨z, b7, hb7, zlt, q7⟩ := next13 L hL b6 3 hb6 (by omega) (by omega)
     obtain rfl | rfl | rfl : z = 0 ∨ z = 1 ∨ z = 2 := by omega
     · apply EX.step
       · intro xX C hN hk hqX
         repeat first | (with_reducible first | apply s1 | apply s2 | apply s5 | apply s6 | refine s7 ?_ | apply s3 | apply s4 | apply s8 | apply s9) | refine AW.condT rfl ?_ | refine AW.condF rfl ?_ | (refine AW.rT mixed hN hk (atO 25 (onc 2 (ocq 0 q7) noc) noO) kt24 [0] rfl (by decide +kernel) (fun K hK => ?_); simp only [go_sem, seval, kt24]; (iterate 3 (try simp (disch := omega) only [au]; try simp only [go_sem, seval, kt24])); (first | with_reducible refine hK _ _ ?_ | refine obK (hK _ _ ?_)); clear hK K) | (refine AW.rD mixed hN hk (atO 25 (onc 2 (ocq 0 q7) noc) noO) kt24 [0] rfl (by decide +kernel) (fun K tok htok hK => ?_); simp only [go_sem, seval, kt24]; (iterate 3 (try simp (disch := omega) only [au]; try simp only [go_sem, seval, kt24])); refine ⟨htok _ (by decide +kernel), ?_⟩; (first | with_reducible refine hK _ _ ?_ | refine obK (hK _ _ ?_)); clear hK K htok tok)
         exact hqX
       refine EX.ret (.agg (tsC (.mk (9 + u) [64, 116, 105, 109, 101] [] (-5) []))) [some (cdE L b7)] ?_ (fun C hN hk => AW.ret (mkRet [some 0] [] (by simp only [resList, go_sem, seval]; rfl) (by simp [resOf, lk, lkh, I, str, B, U8, U64, U32, cdE, tsC_c] <;> omega) (by first | (simp [wkHp, wkHp1, wkEnt, lkh, cdE, tsC_c]; done) | simp [wkHp, wkHp1, wkEnt, lkh, I, str, cdE, tsC_c])))
       exact ⟨_, b7, rfl, TsB.mk0 _ (by decide) (by simp) (by omega) (by unfold In64; omega), hb7⟩
     · apply EX.step
       · intro xX C hN hk hqX
         repeat first | (with_reducible first | apply s1 | apply s2 | apply s5 | apply s6 | refine s7 ?_ | apply s3 | apply s4 | apply s8 | apply s9) | refine AW.condT rfl ?_ | refine AW.condF rfl ?_ | (refine AW.rT mixed hN hk (atO 25 (onc 2 (ocq 0 q7) noc) noO) kt24 [0] rfl (by decide +kernel) (fun K hK => ?_); simp only [go_sem, seval, kt24]; (iterate 3 (try simp (disch := omega) only [au]; try simp only [go_sem, seval, kt24])); (first | with_reducible refine hK _ _ ?_ | refine obK (hK _ _ ?_)); clear hK K) | (refine AW.rD mixed hN hk (atO 25 (onc 2 (ocq 0 q7) noc) noO) kt24 [0] rfl (by decide +kernel) (fun K tok htok hK => ?_); simp only [go_sem, seval, kt24]; (iterate 3 (try simp (disch := omega) only [au]; try simp only [go_sem, seval, kt24])); refine ⟨htok _ (by decide +kernel), ?_⟩; (first | with_reducible refine hK _ _ ?_ | refine obK (hK _ _ ?_)); clear hK K htok tok)
         exact hqX
       refine EX.ret (.agg (tsC (.mk (9 + u) [64, 116, 105, 109, 101] [] 253402300799999 []))) [some (cdE L b7)] ?_ (fun C hN hk => AW.ret (mkRet [some 0] [] (by simp only [resList, go_sem, seval]; rfl) (by simp [resOf, lk, lkh, I, str, B, U8, U64, U32, cdE, tsC_c] <;> omega) (by first | (simp [wkHp, wkHp1, wkEnt, lkh, cdE, tsC_c]; done) | simp [wkHp, wkHp1, wkEnt, lkh, I, str, cdE, tsC_c])))
       exact ⟨_, b7, rfl, TsB.mk0 _ (by decide) (by simp) (by omega) (by unfold In64; omega), hb7⟩
     · apply EX.step
       · intro xX C hN hk hqX
         repeat first | (with_reducible first | apply s1 | apply s2 | apply s5 | apply s6 | refine s7 ?_ | apply s3 | apply s4 | apply s8 | apply s9) | refine AW.condT rfl ?_ | refine AW.condF rfl ?_ | (refine AW.rT mixed hN hk (atO 25 (onc 2 (ocq 0 q7) noc) noO) kt24 [0] rfl (by decide +kernel) (fun K hK => ?_); simp only [go_sem, seval, kt24]; (iterate 3 (try simp (disch := omega) only [au]; try simp only [go_sem, seval, kt24])); (first | with_reducible refine hK _ _ ?_ | refine obK (hK _ _ ?_)); clear hK K) | (refine AW.rD mixed hN hk (atO 25 (onc 2 (ocq 0 q7) noc) noO) kt24 [0] rfl (by decide +kernel) (fun K tok htok hK => ?_); simp only [go_sem, seval, kt24]; (iterate 3 (try simp (disch := omega) only [au]; try simp only [go_sem, seval, kt24])); refine ⟨htok _ (by decide +kernel), ?_⟩; (first | with_reducible refine hK _ _ ?_ | refine obK (hK _ _ ?_)); clear hK K htok tok)
         exact hqX
       refine EX.ret (.agg (tsC (.mk (9 + u) [64, 116, 105, 109, 101] [] 999999999999999999 []))) [some (cdE L b7)] ?_ (fun C hN hk => AW.ret (mkRet [some 0] [] (by simp only [resList, go_sem, seval]; rfl) (by simp [resOf, lk, lkh, I, str, B, U8, U64, U32, cdE, tsC_c] <;> omega) (by first | (simp [wkHp, wkHp1, wkEnt, lkh, cdE, tsC_c]; done) | simp [wkHp, wkHp1, wkEnt, lkh, I, str, cdE, tsC_c])))
       exact ⟨_, b7, rfl, TsB.mk0 _ (by decide) (by simp) (by omega) (by unfold In64; omega), hb7⟩
   · have de : ((e : Int) == 7) = false := by simp; omega
     simp only [de]
     apply EX.step
     · intro xX C hN hk hqX
       repeat first | (with_reducible first | apply s1 | apply s2 | apply s5 | apply s6 | refine s7 ?_ | apply s3 | apply s4 | apply s8 | apply s9) | refine AW.condT rfl ?_ | refine AW.condF rfl ?_ | (refine AW.rT mixed hN hk noO kt24 [0] rfl (by decide +kernel) (fun K hK => ?_); simp only [go_sem, seval, kt24]; (iterate 3 (try simp (disch := omega) only [au]; try simp only [go_sem, seval, kt24])); (first | with_reducible refine hK _ _ ?_ | refine obK (hK _ _ ?_)); clear hK K) | (refine AW.rD mixed hN hk noO kt24 [0] rfl (by decide +kernel) (fun K tok htok hK => ?_); simp only [go_sem, seval, kt24]; (iterate 3 (try simp (disch := omega) only [au]; try simp only [go_sem, seval, kt24])); refine ⟨htok _ (by decide +kernel), ?_⟩; (first | with_reducible refine hK _ _ ?_ | refine obK (hK _ _ ?_)); clear hK K htok tok)
       exact hqX
     refine EX.ret (.agg (tsC (.mk (9 + u) [64, 116, 105, 109, 101] [] (995 + y) []))) [some (cdE L b6)] ?_ (fun C hN hk => AW.ret (mkRet [some 0] [] (by simp only [resList, go_sem, seval]; rfl) (by simp [resOf, lk, lkh, I, str, B, U8, U64, U32, cdE, tsC_c] <;> omega) (by first | (simp [wkHp, wkHp1, wkEnt, lkh, cdE, tsC_c]; done) | simp [wkHp, wkHp1, wkEnt, lkh, I, str, cdE, tsC_c])))
     exact ⟨_, b6, rfl, TsB.mk0 _ (by decide) (by simp) (by omega) (by unfold In64; omega), hb6⟩
 · have dc : ((c : Int) == 1) = false := by simp; omega
   simp only [dc]
   obtain ⟨e, b6, hb6, elt, q6⟩ := next13 L hL b4 8 hb4 (by omega) (by omega)
   apply EX.step
   · intro xX C hN hk hqX
     repeat first | (with_reducible first | apply s1 | apply s2 | apply s5 | apply s6 | refine s7 ?_ | apply s3 | apply s4 | apply s8 | apply s9) | refine AW.condT rfl ?_ | refine AW.condF rfl ?_ | (refine AW.rT mixed hN hk (atO 24 (onc 1 (ocq 0 q6) noc) noO) kt24 [0] rfl (by decide +kernel) (fun K hK => ?_); simp only [go_sem, seval, kt24]; (iterate 3 (try simp (disch := omega) only [au]; try simp only [go_sem, seval, kt24])); (first | with_reducible refine hK _ _ ?_ | refine obK (hK _ _ ?_)); clear hK K) | (refine AW.rD mixed hN hk (atO 24 (onc 1 (ocq 0 q6) noc) noO) kt24 [0] rfl (by decide +kernel) (fun K tok htok hK => ?_); simp only [go_sem, seval, kt24]; (iterate 3 (try simp (disch := omega) only [au]; try simp only [go_sem, seval, kt24])); refine ⟨htok _ (by decide +kernel), ?_⟩; (first | with_reducible refine hK _ _ ?_ | refine obK (hK _ _ ?_)); clear hK K htok tok)
     exact hqX
   by_cases he : e = 7
   · subst he
     obtain ⟨z, b7, hb7, zlt, q7⟩ := next13 L hL b6 3 hb6 (by omega) (by omega)
     obtain rfl | rfl | rfl : z = 0 ∨ z = 1 ∨ z = 2 := by omega
     · apply EX.step
       · intro xX C hN hk hqX
         repeat first | (with_reducible first | apply s1 | apply s2 | apply s5 | apply s6 | refine s7 ?_ | apply s3 | apply s4 | apply s8 | apply s9) | refine AW.condT rfl ?_ | refine AW.condF rfl ?_ | (refine AW.rT mixed hN hk (atO 25 (onc 2 (ocq 0 q7) noc) noO) kt24 [0] rfl (by decide +kernel) (fun K hK => ?_); simp only [go_sem, seval, kt24]; (iterate 3 (try simp (disch := omega) only [au]; try simp only [go_sem, seval, kt24])); (first | with_reducible refine hK _ _ ?_ | refine obK (hK _ _ ?_)); clear hK K) | (refine AW.rD mixed hN hk (atO 25 (onc 2 (ocq 0 q7) noc) noO) kt24 [0] rfl (by decide +kernel) (fun K tok htok hK => ?_); simp only [go_sem, seval, kt24]; (iterate 3 (try simp (disch := omega) only [au]; try simp only [go_sem, seval, kt24])); refine ⟨htok _ (by decide +kernel), ?_⟩; (first | with_reducible refine hK _ _ ?_ | refine obK (hK _ _ ?_)); clear hK K htok tok)
         exact hqX
       refine EX.ret (.agg (tsC (.mk (9 + u) [64, 116, 105, 109, 101] [] (-5) []))) [some (cdE L b7)] ?_ (fun C hN hk => AW.ret (mkRet [some 0] [] (by simp only [resList, go_sem, seval]; rfl) (by simp [resOf, lk, lkh, I, str, B, U8, U64, U32, cdE, tsC_c] <;> omega) (by first | (simp [wkHp, wkHp1, wkEnt, lkh, cdE, tsC_c]; done) | simp [wkHp, wkHp1, wkEnt, lkh, I, str, cdE, tsC_c])))
       exact ⟨_, b7, rfl, TsB.mk0 _ (by decide) (by simp) (by omega) (by unfold In64; omega), hb7⟩
     · apply EX.step
       · intro xX C hN hk hqX
         repeat first | (with_reducible first | apply s1 | apply s2 | apply s5 | apply s6 | refine s7 ?_ | apply s3 | apply s4 | apply s8 | apply s9) | refine AW.condT rfl ?_ | refine AW.condF rfl ?_ | (refine AW.rT mixed hN hk (atO 25 (onc 2 (ocq 0 q7) noc) noO) kt24 [0] rfl (by decide +kernel) (fun K hK => ?_); simp only [go_sem, seval, kt24]; (iterate 3 (try simp (disch := omega) only [au]; try simp only [go_sem, seval, kt24])); (first | with_reducible refine hK _ _ ?_ | refine obK (hK _ _ ?_)); clear hK K) | (refine AW.rD mixed hN hk (atO 25 (onc 2 (ocq 0 q7) noc) noO) kt24 [0] rfl (by decide +kernel) (fun K tok htok hK => ?_); simp only [go_sem, seval, kt24]; (iterate 3 (try simp (disch := omega) only [au]; try simp only [go_sem, seval, kt24])); refine ⟨htok _ (by decide +kernel), ?_⟩; (first | with_reducible refine hK _ _ ?_ | refine obK (hK _ _ ?_)); clear hK K htok tok)
         exact hqX
       refine EX.ret (.agg (tsC (.mk (9 + u) [64, 116, 105, 109, 101] [] 253402300799999 []))) [some (cdE L b7)] ?_ (fun C hN hk => AW.ret (mkRet [some 0] [] (by simp only [resList, go_sem, seval]; rfl) (by simp [resOf, lk, lkh, I, str, B, U8, U64, U32, cdE, tsC_c] <;> omega) (by first | (simp [wkHp, wkHp1, wkEnt, lkh, cdE, tsC_c]; done) | simp [wkHp, wkHp1, wkEnt, lkh, I, str, cdE, tsC_c])))
       exact ⟨_, b7, rfl, TsB.mk0 _ (by decide) (by simp) (by omega) (by unfold In64; omega), hb7⟩
     · apply EX.step
       · intro xX C hN hk hqX
         repeat first | (with_reducible first | apply s1 | apply s2 | apply s5 | apply s6 | refine s7 ?_ | apply s3 | apply s4 | apply s8 | apply s9) | refine AW.condT rfl ?_ | refine AW.condF rfl ?_ | (refine AW.rT mixed hN hk (atO 25 (onc 2 (ocq 0 q7) noc) noO) kt24 [0] rfl (by decide +kernel) (fun K hK => ?_); simp only [go_sem, seval, kt24]; (iterate 3 (try simp (disch := omega) only [au]; try simp only [go_sem, seval, kt24])); (first | with_reducible refine hK _ _ ?_ | refine obK (hK _ _ ?_)); clear hK K) | (refine AW.rD mixed hN hk (atO 25 (onc 2 (ocq 0 q7) noc) noO) kt24 [0] rfl (by decide +kernel) (fun K tok htok hK => ?_); simp only [go_sem, seval, kt24]; (iterate 3 (try simp (disch := omega) only [au]; try simp only [go_sem, seval, kt24])); refine ⟨htok _ (by decide +kernel), ?_⟩; (first | with_reducible refine hK _ _ ?_ | refine obK (hK _ _ ?_)); clear hK K htok tok)
         exact hqX
       refine EX.ret (.agg (tsC (.mk (9 + u) [64, 116, 105, 109, 101] [] 999999999999999999 []))) [some (cdE L b7)] ?_ (fun C hN hk => AW.ret (mkRet [some 0] [] (by simp only [resList, go_sem, seval]; rfl) (by simp [resOf, lk, lkh, I, str, B, U8, U64, U32, cdE, tsC_c] <;> omega) (by first | (simp [wkHp, wkHp1, wkEnt, lkh, cdE, tsC_c]; done) | simp [wkHp, wkHp1, wkEnt, lkh, I, str, cdE, tsC_c])))
       exact ⟨_, b7, rfl, TsB.mk0 _ (by decide) (by simp) (by omega) (by unfold In64; omega), hb7⟩
   · have de : ((e : Int) == 7) = false := by simp; omega
     simp only [de]
     apply EX.step
     · intro xX C hN hk hqX
       repeat first | (with_reducible first | apply s1 | apply s2 | apply s5 | apply s6 | refine s7 ?_ | apply s3 | apply s4 | apply s8 | apply s9) | refine AW.condT rfl ?_ | refine AW.condF rfl ?_ | (refine AW.rT mixed hN hk noO kt24 [0] rfl (by decide +kernel) (fun K hK => ?_); simp only [go_sem, seval, kt24]; (iterate 3 (try simp (disch := omega) only [au]; try simp only [go_sem, seval, kt24])); (first | with_reducible refine hK _ _ ?_ | refine obK (hK _ _ ?_)); clear hK K) | (refine AW.rD mixed hN hk noO kt24 [0] rfl (by decide +kernel) (fun K tok htok hK => ?_); simp only [go_sem, seval, kt24]; (iterate 3 (try simp (disch := omega) only [au]; try simp only [go_sem, seval, kt24])); refine ⟨htok _ (by decide +kernel), ?_⟩; (first | with_reducible refine hK _ _ ?_ | refine obK (hK _ _ ?_)); clear hK K htok tok)
       exact hqX
     refine EX.ret (.agg (tsC (.mk (9 + u) w [] (m - 5) []))) [some (cdE L b6)] ?_ (fun C hN hk => AW.ret (mkRet [some 0] [] (by simp only [resList, go_sem, seval]; rfl) (by simp [resOf, lk, lkh, I, str, B, U8, U64, U32, cdE, tsC_c] <;> omega) (by first | (simp [wkHp, wkHp1, wkEnt, lkh, cdE, tsC_c]; done) | simp [wkHp, wkHp1, wkEnt, lkh, I, str, cdE, tsC_c])))
     exact ⟨_, b6, rfl, TsB.mk0 _ wl (by simp) (by omega) (by unfold In64; omega), hb6⟩
theorem test24_9 (L : List UInt8) (hL : L.length ≤ 2 ^ 20) (d a2 : Nat) (ha2 : a2 ≤ L.length) :
   EX 131 1 (R24 L d) (fun x C => AW Tryz.prog C rest24 (retQ (tabOf Tryz.prog) [.cell 4 26] x.1 x.2 1) 2 ⟨[(0, .ptr 0 2 0 0), (1, I d), (4, .ptr 1 5 0 0), (5, I 9)], [(0, some (cdE L a2)), (1, some ⟨26, 5, [[I 0, str [], str [], I 0, nilV]]⟩)]⟩) := by
 dsimp only [rest24, cR, bodyOf, Tryz.f24, Option.getD]
 simp only [cdE, nilV]
 apply EX.step
 · intro xX C hN hk hqX
   repeat first | (with_reducible first | apply s1 | apply s2 | apply s5 | apply s6 | refine s7 ?_ | apply s3 | apply s4 | apply s8 | apply s9) | refine AW.condT rfl ?_ | refine AW.condF rfl ?_ | (refine AW.rT mixed hN hk noO kt24 [0] rfl (by decide +kernel) (fun K hK => ?_); simp only [go_sem, seval, kt24]; (iterate 3 (try simp (disch := omega) only [au]; try simp only [go_sem, seval, kt24])); (first | with_reducible refine hK _ _ ?_ | refine obK (hK _ _ ?_)); clear hK K) | (refine AW.rD mixed hN hk noO kt24 [0] rfl (by decide +kernel) (fun K tok htok hK => ?_); simp only [go_sem, seval, kt24]; (iterate 3 (try simp (disch := omega) only [au]; try simp only [go_sem, seval, kt24])); refine ⟨htok _ (by decide +kernel), ?_⟩; (first | with_reducible refine hK _ _ ?_ | refine obK (hK _ _ ?_)); clear hK K htok tok)
   exact hqX
 refine EX.ret (.agg (tsC (.mk 0 [] [] 0 []))) [some (cdE L a2)] ?_ (fun C hN hk => AW.ret (mkRet [some 0] [] (by simp only [resList, go_sem, seval]; rfl) (by simp [resOf, lk, lkh, I, str, B, U8, U64, U32, cdE, tsC_c] <;> omega) (by first | (simp [wkHp, wkHp1, wkEnt, lkh, cdE, tsC_c]; done) | simp [wkHp, wkHp1, wkEnt, lkh, I, str, cdE, tsC_c])))
 exact ⟨_, a2, rfl, TsB.mk0 _ (by simp) (by simp) (by omega) (by unfold In64; omega), ha2⟩
end Go.Proofs.YtceeklfmlheofaaGreat
