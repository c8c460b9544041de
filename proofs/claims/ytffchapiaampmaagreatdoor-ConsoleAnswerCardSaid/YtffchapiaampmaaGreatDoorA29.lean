/-
  Part 29 of the proof that logtidelaw45.ConsoleAnswer returns true for every list of bytes and every text, and leaves both as they were.
-/
import Derived.Test.YtffchapiaampmaaGreatDoorA15
import Derived.Test.YtffchapiaampmaaGreatDoorA28
set_option linter.unusedSimpArgs false
set_option linter.unusedVariables false
namespace Go.Proofs.YtffchapiaampmaaGreatDoor
open Go.Av
attribute [local irreducible] ACall
/-- Tests. -/
inductive Ts where
 | mk (op : Int) (name text : S) (num : Int) (kids : List Ts)
def Ts.op : Ts → Int | .mk o _ _ _ _ => o
def Ts.name : Ts → S | .mk _ n _ _ _ => n
def Ts.text : Ts → S | .mk _ _ t _ _ => t
def Ts.num : Ts → Int | .mk _ _ _ m _ => m
def Ts.kids : Ts → List Ts | .mk _ _ _ _ k => k
mutual
def tsC : Ts → List AV
 | .mk o n t m k => [I o, str n, str t, I m, .sl 5 (tsCs k)]
def tsCs : List Ts → List (List AV)
 | [] => []
 | k :: ks => tsC k :: tsCs ks
end
theorem tsCs_map : ∀ l : List Ts, tsCs l = l.map tsC
 | [] => rfl
 | k :: ks => by rw [tsCs, tsCs_map ks]; rfl
def tsE (l : List Ts) : List (List AV) := l.map tsC
theorem tsC_c (x : Ts) : tsC x = [.val (.int .i64 x.op), .val (.string ⟨x.name.toArray⟩), .val (.string ⟨x.text.toArray⟩), .val (.int .i64 x.num), .sl 5 (tsE x.kids)] := by
 cases x with
 | mk o n t m k => rw [tsC, tsCs_map]; rfl
attribute [go_sem] tsC_c
theorem tsE_len (l : List Ts) : (tsE l).length = l.length := by simp [tsE]
theorem tsE_getE (l : List Ts) (i : Nat) : (tsE l)[i]? = (l[i]?).map tsC := by simp [tsE]
@[simp] theorem tsE_id (k : Nat) (l : List Ts) : idLtE k (tsE l) = true := by
 simp only [idLtE, tsE, List.all_map, List.all_eq_true]
 intro x _
 cases x; rfl
@[simp] theorem tsE_st (l : List Ts) : (tsE l).all (fun c => c.all storable) = true := by
 simp only [tsE, List.all_map, List.all_eq_true]
 intro x _
 cases x; rfl
theorem tsE_drop (l : List Ts) (i : Nat) : (tsE l).drop i = tsE (l.drop i) := by simp [tsE]
theorem tsE_take (l : List Ts) (i : Nat) : (tsE l).take i = tsE (l.take i) := by simp [tsE]
theorem tsE_ren (L : List Nat) (l : List Ts) : renCE L (tsE l) = tsE l := by
 simp only [renCE, tsE, List.map_map]
 apply List.map_congr_left
 intro x _
 cases x; rfl
theorem tsE_renE (ρ : Nat → Nat) (l : List Ts) : (tsE l).map (renL ρ) = tsE l := renE_noid ρ (tsE_id 0 l)
theorem tsE_snoc (l : List Ts) (x : Ts) : tsE l ++ [[.val (.int .i64 x.op), .val (.string ⟨x.name.toArray⟩), .val (.string ⟨x.text.toArray⟩), .val (.int .i64 x.num), .sl 5 (tsE x.kids)]] = tsE (l ++ [x]) := by rw [← tsC_c]; simp [tsE]
theorem tsE_snoc' (l : List Ts) (x : Ts) : tsE l ++ [tsC x] = tsE (l ++ [x]) := by simp [tsE]
theorem tsE_app (l m : List Ts) : tsE l ++ tsE m = tsE (l ++ m) := by simp [tsE]
@[simp] theorem tsE_nil : tsE [] = [] := rfl
theorem tsE_set (l : List Ts) (i : Nat) (x : Ts) : (tsE l).set i [.val (.int .i64 x.op), .val (.string ⟨x.name.toArray⟩), .val (.string ⟨x.text.toArray⟩), .val (.int .i64 x.num), .sl 5 (tsE x.kids)] = tsE (l.set i x) := by rw [← tsC_c]; simp [tsE, List.map_set]
attribute [go_sem] tsE_len tsE_getE tsE_drop tsE_take tsE_ren tsE_renE tsE_snoc tsE_snoc' tsE_app tsE_set
attribute [simp] tsE_len
@[simp] theorem ts_op (o : Int) (n t : S) (m : Int) (k : List Ts) : (Ts.mk o n t m k).op = o := rfl
@[simp] theorem ts_name (o : Int) (n t : S) (m : Int) (k : List Ts) : (Ts.mk o n t m k).name = n := rfl
@[simp] theorem ts_text (o : Int) (n t : S) (m : Int) (k : List Ts) : (Ts.mk o n t m k).text = t := rfl
@[simp] theorem ts_num (o : Int) (n t : S) (m : Int) (k : List Ts) : (Ts.mk o n t m k).num = m := rfl
@[simp] theorem ts_kids (o : Int) (n t : S) (m : Int) (k : List Ts) : (Ts.mk o n t m k).kids = k := rfl
/-- Tests that are drawn. -/
def TsB : Nat → Ts → Prop
 | 0, t => t.name.length ≤ 19 ∧ t.text.length ≤ 19 ∧ (0 ≤ t.op ∧ t.op ≤ 11) ∧ In64 t.num ∧ t.kids = []
 | d + 1, t => t.name.length ≤ 19 ∧ t.text.length ≤ 19 ∧ (0 ≤ t.op ∧ t.op ≤ 11) ∧ In64 t.num ∧ t.kids.length ≤ 3 ∧ ∀ k ∈ t.kids, TsB d k
theorem TsB.flat {t : Ts} (d : Nat) (h : TsB 0 t) : TsB d t := by
 cases d with
 | zero => exact h
 | succ d => exact ⟨h.1, h.2.1, h.2.2.1, h.2.2.2.1, by rw [h.2.2.2.2]; simp, by rw [h.2.2.2.2]; simp⟩
theorem TsB.mk0 (d : Nat) {o : Int} {n t : S} {m : Int} (h1 : n.length ≤ 19) (h2 : t.length ≤ 19) (h3 : 0 ≤ o ∧ o ≤ 11) (h4 : In64 m) : TsB d (.mk o n t m []) := TsB.flat d ⟨h1, h2, h3, h4, rfl⟩
theorem lit_get {l : List S} {v n : Nat} (hn : l.length = n) (h : v < n) : l[v]? = some (l.getD v []) := by
 subst hn; rw [getD_of h]; exact List.getElem?_eq_getElem h
def twL : List S := [[103, 101, 116], [101, 114, 114, 111, 114], [119, 97, 114, 110], [97, 49], [50, 48, 48], [110, 111, 116, 104, 105, 110, 103]]
theorem twL_len (i : Nat) : (twL.getD i []).length ≤ 19 := getD_len (by decide) i
@[simp] theorem twL_n : twL.length = 6 := rfl
theorem lit_twL : ([[AV.val (.string ⟨#[103, 101, 116]⟩)], [AV.val (.string ⟨#[101, 114, 114, 111, 114]⟩)], [AV.val (.string ⟨#[119, 97, 114, 110]⟩)], [AV.val (.string ⟨#[97, 49]⟩)], [AV.val (.string ⟨#[50, 48, 48]⟩)], [AV.val (.string ⟨#[110, 111, 116, 104, 105, 110, 103]⟩)]] : List (List AV)) = strE twL := rfl
def tbL : List S := [[101], [101, 114, 114], [117], [50], [113]]
theorem tbL_len (i : Nat) : (tbL.getD i []).length ≤ 19 := getD_len (by decide) i
@[simp] theorem tbL_n : tbL.length = 5 := rfl
theorem lit_tbL : ([[AV.val (.string ⟨#[101]⟩)], [AV.val (.string ⟨#[101, 114, 114]⟩)], [AV.val (.string ⟨#[117]⟩)], [AV.val (.string ⟨#[50]⟩)], [AV.val (.string ⟨#[113]⟩)]] : List (List AV)) = strE tbL := rfl
def tcL : List S := [[114], [71, 69, 84], [32], [84], [111, 32, 111]]
theorem tcL_len (i : Nat) : (tcL.getD i []).length ≤ 19 := getD_len (by decide) i
@[simp] theorem tcL_n : tcL.length = 5 := rfl
theorem lit_tcL : ([[AV.val (.string ⟨#[114]⟩)], [AV.val (.string ⟨#[71, 69, 84]⟩)], [AV.val (.string ⟨#[32]⟩)], [AV.val (.string ⟨#[84]⟩)], [AV.val (.string ⟨#[111, 32, 111]⟩)]] : List (List AV)) = strE tcL := rfl
def tnL : List S := [[64, 104, 111, 115, 116], [64, 115, 116, 114, 101, 97, 109], [64, 116, 114, 97, 99, 101], [64, 119, 101, 105, 103, 104, 116]]
theorem tnL_len (i : Nat) : (tnL.getD i []).length ≤ 19 := getD_len (by decide) i
@[simp] theorem tnL_n : tnL.length = 4 := rfl
theorem lit_tnL : ([[AV.val (.string ⟨#[64, 104, 111, 115, 116]⟩)], [AV.val (.string ⟨#[64, 115, 116, 114, 101, 97, 109]⟩)], [AV.val (.string ⟨#[64, 116, 114, 97, 99, 101]⟩)], [AV.val (.string ⟨#[64, 119, 101, 105, 103, 104, 116]⟩)]] : List (List AV)) = strE tnL := rfl
def txL : List S := [[49], [109, 97, 105, 110], [116, 49], [50]]
theorem txL_len (i : Nat) : (txL.getD i []).length ≤ 19 := getD_len (by decide) i
@[simp] theorem txL_n : txL.length = 4 := rfl
theorem lit_txL : ([[AV.val (.string ⟨#[49]⟩)], [AV.val (.string ⟨#[109, 97, 105, 110]⟩)], [AV.val (.string ⟨#[116, 49]⟩)], [AV.val (.string ⟨#[50]⟩)]] : List (List AV)) = strE txL := rfl
def nsL : List S := [[108, 101, 118, 101, 108], [64, 104, 111, 115, 116], [64, 115, 116, 114, 101, 97, 109], [99, 111, 100, 101], [64, 116, 114, 97, 99, 101]]
theorem nsL_len (i : Nat) : (nsL.getD i []).length ≤ 19 := getD_len (by decide) i
@[simp] theorem nsL_n : nsL.length = 5 := rfl
theorem lit_nsL : ([[AV.val (.string ⟨#[108, 101, 118, 101, 108]⟩)], [AV.val (.string ⟨#[64, 104, 111, 115, 116]⟩)], [AV.val (.string ⟨#[64, 115, 116, 114, 101, 97, 109]⟩)], [AV.val (.string ⟨#[99, 111, 100, 101]⟩)], [AV.val (.string ⟨#[64, 116, 114, 97, 99, 101]⟩)]] : List (List AV)) = strE nsL := rfl
@[simp] theorem nameL_n : nameL.length = 4 := rfl
end Go.Proofs.YtffchapiaampmaaGreatDoor
