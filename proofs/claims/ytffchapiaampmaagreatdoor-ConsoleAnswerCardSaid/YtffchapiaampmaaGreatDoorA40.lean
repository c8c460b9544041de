/-
  Part 40 of the proof that logtidelaw45.ConsoleAnswer returns true for every list of bytes and every text, and leaves both as they were.
-/
import Derived.Test.YtffchapiaampmaaGreatDoorA18
import Derived.Test.YtffchapiaampmaaGreatDoorA39
set_option linter.unusedSimpArgs false
set_option linter.unusedVariables false
namespace Go.Proofs.YtffchapiaampmaaGreatDoor
open Go.Av
set_option maxHeartbeats 4000000
set_option maxRecDepth 10000
attribute [local irreducible] XH XO PCall ACall
theorem prE_snoc2 (l : List (Ev × Ev)) (x y : Ev) : prE l ++ [[.val (.int .i64 x.host), .val (.int .i64 x.file), .val (.int .i64 x.frm), .val (.int .i64 x.to), .sl 3 (lnE x.lines), .val (.int .i64 x.time), .val (.int .i64 x.weight), .val (.string ⟨x.trace.toArray⟩), .val (.string ⟨x.stream.toArray⟩), .sl 2 (flE x.fields), .val (.int .i64 y.host), .val (.int .i64 y.file), .val (.int .i64 y.frm), .val (.int .i64 y.to), .sl 3 (lnE y.lines), .val (.int .i64 y.time), .val (.int .i64 y.weight), .val (.string ⟨y.trace.toArray⟩), .val (.string ⟨y.stream.toArray⟩), .sl 2 (flE y.fields)]] = prE (l ++ [(x, y)]) := by simp [prE, prC, evC, I, str]
attribute [simp] prE_len
attribute [local irreducible] lessF
theorem lt2000 {a : Nat} (h : decide ((a : Int) ≥ 2000) = false) : a < 2000 := by
 have := of_decide_eq_false h
 omega
theorem prM {α β : Type} {a : List α} {b : List β} {l : List (α × β)} {x : α} {y : β} (h : ∀ z ∈ l, z.1 ∈ a ∧ z.2 ∈ b) (h1 : x ∈ a) (h2 : y ∈ b) : ∀ z ∈ l ++ [(x, y)], z.1 ∈ a ∧ z.2 ∈ b := mem_snoc h ⟨h1, h2⟩
theorem pairs37 (a b : List Ev) (key : S) (w : Int) (ha : ∀ e ∈ a, EvB e) (hb : ∀ e ∈ b, EvB e) (na : a.length ≤ 2 ^ 20) (nb : b.length ≤ 2 ^ 20) : PCall Tryz.prog 37 [.sl 10 (evE a), .sl 10 (evE b), str key, I w] (fun r => ∃ (out : List (Ev × Ev)) (c : Int), r = .tup [.sl 20 (prE out), I c] ∧ out.length ≤ 2000 ∧ ∀ y ∈ out, y.1 ∈ a ∧ y.2 ∈ b) := by
 have qv := fun e (he : EvB e) => value64 e he key
 simp only [evC] at qv
 have ql := fun x y => PCall.of (less12 x y)
 simp only [evC] at ql
 have qn := fun x y => near66 x y w
 simp only [evC] at qn
 all_goals refine PCall.go 110 (fn := Tryz.f37) Tryz.func37 rfl rfl rfl (by simp) rfl ?_
 all_goals try refine XW.ra0 0 [0, 1, 2, 3] ?_
 all_goals try refine XW.ra0 1 [0, 1, 2, 3, 10] ?_
 all_goals try refine XW.ra0 2 [0, 1, 2, 3, 10, 11] ?_
 all_goals try (refine XW.lp 1 (fun s : Nat × List (Ev × Ev) => ⟨[(0, .sl 10 (evE a)), (1, .sl 10 (evE b)), (2, str key), (3, I w), (10, .osl 0 s.2.length 20), (11, I (s.1 : Nat))], [(0, some ⟨83, 20, prE s.2⟩)]⟩) (fun s => s.1 ≤ a.length ∧ s.2.length ≤ 2000 ∧ ∀ y ∈ s.2, y.1 ∈ a ∧ y.2 ∈ b) (fun s => a.length - s.1) (0, []) (mkWk [none] [] (by simp [wkEnv, lk, lkh, I, str, B, U8, U64, U32, B]; first | done | omega) (by simp [wkHp, wkHp1, wkEnt, lkh, I, str, B])) ?_; rintro ⟨i, out⟩ hI0 Y0 hY0; skip)
 all_goals try refine XW.ra0 3 [0, 1, 2, 3, 10, 11, 20] ?_
 all_goals try first | refine XW.cT 20 ?_ | refine XW.cF 20 ?_ | refine XW.cB 20 (fun c20 => ?_) (fun c20 => ?_)
 all_goals try (refine XW.at 5 ?_; have hi := ltC c20; obtain ⟨x, hx, hxm⟩ := getx a i hi; obtain ⟨m1, m2, m3⟩ := hI0; simp only at m1 m2 m3)
 all_goals try refine XW.rS 5 ?_
 all_goals try refine XO.r1 5 ?_
 all_goals try (refine XO.p (qv x (ha x hxm)) ?_; rintro _ ⟨v, b1, rfl, hv⟩)
 all_goals try refine XO.r0 5 ?_
 all_goals try refine XO.done [0, 1, 2, 3, 10, 11, 12, 13] ?_
 all_goals try refine XW.ra0 6 [0, 1, 2, 3, 10, 11, 12, 13, 14] ?_
 all_goals try (refine XW.lp 1 (fun s : Nat × List (Ev × Ev) => ⟨[(0, .sl 10 (evE a)), (1, .sl 10 (evE b)), (2, str key), (3, I w), (10, .osl 0 s.2.length 20), (11, I (i : Nat)), (12, str v), (13, B b1), (14, I (s.1 : Nat))], [(0, some ⟨83, 20, prE s.2⟩)]⟩) (fun s => s.1 ≤ b.length ∧ s.2.length ≤ 2000 ∧ ∀ y ∈ s.2, y.1 ∈ a ∧ y.2 ∈ b) (fun s => b.length - s.1) (0, out) (mkWk [some 0] [] (by simp [wkEnv, lk, lkh, I, str, B, U8, U64, U32, B]; first | done | omega) (by simp [wkHp, wkHp1, wkEnt, lkh, I, str, B])) ?_; rintro ⟨j, out1⟩ hI1 Y1 hY1; skip)
 all_goals try refine XW.rS 7 ?_
 all_goals try refine XO.r0 5 ?_
 all_goals try first | refine XO.kT 36 ?_ | refine XO.kF 36 ?_ | refine XO.split 36 (fun g36 => ?_) (fun g36 => ?_)
 all_goals try refine XO.r0 2 ?_
 all_goals try refine XO.done [0, 1, 2, 3, 10, 11, 12, 13, 14, 38] ?_
 all_goals try first | refine XW.cT 38 ?_ | refine XW.cF 38 ?_ | refine XW.cB 38 (fun c38 => ?_) (fun c38 => ?_)
 all_goals try (refine XW.at 9 ?_; have hj := ltC g36; obtain ⟨y, hx2, hym⟩ := getx b j hj; obtain ⟨k1, k2, k3⟩ := hI1; simp only at k1 k2 k3)
 all_goals try refine XW.rS 9 ?_
 all_goals try refine XO.r1 5 ?_
 all_goals try (refine XO.p (qv y (hb y hym)) ?_; rintro _ ⟨v2, b2, rfl, hv2⟩)
 all_goals try refine XO.r0 5 ?_
 all_goals try refine XO.done [0, 1, 2, 3, 10, 11, 12, 13, 14, 15, 16] ?_
 all_goals try refine XW.rS 10 ?_
 all_goals try refine XO.r0 3 ?_
 all_goals try first | refine XO.kT 52 ?_ | refine XO.kF 52 ?_ | refine XO.split 52 (fun g52 => ?_) (fun g52 => ?_)
 all_goals try refine XO.r0 5 ?_
 all_goals try first | refine XO.kT 57 ?_ | refine XO.kF 57 ?_ | refine XO.split 57 (fun g57 => ?_) (fun g57 => ?_)
 all_goals try refine XO.r1 9 ?_
 all_goals try first | (refine XO.p (qn x y) ?_; rintro _ ⟨b3, rfl⟩) | refine XO.r0 1 ?_
 all_goals try refine XO.r0 3 ?_
 all_goals try first | refine XO.kT 70 ?_ | refine XO.kF 70 ?_ | refine XO.split 70 (fun g70 => ?_) (fun g70 => ?_)
 all_goals try refine XO.r1 8 ?_
 all_goals try first | (refine XO.p (ql x y) ?_; rintro _ rfl) | refine XO.r0 1 ?_
 all_goals try refine XO.r0 2 ?_
 all_goals try first | refine XO.kT 81 ?_ | refine XO.kF 81 ?_ | refine XO.split 81 (fun g81 => ?_) (fun g81 => ?_)
 all_goals try refine XO.r1 8 ?_
 all_goals try first | (refine XO.p (ql y x) ?_; rintro _ rfl) | refine XO.r0 1 ?_
 all_goals try refine XO.r0 3 ?_
 all_goals try refine XO.done [0, 1, 2, 3, 10, 11, 12, 13, 14, 93] ?_
 all_goals try first | refine XW.cT 93 ?_ | refine XW.cF 93 ?_ | refine XW.cB 93 (fun c93 => ?_) (fun c93 => ?_)
 all_goals try refine XW.ra0 11 [0, 1, 2, 3, 10, 11, 12, 13, 14, 96] ?_
 all_goals try first | refine XW.cT 96 ?_ | refine XW.cF 96 ?_ | refine XW.cB 96 (fun c96 => ?_) (fun c96 => ?_)
 all_goals try refine XW.ra0 12 [8, 9] ?_
 all_goals try (refine XW.atr ?_; first | (exact XP.ro2 ⟨out, 0, rfl, m2, m3⟩) | (exact XP.rn2 (sz := 20) ⟨[], _, rfl, by simp, by simp⟩))
 all_goals try (refine XW.at 13 ?_; have h9 := lt2000 c96)
 all_goals try refine XW.rS 13 ?_
 all_goals try refine XO.r1 5 ?_
 all_goals try (skip)
 all_goals try refine XO.r1 4 ?_
 all_goals try (skip)
 all_goals try refine XO.r0 1 ?_
 all_goals try (skip)
 all_goals try refine XO.r0 1 ?_
 all_goals try (skip)
 all_goals try refine XO.r0 2 ?_
 all_goals try refine XO.done [0, 1, 2, 3, 10, 11, 12, 13, 14] ?_
 all_goals try refine XW.ra2 8 [0, 1, 2, 3, 10, 11, 12, 13, 14] ?_
 all_goals try (refine XH.le ?_; first | (refine hY1 (j + 1, out1) ?_ ?_ _ _ (mkWk [some 0] [] ?_ ?_); (next => exact ⟨by simp only; omega, by simp only; omega, k3⟩); (next => first | omega | (simp; done) | (simp; omega)); (next => simp [wkEnv, lk, lkh, I, str, B, U8, U64, U32, B]; first | done | omega); (next => simp [wkHp, wkHp1, wkEnt, lkh, I, str, B])) | (refine hY1 (j + 1, out1 ++ [(x, y)]) ?_ ?_ _ _ (mkWk [some 0] [] ?_ ?_); (next => exact ⟨by simp only; omega, by simp only [List.length_append, List.length_singleton]; omega, prM k3 hxm hym⟩); (next => first | omega | (simp; done) | (simp; omega)); (next => simp [wkEnv, lk, lkh, I, str, B, U8, U64, U32, B, prE_snoc2]; first | done | omega); (next => simp [wkHp, wkHp1, wkEnt, lkh, I, str, B, prE_snoc2])))
 all_goals try (refine XW.at 4 ?_; obtain ⟨k1, k2, k3⟩ := hI1; (try simp only at k1 k2 k3))
 all_goals try refine XW.ra2 4 [0, 1, 2, 3, 10, 11] ?_
 all_goals try (refine XH.le ?_; first | (exact hY0 (i + 1, out1) (⟨by simp only; omega, by simp only; omega, k3⟩) (by first | omega | (simp; done) | (simp; omega)) _ _ (mkWk [some 0] [] (by simp [wkEnv, lk, lkh, I, str, B, U8, U64, U32, B]; first | done | omega) (by simp [wkHp, wkHp1, wkEnt, lkh, I, str, B]))))
 all_goals try (refine XW.at 14 ?_; obtain ⟨m1, m2, m3⟩ := hI0; (try simp only at m1 m2 m3))
 all_goals try refine XW.ra0 14 [8, 9] ?_
 all_goals try (refine XW.atr ?_; first | (exact XP.ro2 ⟨out, 0, rfl, m2, m3⟩) | (exact XP.rn2 (sz := 20) ⟨[], _, rfl, by simp, by simp⟩))
structure Cn where
 key : List S
 n : Int
 e : Int
def cnC (x : Cn) : List AV := [.sl 1 (strE x.key), I x.n, I x.e]
def cnE (l : List Cn) : List (List AV) := l.map cnC
theorem cnE_len (l : List Cn) : (cnE l).length = l.length := by simp [cnE]
theorem cnE_getE (l : List Cn) (i : Nat) : (cnE l)[i]? = (l[i]?).map cnC := by simp [cnE]
@[simp] theorem cnE_id (k : Nat) (l : List Cn) : idLtE k (cnE l) = true := by
 simp only [idLtE, cnE, List.all_map, List.all_eq_true]
 intro x _
 rfl
@[simp] theorem cnE_st (l : List Cn) : (cnE l).all (fun c => c.all storable) = true := by
 simp only [cnE, List.all_map, List.all_eq_true]
 intro x _
 rfl
theorem cnE_drop (l : List Cn) (i : Nat) : (cnE l).drop i = cnE (l.drop i) := by simp [cnE]
theorem cnE_take (l : List Cn) (i : Nat) : (cnE l).take i = cnE (l.take i) := by simp [cnE]
theorem cnE_ren (L : List Nat) (l : List Cn) : renCE L (cnE l) = cnE l := by
 simp only [renCE, cnE, List.map_map]
 apply List.map_congr_left
 intro x _
 rfl
theorem cnE_renE (ρ : Nat → Nat) (l : List Cn) : (cnE l).map (renL ρ) = cnE l := renE_noid ρ (cnE_id 0 l)
theorem cnE_snoc (l : List Cn) (x : Cn) : cnE l ++ [[.sl 1 (strE x.key), .val (.int .i64 x.n), .val (.int .i64 x.e)]] = cnE (l ++ [x]) := by simp [cnE, cnC, I, str]
theorem cnE_snoc' (l : List Cn) (x : Cn) : cnE l ++ [cnC x] = cnE (l ++ [x]) := by simp [cnE]
theorem cnE_app (l m : List Cn) : cnE l ++ cnE m = cnE (l ++ m) := by simp [cnE]
@[simp] theorem cnE_nil : cnE [] = [] := rfl
theorem cnE_set (l : List Cn) (i : Nat) (x : Cn) : (cnE l).set i [.sl 1 (strE x.key), .val (.int .i64 x.n), .val (.int .i64 x.e)] = cnE (l.set i x) := by simp [cnE, List.map_set, cnC, I, str]
attribute [go_sem] cnE_len cnE_getE cnE_drop cnE_take cnE_ren cnE_renE cnE_snoc cnE_snoc' cnE_app cnE_set cnC
attribute [simp] cnE_len
/-- A counter of a bounded key. -/
def CnP (y : Cn) : Prop := y.key.length ≤ 2 ^ 10 ∧ (∀ k ∈ y.key, k.length ≤ 2 ^ 20) ∧ In64 y.n ∧ In64 y.e
theorem inN {α : Type} {l : List α} {x : α} (i n : Nat) : (l.take i ++ [x] ++ (l.take n).drop i).length ≤ l.length + 1 := setN i i n (Nat.le_refl _)
theorem inK {l : List Cn} {x : Cn} {i n : Nat} (h : ∀ y ∈ l, CnP y) (hx : CnP x) : ∀ y ∈ l.take i ++ [x] ++ (l.take n).drop i, CnP y := by
 intro y hy
 rcases setM _ _ _ y hy with h1 | rfl
 · exact h y h1
 · exact hx
/-- Counters of bounded keys. -/
def CnB (l : List Cn) : Prop := ∀ y ∈ l, CnP y
theorem insert89 (l : List Cn) (c : Cn) (hl : CnB l) (hc : CnP c) (hn : l.length ≤ 2 ^ 30) : PCall Tryz.prog 89 [.sl 3 (cnE l), .agg (cnC c)] (fun r => ∃ out : List Cn, r = .sl 3 (cnE out) ∧ out.length ≤ l.length + 1 ∧ CnB out) := by
 all_goals refine PCall.go 36 (fn := Tryz.f89) Tryz.func89 rfl rfl rfl (by simp) rfl ?_
 all_goals try refine XW.ra0 0 [0, 3] ?_
 all_goals try refine XW.ra0 1 [0, 3, 5] ?_
 all_goals try (refine XW.lp 1 (fun i : Nat => ⟨[(0, .sl 3 (cnE l)), (3, .ptr 0 3 0 0), (5, I (i : Nat))], [(0, some ⟨137, 3, [cnC c]⟩)]⟩) (fun i => i ≤ l.length) (fun i => l.length - i) 0 (mkWk [some 0] [] (by simp [wkEnv, lk, lkh, I, str, B, U8, U64, U32, cnC]; first | done | omega) (by simp [wkHp, wkHp1, wkEnt, lkh, I, str, cnC])) ?_; rintro i hI0 Y0 hY0; skip)
 all_goals try refine XW.rS 2 ?_
 all_goals try refine XO.r0 5 ?_
 all_goals try first | refine XO.kT 11 ?_ | refine XO.kF 11 ?_ | refine XO.split 11 (fun g11 => ?_) (fun g11 => ?_)
 all_goals try (have hi := ltC g11; obtain ⟨x, hx, hxm⟩ := getx l i hi)
 all_goals try refine XO.r1 7 ?_
 all_goals try first | (refine XO.p (compare70 x.key c.key (by have := (hl x hxm).1; omega) (by have := hc.1; omega)) ?_; rintro _ ⟨m, rfl⟩) | refine XO.r0 1 ?_
 all_goals try refine XO.r0 2 ?_
 all_goals try refine XO.done [0, 3, 5, 21] ?_
 all_goals try first | refine XW.cT 21 ?_ | refine XW.cF 21 ?_ | refine XW.cB 21 (fun c21 => ?_) (fun c21 => ?_)
 all_goals try (refine XW.at 3 ?_; have hi := ltC g11)
 all_goals try refine XW.ra2 3 [0, 3, 5] ?_
 all_goals try (refine XH.le ?_; first | (exact eY hY0 (i + 1) (mkWk [some 0] [] (by simp [wkEnv, lk, lkh, I, str, B, U8, U64, U32, cnC]; first | done | omega) (by simp [wkHp, wkHp1, wkEnt, lkh, I, str, cnC]))))
 all_goals try (refine XW.at 4 ?_; have hx := hI0)
 all_goals try refine XW.ra3 4 [0, 3, 5, 6] ?_
 all_goals try (refine XW.at 5 ?_; have hx9 := hI0)
 all_goals try refine XW.ra3 5 [4] ?_
 all_goals try (refine XW.atr ?_; first | (exact XP.ro ⟨List.take i l ++ [c] ++ List.drop i (List.take l.length l), rfl, inN _ _, inK hl hc⟩ (hm := by simp; omega)))
theorem cnE_set3 (l : List Cn) (i : Nat) (k : List S) (n e : Int) : (cnE l).set i [.sl 1 (strE k), .val (.int .i64 n), .val (.int .i64 e)] = cnE (l.set i ⟨k, n, e⟩) := by simp [cnE, List.map_set, cnC, I]
attribute [go_sem] cnE_set3
theorem CnB.set {l : List Cn} {i : Nat} {k : List S} {n e : Int} (h : CnB l) (hk : CnP ⟨k, n, e⟩) : CnB (l.set i ⟨k, n, e⟩) := by
 intro y hy
 rcases List.mem_or_eq_of_mem_set hy with h1 | rfl
 · exact h y h1
 · exact hk
theorem CnB.cut {l : List Cn} (h : CnB l) (i j n : Nat) : CnB (l.take i ++ (l.drop j).take n) := by
 intro y hy
 rcases List.mem_append.1 hy with h1 | h1
 · exact h y (List.mem_of_mem_take h1)
 · exact h y (List.mem_of_mem_drop (List.mem_of_mem_take h1))
theorem geN {a : Nat} {k : Int} (h : decide ((a : Int) < k) = false) (hk : 1 ≤ k) : 0 < a := by
 have := of_decide_eq_false h
 omega
theorem observe67 (cs : List Cn) (k : Int) (key : List S) (n : Int) (hl : CnB cs) (hc : key.length ≤ 2 ^ 10 ∧ ∀ s ∈ key, s.length ≤ 2 ^ 20) (h64 : In64 n) (hn : cs.length ≤ 2 ^ 20) (hk : 1 ≤ k) : PCall Tryz.prog 67 [.sl 3 (cnE cs), I k, .sl 1 (strE key), I n] (fun r => ∃ out : List Cn, r = .sl 3 (cnE out) ∧ out.length ≤ cs.length + 1 ∧ CnB out) := by
 all_goals refine PCall.go 83 (fn := Tryz.f67) Tryz.func67 rfl rfl rfl (by simp) rfl ?_
 all_goals try refine XW.ra0 0 [0, 1, 2, 3] ?_
 all_goals try refine XW.ra0 1 [1, 2, 3, 9] ?_
 all_goals try refine XW.ra0 2 [1, 2, 3, 9, 10] ?_
 all_goals try refine XW.ra0 3 [1, 2, 3, 9, 10, 11] ?_
 all_goals try (refine XW.lp 1 (fun s : Nat × Nat => ⟨[(1, I k), (2, .sl 1 (strE key)), (3, I n), (9, .osl 0 cs.length 3), (10, I (s.2 : Nat)), (11, I (s.1 : Nat))], [(0, some ⟨137, 3, cnE cs⟩)]⟩) (fun s => s.1 ≤ cs.length ∧ s.2 ≤ s.1 ∧ (s.2 < cs.length ∨ s.2 = 0)) (fun s => cs.length - s.1) (0, 0) (mkWk [some 0] [] (by simp [wkEnv, lk, lkh, I, str, B, U8, U64, U32]; first | done | omega) (by simp [wkHp, wkHp1, wkEnt, lkh, I, str])) ?_; rintro ⟨i, lo⟩ hI0 Y0 hY0; skip)
 all_goals try refine XW.ra0 4 [1, 2, 3, 9, 10, 11, 18] ?_
 all_goals try first | refine XW.cT 18 ?_ | refine XW.cF 18 ?_ | refine XW.cB 18 (fun c18 => ?_) (fun c18 => ?_)
 all_goals try (refine XW.at 6 ?_; obtain ⟨m1, m2, m3⟩ := hI0; (try simp only at m1 m2 m3); have hi := ltC c18; obtain ⟨x, hx, hxm⟩ := getx cs i hi)
 all_goals try refine XW.rS 6 ?_
 all_goals try refine XO.r1 6 ?_
 all_goals try (refine XO.p (compare70 x.key key (by have := (hl x hxm).1; omega) (by have := hc.1; omega)) ?_; rintro _ ⟨m, rfl⟩)
 all_goals try refine XO.r0 1 ?_
 all_goals try refine XO.done [1, 2, 3, 9, 10, 11, 28] ?_
 all_goals try first | refine XW.cT 28 ?_ | refine XW.cF 28 ?_ | refine XW.cB 28 (fun c28 => ?_) (fun c28 => ?_)
 all_goals try refine XW.ra3 7 [9] ?_
 all_goals try refine XW.ra0 8 [8] ?_
 all_goals try (refine XW.atr ?_; first | (exact XP.ro ⟨cs.set i ⟨x.key, IntKind.i64.wrap (x.n + n), x.e⟩, rfl, by simp, CnB.set hl ⟨(hl x hxm).1, (hl x hxm).2.1, In64w _, (hl x hxm).2.2.2⟩⟩) | (exact XP.rs ⟨o, rfl, h1, h2⟩) | (exact XP.rs ⟨o, rfl, by simp at h1; omega, h2⟩))
 all_goals try (refine XW.at 9 ?_; obtain ⟨z, hx2, hzm⟩ := getx cs lo (by omega))
 all_goals try refine XW.ra1 9 [1, 2, 3, 9, 10, 11, 49] ?_
 all_goals try first | refine XW.cT 49 ?_ | refine XW.cF 49 ?_ | refine XW.cB 49 (fun c49 => ?_) (fun c49 => ?_)
 all_goals try refine XW.ra0 10 [1, 2, 3, 9, 10, 11] ?_
 all_goals try refine XW.ra2 5 [1, 2, 3, 9, 10, 11] ?_
 all_goals try (refine XH.le ?_; first | (refine hY0 (i + 1, lo) ?_ ?_ _ _ (mkWk [some 0] [] ?_ ?_); (next => exact ⟨by simp only; omega, by simp only; omega, by simp only; omega⟩); (next => first | omega | (simp; done) | (simp; omega)); (next => simp [wkEnv, lk, lkh, I, str, B, U8, U64, U32]; first | done | omega); (next => simp [wkHp, wkHp1, wkEnt, lkh, I, str])) | (refine hY0 (i + 1, i) ?_ ?_ _ _ (mkWk [some 0] [] ?_ ?_); (next => exact ⟨by simp only; omega, by simp only; omega, by simp only; omega⟩); (next => first | omega | (simp; done) | (simp; omega)); (next => simp [wkEnv, lk, lkh, I, str, B, U8, U64, U32]; first | done | omega); (next => simp [wkHp, wkHp1, wkEnt, lkh, I, str])))
 all_goals try refine XW.ra0 11 [1, 2, 3, 9, 10] ?_
 all_goals try (refine XW.at 12 ?_; obtain ⟨m1, m2, m3⟩ := hI0; (try simp only at m1 m2 m3); refine XW.wkr 12 1 ⟨[(1, I k), (2, .sl 1 (strE key)), (3, I n), (9, .osl 0 cs.length 3), (10, I (lo : Nat))], [(0, some ⟨137, 3, cnE cs⟩)]⟩ ⟨[some 1], [0], ⟨by simp [srcIds], by simp [srcIds], by simp⟩, by simp, by first | (simp [wkEnv, lk, lkh, I, str, B]; done) | (simp [wkEnv, lk, lkh, I, str, B]; omega), by first | (simp [wkHp, wkHp1, wkEnt, lkh]; done) | simp [wkHp, wkHp1, wkEnt, lkh, I, str]⟩ ?_)
 all_goals try refine XW.ra0 12 [2, 3, 9, 10, 56] ?_
 all_goals try first | refine XW.cT 56 ?_ | refine XW.cF 56 ?_ | refine XW.cB 56 (fun c56 => ?_) (fun c56 => ?_)
 all_goals try (refine XW.at 13 ?_; refine XW.wkr 13 0 ⟨[(2, .sl 1 (strE key)), (3, I n), (9, .sl 3 (cnE cs))], []⟩ ⟨[], [0], ⟨by simp [srcIds], by simp [srcIds], by simp⟩, by simp, by first | (simp [wkEnv, lk, lkh, I, str, B]; done) | (simp [wkEnv, lk, lkh, I, str, B]; omega), by first | (simp [wkHp, wkHp1, wkEnt, lkh]; done) | simp [wkHp, wkHp1, wkEnt, lkh, I, str]⟩ ?_)
 all_goals try refine XW.rS 13 ?_
 all_goals try refine XO.r0 4 ?_
 all_goals try (refine XO.p (insert89 cs ⟨key, n, 0⟩ hl ⟨hc.1, hc.2, h64, In64z⟩ (by omega)) ?_; rintro _ ⟨o, rfl, h1, h2⟩)
 all_goals try refine XO.r0 1 ?_
 all_goals try refine XO.done [8] ?_
 all_goals try (refine XW.atr ?_; first | (exact XP.ro ⟨cs.set i ⟨x.key, IntKind.i64.wrap (x.n + n), x.e⟩, rfl, by simp, CnB.set hl ⟨(hl x hxm).1, (hl x hxm).2.1, In64w _, (hl x hxm).2.2.2⟩⟩) | (exact XP.rs ⟨o, rfl, h1, h2⟩) | (exact XP.rs ⟨o, rfl, by simp at h1; omega, h2⟩))
 all_goals try (refine XW.at 14 ?_; have hp := geN c56 hk; obtain ⟨z, hx, hzm⟩ := getx cs lo (by omega); have hi := geN c56 hk)
 all_goals try refine XW.ra1 14 [2, 3, 9, 10, 12] ?_
 all_goals try (refine XW.at 15 ?_; have hi := geN c56 hk; have hx2 : lo ≤ cs.length := by omega; have hx3 : lo + 1 ≤ cs.length := by omega)
 all_goals try refine XW.ra3 15 [2, 3, 9, 12] ?_
 all_goals try (refine XW.at 16 ?_; refine XW.wkr 16 0 ⟨[(2, .sl 1 (strE key)), (3, I n), (9, .sl 3 (cnE (List.take (lo - 0) cs ++ List.take (cs.length - ((lo : Int) + 1).toNat) (List.drop ((lo : Int) + 1).toNat cs)))), (12, I z.n)], []⟩ ⟨[], [0], ⟨by simp [srcIds], by simp [srcIds], by simp⟩, by simp, by first | (simp [wkEnv, lk, lkh, I, str, B]; done) | (simp [wkEnv, lk, lkh, I, str, B]; omega), by first | (simp [wkHp, wkHp1, wkEnt, lkh]; done) | simp [wkHp, wkHp1, wkEnt, lkh, I, str]⟩ ?_)
 all_goals try refine XW.rS 16 ?_
 all_goals try refine XO.r2 7 ?_
 all_goals try (refine XO.p (insert89 _ ⟨key, _, _⟩ (CnB.cut hl _ _ _) ⟨hc.1, hc.2, In64w _, (hl z hzm).2.2.1⟩ (by simp; omega)) ?_; rintro _ ⟨o, rfl, h1, h2⟩)
 all_goals try refine XO.r0 1 ?_
 all_goals try refine XO.done [8] ?_
 all_goals try (refine XW.atr ?_; first | (exact XP.ro ⟨cs.set i ⟨x.key, IntKind.i64.wrap (x.n + n), x.e⟩, rfl, by simp, CnB.set hl ⟨(hl x hxm).1, (hl x hxm).2.1, In64w _, (hl x hxm).2.2.2⟩⟩) | (exact XP.rs ⟨o, rfl, h1, h2⟩) | (exact XP.rs ⟨o, rfl, by simp at h1; omega, h2⟩))
theorem sketch40 (k : Int) (ns : List S) (l : List Ev) (hk : 1 ≤ k) (hn : ns.length ≤ 2 ^ 10) (he : ∀ e ∈ l, EvB e) (hl : l.length ≤ 2 ^ 20) : PCall Tryz.prog 40 [I k, .sl 1 (strE ns), .sl 10 (evE l)] (fun r => ∃ out : List Cn, r = .sl 3 (cnE out) ∧ out.length ≤ l.length ∧ CnB out) := by
 have qk := fun e (h : EvB e) => key68 ns e h (by omega)
 simp only [evC] at qk
 all_goals refine PCall.go 30 (fn := Tryz.f40) Tryz.func40 rfl rfl rfl (by simp) rfl ?_
 all_goals try refine XW.ra0 0 [0, 1, 2] ?_
 all_goals try refine XW.ra0 1 [0, 1, 2, 7] ?_
 all_goals try refine XW.ra0 2 [0, 1, 2, 7, 8] ?_
 all_goals try (refine XW.lp 0 (fun s : Nat × List Cn => ⟨[(0, I k), (1, .sl 1 (strE ns)), (2, .sl 10 (evE l)), (7, .sl 3 (cnE s.2)), (8, I (s.1 : Nat))], []⟩) (fun s => s.1 ≤ l.length ∧ s.2.length ≤ s.1 ∧ CnB s.2) (fun s => l.length - s.1) (0, []) (mkWk [] [] (by simp [wkEnv, lk, lkh, I, str, B, U8, U64, U32]; first | done | omega) (by simp [wkHp, wkHp1, wkEnt, lkh, I, str])) ?_ (h0 := ⟨by simp, by simp, fun _ h => by simp at h⟩); rintro ⟨i, cs⟩ hI0 Y0 hY0; skip)
 all_goals try refine XW.ra0 3 [0, 1, 2, 7, 8, 12] ?_
 all_goals try first | refine XW.cT 12 ?_ | refine XW.cF 12 ?_ | refine XW.cB 12 (fun c12 => ?_) (fun c12 => ?_)
 all_goals try (refine XW.at 5 ?_; obtain ⟨m1, m2, m3⟩ := hI0; (try simp only at m1 m2 m3); have hi := ltC c12; obtain ⟨x, hx, hxm⟩ := getx l i hi)
 all_goals try refine XW.rS 5 ?_
 all_goals try refine XO.r1 7 ?_
 all_goals try (refine XO.p (qk x (he x hxm)) ?_; rintro _ ⟨kk, rfl, kl, kb⟩)
 all_goals try refine XO.r1 5 ?_
 all_goals try (refine XO.p (observe67 cs k kk x.weight m3 ⟨by omega, kb⟩ (he x hxm).wt (by omega) hk) ?_; rintro _ ⟨o, rfl, o1, o2⟩)
 all_goals try refine XO.r0 1 ?_
 all_goals try refine XO.done [0, 1, 2, 7, 8] ?_
 all_goals try refine XW.ra2 4 [0, 1, 2, 7, 8] ?_
 all_goals try (refine XH.le ?_; first | (exact hY0 (i + 1, o) (⟨by simp only; omega, by simp only; omega, o2⟩) (by first | omega | (simp; done) | (simp; omega)) _ _ (mkWk [] [] (by simp [wkEnv, lk, lkh, I, str, B, U8, U64, U32]; first | done | omega) (by simp [wkHp, wkHp1, wkEnt, lkh, I, str]))))
 all_goals try (refine XW.at 6 ?_; obtain ⟨m1, m2, m3⟩ := hI0; (try simp only at m1 m2 m3))
 all_goals try refine XW.ra0 6 [6] ?_
 all_goals try (refine XW.atr ?_; first | (exact XP.rs ⟨cs, rfl, by omega, m3⟩))
structure Rw where
 key : List S
 vals : List Int
 n : Int
def rwC (x : Rw) : List AV := [.sl 1 (strE x.key), .sl 1 (intE x.vals), I x.n]
def rwE (l : List Rw) : List (List AV) := l.map rwC
theorem rwE_len (l : List Rw) : (rwE l).length = l.length := by simp [rwE]
theorem rwE_getE (l : List Rw) (i : Nat) : (rwE l)[i]? = (l[i]?).map rwC := by simp [rwE]
@[simp] theorem rwE_id (k : Nat) (l : List Rw) : idLtE k (rwE l) = true := by
 simp only [idLtE, rwE, List.all_map, List.all_eq_true]
 intro x _
 rfl
@[simp] theorem rwE_st (l : List Rw) : (rwE l).all (fun c => c.all storable) = true := by
 simp only [rwE, List.all_map, List.all_eq_true]
 intro x _
 rfl
theorem rwE_drop (l : List Rw) (i : Nat) : (rwE l).drop i = rwE (l.drop i) := by simp [rwE]
theorem rwE_take (l : List Rw) (i : Nat) : (rwE l).take i = rwE (l.take i) := by simp [rwE]
theorem rwE_ren (L : List Nat) (l : List Rw) : renCE L (rwE l) = rwE l := by
 simp only [renCE, rwE, List.map_map]
 apply List.map_congr_left
 intro x _
 rfl
theorem rwE_renE (ρ : Nat → Nat) (l : List Rw) : (rwE l).map (renL ρ) = rwE l := renE_noid ρ (rwE_id 0 l)
theorem rwE_snoc (l : List Rw) (x : Rw) : rwE l ++ [[.sl 1 (strE x.key), .sl 1 (intE x.vals), .val (.int .i64 x.n)]] = rwE (l ++ [x]) := by simp [rwE, rwC, I, str]
theorem rwE_snoc' (l : List Rw) (x : Rw) : rwE l ++ [rwC x] = rwE (l ++ [x]) := by simp [rwE]
theorem rwE_app (l m : List Rw) : rwE l ++ rwE m = rwE (l ++ m) := by simp [rwE]
@[simp] theorem rwE_nil : rwE [] = [] := rfl
theorem rwE_set (l : List Rw) (i : Nat) (x : Rw) : (rwE l).set i [.sl 1 (strE x.key), .sl 1 (intE x.vals), .val (.int .i64 x.n)] = rwE (l.set i x) := by simp [rwE, List.map_set, rwC, I, str]
attribute [go_sem] rwE_len rwE_getE rwE_drop rwE_take rwE_ren rwE_renE rwE_snoc rwE_snoc' rwE_app rwE_set rwC
attribute [simp] rwE_len
/-- Rows of bounded keys. -/
def RwB (l : List Rw) : Prop := ∀ y ∈ l, y.key.length ≤ 2 ^ 10 ∧ (∀ k ∈ y.key, k.length ≤ 2 ^ 20) ∧ (∃ a t, y.vals = a :: t) ∧ (∀ v ∈ y.vals, In64 v) ∧ In64 y.n ∧ y.vals.length ≤ 2 ^ 20
theorem RwB.ins {l m : List Rw} {x : Rw} (i n : Nat) (h : RwB l) (hx : RwB m) (hm : x ∈ m) : RwB (l.take i ++ [x] ++ (l.take n).drop i) := by
 intro y hy
 rcases setM _ _ _ y hy with h1 | rfl
 · exact h y h1
 · exact hx y hm
theorem gt0C {a : Nat} (h : decide ((a : Int) > 0) = true) : 0 < a := by
 have := of_decide_eq_true h
 omega
theorem max0 (k : Int) : ∃ m : Nat, (if (0 : Int) > k then 0 else k) = (m : Int) := by
 split
 · exact ⟨0, rfl⟩
 · exact ⟨k.toNat, by omega⟩
theorem minL (m n : Nat) : (if (n : Int) < (m : Int) then (n : Int) else (m : Int)) = ((min m n : Nat) : Int) := by
 split <;> omega
theorem RwB.ins2 {l m : List Rw} {x : Rw} (i j n : Nat) (h : RwB l) (hx : RwB m) (hm : x ∈ m) : RwB (l.take i ++ [x] ++ (l.drop j).take n) := by
 intro y hy
 simp only [List.mem_append, List.mem_singleton] at hy
 rcases hy with (h1 | rfl) | h1
 · exact h y (List.mem_of_mem_take h1)
 · exact hx y hm
 · exact h y (List.mem_of_mem_drop (List.mem_of_mem_take h1))
theorem RwB.take {l : List Rw} (h : RwB l) (n : Nat) : RwB (l.take n) := fun y hy => h y (List.mem_of_mem_take hy)
theorem exact43 (l : List Rw) (k : Int) (hl : RwB l) (hn : l.length ≤ 2 ^ 20) : PCall Tryz.prog 43 [.sl 3 (rwE l), I k] (fun r => ∃ out : List Rw, r = .sl 3 (rwE out) ∧ out.length ≤ l.length ∧ RwB out) := by
 all_goals refine PCall.go 94 (fn := Tryz.f43) Tryz.func43 rfl rfl rfl (by simp) rfl ?_
 all_goals try refine XW.ra0 0 [0, 1] ?_
 all_goals try refine XW.ra0 1 [0, 1, 5] ?_
 all_goals try refine XW.ra0 2 [0, 1, 5, 6] ?_
 all_goals try (refine XW.lp 1 (fun s : Nat × List Rw => ⟨[(0, .sl 3 (rwE l)), (1, I k), (5, .osl 0 s.2.length 3), (6, I (s.1 : Nat))], [(0, some ⟨80, 3, rwE s.2⟩)]⟩) (fun s => s.1 ≤ l.length ∧ s.2.length ≤ s.1 ∧ RwB s.2) (fun s => l.length - s.1) (0, []) (mkWk [none] [] (by simp [wkEnv, lk, lkh, I, str, B, U8, U64, U32]; first | done | omega) (by simp [wkHp, wkHp1, wkEnt, lkh, I, str])) ?_ (h0 := ⟨by simp, by simp, fun _ h => by simp at h⟩); rintro ⟨i, out⟩ hI0 Y0 hY0; skip)
 all_goals try refine XW.ra0 3 [0, 1, 5, 6, 12] ?_
 all_goals try first | refine XW.cT 12 ?_ | refine XW.cF 12 ?_ | refine XW.cB 12 (fun c12 => ?_) (fun c12 => ?_)
 all_goals try (refine XW.at 5 ?_; obtain ⟨m1, m2, m3⟩ := hI0; (try simp only at m1 m2 m3); have hi := ltC c12; obtain ⟨x, hx, hxm⟩ := getx l i hi; obtain ⟨_, _, ⟨a0, t0, hv⟩, _, _⟩ := hl x hxm)
 all_goals try refine XW.ra0 5 [0, 1, 5, 6, 7] ?_
 all_goals try (refine XW.lp 1 (fun j : Nat => ⟨[(0, .sl 3 (rwE l)), (1, I k), (5, .osl 0 out.length 3), (6, I (i : Nat)), (7, I (j : Nat))], [(0, some ⟨80, 3, rwE out⟩)]⟩) (fun j => j ≤ out.length) (fun j => j) out.length (mkWk [some 0] [] (by simp [wkEnv, lk, lkh, I, str, B, U8, U64, U32]; first | done | omega) (by simp [wkHp, wkHp1, wkEnt, lkh, I, str])) ?_; rintro j hI1 Y1 hY1; skip)
 all_goals try refine XW.rS 6 ?_
 all_goals try refine XO.r3 3 ?_
 all_goals try first | refine XO.kT 19 ?_ | refine XO.kF 19 ?_ | refine XO.split 19 (fun g19 => ?_) (fun g19 => ?_)
 all_goals try (have hj := gt0C g19; obtain ⟨y, hx2, hym⟩ := getx out (j - 1) (by omega); obtain ⟨_, _, ⟨b0, t1, hw⟩, _, _⟩ := m3 y hym; have hz : (j : Int) - 1 = ((j - 1 : Nat) : Int) := by omega)
 all_goals try refine XO.r3 5 ?_
 all_goals try (rw [hv])
 all_goals try refine XO.r3 5 ?_
 all_goals try (rw [hz])
 all_goals try refine XO.r3 3 ?_
 all_goals try (rw [hw])
 all_goals try refine XO.r3 4 ?_
 all_goals try first | refine XO.kT 36 ?_ | refine XO.kF 36 ?_ | refine XO.split 36 (fun g36 => ?_) (fun g36 => ?_)
 all_goals try refine XO.r3 5 ?_
 all_goals try (rw [hv])
 all_goals try refine XO.r3 5 ?_
 all_goals try (rw [hz])
 all_goals try refine XO.r3 3 ?_
 all_goals try (rw [hw])
 all_goals try refine XO.r3 4 ?_
 all_goals try first | refine XO.kT 53 ?_ | refine XO.kF 53 ?_ | refine XO.split 53 (fun g53 => ?_) (fun g53 => ?_)
 all_goals try refine XO.r3 8 ?_
 all_goals try (rw [hz])
 all_goals try refine XO.r3 3 ?_
 all_goals try first | (refine XO.p (compare70 x.key y.key (by have := (hl x hxm).1; omega) (by have := (m3 y hym).1; omega)) ?_; rintro _ ⟨n, rfl⟩) | refine XO.r0 1 ?_
 all_goals try refine XO.r3 4 ?_
 all_goals try refine XO.done [0, 1, 5, 6, 7, 69] ?_
 all_goals try first | refine XW.cT 69 ?_ | refine XW.cF 69 ?_ | refine XW.cB 69 (fun c69 => ?_) (fun c69 => ?_)
 all_goals try (refine XW.at 7 ?_; have hj := gt0C g19)
 all_goals try refine XW.ra2 7 [0, 1, 5, 6, 7] ?_
 all_goals try (refine XH.le ?_; first | (exact eY hY1 (j - 1) (mkWk [some 0] [] (by simp [wkEnv, lk, lkh, I, str, B, U8, U64, U32]; first | done | omega) (by simp [wkHp, wkHp1, wkEnt, lkh, I, str]))))
 all_goals try (refine XW.at 8 ?_; have hx2 := hI1)
 all_goals try refine XW.ra3 8 [0, 1, 5, 6, 7, 8] ?_
 all_goals try refine XW.rS 9 ?_
 all_goals try refine XO.r1 5 ?_
 all_goals try (skip)
 all_goals try refine XO.r0 1 ?_
 all_goals try (skip)
 all_goals try refine XO.r0 1 ?_
 all_goals try (skip)
 all_goals try refine XO.r3 3 ?_
 all_goals try (skip)
 all_goals try refine XO.r0 2 ?_
 all_goals try refine XO.done [0, 1, 5, 6] ?_
 all_goals try refine XW.ra2 4 [0, 1, 5, 6] ?_
 all_goals try (refine XH.le ?_; first | (exact hY0 (i + 1, List.take j out ++ [x] ++ List.take (out.length - j) (List.drop j out)) (⟨by simp only; omega, by simp; omega, RwB.ins2 _ _ _ m3 hl hxm⟩) (by first | omega | (simp; done) | (simp; omega)) _ _ (mkWk [some 0] [] (by simp [wkEnv, lk, lkh, I, str, B, U8, U64, U32]; first | done | omega) (by simp [wkHp, wkHp1, wkEnt, lkh, I, str]))))
 all_goals try (refine XW.at 10 ?_; obtain ⟨m1, m2, m3⟩ := hI0; (try simp only at m1 m2 m3); obtain ⟨m, hx⟩ := max0 k; have hx2 := minL m out.length; have hx3 := Nat.min_le_right m out.length; refine XW.wkr 10 0 ⟨[(1, I k), (5, .sl 3 (rwE out))], []⟩ ⟨[], [0], ⟨by simp [srcIds], by simp [srcIds], by simp⟩, by simp, by first | (simp [wkEnv, lk, lkh, I, str, B]; done) | (simp [wkEnv, lk, lkh, I, str, B]; omega), by simp [wkHp]⟩ ?_)
 all_goals try refine XW.ra3 10 [4] ?_
 all_goals try (refine XW.atr ?_; first | (exact XP.rs ⟨out.take (min m out.length), rfl, by simp; omega, m3.take _⟩) | (exact XP.ret [0] (.sl 3 (rwE (out.take (min m out.length)))) ⟨_, rfl, by simp; omega, m3.take _⟩))
@[simp] theorem wkE_rw {hp : Hp} {ids : List (Option Nat)} {D : List Nat} (l : List Rw) (x c : List AV) : wkE hp ids D (rwE l ++ [c]) (rwE l ++ [x]) ↔ wkL hp ids D c x := wkE_snoc_iff (rwE_id 0 l)
theorem rwE_snoc3 (l : List Rw) (k : List S) (n e : Int) : rwE l ++ [[.sl 1 (strE k), .sl 1 [[.val (.int .i64 n)]], .val (.int .i64 e)]] = rwE (l ++ [⟨k, [n], e⟩]) := by simp [rwE, rwC, I, intE]
theorem RwB.snoc {l : List Rw} {x : Cn} (h : RwB l) (hx : CnP x) : RwB (l ++ [⟨x.key, [x.n], x.e⟩]) := mem_snoc h ⟨hx.1, hx.2.1, ⟨_, _, rfl⟩, fun v hv => by rw [List.mem_singleton.1 hv]; exact hx.2.2.1, hx.2.2.2, by simp⟩
theorem best39 (cs : List Cn) (k : Int) (hl : CnB cs) (hn : cs.length ≤ 2 ^ 20) : PCall Tryz.prog 39 [.sl 3 (cnE cs), I k] (fun r => ∃ out : List Rw, r = .sl 3 (rwE out) ∧ out.length ≤ cs.length ∧ RwB out) := by
 all_goals refine PCall.go 37 (fn := Tryz.f39) Tryz.func39 rfl rfl rfl (by simp) rfl ?_
 all_goals try refine XW.ra0 0 [0, 1] ?_
 all_goals try refine XW.ra0 1 [0, 1, 5] ?_
 all_goals try refine XW.ra0 2 [0, 1, 5, 6] ?_
 all_goals try (refine XW.lp 1 (fun s : Nat × List Rw => ⟨[(0, .sl 3 (cnE cs)), (1, I k), (5, .osl 0 s.2.length 3), (6, I (s.1 : Nat))], [(0, some ⟨80, 3, rwE s.2⟩)]⟩) (fun s => s.1 ≤ cs.length ∧ s.2.length = s.1 ∧ RwB s.2) (fun s => cs.length - s.1) (0, []) (mkWk [none] [] (by simp [wkEnv, lk, lkh, I, str, B, U8, U64, U32]; first | done | omega) (by simp [wkHp, wkHp1, wkEnt, lkh, I, str])) ?_ (h0 := ⟨by simp, by simp, fun _ h => by simp at h⟩); rintro ⟨i, out⟩ hI0 Y0 hY0; skip)
 all_goals try refine XW.ra0 3 [0, 1, 5, 6, 10] ?_
 all_goals try first | refine XW.cT 10 ?_ | refine XW.cF 10 ?_ | refine XW.cB 10 (fun c10 => ?_) (fun c10 => ?_)
 all_goals try (refine XW.at 5 ?_; obtain ⟨m1, m2, m3⟩ := hI0; (try simp only at m1 m2 m3); have hi := ltC c10; obtain ⟨x, hx, hxm⟩ := getx cs i hi; have hk9 := (hl x hxm).1)
 all_goals try refine XW.rS 5 ?_
 all_goals try refine XO.r1 7 ?_
 all_goals try (skip)
 all_goals try refine XO.r1 6 ?_
 all_goals try (skip)
 all_goals try refine XO.r1 5 ?_
 all_goals try (skip)
 all_goals try refine XO.r0 1 ?_
 all_goals try (skip)
 all_goals try refine XO.r0 1 ?_
 all_goals try (skip)
 all_goals try refine XO.r0 2 ?_
 all_goals try refine XO.done [0, 1, 5, 6, 19, 25] ?_
 all_goals try (refine XW.at 4 ?_; refine XW.wkr 4 1 ⟨[(0, .sl 3 (cnE cs)), (1, I k), (5, .osl 0 (out.length + 1) 3), (6, I (i : Nat))], [(0, some ⟨80, 3, rwE out ++ [[.sl 1 (strE x.key), .sl 1 [[I x.n]], I x.e]]⟩)]⟩ ⟨[some 0], [1, 2], ⟨by simp [srcIds], by simp [srcIds], by simp⟩, by simp, by first | (simp [wkEnv, lk, lkh, I, str, B]; done) | (simp [wkEnv, lk, lkh, I, str, B]; omega), by first | (simp [wkHp, wkHp1, wkEnt, lkh]; done) | simp [wkHp, wkHp1, wkEnt, lkh, I]⟩ ?_)
 all_goals try refine XW.ra2 4 [0, 1, 5, 6] ?_
 all_goals try (refine XH.le ?_; first | (exact hY0 (i + 1, out ++ [⟨x.key, [x.n], x.e⟩]) (⟨by simp only; omega, by simp; omega, RwB.snoc m3 (hl x hxm)⟩) (by first | omega | (simp; done) | (simp; omega)) _ _ (mkWk [some 0] [] (by simp [wkEnv, lk, lkh, I, str, B, U8, U64, U32, rwE_snoc3]; first | done | omega) (by simp [wkHp, wkHp1, wkEnt, lkh, I, str, rwE_snoc3]))))
 all_goals try (refine XW.at 6 ?_; obtain ⟨m1, m2, m3⟩ := hI0; (try simp only at m1 m2 m3); refine XW.wkr 6 0 ⟨[(1, I k), (5, .sl 3 (rwE out))], []⟩ ⟨[], [0], ⟨by simp [srcIds], by simp [srcIds], by simp⟩, by simp, by first | (simp [wkEnv, lk, lkh, I, str, B]; done) | (simp [wkEnv, lk, lkh, I, str, B]; omega), by first | (simp [wkHp, wkHp1, wkEnt, lkh]; done) | simp [wkHp, wkHp1, wkEnt, lkh, I]⟩ ?_)
 all_goals try refine XW.rS 6 ?_
 all_goals try refine XO.r0 2 ?_
 all_goals try (refine XO.p (exact43 out k m3 (by omega)) ?_; rintro _ ⟨o, rfl, o1, o2⟩)
 all_goals try refine XO.r0 1 ?_
 all_goals try refine XO.done [4] ?_
 all_goals try (refine XW.atr ?_; first | (exact XP.rs ⟨o, rfl, by omega, o2⟩))
def boC (x : Bool) : List AV := [.val (.bool x)]
def ssC (x : List S) : List AV := [.sl 1 (strE x)]
def boE (l : List Bool) : List (List AV) := l.map boC
theorem boE_len (l : List Bool) : (boE l).length = l.length := by simp [boE]
theorem boE_getE (l : List Bool) (i : Nat) : (boE l)[i]? = (l[i]?).map boC := by simp [boE]
@[simp] theorem boE_id (k : Nat) (l : List Bool) : idLtE k (boE l) = true := by
 simp only [idLtE, boE, List.all_map, List.all_eq_true]
 intro x _
 rfl
@[simp] theorem boE_st (l : List Bool) : (boE l).all (fun c => c.all storable) = true := by
 simp only [boE, List.all_map, List.all_eq_true]
 intro x _
 rfl
theorem boE_drop (l : List Bool) (i : Nat) : (boE l).drop i = boE (l.drop i) := by simp [boE]
theorem boE_take (l : List Bool) (i : Nat) : (boE l).take i = boE (l.take i) := by simp [boE]
theorem boE_ren (L : List Nat) (l : List Bool) : renCE L (boE l) = boE l := by
 simp only [renCE, boE, List.map_map]
 apply List.map_congr_left
 intro x _
 rfl
theorem boE_renE (ρ : Nat → Nat) (l : List Bool) : (boE l).map (renL ρ) = boE l := renE_noid ρ (boE_id 0 l)
theorem boE_snoc (l : List Bool) (x : Bool) : boE l ++ [[.val (.bool x)]] = boE (l ++ [x]) := by simp [boE, boC, I, str]
theorem boE_snoc' (l : List Bool) (x : Bool) : boE l ++ [boC x] = boE (l ++ [x]) := by simp [boE]
theorem boE_app (l m : List Bool) : boE l ++ boE m = boE (l ++ m) := by simp [boE]
@[simp] theorem boE_nil : boE [] = [] := rfl
theorem boE_set (l : List Bool) (i : Nat) (x : Bool) : (boE l).set i [.val (.bool x)] = boE (l.set i x) := by simp [boE, List.map_set, boC, I, str]
attribute [go_sem] boE_len boE_getE boE_drop boE_take boE_ren boE_renE boE_snoc boE_snoc' boE_app boE_set boC
def ssE (l : List (List S)) : List (List AV) := l.map ssC
theorem ssE_len (l : List (List S)) : (ssE l).length = l.length := by simp [ssE]
theorem ssE_getE (l : List (List S)) (i : Nat) : (ssE l)[i]? = (l[i]?).map ssC := by simp [ssE]
@[simp] theorem ssE_id (k : Nat) (l : List (List S)) : idLtE k (ssE l) = true := by
 simp only [idLtE, ssE, List.all_map, List.all_eq_true]
 intro x _
 rfl
@[simp] theorem ssE_st (l : List (List S)) : (ssE l).all (fun c => c.all storable) = true := by
 simp only [ssE, List.all_map, List.all_eq_true]
 intro x _
 rfl
theorem ssE_drop (l : List (List S)) (i : Nat) : (ssE l).drop i = ssE (l.drop i) := by simp [ssE]
theorem ssE_take (l : List (List S)) (i : Nat) : (ssE l).take i = ssE (l.take i) := by simp [ssE]
theorem ssE_ren (L : List Nat) (l : List (List S)) : renCE L (ssE l) = ssE l := by
 simp only [renCE, ssE, List.map_map]
 apply List.map_congr_left
 intro x _
 rfl
theorem ssE_renE (ρ : Nat → Nat) (l : List (List S)) : (ssE l).map (renL ρ) = ssE l := renE_noid ρ (ssE_id 0 l)
theorem ssE_snoc (l : List (List S)) (x : (List S)) : ssE l ++ [[.sl 1 (strE x)]] = ssE (l ++ [x]) := by simp [ssE, ssC, I, str]
theorem ssE_snoc' (l : List (List S)) (x : (List S)) : ssE l ++ [ssC x] = ssE (l ++ [x]) := by simp [ssE]
theorem ssE_app (l m : List (List S)) : ssE l ++ ssE m = ssE (l ++ m) := by simp [ssE]
@[simp] theorem ssE_nil : ssE [] = [] := rfl
theorem ssE_set (l : List (List S)) (i : Nat) (x : (List S)) : (ssE l).set i [.sl 1 (strE x)] = ssE (l.set i x) := by simp [ssE, List.map_set, ssC, I, str]
attribute [go_sem] ssE_len ssE_getE ssE_drop ssE_take ssE_ren ssE_renE ssE_snoc ssE_snoc' ssE_app ssE_set ssC
attribute [simp] boE_len ssE_len
structure Ac where
 key : List S
 vals : List Int
 has : List Bool
 sets : List (List S)
def acC (x : Ac) : List AV := [.sl 1 (strE x.key), .sl 1 (intE x.vals), .sl 1 (boE x.has), .sl 1 (ssE x.sets)]
/-- What is counted of n fields, m words at most. -/
def AcB (n m : Nat) (x : Ac) : Prop := x.key.length ≤ 2 ^ 10 ∧ (∀ k ∈ x.key, k.length ≤ 2 ^ 20) ∧ x.vals.length = n ∧ x.has.length = n ∧ x.sets.length = n ∧ (∀ y ∈ x.sets, y.length ≤ m) ∧ ∀ v ∈ x.vals, In64 v
theorem single91 (ns : List S) (ag : List Ag) (e : Ev) (hn : ns.length ≤ 2 ^ 10) (ha : ag.length ≤ 2 ^ 20) (he : EvB e) : PCall Tryz.prog 91 [.sl 1 (strE ns), .sl 2 (agE ag), .agg (evC e)] (fun r => ∃ o, r = .agg (acC o) ∧ AcB ag.length 1 o) := by
 have qk := key68 ns e he (by omega)
 have qv := fun nm => value64 e he nm
 have qn := fun nm => number65 e he nm
 simp only [evC] at qk qv qn
 all_goals refine PCall.go 87 (fn := Tryz.f91) Tryz.func91 rfl rfl rfl (by simp) rfl ?_
 all_goals try refine XW.ra0 0 [0, 1, 5, 6] ?_
 all_goals try refine XW.rS 1 ?_
 all_goals try refine XO.r0 2 ?_
 all_goals try (refine XO.p (qk) ?_; rintro _ ⟨kk, rfl, kl0, kb⟩)
 all_goals try refine XO.r0 3 ?_
 all_goals try refine XO.done [1, 5, 6, 7] ?_
 all_goals try refine XW.ra0 2 [1, 5, 6, 7, 8] ?_
 all_goals try (refine XW.lp 6 (fun s : Nat × List Int × List Bool × List (List S) => ⟨[(1, .sl 2 (agE ag)), (5, .ptr 0 10 0 0), (6, .ptr 1 4 0 0), (7, .ptr 2 4 0 0), (8, I (s.1 : Nat))], [(0, some ⟨62, 10, [evC e]⟩), (1, some ⟨143, 4, [[nilV, nilV, nilV, nilV]]⟩), (2, some ⟨143, 4, [[.sl 1 (strE kk), .osl 3 s.2.1.length 1, .osl 4 s.2.2.1.length 1, .osl 5 s.2.2.2.length 1]]⟩), (3, some ⟨3, 1, intE s.2.1⟩), (4, some ⟨4, 1, boE s.2.2.1⟩), (5, some ⟨30, 1, ssE s.2.2.2⟩)]⟩) (fun s => s.1 ≤ ag.length ∧ s.2.1.length = s.1 ∧ s.2.2.1.length = s.1 ∧ s.2.2.2.length = s.1 ∧ (∀ y ∈ s.2.2.2, y.length ≤ 1) ∧ ∀ v ∈ s.2.1, In64 v) (fun s => ag.length - s.1) (0, [], [], []) (mkWk [some 0, some 1, some 2, none, none, none] [] (by simp [wkEnv, lk, lkh, I, str, B, U8, U64, U32, evC, nilV]; first | done | omega) (by simp [wkHp, wkHp1, wkEnt, lkh, I, str, evC, nilV])) ?_; rintro ⟨i, v, b, d⟩ hI0 Y0 hY0; skip)
 all_goals try refine XW.ra0 3 [1, 5, 6, 7, 8, 24] ?_
 all_goals try first | refine XW.cT 24 ?_ | refine XW.cF 24 ?_ | refine XW.cB 24 (fun c24 => ?_) (fun c24 => ?_)
 all_goals try (refine XW.at 5 ?_; obtain ⟨m1, m2, m3, m4, m5, m6⟩ := hI0; (try simp only at m1 m2 m3 m4 m5 m6); have hi := ltC c24; obtain ⟨x, hx, hxm⟩ := getx ag i hi)
 all_goals try refine XW.ra1 5 [1, 5, 6, 7, 8, 9] ?_
 all_goals try refine XW.ra0 6 [1, 5, 6, 7, 8, 9, 10, 11] ?_
 all_goals try refine XW.ra0 7 [1, 5, 6, 7, 8, 9, 10, 11, 12] ?_
 all_goals try refine XW.rS 8 ?_
 all_goals try refine XO.r0 3 ?_
 all_goals try (refine XO.p (qn x.fld) ?_; rintro _ ⟨n, b2, rfl, hn64⟩)
 all_goals try refine XO.r0 5 ?_
 all_goals try refine XO.done [1, 5, 6, 7, 8, 9, 10, 11, 12, 13, 14] ?_
 all_goals try refine XW.ra0 9 [1, 5, 6, 7, 8, 9, 10, 11, 12, 13, 14, 39] ?_
 all_goals try refine XW.ra0 10 [1, 5, 6, 7, 8, 9, 10, 11, 12, 13, 14, 39, 40] ?_
 all_goals try first | refine XW.cT 40 ?_ | refine XW.cF 40 ?_ | refine XW.cB 40 (fun c40 => ?_) (fun c40 => ?_)
 all_goals try refine XW.ra0 11 [1, 5, 6, 7, 8, 10, 11, 12] ?_
 all_goals try refine XW.ra0 12 [1, 5, 6, 7, 8, 9, 10, 11, 12, 13, 14, 39, 44] ?_
 all_goals try first | refine XW.cT 44 ?_ | refine XW.cF 44 ?_ | refine XW.cB 44 (fun c44 => ?_) (fun c44 => ?_)
 all_goals try refine XW.ra0 13 [1, 5, 6, 7, 8, 11, 12, 13] ?_
 all_goals try refine XW.ra2 14 [1, 5, 6, 7, 8, 10, 11, 12] ?_
 all_goals try refine XW.ra0 15 [1, 5, 6, 7, 8, 9, 10, 11, 12, 13, 14, 39, 51] ?_
 all_goals try first | refine XW.cT 51 ?_ | refine XW.cF 51 ?_ | refine XW.cB 51 (fun c51 => ?_) (fun c51 => ?_)
 all_goals try refine XW.ra0 16 [1, 5, 6, 7, 8, 9, 10, 11, 12, 13, 14, 39, 51] ?_
 all_goals try first | refine XW.cT 51 ?_ | refine XW.cF 51 ?_ | refine XW.cB 51 (fun c51 => ?_) (fun c51 => ?_)
 all_goals try refine XW.ra0 17 [1, 5, 6, 7, 8, 10, 11, 12] ?_
 all_goals try refine XW.ra0 18 [1, 5, 6, 7, 8, 9, 10, 11, 12, 56] ?_
 all_goals try first | refine XW.cT 56 ?_ | refine XW.cF 56 ?_ | refine XW.cB 56 (fun c56 => ?_) (fun c56 => ?_)
 all_goals try refine XW.rS 19 ?_
 all_goals try refine XO.r0 3 ?_
 all_goals try (refine XO.p (qv x.fld) ?_; rintro _ ⟨w, b3, rfl, hw⟩)
 all_goals try refine XO.r0 5 ?_
 all_goals try refine XO.done [1, 5, 6, 7, 8, 10, 11, 12, 15, 16] ?_
 all_goals try refine XW.ra0 20 [1, 5, 6, 7, 8, 10, 11, 12, 15, 65] ?_
 all_goals try first | refine XW.cT 65 ?_ | refine XW.cF 65 ?_ | refine XW.cB 65 (fun c65 => ?_) (fun c65 => ?_)
 all_goals try refine XW.ra0 21 [1, 5, 6, 7, 8, 10, 11, 12] ?_
 all_goals try (refine XW.at 22 ?_; first | (refine XW.wkr 22 6 ⟨[(1, .sl 2 (agE ag)), (5, .ptr 0 10 0 0), (6, .ptr 1 4 0 0), (7, .ptr 2 4 0 0), (8, I (i : Nat)), (10, I (e.weight)), (11, B true), (12, .sl 1 (strE []))], [(0, some ⟨62, 10, [evC e]⟩), (1, some ⟨143, 4, [[nilV, nilV, nilV, nilV]]⟩), (2, some ⟨143, 4, [[.sl 1 (strE kk), .osl 3 v.length 1, .osl 4 b.length 1, .osl 5 d.length 1]]⟩), (3, some ⟨3, 1, intE v⟩), (4, some ⟨4, 1, boE b⟩), (5, some ⟨30, 1, ssE d⟩)]⟩ ⟨[some 0, some 1, some 2, some 3, some 4, some 5], [], ⟨by simp [srcIds], by simp [srcIds], by simp⟩, by simp, by first | (simp [wkEnv, lk, lkh, I, str, B, strE, nilV]; done) | (simp [wkEnv, lk, lkh, I, str, B, strE, nilV]; omega), by first | (simp [wkHp, wkHp1, wkEnt, lkh]; done) | simp [wkHp, wkHp1, wkEnt, lkh, I, str, B, nilV, evC]⟩ ?_) | (refine XW.wkr 22 6 ⟨[(1, .sl 2 (agE ag)), (5, .ptr 0 10 0 0), (6, .ptr 1 4 0 0), (7, .ptr 2 4 0 0), (8, I (i : Nat)), (10, I (IntKind.i64.wrap (e.weight * n))), (11, B b2), (12, .sl 1 (strE []))], [(0, some ⟨62, 10, [evC e]⟩), (1, some ⟨143, 4, [[nilV, nilV, nilV, nilV]]⟩), (2, some ⟨143, 4, [[.sl 1 (strE kk), .osl 3 v.length 1, .osl 4 b.length 1, .osl 5 d.length 1]]⟩), (3, some ⟨3, 1, intE v⟩), (4, some ⟨4, 1, boE b⟩), (5, some ⟨30, 1, ssE d⟩)]⟩ ⟨[some 0, some 1, some 2, some 3, some 4, some 5], [], ⟨by simp [srcIds], by simp [srcIds], by simp⟩, by simp, by first | (simp [wkEnv, lk, lkh, I, str, B, strE, nilV]; done) | (simp [wkEnv, lk, lkh, I, str, B, strE, nilV]; omega), by first | (simp [wkHp, wkHp1, wkEnt, lkh]; done) | simp [wkHp, wkHp1, wkEnt, lkh, I, str, B, nilV, evC]⟩ ?_) | (refine XW.wkr 22 6 ⟨[(1, .sl 2 (agE ag)), (5, .ptr 0 10 0 0), (6, .ptr 1 4 0 0), (7, .ptr 2 4 0 0), (8, I (i : Nat)), (10, I (n)), (11, B b2), (12, .sl 1 (strE []))], [(0, some ⟨62, 10, [evC e]⟩), (1, some ⟨143, 4, [[nilV, nilV, nilV, nilV]]⟩), (2, some ⟨143, 4, [[.sl 1 (strE kk), .osl 3 v.length 1, .osl 4 b.length 1, .osl 5 d.length 1]]⟩), (3, some ⟨3, 1, intE v⟩), (4, some ⟨4, 1, boE b⟩), (5, some ⟨30, 1, ssE d⟩)]⟩ ⟨[some 0, some 1, some 2, some 3, some 4, some 5], [], ⟨by simp [srcIds], by simp [srcIds], by simp⟩, by simp, by first | (simp [wkEnv, lk, lkh, I, str, B, strE, nilV]; done) | (simp [wkEnv, lk, lkh, I, str, B, strE, nilV]; omega), by first | (simp [wkHp, wkHp1, wkEnt, lkh]; done) | simp [wkHp, wkHp1, wkEnt, lkh, I, str, B, nilV, evC]⟩ ?_) | (refine XW.wkr 22 6 ⟨[(1, .sl 2 (agE ag)), (5, .ptr 0 10 0 0), (6, .ptr 1 4 0 0), (7, .ptr 2 4 0 0), (8, I (i : Nat)), (10, I (1)), (11, B true), (12, .sl 1 (strE [w]))], [(0, some ⟨62, 10, [evC e]⟩), (1, some ⟨143, 4, [[nilV, nilV, nilV, nilV]]⟩), (2, some ⟨143, 4, [[.sl 1 (strE kk), .osl 3 v.length 1, .osl 4 b.length 1, .osl 5 d.length 1]]⟩), (3, some ⟨3, 1, intE v⟩), (4, some ⟨4, 1, boE b⟩), (5, some ⟨30, 1, ssE d⟩)]⟩ ⟨[some 0, some 1, some 2, some 3, some 4, some 5], [6], ⟨by simp [srcIds], by simp [srcIds], by simp⟩, by simp, by first | (simp [wkEnv, lk, lkh, I, str, B, strE, nilV]; done) | (simp [wkEnv, lk, lkh, I, str, B, strE, nilV]; omega), by first | (simp [wkHp, wkHp1, wkEnt, lkh]; done) | simp [wkHp, wkHp1, wkEnt, lkh, I, str, B, nilV, evC]⟩ ?_) | (refine XW.wkr 22 6 ⟨[(1, .sl 2 (agE ag)), (5, .ptr 0 10 0 0), (6, .ptr 1 4 0 0), (7, .ptr 2 4 0 0), (8, I (i : Nat)), (10, I (0)), (11, B true), (12, .sl 1 (strE []))], [(0, some ⟨62, 10, [evC e]⟩), (1, some ⟨143, 4, [[nilV, nilV, nilV, nilV]]⟩), (2, some ⟨143, 4, [[.sl 1 (strE kk), .osl 3 v.length 1, .osl 4 b.length 1, .osl 5 d.length 1]]⟩), (3, some ⟨3, 1, intE v⟩), (4, some ⟨4, 1, boE b⟩), (5, some ⟨30, 1, ssE d⟩)]⟩ ⟨[some 0, some 1, some 2, some 3, some 4, some 5], [], ⟨by simp [srcIds], by simp [srcIds], by simp⟩, by simp, by first | (simp [wkEnv, lk, lkh, I, str, B, strE, nilV]; done) | (simp [wkEnv, lk, lkh, I, str, B, strE, nilV]; omega), by first | (simp [wkHp, wkHp1, wkEnt, lkh]; done) | simp [wkHp, wkHp1, wkEnt, lkh, I, str, B, nilV, evC]⟩ ?_))
 all_goals try refine XW.rS 22 ?_
 all_goals try refine XO.r0 5 ?_
 all_goals try (skip)
 all_goals try refine XO.r0 5 ?_
 all_goals try (skip)
 all_goals try refine XO.r0 5 ?_
 all_goals try (skip)
 all_goals try refine XO.r0 6 ?_
 all_goals try refine XO.done [1, 5, 6, 7, 8] ?_
 all_goals try refine XW.ra2 4 [1, 5, 6, 7, 8] ?_
 all_goals try (refine XH.le ?_; first | (refine hY0 (i + 1, v ++ [e.weight], b ++ [true], d ++ [[]]) ?_ ?_ _ _ (mkWk [some 0, some 1, some 2, some 3, some 4, some 5] [] ?_ ?_); (next => exact ⟨by simp only; omega, by simp; omega, by simp; omega, by simp; omega, mem_snoc m5 (by simp), mem_snoc m6 (by first | exact In64w _ | exact he.wt | exact hn64 | exact In64z | exact In64o)⟩); (next => first | omega | (simp; done) | (simp; omega)); (next => simp [wkEnv, lk, lkh, I, str, B, U8, U64, U32, evC, nilV]; first | done | omega); (next => simp [wkHp, wkHp1, wkEnt, lkh, I, str, evC, nilV])) | (refine hY0 (i + 1, v ++ [IntKind.i64.wrap (e.weight * n)], b ++ [b2], d ++ [[]]) ?_ ?_ _ _ (mkWk [some 0, some 1, some 2, some 3, some 4, some 5] [] ?_ ?_); (next => exact ⟨by simp only; omega, by simp; omega, by simp; omega, by simp; omega, mem_snoc m5 (by simp), mem_snoc m6 (by first | exact In64w _ | exact he.wt | exact hn64 | exact In64z | exact In64o)⟩); (next => first | omega | (simp; done) | (simp; omega)); (next => simp [wkEnv, lk, lkh, I, str, B, U8, U64, U32, evC, nilV]; first | done | omega); (next => simp [wkHp, wkHp1, wkEnt, lkh, I, str, evC, nilV])) | (refine hY0 (i + 1, v ++ [n], b ++ [b2], d ++ [[]]) ?_ ?_ _ _ (mkWk [some 0, some 1, some 2, some 3, some 4, some 5] [] ?_ ?_); (next => exact ⟨by simp only; omega, by simp; omega, by simp; omega, by simp; omega, mem_snoc m5 (by simp), mem_snoc m6 (by first | exact In64w _ | exact he.wt | exact hn64 | exact In64z | exact In64o)⟩); (next => first | omega | (simp; done) | (simp; omega)); (next => simp [wkEnv, lk, lkh, I, str, B, U8, U64, U32, evC, nilV]; first | done | omega); (next => simp [wkHp, wkHp1, wkEnt, lkh, I, str, evC, nilV])) | (refine hY0 (i + 1, v ++ [1], b ++ [true], d ++ [[w]]) ?_ ?_ _ _ (mkWk [some 0, some 1, some 2, some 3, some 4, some 5] [] ?_ ?_); (next => exact ⟨by simp only; omega, by simp; omega, by simp; omega, by simp; omega, mem_snoc m5 (by simp), mem_snoc m6 (by first | exact In64w _ | exact he.wt | exact hn64 | exact In64z | exact In64o)⟩); (next => first | omega | (simp; done) | (simp; omega)); (next => simp [wkEnv, lk, lkh, I, str, B, U8, U64, U32, evC, nilV]; first | done | omega); (next => simp [wkHp, wkHp1, wkEnt, lkh, I, str, evC, nilV])) | (refine hY0 (i + 1, v ++ [0], b ++ [true], d ++ [[]]) ?_ ?_ _ _ (mkWk [some 0, some 1, some 2, some 3, some 4, some 5] [] ?_ ?_); (next => exact ⟨by simp only; omega, by simp; omega, by simp; omega, by simp; omega, mem_snoc m5 (by simp), mem_snoc m6 (by first | exact In64w _ | exact he.wt | exact hn64 | exact In64z | exact In64o)⟩); (next => first | omega | (simp; done) | (simp; omega)); (next => simp [wkEnv, lk, lkh, I, str, B, U8, U64, U32, evC, nilV]; first | done | omega); (next => simp [wkHp, wkHp1, wkEnt, lkh, I, str, evC, nilV])))
 all_goals try (refine XW.at 23 ?_; obtain ⟨m1, m2, m3, m4, m5, m6⟩ := hI0; (try simp only at m1 m2 m3 m4 m5 m6); have kl : kk.length ≤ 2 ^ 10 := (by omega); have h9 := geC c24)
 all_goals try refine XW.ra0 23 [6] ?_
 all_goals try (refine XW.atr ?_; first | (exact XP.ret [1, 2, 3] (.agg (acC ⟨kk, v, b, d⟩)) ⟨_, rfl, kl, kb, by simp only; omega, by simp only; omega, by simp only; omega, m5, m6⟩ (hwk := by simp [resOf, lk, lkh, acC])))
end Go.Proofs.YtffchapiaampmaaGreatDoor
