/-
  Part 39 of the proof that logtidelaw45.ConsoleAnswer returns true for every list of bytes and every text, and leaves both as they were.
-/
import Derived.Test.YtffchapiaampmaaGreatDoorA17
import Derived.Test.YtffchapiaampmaaGreatDoorA36
import Derived.Test.YtffchapiaampmaaGreatDoorA38
set_option linter.unusedSimpArgs false
set_option linter.unusedVariables false
namespace Go.Proofs.YtffchapiaampmaaGreatDoor
open Go.Av
set_option maxHeartbeats 4000000
set_option maxRecDepth 10000
attribute [local irreducible] XH XO PCall ACall
attribute [go_sem] qyC
theorem tz_c : tsC tz = [.val (.int .i64 0), .val (.string ⟨#[]⟩), .val (.string ⟨#[]⟩), .val (.int .i64 0), .sl 5 []] := by rw [tsC_c]; rfl
theorem unused56 (q : Qy) (h : QyS q) : PCall Tryz.prog 56 [.agg (qyC q)] (fun r => ∃ b, r = B b) := by
 have qz := zeroTest54 tz
 simp only [tz_c] at qz
 rcases h with ⟨t, sg, lim, last, rfl⟩ | ⟨t, sg, ns, ag, rfl⟩ | ⟨t, sg, lim, ns, ag, sk, rfl⟩ | ⟨t, sg, lim, o, key, w, rfl⟩ <;> simp only [qyC, tz_c]
 all_goals refine PCall.go 76 (fn := Tryz.f56) Tryz.func56 rfl rfl rfl (by simp) rfl ?_
 all_goals try refine XW.ra0 0 [1] ?_
 all_goals try refine XW.rS 1 ?_
 all_goals try refine XO.r0 4 ?_
 all_goals try first | refine XO.kT 7 ?_ | refine XO.kF 7 ?_ | refine XO.split 7 (fun g7 => ?_) (fun g7 => ?_)
 all_goals try refine XO.r0 5 ?_
 all_goals try refine XO.done [1, 3] ?_
 all_goals try refine XW.rL 2 ?_
 all_goals try refine XO.r0 4 ?_
 all_goals try first | refine XO.kT 15 ?_ | refine XO.kF 15 ?_ | refine XO.split 15 (fun g15 => ?_) (fun g15 => ?_)
 all_goals try refine XO.r0 5 ?_
 all_goals try first | refine XO.kT 20 ?_ | refine XO.kF 20 ?_ | refine XO.split 20 (fun g20 => ?_) (fun g20 => ?_)
 all_goals try refine XO.r0 3 ?_
 all_goals try first | refine XO.kT 23 ?_ | refine XO.kF 23 ?_ | refine XO.split 23 (fun g23 => ?_) (fun g23 => ?_)
 all_goals try refine XO.r0 6 ?_
 all_goals try first | refine XO.kT 29 ?_ | refine XO.kF 29 ?_ | refine XO.split 29 (fun g29 => ?_) (fun g29 => ?_)
 all_goals try refine XO.r0 3 ?_
 all_goals try first | refine XO.kT 32 ?_ | refine XO.kF 32 ?_ | refine XO.split 32 (fun g32 => ?_) (fun g32 => ?_)
 all_goals try refine XO.r0 5 ?_
 all_goals try first | refine XO.kT 37 ?_ | refine XO.kF 37 ?_ | refine XO.split 37 (fun g37 => ?_) (fun g37 => ?_)
 all_goals try refine XO.r0 8 ?_
 all_goals try first | refine XO.kT 45 ?_ | refine XO.kF 45 ?_ | refine XO.split 45 (fun g45 => ?_) (fun g45 => ?_)
 all_goals try refine XO.r0 4 ?_
 all_goals try first | refine XO.kT 49 ?_ | refine XO.kF 49 ?_ | refine XO.split 49 (fun g49 => ?_) (fun g49 => ?_)
 all_goals try refine XO.r0 6 ?_
 all_goals try first | refine XO.kT 55 ?_ | refine XO.kF 55 ?_ | refine XO.split 55 (fun g55 => ?_) (fun g55 => ?_)
 all_goals try refine XO.r0 4 ?_
 all_goals try first | refine XO.kT 59 ?_ | refine XO.kF 59 ?_ | refine XO.split 59 (fun g59 => ?_) (fun g59 => ?_)
 all_goals try refine XO.r0 2 ?_
 all_goals try first | (refine XO.p (qz) ?_; rintro _ ⟨_, rfl⟩) | refine XO.r0 1 ?_
 all_goals try refine XO.r0 2 ?_
 all_goals try first | refine XO.kT 64 ?_ | refine XO.kF 64 ?_ | refine XO.split 64 (fun g64 => ?_) (fun g64 => ?_)
 all_goals try refine XO.r0 5 ?_
 all_goals try first | refine XO.kT 69 ?_ | refine XO.kF 69 ?_ | refine XO.split 69 (fun g69 => ?_) (fun g69 => ?_)
 all_goals try refine XO.r0 7 ?_
 all_goals try refine XO.done [2] ?_
 all_goals try (refine XW.atr ?_; first | (exact XP.rs ⟨_, rfl⟩))
theorem tables58 (q : Qy) (h1 : q.names.length ≤ 2 ^ 20) (h2 : q.aggs.length ≤ 2 ^ 20) (h3 : ∀ x ∈ q.names, x.length ≤ 2 ^ 30) (h4 : ∀ x ∈ q.aggs, x.fld.length ≤ 2 ^ 30) : PCall Tryz.prog 58 [.agg (qyC q)] (fun r => ∃ n : Int, r = I n) := by
 all_goals refine PCall.go 136 (fn := Tryz.f58) Tryz.func58 rfl rfl rfl (by simp) rfl ?_
 all_goals try refine XW.ra0 0 [1] ?_
 all_goals try refine XW.rS 1 ?_
 all_goals try refine XO.r0 5 ?_
 all_goals try first | refine XO.kT 13 ?_ | refine XO.kF 13 ?_ | refine XO.split 13 (fun g13 => ?_) (fun g13 => ?_)
 all_goals try refine XO.r0 5 ?_
 all_goals try refine XO.done [1, 18] ?_
 all_goals try first | refine XW.cT 18 ?_ | refine XW.cF 18 ?_ | refine XW.cB 18 (fun c18 => ?_) (fun c18 => ?_)
 all_goals try refine XW.ra0 2 [2] ?_
 all_goals try (refine XW.atr ?_; first | (exact XP.rs ⟨_, rfl⟩))
 all_goals try refine XW.rS 3 ?_
 all_goals try refine XO.r0 5 ?_
 all_goals try first | refine XO.kT 23 ?_ | refine XO.kF 23 ?_ | refine XO.split 23 (fun g23 => ?_) (fun g23 => ?_)
 all_goals try refine XO.r0 5 ?_
 all_goals try refine XO.done [1, 28] ?_
 all_goals try first | refine XW.cT 28 ?_ | refine XW.cF 28 ?_ | refine XW.cB 28 (fun c28 => ?_) (fun c28 => ?_)
 all_goals try refine XW.ra0 4 [2] ?_
 all_goals try (refine XW.atr ?_; first | (exact XP.rs ⟨_, rfl⟩))
 all_goals try refine XW.ra0 5 [1, 3] ?_
 all_goals try (refine XW.lp 1 (fun i : Nat => ⟨[(1, .ptr 0 19 0 0), (3, I (i : Nat))], [(0, some ⟨33, 19, [qyC q]⟩)]⟩) (fun i => i ≤ q.names.length) (fun i => q.names.length - i) 0 (mkWk [some 0] [] (by simp [wkEnv, lk, lkh, I, str, B, U8, U64, U32, qyC, tsC_c, B]; first | done | omega) (by simp [wkHp, wkHp1, wkEnt, lkh, I, str, qyC, tsC_c, B])) ?_; rintro i hI0 Y0 hY0; skip)
 all_goals try refine XW.ra0 6 [1, 3, 33] ?_
 all_goals try first | refine XW.cT 33 ?_ | refine XW.cF 33 ?_ | refine XW.cB 33 (fun c33 => ?_) (fun c33 => ?_)
 all_goals try (refine XW.at 8 ?_; have hi := ltC c33; obtain ⟨x, hx, hxm⟩ := getx q.names i hi)
 all_goals try refine XW.rS 8 ?_
 all_goals try refine XO.r1 5 ?_
 all_goals try (refine XO.p (goodName57 x (h3 x hxm)) ?_; rintro _ ⟨_, rfl⟩)
 all_goals try refine XO.r0 1 ?_
 all_goals try refine XO.done [1, 3, 42] ?_
 all_goals try first | refine XW.cT 42 ?_ | refine XW.cF 42 ?_ | refine XW.cB 42 (fun c42 => ?_) (fun c42 => ?_)
 all_goals try refine XW.ra0 9 [2] ?_
 all_goals try (refine XW.atr ?_; first | (exact XP.rs ⟨_, rfl⟩))
 all_goals try refine XW.ra2 7 [1, 3] ?_
 all_goals try (refine XH.le ?_; first | (exact eY hY0 (i + 1) (mkWk [some 0] [] (by simp [wkEnv, lk, lkh, I, str, B, U8, U64, U32, qyC, tsC_c, B]; first | done | omega) (by simp [wkHp, wkHp1, wkEnt, lkh, I, str, qyC, tsC_c, B]))))
 all_goals try refine XW.ra0 10 [1, 4] ?_
 all_goals try (refine XW.lp 1 (fun j : Nat => ⟨[(1, .ptr 0 19 0 0), (4, I (j : Nat))], [(0, some ⟨33, 19, [qyC q]⟩)]⟩) (fun j => j ≤ q.aggs.length) (fun j => q.aggs.length - j) 0 (mkWk [some 0] [] (by simp [wkEnv, lk, lkh, I, str, B, U8, U64, U32, qyC, tsC_c, B]; first | done | omega) (by simp [wkHp, wkHp1, wkEnt, lkh, I, str, qyC, tsC_c, B])) ?_; rintro j hI1 Y1 hY1; skip)
 all_goals try refine XW.ra0 11 [1, 4, 47] ?_
 all_goals try first | refine XW.cT 47 ?_ | refine XW.cF 47 ?_ | refine XW.cB 47 (fun c47 => ?_) (fun c47 => ?_)
 all_goals try (refine XW.at 13 ?_; have hj := ltC c47; obtain ⟨y, hx, hym⟩ := getx q.aggs j hj)
 all_goals try refine XW.ra1 13 [1, 4, 5] ?_
 all_goals try refine XW.rS 14 ?_
 all_goals try refine XO.r0 4 ?_
 all_goals try first | refine XO.kT 58 ?_ | refine XO.kF 58 ?_ | refine XO.split 58 (fun g58 => ?_) (fun g58 => ?_)
 all_goals try refine XO.r0 5 ?_
 all_goals try first | refine XO.kT 63 ?_ | refine XO.kF 63 ?_ | refine XO.split 63 (fun g63 => ?_) (fun g63 => ?_)
 all_goals try refine XO.r0 4 ?_
 all_goals try first | refine XO.kT 67 ?_ | refine XO.kF 67 ?_ | refine XO.split 67 (fun g67 => ?_) (fun g67 => ?_)
 all_goals try refine XO.r0 2 ?_
 all_goals try first | (refine XO.p (goodName57 y.fld (h4 y hym)) ?_; rintro _ ⟨_, rfl⟩) | refine XO.r0 1 ?_
 all_goals try refine XO.r0 3 ?_
 all_goals try refine XO.done [1, 4, 73] ?_
 all_goals try first | refine XW.cT 73 ?_ | refine XW.cF 73 ?_ | refine XW.cB 73 (fun c73 => ?_) (fun c73 => ?_)
 all_goals try refine XW.ra0 15 [2] ?_
 all_goals try (refine XW.atr ?_; first | (exact XP.rs ⟨_, rfl⟩))
 all_goals try refine XW.ra2 12 [1, 4] ?_
 all_goals try (refine XH.le ?_; first | (exact eY hY1 (j + 1) (mkWk [some 0] [] (by simp [wkEnv, lk, lkh, I, str, B, U8, U64, U32, qyC, tsC_c, B]; first | done | omega) (by simp [wkHp, wkHp1, wkEnt, lkh, I, str, qyC, tsC_c, B]))))
 all_goals try refine XW.ra0 16 [1, 6] ?_
 all_goals try (refine XW.lp 1 (fun k : Nat => ⟨[(1, .ptr 0 19 0 0), (6, I (k : Nat))], [(0, some ⟨33, 19, [qyC q]⟩)]⟩) (fun k => k ≤ q.aggs.length) (fun k => q.aggs.length - k) 0 (mkWk [some 0] [] (by simp [wkEnv, lk, lkh, I, str, B, U8, U64, U32, qyC, tsC_c, B]; first | done | omega) (by simp [wkHp, wkHp1, wkEnt, lkh, I, str, qyC, tsC_c, B])) ?_; rintro k hI2 Y2 hY2; skip)
 all_goals try refine XW.ra0 17 [1, 6, 78] ?_
 all_goals try first | refine XW.cT 78 ?_ | refine XW.cF 78 ?_ | refine XW.cB 78 (fun c78 => ?_) (fun c78 => ?_)
 all_goals try (refine XW.at 19 ?_; have hk := ltC c78; obtain ⟨z, hx, hzm⟩ := getx q.aggs k hk)
 all_goals try refine XW.ra1 19 [1, 6, 7] ?_
 all_goals try refine XW.rS 20 ?_
 all_goals try refine XO.r0 3 ?_
 all_goals try first | refine XO.kT 89 ?_ | refine XO.kF 89 ?_ | refine XO.split 89 (fun g89 => ?_) (fun g89 => ?_)
 all_goals try refine XO.r0 3 ?_
 all_goals try refine XO.done [1, 6, 92] ?_
 all_goals try first | refine XW.cT 92 ?_ | refine XW.cF 92 ?_ | refine XW.cB 92 (fun c92 => ?_) (fun c92 => ?_)
 all_goals try refine XW.ra0 21 [2] ?_
 all_goals try (refine XW.atr ?_; first | (exact XP.rs ⟨_, rfl⟩))
 all_goals try refine XW.ra2 18 [1, 6] ?_
 all_goals try (refine XH.le ?_; first | (exact eY hY2 (k + 1) (mkWk [some 0] [] (by simp [wkEnv, lk, lkh, I, str, B, U8, U64, U32, qyC, tsC_c, B]; first | done | omega) (by simp [wkHp, wkHp1, wkEnt, lkh, I, str, qyC, tsC_c, B]))))
 all_goals try refine XW.ra0 22 [1, 95] ?_
 all_goals try first | refine XW.cT 95 ?_ | refine XW.cF 95 ?_ | refine XW.cB 95 (fun c95 => ?_) (fun c95 => ?_)
 all_goals try refine XW.ra0 23 [2] ?_
 all_goals try (refine XW.atr ?_; first | (exact XP.rs ⟨_, rfl⟩))
 all_goals try refine XW.ra0 24 [1, 99] ?_
 all_goals try first | refine XW.cT 99 ?_ | refine XW.cF 99 ?_ | refine XW.cB 99 (fun c99 => ?_) (fun c99 => ?_)
 all_goals try refine XW.ra0 25 [2] ?_
 all_goals try (refine XW.atr ?_; first | (exact XP.rs ⟨_, rfl⟩))
 all_goals try (refine XW.at 26 ?_; have hl := neC c99; obtain ⟨z, hx, hzm⟩ := getx q.aggs 0 (by omega))
 all_goals try refine XW.ra1 26 [1, 8] ?_
 all_goals try refine XW.rS 27 ?_
 all_goals try refine XO.r0 3 ?_
 all_goals try first | refine XO.kT 107 ?_ | refine XO.kF 107 ?_ | refine XO.split 107 (fun g107 => ?_) (fun g107 => ?_)
 all_goals try refine XO.r0 3 ?_
 all_goals try first | refine XO.kT 110 ?_ | refine XO.kF 110 ?_ | refine XO.split 110 (fun g110 => ?_) (fun g110 => ?_)
 all_goals try refine XO.r0 6 ?_
 all_goals try first | refine XO.kT 116 ?_ | refine XO.kF 116 ?_ | refine XO.split 116 (fun g116 => ?_) (fun g116 => ?_)
 all_goals try refine XO.r0 5 ?_
 all_goals try first | refine XO.kT 121 ?_ | refine XO.kF 121 ?_ | refine XO.split 121 (fun g121 => ?_) (fun g121 => ?_)
 all_goals try refine XO.r0 5 ?_
 all_goals try first | refine XO.kT 126 ?_ | refine XO.kF 126 ?_ | refine XO.split 126 (fun g126 => ?_) (fun g126 => ?_)
 all_goals try refine XO.r0 5 ?_
 all_goals try first | refine XO.kT 131 ?_ | refine XO.kF 131 ?_ | refine XO.split 131 (fun g131 => ?_) (fun g131 => ?_)
 all_goals try refine XO.r0 4 ?_
 all_goals try refine XO.done [135] ?_
 all_goals try first | refine XW.cT 135 ?_ | refine XW.cF 135 ?_ | refine XW.cB 135 (fun c135 => ?_) (fun c135 => ?_)
 all_goals try refine XW.ra0 28 [2] ?_
 all_goals try (refine XW.atr ?_; first | (exact XP.rs ⟨_, rfl⟩))
 all_goals try refine XW.ra0 29 [2] ?_
 all_goals try (refine XW.atr ?_; first | (exact XP.rs ⟨_, rfl⟩))
def prC (x : Ev × Ev) : List AV := evC x.1 ++ evC x.2
def prE (l : List (Ev × Ev)) : List (List AV) := l.map prC
theorem prE_len (l : List (Ev × Ev)) : (prE l).length = l.length := by simp [prE]
theorem prE_getE (l : List (Ev × Ev)) (i : Nat) : (prE l)[i]? = (l[i]?).map prC := by simp [prE]
@[simp] theorem prE_id (k : Nat) (l : List (Ev × Ev)) : idLtE k (prE l) = true := by
 simp only [idLtE, prE, List.all_map, List.all_eq_true]
 intro x _
 rfl
@[simp] theorem prE_st (l : List (Ev × Ev)) : (prE l).all (fun c => c.all storable) = true := by
 simp only [prE, List.all_map, List.all_eq_true]
 intro x _
 rfl
theorem prE_drop (l : List (Ev × Ev)) (i : Nat) : (prE l).drop i = prE (l.drop i) := by simp [prE]
theorem prE_take (l : List (Ev × Ev)) (i : Nat) : (prE l).take i = prE (l.take i) := by simp [prE]
theorem prE_ren (L : List Nat) (l : List (Ev × Ev)) : renCE L (prE l) = prE l := by
 simp only [renCE, prE, List.map_map]
 apply List.map_congr_left
 intro x _
 rfl
theorem prE_renE (ρ : Nat → Nat) (l : List (Ev × Ev)) : (prE l).map (renL ρ) = prE l := renE_noid ρ (prE_id 0 l)
theorem prE_snoc (l : List (Ev × Ev)) (x : (Ev × Ev)) : prE l ++ [[.val (.int .i64 x.1.host), .val (.int .i64 x.1.file), .val (.int .i64 x.1.frm), .val (.int .i64 x.1.to), .sl 3 (lnE x.1.lines), .val (.int .i64 x.1.time), .val (.int .i64 x.1.weight), .val (.string ⟨x.1.trace.toArray⟩), .val (.string ⟨x.1.stream.toArray⟩), .sl 2 (flE x.1.fields), .val (.int .i64 x.2.host), .val (.int .i64 x.2.file), .val (.int .i64 x.2.frm), .val (.int .i64 x.2.to), .sl 3 (lnE x.2.lines), .val (.int .i64 x.2.time), .val (.int .i64 x.2.weight), .val (.string ⟨x.2.trace.toArray⟩), .val (.string ⟨x.2.stream.toArray⟩), .sl 2 (flE x.2.fields)]] = prE (l ++ [x]) := by simp [prE, prC, evC, I, str]
theorem prE_snoc' (l : List (Ev × Ev)) (x : (Ev × Ev)) : prE l ++ [prC x] = prE (l ++ [x]) := by simp [prE]
theorem prE_app (l m : List (Ev × Ev)) : prE l ++ prE m = prE (l ++ m) := by simp [prE]
@[simp] theorem prE_nil : prE [] = [] := rfl
theorem prE_set (l : List (Ev × Ev)) (i : Nat) (x : (Ev × Ev)) : (prE l).set i [.val (.int .i64 x.1.host), .val (.int .i64 x.1.file), .val (.int .i64 x.1.frm), .val (.int .i64 x.1.to), .sl 3 (lnE x.1.lines), .val (.int .i64 x.1.time), .val (.int .i64 x.1.weight), .val (.string ⟨x.1.trace.toArray⟩), .val (.string ⟨x.1.stream.toArray⟩), .sl 2 (flE x.1.fields), .val (.int .i64 x.2.host), .val (.int .i64 x.2.file), .val (.int .i64 x.2.frm), .val (.int .i64 x.2.to), .sl 3 (lnE x.2.lines), .val (.int .i64 x.2.time), .val (.int .i64 x.2.weight), .val (.string ⟨x.2.trace.toArray⟩), .val (.string ⟨x.2.stream.toArray⟩), .sl 2 (flE x.2.fields)] = prE (l.set i x) := by simp [prE, List.map_set, prC, evC, I, str]
attribute [go_sem] prE_len prE_getE prE_drop prE_take prE_ren prE_renE prE_snoc prE_snoc' prE_app prE_set prC
theorem gt0T {a : Int} (h : decide (a > 0) = true) : ∃ n : Nat, a = n := by
 have := of_decide_eq_true h
 exact ⟨a.toNat, by omega⟩
theorem takeM {α : Type} {l : List α} {n : Nat} {x : α} (h : x ∈ l.take n) : x ∈ l := List.mem_of_mem_take h
theorem mem_sub {α : Type} {l out : List α} {x : α} (h : ∀ y ∈ out, y ∈ l) (hx : x ∈ l) : ∀ y ∈ out ++ [x], y ∈ l := mem_snoc h hx
theorem limit38 (l : List (Ev × Ev)) (n : Int) (hl : l.length ≤ 2 ^ 30) : PCall Tryz.prog 38 [.sl 20 (prE l), I n] (fun r => ∃ out : List (Ev × Ev), r = .sl 20 (prE out) ∧ out.length ≤ l.length ∧ ∀ e ∈ out, e ∈ l) := by
 all_goals refine PCall.go 17 (fn := Tryz.f38) Tryz.func38 rfl rfl rfl (by simp) rfl ?_
 all_goals try refine XW.ra0 0 [0, 1] ?_
 all_goals try refine XW.rS 1 ?_
 all_goals try refine XO.r0 3 ?_
 all_goals try first | refine XO.kT 7 ?_ | refine XO.kF 7 ?_ | refine XO.split 7 (fun g7 => ?_) (fun g7 => ?_)
 all_goals try refine XO.r0 5 ?_
 all_goals try refine XO.done [0, 1, 12] ?_
 all_goals try first | refine XW.cT 12 ?_ | refine XW.cF 12 ?_ | refine XW.cB 12 (fun c12 => ?_) (fun c12 => ?_)
 all_goals try (refine XW.at 2 ?_; obtain ⟨m, rfl⟩ := gt0T g7; have hx := ltC c12)
 all_goals try refine XW.ra3 2 [4] ?_
 all_goals try (refine XW.atr ?_; first | (exact XP.rs ⟨l.take m, rfl, by simp; omega, fun _ h => takeM h⟩) | (exact XP.rs ⟨l, rfl, by omega, fun _ h => h⟩))
 all_goals try refine XW.ra0 3 [4] ?_
 all_goals try (refine XW.atr ?_; first | (exact XP.rs ⟨l.take m, rfl, by simp; omega, fun _ h => takeM h⟩) | (exact XP.rs ⟨l, rfl, by omega, fun _ h => h⟩))
theorem events36 (q : Qy) (l : List Ev) (hl : l.length ≤ 2 ^ 20) : PCall Tryz.prog 36 [.agg (qyC q), .sl 10 (evE l)] (fun r => ∃ out : List Ev, r = .sl 10 (evE out) ∧ out.length ≤ l.length ∧ ∀ e ∈ out, e ∈ l) := by
 simp only [qyC, tsC_c]
 all_goals refine PCall.go 45 (fn := Tryz.f36) Tryz.func36 rfl rfl rfl (by simp) rfl ?_
 all_goals try refine XW.ra0 0 [1, 2] ?_
 all_goals try refine XW.ra0 1 [1, 2, 5] ?_
 all_goals try refine XW.ra0 2 [1, 2, 5, 6] ?_
 all_goals try (refine XW.lp 2 (fun s : Nat × List Ev => ⟨[(1, .sl 10 (evE l)), (2, .ptr 0 19 0 0), (5, .osl 1 s.2.length 10), (6, I (s.1 : Nat))], [(0, some ⟨33, 19, [qyC q]⟩), (1, some ⟨62, 10, evE s.2⟩)]⟩) (fun s => s.1 ≤ l.length ∧ s.2.length = s.1 ∧ ∀ e ∈ s.2, e ∈ l) (fun s => l.length - s.1) (0, []) (mkWk [some 0, none] [] (by simp [wkEnv, lk, lkh, I, str, B, U8, U64, U32, qyC, tsC_c, B]; first | done | omega) (by simp [wkHp, wkHp1, wkEnt, lkh, I, str, qyC, tsC_c, B])) ?_; rintro ⟨i, out⟩ hI0 Y0 hY0; skip)
 all_goals try refine XW.rS 3 ?_
 all_goals try refine XO.r0 5 ?_
 all_goals try first | refine XO.kT 11 ?_ | refine XO.kF 11 ?_ | refine XO.split 11 (fun g11 => ?_) (fun g11 => ?_)
 all_goals try refine XO.r0 4 ?_
 all_goals try first | refine XO.kT 15 ?_ | refine XO.kF 15 ?_ | refine XO.split 15 (fun g15 => ?_) (fun g15 => ?_)
 all_goals try refine XO.r0 6 ?_
 all_goals try refine XO.done [1, 2, 5, 6, 21] ?_
 all_goals try first | refine XW.cT 21 ?_ | refine XW.cF 21 ?_ | refine XW.cB 21 (fun c21 => ?_) (fun c21 => ?_)
 all_goals try refine XW.ra0 5 [1, 2, 5, 6, 25] ?_
 all_goals try first | refine XW.cT 25 ?_ | refine XW.cF 25 ?_ | refine XW.cB 25 (fun c25 => ?_) (fun c25 => ?_)
 all_goals try (refine XW.at 6 ?_; obtain ⟨m1, m2, m3⟩ := hI0; simp only at m1 m2 m3; have hi := ltC g11; obtain ⟨x, hx, hxm⟩ := getx l (l.length - 1 - i) (by omega); have hz : (l.length : Int) - 1 - (i : Int) = ((l.length - 1 - i : Nat) : Int) := by omega)
 all_goals try refine XW.rS 6 ?_
 all_goals try refine XO.r3 7 ?_
 all_goals try (rw [hz])
 all_goals try refine XO.r3 5 ?_
 all_goals try refine XO.done [1, 2, 5, 6] ?_
 all_goals try (refine XW.at 7 ?_; obtain ⟨m1, m2, m3⟩ := hI0; simp only at m1 m2 m3; have hi := ltC g11; obtain ⟨x, hx, hxm⟩ := getx l i hi)
 all_goals try refine XW.ra1 7 [1, 2, 5, 6] ?_
 all_goals try refine XW.ra2 4 [1, 2, 5, 6] ?_
 all_goals try (refine XH.le ?_; first | (exact hY0 (i + 1, out ++ [x]) (⟨by simp only; omega, by simp only [List.length_append, List.length_singleton]; omega, mem_snoc m3 hxm⟩) (by first | omega | (simp; done) | (simp; omega)) _ _ (mkWk [some 0, some 1] [] (by simp [wkEnv, lk, lkh, I, str, B, U8, U64, U32, qyC, tsC_c, B]; first | done | omega) (by simp [wkHp, wkHp1, wkEnt, lkh, I, str, qyC, tsC_c, B]))))
 all_goals try (refine XW.at 8 ?_; obtain ⟨m1, m2, m3⟩ := hI0; simp only at m1 m2 m3)
 all_goals try refine XW.ra0 8 [4] ?_
 all_goals try (refine XW.atr ?_; first | (exact XP.ro ⟨out, rfl, by omega, m3⟩))
theorem setM {α : Type} {l : List α} {x : α} (i j n : Nat) : ∀ y ∈ l.take i ++ [x] ++ (l.take n).drop j, y ∈ l ∨ y = x := by
 intro y hy
 simp only [List.mem_append, List.mem_singleton] at hy
 rcases hy with (h | h) | h
 · exact .inl (List.mem_of_mem_take h)
 · exact .inr h
 · exact .inl (List.mem_of_mem_take (List.mem_of_mem_drop h))
theorem setN {α : Type} {l : List α} {x : α} (i j n : Nat) (h : i ≤ j) : (l.take i ++ [x] ++ (l.take n).drop j).length ≤ l.length + 1 := by
 simp; omega
theorem set83 (fs : List Fl) (f : Fl) (hn : fs.length ≤ 2 ^ 30) : PCall Tryz.prog 83 [.sl 2 (flE fs), .agg (flC f)] (fun r => ∃ out : List Fl, r = .sl 2 (flE out) ∧ out.length ≤ fs.length + 1 ∧ ∀ y ∈ out, y ∈ fs ∨ y = f) := by
 all_goals refine PCall.go 52 (fn := Tryz.f83) Tryz.func83 rfl rfl rfl (by simp) rfl ?_
 all_goals try refine XW.ra0 0 [0, 3] ?_
 all_goals try refine XW.ra0 1 [0, 3, 5] ?_
 all_goals try (refine XW.lp 1 (fun i : Nat => ⟨[(0, .sl 2 (flE fs)), (3, .ptr 0 2 0 0), (5, I (i : Nat))], [(0, some ⟨149, 2, [flC f]⟩)]⟩) (fun i => i ≤ fs.length) (fun i => fs.length - i) 0 (mkWk [some 0] [] (by simp [wkEnv, lk, lkh, I, str, B, U8, U64, U32, flC]; first | done | omega) (by simp [wkHp, wkHp1, wkEnt, lkh, I, str, flC])) ?_; rintro i hI0 Y0 hY0; skip)
 all_goals try refine XW.rS 2 ?_
 all_goals try refine XO.r0 5 ?_
 all_goals try first | refine XO.kT 11 ?_ | refine XO.kF 11 ?_ | refine XO.split 11 (fun g11 => ?_) (fun g11 => ?_)
 all_goals try (have hi := ltC g11; obtain ⟨x, hx, hxm⟩ := getx fs i hi)
 all_goals try refine XO.r1 9 ?_
 all_goals try refine XO.done [0, 3, 5, 20] ?_
 all_goals try first | refine XW.cT 20 ?_ | refine XW.cF 20 ?_ | refine XW.cB 20 (fun c20 => ?_) (fun c20 => ?_)
 all_goals try (refine XW.at 3 ?_; have hi := ltC g11)
 all_goals try refine XW.ra2 3 [0, 3, 5] ?_
 all_goals try (refine XH.le ?_; first | (exact eY hY0 (i + 1) (mkWk [some 0] [] (by simp [wkEnv, lk, lkh, I, str, B, U8, U64, U32, flC]; first | done | omega) (by simp [wkHp, wkHp1, wkEnt, lkh, I, str, flC]))))
 all_goals try (refine XW.at 4 ?_; have hx := hI0)
 all_goals try refine XW.ra3 4 [0, 3, 5, 6] ?_
 all_goals try refine XW.ra0 5 [0, 3, 5, 6] ?_
 all_goals try refine XW.rS 6 ?_
 all_goals try refine XO.r0 5 ?_
 all_goals try first | refine XO.kT 35 ?_ | refine XO.kF 35 ?_ | refine XO.split 35 (fun g35 => ?_) (fun g35 => ?_)
 all_goals try (have hi := ltC g35; obtain ⟨x, hx, hxm⟩ := getx fs i hi)
 all_goals try refine XO.r1 9 ?_
 all_goals try refine XO.done [0, 5, 6, 44] ?_
 all_goals try first | refine XW.cT 44 ?_ | refine XW.cF 44 ?_ | refine XW.cB 44 (fun c44 => ?_) (fun c44 => ?_)
 all_goals try refine XW.ra2 7 [0, 5, 6] ?_
 all_goals try (refine XW.at 8 ?_; have hx9 := hI0; (try have hx2 := Nat.succ_le_of_lt (ltC g35)))
 all_goals try refine XW.ra3 8 [4] ?_
 all_goals try (refine XW.atr ?_; first | (exact XP.ro ⟨List.take i fs ++ [f] ++ List.drop i (List.take fs.length fs), rfl, setN _ _ _ (by omega), setM _ _ _⟩ (hm := by simp; omega)) | (exact XP.ro ⟨List.take i fs ++ [f] ++ List.drop ((i : Int) + 1).toNat (List.take fs.length fs), rfl, setN _ _ _ (by omega), setM _ _ _⟩ (hm := by simp; omega)))
end Go.Proofs.YtffchapiaampmaaGreatDoor
