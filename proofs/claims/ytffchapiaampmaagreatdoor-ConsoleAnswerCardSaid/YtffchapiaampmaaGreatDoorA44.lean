/-
  Part 44 of the proof that logtidelaw45.ConsoleAnswer returns true for every list of bytes and every text, and leaves both as they were.
-/
import Derived.Test.YtffchapiaampmaaGreatDoorA40
set_option linter.unusedSimpArgs false
set_option linter.unusedVariables false
namespace Go.Proofs.YtffchapiaampmaaGreatDoor
open Go.Av
set_option maxHeartbeats 4000000
set_option maxRecDepth 10000
attribute [local irreducible] XH XO PCall ACall
def acE (l : List Ac) : List (List AV) := l.map acC
theorem acE_len (l : List Ac) : (acE l).length = l.length := by simp [acE]
theorem acE_getE (l : List Ac) (i : Nat) : (acE l)[i]? = (l[i]?).map acC := by simp [acE]
@[simp] theorem acE_id (k : Nat) (l : List Ac) : idLtE k (acE l) = true := by
 simp only [idLtE, acE, List.all_map, List.all_eq_true]
 intro x _
 rfl
@[simp] theorem acE_st (l : List Ac) : (acE l).all (fun c => c.all storable) = true := by
 simp only [acE, List.all_map, List.all_eq_true]
 intro x _
 rfl
theorem acE_drop (l : List Ac) (i : Nat) : (acE l).drop i = acE (l.drop i) := by simp [acE]
theorem acE_take (l : List Ac) (i : Nat) : (acE l).take i = acE (l.take i) := by simp [acE]
theorem acE_ren (L : List Nat) (l : List Ac) : renCE L (acE l) = acE l := by
 simp only [renCE, acE, List.map_map]
 apply List.map_congr_left
 intro x _
 rfl
theorem acE_renE (ρ : Nat → Nat) (l : List Ac) : (acE l).map (renL ρ) = acE l := renE_noid ρ (acE_id 0 l)
theorem acE_snoc (l : List Ac) (x : Ac) : acE l ++ [[.sl 1 (strE x.key), .sl 1 (intE x.vals), .sl 1 (boE x.has), .sl 1 (ssE x.sets)]] = acE (l ++ [x]) := by simp [acE, acC, I, str]
theorem acE_snoc' (l : List Ac) (x : Ac) : acE l ++ [acC x] = acE (l ++ [x]) := by simp [acE]
theorem acE_app (l m : List Ac) : acE l ++ acE m = acE (l ++ m) := by simp [acE]
@[simp] theorem acE_nil : acE [] = [] := rfl
theorem acE_set (l : List Ac) (i : Nat) (x : Ac) : (acE l).set i [.sl 1 (strE x.key), .sl 1 (intE x.vals), .sl 1 (boE x.has), .sl 1 (ssE x.sets)] = acE (l.set i x) := by simp [acE, List.map_set, acC, I, str]
attribute [go_sem] acE_len acE_getE acE_drop acE_take acE_ren acE_renE acE_snoc acE_snoc' acE_app acE_set acC
attribute [simp] acE_len
theorem rwE_snoc4 (l : List Rw) (k : List S) (v : List Int) (e : Int) : rwE l ++ [[.sl 1 (strE k), .sl 1 (intE v), .val (.int .i64 e)]] = rwE (l ++ [⟨k, v, e⟩]) := by simp [rwE, rwC, I]
/-- Rows of n numbers each. -/
def RwN (n : Nat) (l : List Rw) : Prop := ∀ y ∈ l, y.key.length ≤ 2 ^ 10 ∧ (∀ k ∈ y.key, k.length ≤ 2 ^ 20) ∧ y.vals.length = n ∧ (∀ v ∈ y.vals, In64 v) ∧ In64 y.n
theorem RwN.snoc {n m : Nat} {l : List Rw} {x : Ac} (h : RwN n l) (hx : AcB n m x) : RwN n (l ++ [⟨x.key, x.vals, 0⟩]) := mem_snoc h ⟨hx.1, hx.2.1, hx.2.2.1, hx.2.2.2.2.2.2, In64z⟩
theorem rows41 (ag : List Ag) (l : List Ac) (m : Nat) (hl : ∀ x ∈ l, AcB ag.length m x) (hn : l.length ≤ 2 ^ 20) (ha : ag.length ≤ 2 ^ 20) : PCall Tryz.prog 41 [.sl 2 (agE ag), .sl 4 (acE l)] (fun r => ∃ out : List Rw, r = .sl 3 (rwE out) ∧ out.length = l.length ∧ RwN ag.length out) := by
 all_goals refine PCall.go 30 (fn := Tryz.f41) Tryz.func41 rfl rfl rfl (by simp) rfl ?_
 all_goals try refine XW.ra0 0 [1] ?_
 all_goals try refine XW.ra0 1 [1, 5] ?_
 all_goals try refine XW.ra0 2 [1, 5, 6] ?_
 all_goals try (refine XW.lp 1 (fun s : Nat × List Rw => ⟨[(1, .sl 4 (acE l)), (5, .osl 0 s.2.length 3), (6, I (s.1 : Nat))], [(0, some ⟨80, 3, rwE s.2⟩)]⟩) (fun s => s.1 ≤ l.length ∧ s.2.length = s.1 ∧ RwN ag.length s.2) (fun s => l.length - s.1) (0, []) (mkWk [none] [] (by simp [wkEnv, lk, lkh, I, str, B, U8, U64, U32]; first | done | omega) (by simp [wkHp, wkHp1, wkEnt, lkh, I, str])) ?_ (h0 := ⟨by simp, by simp, fun _ h => by simp at h⟩); rintro ⟨i, out⟩ hI0 Y0 hY0; skip)
 all_goals try refine XW.ra0 3 [1, 5, 6, 10] ?_
 all_goals try first | refine XW.cT 10 ?_ | refine XW.cF 10 ?_ | refine XW.cB 10 (fun c10 => ?_) (fun c10 => ?_)
 all_goals try (refine XW.at 5 ?_; obtain ⟨m1, m2, m3⟩ := hI0; (try simp only at m1 m2 m3); have hi := ltC c10; obtain ⟨x, hx, hxm⟩ := getx l i hi; have hk9 := (hl x hxm).1; have hv9 := (hl x hxm).2.2.1)
 all_goals try refine XW.rS 5 ?_
 all_goals try refine XO.r1 7 ?_
 all_goals try (skip)
 all_goals try refine XO.r1 5 ?_
 all_goals try (skip)
 all_goals try refine XO.r0 1 ?_
 all_goals try (skip)
 all_goals try refine XO.r0 1 ?_
 all_goals try (skip)
 all_goals try refine XO.r0 1 ?_
 all_goals try (skip)
 all_goals try refine XO.r0 2 ?_
 all_goals try refine XO.done [1, 5, 6, 19, 25] ?_
 all_goals try (refine XW.at 4 ?_; refine XW.wkr 4 1 ⟨[(1, .sl 4 (acE l)), (5, .osl 0 (out.length + 1) 3), (6, I (i : Nat))], [(0, some ⟨80, 3, rwE out ++ [[.sl 1 (strE x.key), .sl 1 (intE x.vals), I 0]]⟩)]⟩ ⟨[some 0], [1, 2], ⟨by simp [srcIds], by simp [srcIds], by simp⟩, by simp, by first | (simp [wkEnv, lk, lkh, I, str, B]; done) | (simp [wkEnv, lk, lkh, I, str, B]; omega), by first | (simp [wkHp, wkHp1, wkEnt, lkh]; done) | simp [wkHp, wkHp1, wkEnt, lkh, I]⟩ ?_)
 all_goals try refine XW.ra2 4 [1, 5, 6] ?_
 all_goals try (refine XH.le ?_; first | (exact hY0 (i + 1, out ++ [⟨x.key, x.vals, 0⟩]) (⟨by simp only; omega, by simp; omega, RwN.snoc m3 (hl x hxm)⟩) (by first | omega | (simp; done) | (simp; omega)) _ _ (mkWk [some 0] [] (by simp [wkEnv, lk, lkh, I, str, B, U8, U64, U32, rwE_snoc4]; first | done | omega) (by simp [wkHp, wkHp1, wkEnt, lkh, I, str, rwE_snoc4]))))
 all_goals try (refine XW.at 6 ?_; obtain ⟨m1, m2, m3⟩ := hI0; (try simp only at m1 m2 m3); have h9 := geC c10)
 all_goals try refine XW.ra0 6 [4] ?_
 all_goals try (refine XW.atr ?_; first | (exact XP.ro ⟨out, rfl, by omega, m3⟩))
theorem AcB.mono {n m k : Nat} {x : Ac} (h : AcB n m x) (hk : m ≤ k) : AcB n k x := ⟨h.1, h.2.1, h.2.2.1, h.2.2.2.1, h.2.2.2.2.1, fun y hy => Nat.le_trans (h.2.2.2.2.2.1 y hy) hk, h.2.2.2.2.2.2⟩
theorem merge90 (ag : List Ag) (a b : List Ac) (n m1 m2 : Nat) (ha : ∀ x ∈ a, AcB n m1 x) (hb : ∀ x ∈ b, AcB n m2 x) (na : a.length ≤ 2 ^ 20) (nb : b.length ≤ 2 ^ 20) (hj : ∀ x ∈ a, ∀ y ∈ b, PCall Tryz.prog 107 [.sl 2 (agE ag), .agg (acC x), .agg (acC y)] (fun r => ∃ o, r = .agg (acC o) ∧ AcB n (m1 + m2) o)) : PCall Tryz.prog 90 [.sl 2 (agE ag), .sl 4 (acE a), .sl 4 (acE b)] (fun r => ∃ out : List Ac, r = .sl 4 (acE out) ∧ out.length ≤ a.length + b.length ∧ ∀ x ∈ out, AcB n (m1 + m2) x) := by
 simp only [acC] at hj
 all_goals refine PCall.go 84 (fn := Tryz.f90) Tryz.func90 rfl rfl rfl (by simp) rfl ?_
 all_goals try refine XW.ra0 0 [0, 1, 2] ?_
 all_goals try refine XW.ra0 1 [0, 1, 2, 7] ?_
 all_goals try refine XW.ra0 2 [0, 1, 2, 7, 8, 9] ?_
 all_goals try (refine XW.lp 1 (fun s : Nat × Nat × List Ac => ⟨[(0, .sl 2 (agE ag)), (1, .sl 4 (acE a)), (2, .sl 4 (acE b)), (7, .osl 0 s.2.2.length 4), (8, I (s.1 : Nat)), (9, I (s.2.1 : Nat))], [(0, some ⟨143, 4, acE s.2.2⟩)]⟩) (fun s => s.1 ≤ a.length ∧ s.2.1 ≤ b.length ∧ s.2.2.length ≤ s.1 + s.2.1 ∧ ∀ x ∈ s.2.2, AcB n (m1 + m2) x) (fun s => a.length - s.1 + (b.length - s.2.1)) (0, 0, []) (mkWk [none] [] (by simp [wkEnv, lk, lkh, I, str, B, U8, U64, U32]; first | done | omega) (by simp [wkHp, wkHp1, wkEnt, lkh, I, str])) ?_ (h0 := ⟨by simp, by simp, by simp, fun _ h => by simp at h⟩); rintro ⟨i, j, out⟩ hI0 Y0 hY0; skip)
 all_goals try refine XW.rS 3 ?_
 all_goals try refine XO.r0 5 ?_
 all_goals try first | refine XO.kT 15 ?_ | refine XO.kF 15 ?_ | refine XO.split 15 (fun g15 => ?_) (fun g15 => ?_)
 all_goals try refine XO.r0 5 ?_
 all_goals try refine XO.done [0, 1, 2, 7, 8, 9, 20] ?_
 all_goals try first | refine XW.cT 20 ?_ | refine XW.cF 20 ?_ | refine XW.cB 20 (fun c20 => ?_) (fun c20 => ?_)
 all_goals try refine XW.ra0 4 [0, 1, 2, 7, 8, 9] ?_
 all_goals try (refine XW.at 6 ?_; obtain ⟨m1x, m2x, m3, m4⟩ := hI0; (try simp only at m1x m2x m3 m4))
 all_goals try refine XW.ra0 6 [0, 1, 2, 7, 8, 9, 32] ?_
 all_goals try first | refine XW.cT 32 ?_ | refine XW.cF 32 ?_ | refine XW.cB 32 (fun c32 => ?_) (fun c32 => ?_)
 all_goals try (refine XW.at 7 ?_; first | (exfalso; have h1 := ltC c20; have h2 := eqC c32; omega) | (have hi := ltC g15; obtain ⟨x, hx, hxm⟩ := getx a i hi))
 all_goals try refine XW.ra0 7 [0, 1, 2, 7, 8, 9, 10] ?_
 all_goals try refine XW.ra0 8 [0, 1, 2, 7, 8, 9, 37] ?_
 all_goals try first | refine XW.cT 37 ?_ | refine XW.cF 37 ?_ | refine XW.cB 37 (fun c37 => ?_) (fun c37 => ?_)
 all_goals try (refine XW.at 9 ?_; have h2 := beq_eq_false_iff_ne.1 c32; obtain ⟨y, hx2, hym⟩ := getx b j (by omega))
 all_goals try refine XW.ra0 9 [0, 1, 2, 7, 8, 9, 10] ?_
 all_goals try (refine XW.at 5 ?_; have h2 := beq_eq_false_iff_ne.1 c32; have h1 := beq_eq_false_iff_ne.1 c37; obtain ⟨y, hx2, hym⟩ := getx b j (by omega); obtain ⟨x, hx, hxm⟩ := getx a i (by omega))
 all_goals try refine XW.rS 5 ?_
 all_goals try refine XO.r1 10 ?_
 all_goals try (refine XO.p (compare70 x.key y.key (by have := (ha x hxm).1; omega) (by have := (hb y hym).1; omega)) ?_; rintro _ ⟨c, rfl⟩)
 all_goals try refine XO.r0 1 ?_
 all_goals try refine XO.done [0, 1, 2, 7, 8, 9, 10] ?_
 all_goals try refine XW.ra0 13 [0, 1, 2, 7, 8, 9, 10, 59] ?_
 all_goals try first | refine XW.cT 59 ?_ | refine XW.cF 59 ?_ | refine XW.cB 59 (fun c59 => ?_) (fun c59 => ?_)
 all_goals try refine XW.ra1 14 [0, 1, 2, 7, 8, 9] ?_
 all_goals try refine XW.ra2 15 [0, 1, 2, 7, 8, 9] ?_
 all_goals try refine XW.ra0 16 [0, 1, 2, 7, 8, 9, 71] ?_
 all_goals try first | refine XW.cT 71 ?_ | refine XW.cF 71 ?_ | refine XW.cB 71 (fun c71 => ?_) (fun c71 => ?_)
 all_goals try refine XW.ra1 17 [0, 1, 2, 7, 8, 9] ?_
 all_goals try refine XW.ra2 18 [0, 1, 2, 7, 8, 9] ?_
 all_goals try refine XW.rS 10 ?_
 all_goals try refine XO.r1 6 ?_
 all_goals try (skip)
 all_goals try refine XO.r1 4 ?_
 all_goals try (skip)
 all_goals try (refine XO.p (hj x hxm y hym) ?_; rintro _ ⟨o, rfl, ho⟩)
 all_goals try refine XO.r0 1 ?_
 all_goals try (skip)
 all_goals try refine XO.r0 2 ?_
 all_goals try refine XO.done [0, 1, 2, 7, 8, 9] ?_
 all_goals try refine XW.ra2 11 [0, 1, 2, 7, 8, 9] ?_
 all_goals try refine XW.ra2 12 [0, 1, 2, 7, 8, 9] ?_
 all_goals try (refine XH.le ?_; first | (refine hY0 (i + 1, j + 1, out ++ [o]) ?_ ?_ _ _ (mkWk [some 0] [] ?_ ?_); (next => exact ⟨by simp only; omega, by simp only; omega, by simp; omega, mem_snoc m4 ho⟩); (next => first | omega | (simp; done) | (simp; omega)); (next => simp [wkEnv, lk, lkh, I, str, B, U8, U64, U32]; first | done | omega); (next => simp [wkHp, wkHp1, wkEnt, lkh, I, str])) | (refine hY0 (i + 1, j, out ++ [x]) ?_ ?_ _ _ (mkWk [some 0] [] ?_ ?_); (next => exact ⟨by simp only; omega, by simp only; omega, by simp; omega, mem_snoc m4 ((ha x hxm).mono (by omega))⟩); (next => first | omega | (simp; done) | (simp; omega)); (next => simp [wkEnv, lk, lkh, I, str, B, U8, U64, U32]; first | done | omega); (next => simp [wkHp, wkHp1, wkEnt, lkh, I, str])) | (refine hY0 (i, j + 1, out ++ [y]) ?_ ?_ _ _ (mkWk [some 0] [] ?_ ?_); (next => exact ⟨by simp only; omega, by simp only; omega, by simp; omega, mem_snoc m4 ((hb y hym).mono (by omega))⟩); (next => first | omega | (simp; done) | (simp; omega)); (next => simp [wkEnv, lk, lkh, I, str, B, U8, U64, U32]; first | done | omega); (next => simp [wkHp, wkHp1, wkEnt, lkh, I, str])))
 all_goals try (refine XW.at 19 ?_; obtain ⟨m1x, m2x, m3, m4⟩ := hI0; (try simp only at m1x m2x m3 m4))
 all_goals try refine XW.ra0 19 [6] ?_
 all_goals try (refine XW.atr ?_; first | (exact XP.ro ⟨out, rfl, by omega, m4⟩))
end Go.Proofs.YtffchapiaampmaaGreatDoor
