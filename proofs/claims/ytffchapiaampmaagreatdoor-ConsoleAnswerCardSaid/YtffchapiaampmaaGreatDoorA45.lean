/-
  Part 45 of the proof that logtidelaw45.ConsoleAnswer returns true for every list of bytes and every text, and leaves both as they were.
-/
import Derived.Test.YtffchapiaampmaaGreatDoorA18
import Derived.Test.YtffchapiaampmaaGreatDoorA23
import Derived.Test.YtffchapiaampmaaGreatDoorA42
import Derived.Test.YtffchapiaampmaaGreatDoorA43
import Derived.Test.YtffchapiaampmaaGreatDoorA44
set_option linter.unusedSimpArgs false
set_option linter.unusedVariables false
namespace Go.Proofs.YtffchapiaampmaaGreatDoor
open Go.Av
set_option maxHeartbeats 4000000
set_option maxRecDepth 10000
attribute [local irreducible] XH XO PCall ACall
set_option maxHeartbeats 20000000
theorem join107 (ag : List Ag) (x y : Ac) (m1 m2 : Nat) (hm : m1 + m2 ≤ 2 ^ 30) (ha : ag.length ≤ 2 ^ 20) (hX : AcB ag.length m1 x) (hY : AcB ag.length m2 y) : PCall Tryz.prog 107 [.sl 2 (agE ag), .agg (acC x), .agg (acC y)] (fun r => ∃ o, r = .agg (acC o) ∧ AcB ag.length (m1 + m2) o) := by
 obtain ⟨x1, x2, x3, x4, x5, x6, x7⟩ := hX
 obtain ⟨y1, y2, y3, y4, y5, y6, y7⟩ := hY
 all_goals refine PCall.go 147 (fn := Tryz.f107) Tryz.func107 rfl rfl rfl (by simp) rfl ?_
 all_goals try refine XW.ra0 0 [0, 4, 5, 6] ?_
 all_goals try refine XW.ra0 1 [0, 4, 5, 6, 7] ?_
 all_goals try refine XW.ra0 2 [0, 4, 5, 6, 7, 8] ?_
 all_goals try (refine XW.lp 7 (fun s : Nat × List Int × List Bool × List (List S) => ⟨[(0, .sl 2 (agE ag)), (4, .ptr 0 4 0 0), (5, .ptr 1 4 0 0), (6, .ptr 2 4 0 0), (7, .ptr 3 4 0 0), (8, I (s.1 : Nat))], [(0, some ⟨143, 4, [acC x]⟩), (1, some ⟨143, 4, [acC y]⟩), (2, some ⟨143, 4, [[nilV, nilV, nilV, nilV]]⟩), (3, some ⟨143, 4, [[.sl 1 (strE x.key), .osl 4 s.2.1.length 1, .osl 5 s.2.2.1.length 1, .osl 6 s.2.2.2.length 1]]⟩), (4, some ⟨3, 1, intE s.2.1⟩), (5, some ⟨4, 1, boE s.2.2.1⟩), (6, some ⟨30, 1, ssE s.2.2.2⟩)]⟩) (fun s => s.1 ≤ ag.length ∧ s.2.1.length = s.1 ∧ s.2.2.1.length = s.1 ∧ s.2.2.2.length = s.1 ∧ (∀ y ∈ s.2.2.2, y.length ≤ m1 + m2) ∧ ∀ v ∈ s.2.1, In64 v) (fun s => ag.length - s.1) (0, [], [], []) (mkWk [some 0, some 1, some 2, some 3, none, none, none] [] (by simp [wkEnv, lk, lkh, I, str, B, U8, U64, U32, acC, nilV]; first | done | omega) (by simp [wkHp, wkHp1, wkEnt, lkh, I, str, acC, nilV])) ?_; rintro ⟨i, v, b, d⟩ hI0 Y0 hY0; skip)
 all_goals try refine XW.ra0 3 [0, 4, 5, 6, 7, 8, 18] ?_
 all_goals try first | refine XW.cT 18 ?_ | refine XW.cF 18 ?_ | refine XW.cB 18 (fun c18 => ?_) (fun c18 => ?_)
 all_goals try (refine XW.at 5 ?_; obtain ⟨m1x, m2x, m3, m4, m5, m6⟩ := hI0; (try simp only at m1x m2x m3 m4 m5 m6); have hi := ltC c18; obtain ⟨z, hz, hzm⟩ := getx ag i hi; obtain ⟨xv, hx, hxv7⟩ := getx x.vals i (by omega); obtain ⟨xb, hx2, _⟩ := getx x.has i (by omega); obtain ⟨yb, hx3, _⟩ := getx y.has i (by omega); obtain ⟨yv, hyv, hyv7⟩ := getx y.vals i (by omega); obtain ⟨xs, hxs, hxsm⟩ := getx x.sets i (by omega); obtain ⟨ys, hys, hysm⟩ := getx y.sets i (by omega); have hxl := x6 xs hxsm; have hyl := y6 ys hysm)
 all_goals try (refine XW.at 5 ?_; refine XW.join 20 7 (fun s : Int × Bool × List S => ⟨[(0, .sl 2 (agE ag)), (4, .ptr 0 4 0 0), (5, .ptr 1 4 0 0), (6, .ptr 2 4 0 0), (7, .ptr 3 4 0 0), (8, I (i : Nat)), (9, I s.1), (10, B s.2.1), (11, .sl 1 (strE s.2.2))], [(0, some ⟨143, 4, [acC x]⟩), (1, some ⟨143, 4, [acC y]⟩), (2, some ⟨143, 4, [[nilV, nilV, nilV, nilV]]⟩), (3, some ⟨143, 4, [[.sl 1 (strE x.key), .osl 4 v.length 1, .osl 5 b.length 1, .osl 6 d.length 1]]⟩), (4, some ⟨3, 1, intE v⟩), (5, some ⟨4, 1, boE b⟩), (6, some ⟨30, 1, ssE d⟩)]⟩) (fun s => In64 s.1 ∧ s.2.2.length ≤ m1 + m2) ?_ (fun K => ?_))
 all_goals try (rintro ⟨c, bb, dd⟩ hJ)
 all_goals try (refine XW.at 5 ?_; cases xb <;> cases yb)
 all_goals try refine XW.rS 5 ?_
 all_goals try refine XO.r1 5 ?_
 all_goals try (skip)
 all_goals try refine XO.r1 6 ?_
 all_goals try first | refine XO.kT 31 ?_ | refine XO.kF 31 ?_ | refine XO.split 31 (fun g31 => ?_) (fun g31 => ?_)
 all_goals try (have hx := hx3)
 all_goals try refine XO.r1 8 ?_
 all_goals try refine XO.done [0, 4, 5, 6, 7, 8, 9, 10] ?_
 all_goals try refine XW.ra0 6 [0, 4, 5, 6, 7, 8, 9, 10, 11] ?_
 all_goals try (refine XW.at 7 ?_; have hx := hz)
 all_goals try refine XW.ra1 7 [0, 4, 5, 6, 7, 8, 9, 10, 11, 42] ?_
 all_goals try refine XW.ra0 8 [0, 4, 5, 6, 7, 8, 9, 10, 11, 42, 43] ?_
 all_goals try first | refine XW.cT 43 ?_ | refine XW.cF 43 ?_ | refine XW.cB 43 (fun c43 => ?_) (fun c43 => ?_)
 all_goals try refine XW.ra0 9 [0, 4, 5, 6, 7, 8, 9, 10, 11, 42, 43] ?_
 all_goals try first | refine XW.cT 43 ?_ | refine XW.cF 43 ?_ | refine XW.cB 43 (fun c43 => ?_) (fun c43 => ?_)
 all_goals try (refine XW.at 10 ?_; have hx := hyv)
 all_goals try refine XW.ra3 10 [0, 4, 5, 6, 7, 8, 9, 10, 11] ?_
 all_goals try refine XW.ra0 11 [0, 4, 5, 6, 7, 8, 9, 10, 11, 42, 53] ?_
 all_goals try first | refine XW.cT 53 ?_ | refine XW.cF 53 ?_ | refine XW.cB 53 (fun c53 => ?_) (fun c53 => ?_)
 all_goals try (refine XW.at 12 ?_; have hx := hx2; have hx2 := hx3; have hx3 := hyv)
 all_goals try refine XW.rS 12 ?_
 all_goals try refine XO.r1 7 ?_
 all_goals try first | refine XO.kT 61 ?_ | refine XO.kF 61 ?_ | refine XO.split 61 (fun g61 => ?_) (fun g61 => ?_)
 all_goals try refine XO.r1 6 ?_
 all_goals try first | refine XO.kT 67 ?_ | refine XO.kF 67 ?_ | refine XO.split 67 (fun g67 => ?_) (fun g67 => ?_)
 all_goals try (have hx := hx3)
 all_goals try refine XO.r1 9 ?_
 all_goals try refine XO.done [0, 4, 5, 6, 7, 8, 9, 10, 11, 76] ?_
 all_goals try first | refine XW.cT 76 ?_ | refine XW.cF 76 ?_ | refine XW.cB 76 (fun c76 => ?_) (fun c76 => ?_)
 all_goals try (refine XW.at 13 ?_; have hx := hyv)
 all_goals try refine XW.ra1 13 [0, 4, 5, 6, 7, 8, 9, 10, 11] ?_
 all_goals try refine XW.ra0 14 [0, 4, 5, 6, 7, 8, 9, 10, 11, 42, 82] ?_
 all_goals try first | refine XW.cT 82 ?_ | refine XW.cF 82 ?_ | refine XW.cB 82 (fun c82 => ?_) (fun c82 => ?_)
 all_goals try (refine XW.at 15 ?_; have hx := hx2; have hx2 := hx3; have hx3 := hyv)
 all_goals try refine XW.rS 15 ?_
 all_goals try refine XO.r1 7 ?_
 all_goals try first | refine XO.kT 90 ?_ | refine XO.kF 90 ?_ | refine XO.split 90 (fun g90 => ?_) (fun g90 => ?_)
 all_goals try refine XO.r1 6 ?_
 all_goals try first | refine XO.kT 96 ?_ | refine XO.kF 96 ?_ | refine XO.split 96 (fun g96 => ?_) (fun g96 => ?_)
 all_goals try (have hx := hx3)
 all_goals try refine XO.r1 9 ?_
 all_goals try refine XO.done [0, 4, 5, 6, 7, 8, 9, 10, 11, 105] ?_
 all_goals try first | refine XW.cT 105 ?_ | refine XW.cF 105 ?_ | refine XW.cB 105 (fun c105 => ?_) (fun c105 => ?_)
 all_goals try (refine XW.at 16 ?_; have hx := hyv)
 all_goals try refine XW.ra1 16 [0, 4, 5, 6, 7, 8, 9, 10, 11] ?_
 all_goals try refine XW.ra0 17 [0, 4, 5, 6, 7, 8, 9, 10, 11, 111] ?_
 all_goals try first | refine XW.cT 111 ?_ | refine XW.cF 111 ?_ | refine XW.cB 111 (fun c111 => ?_) (fun c111 => ?_)
 all_goals try (refine XW.at 18 ?_; have hx := hxs; have hx2 := hys)
 all_goals try refine XW.rS 18 ?_
 all_goals try refine XO.r1 5 ?_
 all_goals try (skip)
 all_goals try refine XO.r1 6 ?_
 all_goals try refine XO.sa ?_
 all_goals try (refine XO.p (PCall.osl (distinct1 _ (xs ++ ys) (Nat.le_refl _) (by simp; omega)) (by simp) (by simp)) ?_; rintro _ rfl; have hdd : (distF (xs ++ ys)).length ≤ m1 + m2 := Nat.le_trans (distF_len _) (by simp; omega))
 all_goals try refine XO.r0 1 ?_
 all_goals try refine XO.done [0, 4, 5, 6, 7, 8, 10, 11] ?_
 all_goals try refine XW.ra0 19 [0, 4, 5, 6, 7, 8, 9, 10, 11] ?_
 all_goals try (refine XW.at 20 ?_; first | (exact XW.wkr 20 7 _ (mkWk [some 0, some 1, some 2, some 3, some 4, some 5, some 6] [] (by simp [wkEnv, lk, lkh, I, str, B, U8, U64, U32, acC, nilV, strE]; first | done | omega) (by simp [wkHp, wkHp1, wkEnt, lkh, I, str, acC, nilV, strE])) (K (IntKind.i64.wrap (xv + yv), true, []) ⟨In64w _, by simp⟩)) | (exact XW.wkr 20 7 _ (mkWk [some 0, some 1, some 2, some 3, some 4, some 5, some 6] [] (by simp [wkEnv, lk, lkh, I, str, B, U8, U64, U32, acC, nilV, strE]; first | done | omega) (by simp [wkHp, wkHp1, wkEnt, lkh, I, str, acC, nilV, strE])) (K (IntKind.i64.wrap (xv + yv), false, []) ⟨In64w _, by simp⟩)) | (exact XW.wkr 20 7 _ (mkWk [some 0, some 1, some 2, some 3, some 4, some 5, some 6] [] (by simp [wkEnv, lk, lkh, I, str, B, U8, U64, U32, acC, nilV, strE]; first | done | omega) (by simp [wkHp, wkHp1, wkEnt, lkh, I, str, acC, nilV, strE])) (K (xv, true, []) ⟨x7 _ hxv7, by simp⟩)) | (exact XW.wkr 20 7 _ (mkWk [some 0, some 1, some 2, some 3, some 4, some 5, some 6] [] (by simp [wkEnv, lk, lkh, I, str, B, U8, U64, U32, acC, nilV, strE]; first | done | omega) (by simp [wkHp, wkHp1, wkEnt, lkh, I, str, acC, nilV, strE])) (K (xv, false, []) ⟨x7 _ hxv7, by simp⟩)) | (exact XW.wkr 20 7 _ (mkWk [some 0, some 1, some 2, some 3, some 4, some 5, some 6] [] (by simp [wkEnv, lk, lkh, I, str, B, U8, U64, U32, acC, nilV, strE]; first | done | omega) (by simp [wkHp, wkHp1, wkEnt, lkh, I, str, acC, nilV, strE])) (K (yv, true, []) ⟨y7 _ hyv7, by simp⟩)) | (exact XW.wkr 20 7 _ (mkWk [some 0, some 1, some 2, some 3, some 4, some 5, some 6] [] (by simp [wkEnv, lk, lkh, I, str, B, U8, U64, U32, acC, nilV, strE]; first | done | omega) (by simp [wkHp, wkHp1, wkEnt, lkh, I, str, acC, nilV, strE])) (K (yv, false, []) ⟨y7 _ hyv7, by simp⟩)) | (exact XW.wkr 20 7 _ (mkWk [some 0, some 1, some 2, some 3, some 4, some 5, some 6] [] (by simp [wkEnv, lk, lkh, I, str, B, U8, U64, U32, acC, nilV, strE]; first | done | omega) (by simp [wkHp, wkHp1, wkEnt, lkh, I, str, acC, nilV, strE])) (K ((((distF (xs ++ ys)).length : Nat) : Int), true, (distF (xs ++ ys))) ⟨by unfold In64; omega, hdd⟩)) | (exact XW.wkr 20 7 _ (mkWk [some 0, some 1, some 2, some 3, some 4, some 5, some 6] [] (by simp [wkEnv, lk, lkh, I, str, B, U8, U64, U32, acC, nilV, strE]; first | done | omega) (by simp [wkHp, wkHp1, wkEnt, lkh, I, str, acC, nilV, strE])) (K ((((distF (xs ++ ys)).length : Nat) : Int), false, (distF (xs ++ ys))) ⟨by unfold In64; omega, hdd⟩)))
 all_goals try refine XW.rS 20 ?_
 all_goals try refine XO.r0 5 ?_
 all_goals try (skip)
 all_goals try refine XO.r0 5 ?_
 all_goals try (skip)
 all_goals try refine XO.r0 5 ?_
 all_goals try (skip)
 all_goals try refine XO.r0 6 ?_
 all_goals try refine XO.done [0, 4, 5, 6, 7, 8] ?_
 all_goals try refine XW.ra2 4 [0, 4, 5, 6, 7, 8] ?_
 all_goals try (refine XH.le ?_; first | (exact hY0 (i + 1, v ++ [c], b ++ [bb], d ++ [dd]) (⟨by simp only; omega, by simp; omega, by simp; omega, by simp; omega, mem_snoc m5 hJ.2, mem_snoc m6 hJ.1⟩) (by first | omega | (simp; done) | (simp; omega)) _ _ (mkWk [some 0, some 1, some 2, some 3, some 4, some 5, some 6] [] (by simp [wkEnv, lk, lkh, I, str, B, U8, U64, U32, acC, nilV]; first | done | omega) (by simp [wkHp, wkHp1, wkEnt, lkh, I, str, acC, nilV]))))
 all_goals try (refine XW.at 21 ?_; obtain ⟨m1x, m2x, m3, m4, m5, m6⟩ := hI0; (try simp only at m1x m2x m3 m4 m5 m6); have h9 := geC c18)
 all_goals try refine XW.ra0 21 [6] ?_
 all_goals try (refine XW.atr ?_; first | (exact XP.ret [1, 2, 3] (.agg (acC ⟨x.key, v, b, d⟩)) ⟨_, rfl, x1, x2, by simp only; omega, by simp only; omega, by simp only; omega, m5, m6⟩ (hwk := by simp [resOf, lk, lkh, acC])))
theorem add69 (ns : List S) (ag : List Ag) (p : List Ac) (e : Ev) (m : Nat) (hn : ns.length ≤ 2 ^ 10) (ha : ag.length ≤ 2 ^ 20) (he : EvB e) (hp : ∀ x ∈ p, AcB ag.length m x) (np : p.length ≤ 2 ^ 20) (hm : m + 1 ≤ 2 ^ 30) : PCall Tryz.prog 69 [.sl 4 (acE p), .sl 1 (strE ns), .sl 2 (agE ag), .agg (evC e)] (fun r => ∃ out : List Ac, r = .sl 4 (acE out) ∧ out.length ≤ p.length + 1 ∧ ∀ x ∈ out, AcB ag.length (m + 1) x) := by
 have q := single91 ns ag e hn ha he
 simp only [evC] at q
 all_goals refine PCall.go 17 (fn := Tryz.f69) Tryz.func69 rfl rfl rfl (by simp) rfl ?_
 all_goals try refine XW.ra0 0 [0, 1, 2, 7] ?_
 all_goals try refine XW.rS 1 ?_
 all_goals try refine XO.r0 5 ?_
 all_goals try (refine XO.p (q) ?_; rintro _ ⟨o, rfl, ho⟩)
 all_goals try refine XO.sb ?_
 all_goals try (refine XO.p (merge90 ag p [o] ag.length m 1 hp (by simpa using ho) np (by simp) (fun x hx y hy => join107 ag x y m 1 hm ha (hp x hx) (by simp only [List.mem_singleton] at hy; subst hy; exact ho))) ?_; rintro _ ⟨out, rfl, ol, ob⟩)
 all_goals try refine XO.r0 1 ?_
 all_goals try refine XO.done [8] ?_
 all_goals try (refine XW.atr ?_; first | (exact XP.rs ⟨out, rfl, by simpa using ol, ob⟩))
theorem collect42 (ns : List S) (ag : List Ag) (l : List Ev) (hn : ns.length ≤ 2 ^ 10) (ha : ag.length ≤ 2 ^ 20) (he : ∀ e ∈ l, EvB e) (hl : l.length ≤ 2 ^ 20) : PCall Tryz.prog 42 [.sl 1 (strE ns), .sl 2 (agE ag), .sl 10 (evE l)] (fun r => ∃ out : List Ac, r = .sl 4 (acE out) ∧ out.length ≤ l.length ∧ ∀ x ∈ out, AcB ag.length l.length x) := by
 all_goals refine PCall.go 24 (fn := Tryz.f42) Tryz.func42 rfl rfl rfl (by simp) rfl ?_
 all_goals try refine XW.ra0 0 [0, 1, 2] ?_
 all_goals try refine XW.ra0 1 [0, 1, 2, 7] ?_
 all_goals try refine XW.ra0 2 [0, 1, 2, 7, 8] ?_
 all_goals try (refine XW.lp 0 (fun s : Nat × List Ac => ⟨[(0, .sl 1 (strE ns)), (1, .sl 2 (agE ag)), (2, .sl 10 (evE l)), (7, .sl 4 (acE s.2)), (8, I (s.1 : Nat))], []⟩) (fun s => s.1 ≤ l.length ∧ s.2.length ≤ s.1 ∧ ∀ x ∈ s.2, AcB ag.length s.1 x) (fun s => l.length - s.1) (0, []) (mkWk [] [] (by simp [wkEnv, lk, lkh, I, str, B, U8, U64, U32, nilV]; first | done | omega) (by simp [wkHp, wkHp1, wkEnt, lkh, I, str, nilV])) ?_ (h0 := ⟨by simp, by simp, fun _ h => by simp at h⟩); rintro ⟨i, p⟩ hI0 Y0 hY0; skip)
 all_goals try refine XW.ra0 3 [0, 1, 2, 7, 8, 12] ?_
 all_goals try first | refine XW.cT 12 ?_ | refine XW.cF 12 ?_ | refine XW.cB 12 (fun c12 => ?_) (fun c12 => ?_)
 all_goals try (refine XW.at 5 ?_; obtain ⟨m1, m2, m3⟩ := hI0; (try simp only at m1 m2 m3); have hi := ltC c12; obtain ⟨e, hx, hem⟩ := getx l i hi; have q := add69 ns ag p e i hn ha (he e hem) m3 (by omega) (by omega); simp only [evC] at q)
 all_goals try refine XW.rS 5 ?_
 all_goals try refine XO.r1 7 ?_
 all_goals try (refine XO.p (q) ?_; rintro _ ⟨p2, rfl, l2, b2⟩)
 all_goals try refine XO.r0 1 ?_
 all_goals try refine XO.done [0, 1, 2, 7, 8] ?_
 all_goals try refine XW.ra2 4 [0, 1, 2, 7, 8] ?_
 all_goals try (refine XH.le ?_; first | (exact hY0 (i + 1, p2) (⟨by simp only; omega, by simp only; omega, b2⟩) (by first | omega | (simp; done) | (simp; omega)) _ _ (mkWk [] [] (by simp [wkEnv, lk, lkh, I, str, B, U8, U64, U32]; first | done | omega) (by simp [wkHp, wkHp1, wkEnt, lkh, I, str]))))
 all_goals try (refine XW.at 6 ?_; obtain ⟨m1, m2, m3⟩ := hI0; (try simp only at m1 m2 m3); have h9 := geC c12)
 all_goals try refine XW.ra0 6 [6] ?_
 all_goals try (refine XW.atr ?_; first | (exact XP.rs ⟨p, rfl, by omega, fun x hx => (m3 x hx).mono (by omega)⟩))
/-- What Parse returns of a drawn source. -/
theorem parse55q (s : S) (hs : s ∈ qsL) : PCall Tryz.prog 55 [str s] (fun r => ∃ (nd : AV) (c : Int), r = .tup [nd, I c, I 0]) := by
 simp only [qsL, List.mem_cons, List.not_mem_nil, or_false] at hs
 rcases hs with rfl | rfl | rfl | rfl
 · exact PCall.mk _ ⟨_, _, rfl⟩ rfl parse55_0
 · exact PCall.mk _ ⟨_, _, rfl⟩ rfl parse55_1
 · exact PCall.mk _ ⟨_, _, rfl⟩ rfl parse55_2
 · exact PCall.mk _ ⟨_, _, rfl⟩ rfl parse55_3
theorem check33 (q : Qy) (h : QyG q) : PCall Tryz.prog 33 [.agg (qyC q)] (fun r => ∃ n : Int, r = I n) := by
 have hb9 := h.st.1
 have q1 := checkTest53 2 q.test h.test
 have q2 := unused56 q h.shape
 have q3 := tables58 q (by have := h.names.1; omega) (by have := h.aggs.1; omega) (fun x hx => by have := h.names.2 x hx; omega) (fun x hx => by have := h.aggs.2 x hx; omega)
 have q4 := checkTest53 1 q.other h.other
 simp only [qyC, tsC_c, List.cons_append, List.nil_append] at q1 q2 q3 q4
 all_goals refine PCall.go 117 (fn := Tryz.f33) Tryz.func33 rfl rfl rfl (by simp) rfl ?_
 all_goals try refine XW.ra0 0 [1] ?_
 all_goals try refine XW.rS 1 ?_
 all_goals try refine XO.r0 2 ?_
 all_goals try (refine XO.p (q1) ?_; rintro _ ⟨_, rfl⟩)
 all_goals try refine XO.r0 1 ?_
 all_goals try refine XO.done [1, 3] ?_
 all_goals try refine XW.ra0 2 [1, 3, 12] ?_
 all_goals try first | refine XW.cT 12 ?_ | refine XW.cF 12 ?_ | refine XW.cB 12 (fun c12 => ?_) (fun c12 => ?_)
 all_goals try refine XW.ra0 3 [2] ?_
 all_goals try (refine XW.atr ?_; first | (exact XP.rs ⟨_, rfl⟩))
 all_goals try refine XW.ra0 4 [1, 17] ?_
 all_goals try first | refine XW.cT 17 ?_ | refine XW.cF 17 ?_ | refine XW.cB 17 (fun c17 => ?_) (fun c17 => ?_)
 all_goals try refine XW.ra0 5 [2] ?_
 all_goals try (refine XW.atr ?_; first | (exact XP.rs ⟨_, rfl⟩))
 all_goals try refine XW.ra0 6 [1, 4] ?_
 all_goals try (refine XW.lp 1 (fun i : Nat => ⟨[(1, .ptr 0 19 0 0), (4, I (i : Nat))], [(0, some ⟨33, 19, [qyC q]⟩)]⟩) (fun i => i ≤ q.stages.length) (fun i => q.stages.length - i) 0 (mkWk [some 0] [] (by simp [wkEnv, lk, lkh, I, str, B, U8, U64, U32, qyC, tsC_c, B]; first | done | omega) (by simp [wkHp, wkHp1, wkEnt, lkh, I, str, qyC, tsC_c, B])) ?_; rintro i hI0 Y0 hY0; skip)
 all_goals try refine XW.ra0 7 [1, 4, 22] ?_
 all_goals try first | refine XW.cT 22 ?_ | refine XW.cF 22 ?_ | refine XW.cB 22 (fun c22 => ?_) (fun c22 => ?_)
 all_goals try (refine XW.at 9 ?_; have hi := ltC c22; obtain ⟨x, hx, hxm⟩ := getx q.stages i hi; have qz := zeroTest54 x.test; have qt := checkTest53 1 x.test (h.st.2 x hxm).1; simp only [tsC_c] at qz qt)
 all_goals try refine XW.ra1 9 [1, 4, 5] ?_
 all_goals try refine XW.rS 10 ?_
 all_goals try refine XO.r0 3 ?_
 all_goals try first | refine XO.kT 32 ?_ | refine XO.kF 32 ?_ | refine XO.split 32 (fun g32 => ?_) (fun g32 => ?_)
 all_goals try refine XO.r0 2 ?_
 all_goals try first | (refine XO.p (qz) ?_; rintro _ ⟨_, rfl⟩) | refine XO.r0 1 ?_
 all_goals try refine XO.r0 3 ?_
 all_goals try first | refine XO.kT 38 ?_ | refine XO.kF 38 ?_ | refine XO.split 38 (fun g38 => ?_) (fun g38 => ?_)
 all_goals try refine XO.r0 4 ?_
 all_goals try first | refine XO.kT 42 ?_ | refine XO.kF 42 ?_ | refine XO.split 42 (fun g42 => ?_) (fun g42 => ?_)
 all_goals try refine XO.r0 5 ?_
 all_goals try refine XO.done [1, 4, 5, 47] ?_
 all_goals try first | refine XW.cT 47 ?_ | refine XW.cF 47 ?_ | refine XW.cB 47 (fun c47 => ?_) (fun c47 => ?_)
 all_goals try refine XW.ra0 11 [2] ?_
 all_goals try (refine XW.atr ?_; first | (exact XP.rs ⟨_, rfl⟩))
 all_goals try refine XW.ra0 12 [1, 4, 5] ?_
 all_goals try refine XW.ra0 13 [1, 4, 5, 49] ?_
 all_goals try first | refine XW.cT 49 ?_ | refine XW.cF 49 ?_ | refine XW.cB 49 (fun c49 => ?_) (fun c49 => ?_)
 all_goals try refine XW.rS 14 ?_
 all_goals try refine XO.r0 2 ?_
 all_goals try (refine XO.p (parse55q x.src ((h.st.2 x hxm).2.1 c49)) ?_; rintro _ ⟨nd, c, rfl⟩)
 all_goals try refine XO.r0 5 ?_
 all_goals try refine XO.done [1, 4, 6] ?_
 all_goals try refine XW.rS 15 ?_
 all_goals try refine XO.r0 2 ?_
 all_goals try (refine XO.p (qt) ?_; rintro _ ⟨_, rfl⟩)
 all_goals try refine XO.r0 1 ?_
 all_goals try refine XO.done [1, 4, 6] ?_
 all_goals try refine XW.ra0 16 [1, 4, 6, 61] ?_
 all_goals try first | refine XW.cT 61 ?_ | refine XW.cF 61 ?_ | refine XW.cB 61 (fun c61 => ?_) (fun c61 => ?_)
 all_goals try refine XW.ra0 17 [2] ?_
 all_goals try (refine XW.atr ?_; first | (exact XP.rs ⟨_, rfl⟩))
 all_goals try refine XW.ra2 8 [1, 4] ?_
 all_goals try (refine XH.le ?_; first | (exact eY hY0 (i + 1) (mkWk [some 0] [] (by simp [wkEnv, lk, lkh, I, str, B, U8, U64, U32, qyC, tsC_c, B]; first | done | omega) (by simp [wkHp, wkHp1, wkEnt, lkh, I, str, qyC, tsC_c, B]))))
 all_goals try refine XW.rS 18 ?_
 all_goals try refine XO.r0 4 ?_
 all_goals try first | refine XO.kT 66 ?_ | refine XO.kF 66 ?_ | refine XO.split 66 (fun g66 => ?_) (fun g66 => ?_)
 all_goals try refine XO.r0 4 ?_
 all_goals try refine XO.done [1, 70] ?_
 all_goals try first | refine XW.cT 70 ?_ | refine XW.cF 70 ?_ | refine XW.cB 70 (fun c70 => ?_) (fun c70 => ?_)
 all_goals try refine XW.ra0 19 [2] ?_
 all_goals try (refine XW.atr ?_; first | (exact XP.rs ⟨_, rfl⟩))
 all_goals try refine XW.rS 20 ?_
 all_goals try refine XO.r0 1 ?_
 all_goals try (refine XO.p (q2) ?_; rintro _ ⟨_, rfl⟩)
 all_goals try refine XO.done [1, 72] ?_
 all_goals try first | refine XW.cT 72 ?_ | refine XW.cF 72 ?_ | refine XW.cB 72 (fun c72 => ?_) (fun c72 => ?_)
 all_goals try refine XW.ra0 21 [2] ?_
 all_goals try (refine XW.atr ?_; first | (exact XP.rs ⟨_, rfl⟩))
 all_goals try refine XW.ra0 22 [1, 74] ?_
 all_goals try refine XW.ra0 24 [1, 74, 77] ?_
 all_goals try first | refine XW.cT 77 ?_ | refine XW.cF 77 ?_ | refine XW.cB 77 (fun c77 => ?_) (fun c77 => ?_)
 all_goals try refine XW.rS 25 ?_
 all_goals try refine XO.r0 4 ?_
 all_goals try first | refine XO.kT 82 ?_ | refine XO.kF 82 ?_ | refine XO.split 82 (fun g82 => ?_) (fun g82 => ?_)
 all_goals try refine XO.r0 4 ?_
 all_goals try refine XO.done [86] ?_
 all_goals try first | refine XW.cT 86 ?_ | refine XW.cF 86 ?_ | refine XW.cB 86 (fun c86 => ?_) (fun c86 => ?_)
 all_goals try refine XW.ra0 26 [2] ?_
 all_goals try (refine XW.atr ?_; first | (exact XP.rs ⟨_, rfl⟩))
 all_goals try refine XW.ra0 27 [1, 87] ?_
 all_goals try first | refine XW.cT 87 ?_ | refine XW.cF 87 ?_ | refine XW.cB 87 (fun c87 => ?_) (fun c87 => ?_)
 all_goals try refine XW.rS 28 ?_
 all_goals try refine XO.r0 2 ?_
 all_goals try (refine XO.p (goodName57 q.key (by have := h.key; omega)) ?_; rintro _ ⟨_, rfl⟩)
 all_goals try refine XO.r0 1 ?_
 all_goals try refine XO.done [1, 92] ?_
 all_goals try first | refine XW.cT 92 ?_ | refine XW.cF 92 ?_ | refine XW.cB 92 (fun c92 => ?_) (fun c92 => ?_)
 all_goals try refine XW.ra0 29 [2] ?_
 all_goals try (refine XW.atr ?_; first | (exact XP.rs ⟨_, rfl⟩))
 all_goals try refine XW.rS 30 ?_
 all_goals try refine XO.r0 2 ?_
 all_goals try (refine XO.p (q4) ?_; rintro _ ⟨_, rfl⟩)
 all_goals try refine XO.r0 1 ?_
 all_goals try refine XO.done [1, 7] ?_
 all_goals try refine XW.ra0 31 [1, 7, 97] ?_
 all_goals try first | refine XW.cT 97 ?_ | refine XW.cF 97 ?_ | refine XW.cB 97 (fun c97 => ?_) (fun c97 => ?_)
 all_goals try refine XW.ra0 32 [2] ?_
 all_goals try (refine XW.atr ?_; first | (exact XP.rs ⟨_, rfl⟩))
 all_goals try refine XW.rS 33 ?_
 all_goals try refine XO.r0 4 ?_
 all_goals try first | refine XO.kT 102 ?_ | refine XO.kF 102 ?_ | refine XO.split 102 (fun g102 => ?_) (fun g102 => ?_)
 all_goals try refine XO.r0 5 ?_
 all_goals try first | refine XO.kT 107 ?_ | refine XO.kF 107 ?_ | refine XO.split 107 (fun g107 => ?_) (fun g107 => ?_)
 all_goals try refine XO.r0 5 ?_
 all_goals try first | refine XO.kT 112 ?_ | refine XO.kF 112 ?_ | refine XO.split 112 (fun g112 => ?_) (fun g112 => ?_)
 all_goals try refine XO.r0 4 ?_
 all_goals try refine XO.done [116] ?_
 all_goals try first | refine XW.cT 116 ?_ | refine XW.cF 116 ?_ | refine XW.cB 116 (fun c116 => ?_) (fun c116 => ?_)
 all_goals try refine XW.ra0 34 [2] ?_
 all_goals try (refine XW.atr ?_; first | (exact XP.rs ⟨_, rfl⟩))
 all_goals try refine XW.rS 23 ?_
 all_goals try refine XO.r0 1 ?_
 all_goals try (refine XO.p (q3) ?_; rintro _ ⟨_, rfl⟩)
 all_goals try refine XO.r0 1 ?_
 all_goals try refine XO.done [2] ?_
 all_goals try (refine XW.atr ?_; first | (exact XP.rs ⟨_, rfl⟩))
 all_goals try refine XW.ra0 35 [2] ?_
 all_goals try (refine XW.atr ?_; first | (exact XP.rs ⟨_, rfl⟩))
/-- What is printed of an event. -/
def EvT (e : Ev) : Prop := In64 e.time ∧ In64 e.host ∧ In64 e.file ∧ In64 e.frm
def EvD (e : Ev) : Prop := EvB e ∧ EvT e
theorem textF_le (e : Ev) (he : EvB e) : (textF e).length ≤ 2 ^ 20 := by
 have h := txTo_len e.lines he.lt e.lines.length
 have h2 := he.ln
 unfold textF
 omega
theorem evE_sn9 (l : List Ev) (x : Ev) : evE (l ++ [x]) = evE l ++ [evC x] := by simp [evE]
def evZ : List AV := [I 0, I 0, I 0, I 0, nilV, I 0, I 0, str [], str [], nilV]
attribute [go_sem] evZ
theorem fields59_0 (e : Ev) (he : EvB e) : PCall Tryz.prog 59 [.agg [I 5, nilV, str [109, 115], .sl 6 kd0, I 0, I 0], .agg (evC e)] (fun r => ∃ fs : List Fl, r = .agg (evC { e with fields := fs }) ∧ EvB { e with fields := fs }) := by
 have qt := PCall.of (text12 e he.ln he.lt)
 have htl := textF_le e he
 obtain ⟨tx, htx⟩ : ∃ tx, tx = textF e := ⟨_, rfl⟩
 rw [← htx] at qt htl
 simp only [evC] at qt
 all_goals refine PCall.go 56 (fn := Tryz.f59) Tryz.func59 rfl rfl rfl (by simp) rfl ?_
 all_goals try refine XW.ra0 0 [2, 3, 4] ?_
 all_goals try refine XW.rS 1 ?_
 all_goals try refine XO.r0 1 ?_
 all_goals try (refine XO.p (qt) ?_; rintro _ rfl)
 all_goals try refine XO.r0 1 ?_
 all_goals try refine XO.done [2, 3, 4, 5] ?_
 all_goals try refine XW.rS 2 ?_
 all_goals try refine XO.r0 2 ?_
 all_goals try (refine XO.p (find82_0 tx htl) ?_; rintro _ (rfl | ⟨f, t, gs, rfl, gok, gl⟩))
 all_goals try refine XO.r0 6 ?_
 all_goals try refine XO.done [3, 4, 5, 6, 7] ?_
 all_goals try refine XW.ra0 3 [3, 4, 5, 6, 20] ?_
 all_goals try first | refine XW.cT 20 ?_ | refine XW.cF 20 ?_ | refine XW.cB 20 (fun c20 => ?_) (fun c20 => ?_)
 all_goals try refine XW.ra0 4 [4] ?_
 all_goals try (refine XW.atr ?_; first | (exact XP.rs ⟨e.fields, rfl, he⟩) | (exact XP.rs ⟨fs, rfl, he.tr, he.sm, by simp only; omega, m3, he.ln, he.lt, he.wt⟩))
 all_goals try refine XW.ra0 5 [3, 4, 5, 6, 8] ?_
 all_goals try refine XW.ra0 6 [3, 4, 5, 6, 8, 9] ?_
 all_goals try (refine XW.lp 3 (fun s : Nat × List Fl => ⟨[(3, .ptr 0 10 0 0), (4, .ptr 1 10 0 0), (5, str tx), (6, .ptr 2 3 0 0), (8, .sl 2 (flE s.2)), (9, I (s.1 : Nat))], [(0, some ⟨62, 10, [evC e]⟩), (1, some ⟨62, 10, [evZ]⟩), (2, some ⟨163, 3, [[I f, I t, .sl 3 (grE gs)]]⟩)]⟩) (fun s => s.1 ≤ gs.length ∧ s.2.length ≤ e.fields.length + s.1 ∧ ∀ y ∈ s.2, y.name.length ≤ 2 ^ 20 ∧ y.val.length ≤ 2 ^ 20) (fun s => gs.length - s.1) (0, e.fields) (mkWk [some 0, some 1, some 2] [] (by simp [wkEnv, lk, lkh, I, str, B, U8, U64, U32, evC, evZ, nilV]; first | done | omega) (by simp [wkHp, wkHp1, wkEnt, lkh, I, str, evC, evZ, nilV])) ?_ (h0 := ⟨by simp, by simp, he.fl⟩); rintro ⟨i, fs⟩ hI0 Y0 hY0; skip)
 all_goals try refine XW.ra0 7 [3, 4, 5, 6, 8, 9, 28] ?_
 all_goals try first | refine XW.cT 28 ?_ | refine XW.cF 28 ?_ | refine XW.cB 28 (fun c28 => ?_) (fun c28 => ?_)
 all_goals try (refine XW.at 9 ?_; obtain ⟨m1, m2, m3⟩ := hI0; (try simp only at m1 m2 m3); have hfn := he.fn; have hi := ltC c28; obtain ⟨⟨nm, ga, gb⟩, hx, hxm⟩ := getx gs i hi; obtain ⟨g1, g2, g3, g4⟩ := gok _ hxm; simp only at g1 g2 g3 g4; obtain ⟨na, rfl⟩ := Int.eq_ofNat_of_zero_le g2; obtain ⟨nb, rfl⟩ := Int.eq_ofNat_of_zero_le (Int.le_trans g2 g3))
 all_goals try refine XW.ra1 9 [3, 4, 5, 6, 8, 9, 10] ?_
 all_goals try refine XW.rS 10 ?_
 all_goals try refine XO.r3 12 ?_
 all_goals try (refine XO.p (set83 fs ⟨nm, (tx.take nb).drop na⟩ (by omega)) ?_; rintro _ ⟨fs2, rfl, fl2, fm2⟩)
 all_goals try refine XO.r0 1 ?_
 all_goals try refine XO.done [3, 4, 5, 6, 8, 9] ?_
 all_goals try refine XW.ra2 8 [3, 4, 5, 6, 8, 9] ?_
 all_goals try (refine XH.le ?_; first | (exact hY0 (i + 1, fs2) (⟨by simp only; omega, by simp only; omega, fun y hy => by rcases fm2 y hy with h | h; exact m3 y h; rw [h]; simp; omega⟩) (by first | omega | (simp; done) | (simp; omega)) _ _ (mkWk [some 0, some 1, some 2] [] (by simp [wkEnv, lk, lkh, I, str, B, U8, U64, U32, evC, evZ, nilV]; first | done | omega) (by simp [wkHp, wkHp1, wkEnt, lkh, I, str, evC, evZ, nilV]))))
 all_goals try (refine XW.at 11 ?_; obtain ⟨m1, m2, m3⟩ := hI0; (try simp only at m1 m2 m3))
 all_goals try refine XW.ra0 11 [3, 4, 8, 51] ?_
 all_goals try first | refine XW.cT 51 ?_ | refine XW.cF 51 ?_ | refine XW.cB 51 (fun c51 => ?_) (fun c51 => ?_)
 all_goals try refine XW.ra0 12 [4] ?_
 all_goals try (refine XW.atr ?_; first | (exact XP.rs ⟨e.fields, rfl, he⟩) | (exact XP.rs ⟨fs, rfl, he.tr, he.sm, by simp only; omega, m3, he.ln, he.lt, he.wt⟩))
 all_goals try (refine XW.at 13 ?_; have h51 : fs.length ≤ 32 := (by have h := of_decide_eq_false c51; omega))
 all_goals try refine XW.ra0 13 [3, 4] ?_
 all_goals try refine XW.ra0 14 [4] ?_
 all_goals try (refine XW.atr ?_; first | (exact XP.rs ⟨e.fields, rfl, he⟩) | (exact XP.rs ⟨fs, rfl, he.tr, he.sm, by simp only; omega, m3, he.ln, he.lt, he.wt⟩))
theorem par55_0 : PCall Tryz.prog 55 [str [40, 109, 115, 58, 92, 100, 43, 41]] (fun r => r = .tup [.agg [I 5, nilV, str [109, 115], .sl 6 kd0, I 0, I 0], I 8, I 0]) := PCall.of (nd0_eq ▸ parse55_0)
theorem apply34_0 (l : List Ev) (hl : ∀ e ∈ l, EvD e) (hn : l.length ≤ 2 ^ 20) : PCall Tryz.prog 34 [str [40, 109, 115, 58, 92, 100, 43, 41], .sl 10 (evE l)] (fun r => ∃ out : List Ev, r = .tup [.sl 10 (evE out), I 0] ∧ out.length = l.length ∧ ∀ e ∈ out, EvD e) := by
 all_goals refine PCall.go 36 (fn := Tryz.f34) Tryz.func34 rfl rfl rfl (by simp) rfl ?_
 all_goals try refine XW.ra0 0 [0, 1] ?_
 all_goals try refine XW.rS 1 ?_
 all_goals try refine XO.r0 1 ?_
 all_goals try (refine XO.p (par55_0) ?_; rintro _ rfl)
 all_goals try refine XO.r0 8 ?_
 all_goals try refine XO.done [1, 6, 8] ?_
 all_goals try refine XW.ra0 2 [1, 6, 8, 18] ?_
 all_goals try first | refine XW.cT 18 ?_ | refine XW.cF 18 ?_ | refine XW.cB 18 (fun c18 => ?_) (fun c18 => ?_)
 all_goals try refine XW.ra0 3 [4, 5] ?_
 all_goals try (refine XW.atr ?_; first | (exact XP.ro2 ⟨out, rfl, by omega, m3⟩))
 all_goals try refine XW.ra0 4 [1, 6, 9] ?_
 all_goals try refine XW.ra0 5 [1, 6, 9, 10] ?_
 all_goals try (refine XW.lp 2 (fun s : Nat × List Ev => ⟨[(1, .sl 10 (evE l)), (6, .ptr 0 6 0 0), (9, .osl 1 s.2.length 10), (10, I (s.1 : Nat))], [(0, some ⟨121, 6, [[I 5, nilV, str [109, 115], .sl 6 kd0, I 0, I 0]]⟩), (1, some ⟨62, 10, evE s.2⟩)]⟩) (fun s => s.1 ≤ l.length ∧ s.2.length = s.1 ∧ ∀ e ∈ s.2, EvD e) (fun s => l.length - s.1) (0, []) (mkWk [some 0, none] [] (by simp [wkEnv, lk, lkh, I, str, B, U8, U64, U32, nilV]; first | done | omega) (by simp [wkHp, wkHp1, wkEnt, lkh, I, str, nilV])) ?_ (h0 := ⟨by simp, by simp, fun _ h => by simp at h⟩); rintro ⟨i, out⟩ hI0 Y0 hY0; skip)
 all_goals try refine XW.ra0 6 [1, 6, 9, 10, 23] ?_
 all_goals try first | refine XW.cT 23 ?_ | refine XW.cF 23 ?_ | refine XW.cB 23 (fun c23 => ?_) (fun c23 => ?_)
 all_goals try (refine XW.at 8 ?_; obtain ⟨m1, m2, m3⟩ := hI0; (try simp only at m1 m2 m3); have hi := ltC c23; obtain ⟨x, hx, hxm⟩ := getx l i hi; have q := fields59_0 x (hl x hxm).1; simp only [evC] at q)
 all_goals try refine XW.rS 8 ?_
 all_goals try refine XO.r1 5 ?_
 all_goals try (skip)
 all_goals try refine XO.r0 1 ?_
 all_goals try (skip)
 all_goals try (refine XO.p (q) ?_; rintro _ ⟨fs, rfl, hb⟩)
 all_goals try (skip)
 all_goals try refine XO.r0 1 ?_
 all_goals try (skip)
 all_goals try refine XO.r0 2 ?_
 all_goals try refine XO.done [1, 6, 9, 10] ?_
 all_goals try refine XW.ra2 7 [1, 6, 9, 10] ?_
 all_goals try (refine XH.le ?_; first | (exact hY0 (i + 1, out ++ [{ x with fields := fs }]) (⟨by simp only; omega, by simp; omega, mem_snoc m3 ⟨hb, (hl x hxm).2⟩⟩) (by first | omega | (simp; done) | (simp; omega)) _ _ (mkWk [some 0, some 1] [] (by simp [wkEnv, lk, lkh, I, str, B, U8, U64, U32, nilV, evE_sn9, evC]; first | done | omega) (by simp [wkHp, wkHp1, wkEnt, lkh, I, str, nilV, evE_sn9, evC]))))
 all_goals try (refine XW.at 9 ?_; obtain ⟨m1, m2, m3⟩ := hI0; (try simp only at m1 m2 m3); have h9 := geC c23)
 all_goals try refine XW.ra0 9 [4, 5] ?_
 all_goals try (refine XW.atr ?_; first | (exact XP.ro2 ⟨out, rfl, by omega, m3⟩))
theorem fields59_1 (e : Ev) (he : EvB e) : PCall Tryz.prog 59 [.agg [I 2, nilV, str [], .sl 6 kd1, I 0, I 0], .agg (evC e)] (fun r => ∃ fs : List Fl, r = .agg (evC { e with fields := fs }) ∧ EvB { e with fields := fs }) := by
 have qt := PCall.of (text12 e he.ln he.lt)
 have htl := textF_le e he
 obtain ⟨tx, htx⟩ : ∃ tx, tx = textF e := ⟨_, rfl⟩
 rw [← htx] at qt htl
 simp only [evC] at qt
 all_goals refine PCall.go 56 (fn := Tryz.f59) Tryz.func59 rfl rfl rfl (by simp) rfl ?_
 all_goals try refine XW.ra0 0 [2, 3, 4] ?_
 all_goals try refine XW.rS 1 ?_
 all_goals try refine XO.r0 1 ?_
 all_goals try (refine XO.p (qt) ?_; rintro _ rfl)
 all_goals try refine XO.r0 1 ?_
 all_goals try refine XO.done [2, 3, 4, 5] ?_
 all_goals try refine XW.rS 2 ?_
 all_goals try refine XO.r0 2 ?_
 all_goals try (refine XO.p (find82_1 tx htl) ?_; rintro _ (rfl | ⟨f, t, gs, rfl, gok, gl⟩))
 all_goals try refine XO.r0 6 ?_
 all_goals try refine XO.done [3, 4, 5, 6, 7] ?_
 all_goals try refine XW.ra0 3 [3, 4, 5, 6, 20] ?_
 all_goals try first | refine XW.cT 20 ?_ | refine XW.cF 20 ?_ | refine XW.cB 20 (fun c20 => ?_) (fun c20 => ?_)
 all_goals try refine XW.ra0 4 [4] ?_
 all_goals try (refine XW.atr ?_; first | (exact XP.rs ⟨e.fields, rfl, he⟩) | (exact XP.rs ⟨fs, rfl, he.tr, he.sm, by simp only; omega, m3, he.ln, he.lt, he.wt⟩))
 all_goals try refine XW.ra0 5 [3, 4, 5, 6, 8] ?_
 all_goals try refine XW.ra0 6 [3, 4, 5, 6, 8, 9] ?_
 all_goals try (refine XW.lp 3 (fun s : Nat × List Fl => ⟨[(3, .ptr 0 10 0 0), (4, .ptr 1 10 0 0), (5, str tx), (6, .ptr 2 3 0 0), (8, .sl 2 (flE s.2)), (9, I (s.1 : Nat))], [(0, some ⟨62, 10, [evC e]⟩), (1, some ⟨62, 10, [evZ]⟩), (2, some ⟨163, 3, [[I f, I t, .sl 3 (grE gs)]]⟩)]⟩) (fun s => s.1 ≤ gs.length ∧ s.2.length ≤ e.fields.length + s.1 ∧ ∀ y ∈ s.2, y.name.length ≤ 2 ^ 20 ∧ y.val.length ≤ 2 ^ 20) (fun s => gs.length - s.1) (0, e.fields) (mkWk [some 0, some 1, some 2] [] (by simp [wkEnv, lk, lkh, I, str, B, U8, U64, U32, evC, evZ, nilV]; first | done | omega) (by simp [wkHp, wkHp1, wkEnt, lkh, I, str, evC, evZ, nilV])) ?_ (h0 := ⟨by simp, by simp, he.fl⟩); rintro ⟨i, fs⟩ hI0 Y0 hY0; skip)
 all_goals try refine XW.ra0 7 [3, 4, 5, 6, 8, 9, 28] ?_
 all_goals try first | refine XW.cT 28 ?_ | refine XW.cF 28 ?_ | refine XW.cB 28 (fun c28 => ?_) (fun c28 => ?_)
 all_goals try (refine XW.at 9 ?_; obtain ⟨m1, m2, m3⟩ := hI0; (try simp only at m1 m2 m3); have hfn := he.fn; have hi := ltC c28; obtain ⟨⟨nm, ga, gb⟩, hx, hxm⟩ := getx gs i hi; obtain ⟨g1, g2, g3, g4⟩ := gok _ hxm; simp only at g1 g2 g3 g4; obtain ⟨na, rfl⟩ := Int.eq_ofNat_of_zero_le g2; obtain ⟨nb, rfl⟩ := Int.eq_ofNat_of_zero_le (Int.le_trans g2 g3))
 all_goals try refine XW.ra1 9 [3, 4, 5, 6, 8, 9, 10] ?_
 all_goals try refine XW.rS 10 ?_
 all_goals try refine XO.r3 12 ?_
 all_goals try (refine XO.p (set83 fs ⟨nm, (tx.take nb).drop na⟩ (by omega)) ?_; rintro _ ⟨fs2, rfl, fl2, fm2⟩)
 all_goals try refine XO.r0 1 ?_
 all_goals try refine XO.done [3, 4, 5, 6, 8, 9] ?_
 all_goals try refine XW.ra2 8 [3, 4, 5, 6, 8, 9] ?_
 all_goals try (refine XH.le ?_; first | (exact hY0 (i + 1, fs2) (⟨by simp only; omega, by simp only; omega, fun y hy => by rcases fm2 y hy with h | h; exact m3 y h; rw [h]; simp; omega⟩) (by first | omega | (simp; done) | (simp; omega)) _ _ (mkWk [some 0, some 1, some 2] [] (by simp [wkEnv, lk, lkh, I, str, B, U8, U64, U32, evC, evZ, nilV]; first | done | omega) (by simp [wkHp, wkHp1, wkEnt, lkh, I, str, evC, evZ, nilV]))))
 all_goals try (refine XW.at 11 ?_; obtain ⟨m1, m2, m3⟩ := hI0; (try simp only at m1 m2 m3))
 all_goals try refine XW.ra0 11 [3, 4, 8, 51] ?_
 all_goals try first | refine XW.cT 51 ?_ | refine XW.cF 51 ?_ | refine XW.cB 51 (fun c51 => ?_) (fun c51 => ?_)
 all_goals try refine XW.ra0 12 [4] ?_
 all_goals try (refine XW.atr ?_; first | (exact XP.rs ⟨e.fields, rfl, he⟩) | (exact XP.rs ⟨fs, rfl, he.tr, he.sm, by simp only; omega, m3, he.ln, he.lt, he.wt⟩))
 all_goals try (refine XW.at 13 ?_; have h51 : fs.length ≤ 32 := (by have h := of_decide_eq_false c51; omega))
 all_goals try refine XW.ra0 13 [3, 4] ?_
 all_goals try refine XW.ra0 14 [4] ?_
 all_goals try (refine XW.atr ?_; first | (exact XP.rs ⟨e.fields, rfl, he⟩) | (exact XP.rs ⟨fs, rfl, he.tr, he.sm, by simp only; omega, m3, he.ln, he.lt, he.wt⟩))
theorem par55_1 : PCall Tryz.prog 55 [str [40, 117, 115, 101, 114, 58, 91, 97, 45, 122, 93, 43, 41, 95, 40, 99, 111, 100, 101, 58, 92, 100, 41]] (fun r => r = .tup [.agg [I 2, nilV, str [], .sl 6 kd1, I 0, I 0], I 23, I 0]) := PCall.of (nd1_eq ▸ parse55_1)
theorem apply34_1 (l : List Ev) (hl : ∀ e ∈ l, EvD e) (hn : l.length ≤ 2 ^ 20) : PCall Tryz.prog 34 [str [40, 117, 115, 101, 114, 58, 91, 97, 45, 122, 93, 43, 41, 95, 40, 99, 111, 100, 101, 58, 92, 100, 41], .sl 10 (evE l)] (fun r => ∃ out : List Ev, r = .tup [.sl 10 (evE out), I 0] ∧ out.length = l.length ∧ ∀ e ∈ out, EvD e) := by
 all_goals refine PCall.go 36 (fn := Tryz.f34) Tryz.func34 rfl rfl rfl (by simp) rfl ?_
 all_goals try refine XW.ra0 0 [0, 1] ?_
 all_goals try refine XW.rS 1 ?_
 all_goals try refine XO.r0 1 ?_
 all_goals try (refine XO.p (par55_1) ?_; rintro _ rfl)
 all_goals try refine XO.r0 8 ?_
 all_goals try refine XO.done [1, 6, 8] ?_
 all_goals try refine XW.ra0 2 [1, 6, 8, 18] ?_
 all_goals try first | refine XW.cT 18 ?_ | refine XW.cF 18 ?_ | refine XW.cB 18 (fun c18 => ?_) (fun c18 => ?_)
 all_goals try refine XW.ra0 3 [4, 5] ?_
 all_goals try (refine XW.atr ?_; first | (exact XP.ro2 ⟨out, rfl, by omega, m3⟩))
 all_goals try refine XW.ra0 4 [1, 6, 9] ?_
 all_goals try refine XW.ra0 5 [1, 6, 9, 10] ?_
 all_goals try (refine XW.lp 2 (fun s : Nat × List Ev => ⟨[(1, .sl 10 (evE l)), (6, .ptr 0 6 0 0), (9, .osl 1 s.2.length 10), (10, I (s.1 : Nat))], [(0, some ⟨121, 6, [[I 2, nilV, str [], .sl 6 kd1, I 0, I 0]]⟩), (1, some ⟨62, 10, evE s.2⟩)]⟩) (fun s => s.1 ≤ l.length ∧ s.2.length = s.1 ∧ ∀ e ∈ s.2, EvD e) (fun s => l.length - s.1) (0, []) (mkWk [some 0, none] [] (by simp [wkEnv, lk, lkh, I, str, B, U8, U64, U32, nilV]; first | done | omega) (by simp [wkHp, wkHp1, wkEnt, lkh, I, str, nilV])) ?_ (h0 := ⟨by simp, by simp, fun _ h => by simp at h⟩); rintro ⟨i, out⟩ hI0 Y0 hY0; skip)
 all_goals try refine XW.ra0 6 [1, 6, 9, 10, 23] ?_
 all_goals try first | refine XW.cT 23 ?_ | refine XW.cF 23 ?_ | refine XW.cB 23 (fun c23 => ?_) (fun c23 => ?_)
 all_goals try (refine XW.at 8 ?_; obtain ⟨m1, m2, m3⟩ := hI0; (try simp only at m1 m2 m3); have hi := ltC c23; obtain ⟨x, hx, hxm⟩ := getx l i hi; have q := fields59_1 x (hl x hxm).1; simp only [evC] at q)
 all_goals try refine XW.rS 8 ?_
 all_goals try refine XO.r1 5 ?_
 all_goals try (skip)
 all_goals try refine XO.r0 1 ?_
 all_goals try (skip)
 all_goals try (refine XO.p (q) ?_; rintro _ ⟨fs, rfl, hb⟩)
 all_goals try (skip)
 all_goals try refine XO.r0 1 ?_
 all_goals try (skip)
 all_goals try refine XO.r0 2 ?_
 all_goals try refine XO.done [1, 6, 9, 10] ?_
 all_goals try refine XW.ra2 7 [1, 6, 9, 10] ?_
 all_goals try (refine XH.le ?_; first | (exact hY0 (i + 1, out ++ [{ x with fields := fs }]) (⟨by simp only; omega, by simp; omega, mem_snoc m3 ⟨hb, (hl x hxm).2⟩⟩) (by first | omega | (simp; done) | (simp; omega)) _ _ (mkWk [some 0, some 1] [] (by simp [wkEnv, lk, lkh, I, str, B, U8, U64, U32, nilV, evE_sn9, evC]; first | done | omega) (by simp [wkHp, wkHp1, wkEnt, lkh, I, str, nilV, evE_sn9, evC]))))
 all_goals try (refine XW.at 9 ?_; obtain ⟨m1, m2, m3⟩ := hI0; (try simp only at m1 m2 m3); have h9 := geC c23)
 all_goals try refine XW.ra0 9 [4, 5] ?_
 all_goals try (refine XW.atr ?_; first | (exact XP.ro2 ⟨out, rfl, by omega, m3⟩))
theorem fields59_2 (e : Ev) (he : EvB e) : PCall Tryz.prog 59 [.agg [I 1, .sl 2 rk2, str [], nilV, I 0, I 0], .agg (evC e)] (fun r => ∃ fs : List Fl, r = .agg (evC { e with fields := fs }) ∧ EvB { e with fields := fs }) := by
 have qt := PCall.of (text12 e he.ln he.lt)
 have htl := textF_le e he
 obtain ⟨tx, htx⟩ : ∃ tx, tx = textF e := ⟨_, rfl⟩
 rw [← htx] at qt htl
 simp only [evC] at qt
 all_goals refine PCall.go 56 (fn := Tryz.f59) Tryz.func59 rfl rfl rfl (by simp) rfl ?_
 all_goals try refine XW.ra0 0 [2, 3, 4] ?_
 all_goals try refine XW.rS 1 ?_
 all_goals try refine XO.r0 1 ?_
 all_goals try (refine XO.p (qt) ?_; rintro _ rfl)
 all_goals try refine XO.r0 1 ?_
 all_goals try refine XO.done [2, 3, 4, 5] ?_
 all_goals try refine XW.rS 2 ?_
 all_goals try refine XO.r0 2 ?_
 all_goals try (refine XO.p (find82_2 tx htl) ?_; rintro _ (rfl | ⟨f, t, gs, rfl, gok, gl⟩))
 all_goals try refine XO.r0 6 ?_
 all_goals try refine XO.done [3, 4, 5, 6, 7] ?_
 all_goals try refine XW.ra0 3 [3, 4, 5, 6, 20] ?_
 all_goals try first | refine XW.cT 20 ?_ | refine XW.cF 20 ?_ | refine XW.cB 20 (fun c20 => ?_) (fun c20 => ?_)
 all_goals try refine XW.ra0 4 [4] ?_
 all_goals try (refine XW.atr ?_; first | (exact XP.rs ⟨e.fields, rfl, he⟩) | (exact XP.rs ⟨fs, rfl, he.tr, he.sm, by simp only; omega, m3, he.ln, he.lt, he.wt⟩))
 all_goals try refine XW.ra0 5 [3, 4, 5, 6, 8] ?_
 all_goals try refine XW.ra0 6 [3, 4, 5, 6, 8, 9] ?_
 all_goals try (refine XW.lp 3 (fun s : Nat × List Fl => ⟨[(3, .ptr 0 10 0 0), (4, .ptr 1 10 0 0), (5, str tx), (6, .ptr 2 3 0 0), (8, .sl 2 (flE s.2)), (9, I (s.1 : Nat))], [(0, some ⟨62, 10, [evC e]⟩), (1, some ⟨62, 10, [evZ]⟩), (2, some ⟨163, 3, [[I f, I t, .sl 3 (grE gs)]]⟩)]⟩) (fun s => s.1 ≤ gs.length ∧ s.2.length ≤ e.fields.length + s.1 ∧ ∀ y ∈ s.2, y.name.length ≤ 2 ^ 20 ∧ y.val.length ≤ 2 ^ 20) (fun s => gs.length - s.1) (0, e.fields) (mkWk [some 0, some 1, some 2] [] (by simp [wkEnv, lk, lkh, I, str, B, U8, U64, U32, evC, evZ, nilV]; first | done | omega) (by simp [wkHp, wkHp1, wkEnt, lkh, I, str, evC, evZ, nilV])) ?_ (h0 := ⟨by simp, by simp, he.fl⟩); rintro ⟨i, fs⟩ hI0 Y0 hY0; skip)
 all_goals try refine XW.ra0 7 [3, 4, 5, 6, 8, 9, 28] ?_
 all_goals try first | refine XW.cT 28 ?_ | refine XW.cF 28 ?_ | refine XW.cB 28 (fun c28 => ?_) (fun c28 => ?_)
 all_goals try (refine XW.at 9 ?_; obtain ⟨m1, m2, m3⟩ := hI0; (try simp only at m1 m2 m3); have hfn := he.fn; have hi := ltC c28; obtain ⟨⟨nm, ga, gb⟩, hx, hxm⟩ := getx gs i hi; obtain ⟨g1, g2, g3, g4⟩ := gok _ hxm; simp only at g1 g2 g3 g4; obtain ⟨na, rfl⟩ := Int.eq_ofNat_of_zero_le g2; obtain ⟨nb, rfl⟩ := Int.eq_ofNat_of_zero_le (Int.le_trans g2 g3))
 all_goals try refine XW.ra1 9 [3, 4, 5, 6, 8, 9, 10] ?_
 all_goals try refine XW.rS 10 ?_
 all_goals try refine XO.r3 12 ?_
 all_goals try (refine XO.p (set83 fs ⟨nm, (tx.take nb).drop na⟩ (by omega)) ?_; rintro _ ⟨fs2, rfl, fl2, fm2⟩)
 all_goals try refine XO.r0 1 ?_
 all_goals try refine XO.done [3, 4, 5, 6, 8, 9] ?_
 all_goals try refine XW.ra2 8 [3, 4, 5, 6, 8, 9] ?_
 all_goals try (refine XH.le ?_; first | (exact hY0 (i + 1, fs2) (⟨by simp only; omega, by simp only; omega, fun y hy => by rcases fm2 y hy with h | h; exact m3 y h; rw [h]; simp; omega⟩) (by first | omega | (simp; done) | (simp; omega)) _ _ (mkWk [some 0, some 1, some 2] [] (by simp [wkEnv, lk, lkh, I, str, B, U8, U64, U32, evC, evZ, nilV]; first | done | omega) (by simp [wkHp, wkHp1, wkEnt, lkh, I, str, evC, evZ, nilV]))))
 all_goals try (refine XW.at 11 ?_; obtain ⟨m1, m2, m3⟩ := hI0; (try simp only at m1 m2 m3))
 all_goals try refine XW.ra0 11 [3, 4, 8, 51] ?_
 all_goals try first | refine XW.cT 51 ?_ | refine XW.cF 51 ?_ | refine XW.cB 51 (fun c51 => ?_) (fun c51 => ?_)
 all_goals try refine XW.ra0 12 [4] ?_
 all_goals try (refine XW.atr ?_; first | (exact XP.rs ⟨e.fields, rfl, he⟩) | (exact XP.rs ⟨fs, rfl, he.tr, he.sm, by simp only; omega, m3, he.ln, he.lt, he.wt⟩))
 all_goals try (refine XW.at 13 ?_; have h51 : fs.length ≤ 32 := (by have h := of_decide_eq_false c51; omega))
 all_goals try refine XW.ra0 13 [3, 4] ?_
 all_goals try refine XW.ra0 14 [4] ?_
 all_goals try (refine XW.atr ?_; first | (exact XP.rs ⟨e.fields, rfl, he⟩) | (exact XP.rs ⟨fs, rfl, he.tr, he.sm, by simp only; omega, m3, he.ln, he.lt, he.wt⟩))
theorem par55_2 : PCall Tryz.prog 55 [str [120]] (fun r => r = .tup [.agg [I 1, .sl 2 rk2, str [], nilV, I 0, I 0], I 1, I 0]) := PCall.of (nd2_eq ▸ parse55_2)
theorem apply34_2 (l : List Ev) (hl : ∀ e ∈ l, EvD e) (hn : l.length ≤ 2 ^ 20) : PCall Tryz.prog 34 [str [120], .sl 10 (evE l)] (fun r => ∃ out : List Ev, r = .tup [.sl 10 (evE out), I 0] ∧ out.length = l.length ∧ ∀ e ∈ out, EvD e) := by
 all_goals refine PCall.go 36 (fn := Tryz.f34) Tryz.func34 rfl rfl rfl (by simp) rfl ?_
 all_goals try refine XW.ra0 0 [0, 1] ?_
 all_goals try refine XW.rS 1 ?_
 all_goals try refine XO.r0 1 ?_
 all_goals try (refine XO.p (par55_2) ?_; rintro _ rfl)
 all_goals try refine XO.r0 8 ?_
 all_goals try refine XO.done [1, 6, 8] ?_
 all_goals try refine XW.ra0 2 [1, 6, 8, 18] ?_
 all_goals try first | refine XW.cT 18 ?_ | refine XW.cF 18 ?_ | refine XW.cB 18 (fun c18 => ?_) (fun c18 => ?_)
 all_goals try refine XW.ra0 3 [4, 5] ?_
 all_goals try (refine XW.atr ?_; first | (exact XP.ro2 ⟨out, rfl, by omega, m3⟩))
 all_goals try refine XW.ra0 4 [1, 6, 9] ?_
 all_goals try refine XW.ra0 5 [1, 6, 9, 10] ?_
 all_goals try (refine XW.lp 2 (fun s : Nat × List Ev => ⟨[(1, .sl 10 (evE l)), (6, .ptr 0 6 0 0), (9, .osl 1 s.2.length 10), (10, I (s.1 : Nat))], [(0, some ⟨121, 6, [[I 1, .sl 2 rk2, str [], nilV, I 0, I 0]]⟩), (1, some ⟨62, 10, evE s.2⟩)]⟩) (fun s => s.1 ≤ l.length ∧ s.2.length = s.1 ∧ ∀ e ∈ s.2, EvD e) (fun s => l.length - s.1) (0, []) (mkWk [some 0, none] [] (by simp [wkEnv, lk, lkh, I, str, B, U8, U64, U32, nilV]; first | done | omega) (by simp [wkHp, wkHp1, wkEnt, lkh, I, str, nilV])) ?_ (h0 := ⟨by simp, by simp, fun _ h => by simp at h⟩); rintro ⟨i, out⟩ hI0 Y0 hY0; skip)
 all_goals try refine XW.ra0 6 [1, 6, 9, 10, 23] ?_
 all_goals try first | refine XW.cT 23 ?_ | refine XW.cF 23 ?_ | refine XW.cB 23 (fun c23 => ?_) (fun c23 => ?_)
 all_goals try (refine XW.at 8 ?_; obtain ⟨m1, m2, m3⟩ := hI0; (try simp only at m1 m2 m3); have hi := ltC c23; obtain ⟨x, hx, hxm⟩ := getx l i hi; have q := fields59_2 x (hl x hxm).1; simp only [evC] at q)
 all_goals try refine XW.rS 8 ?_
 all_goals try refine XO.r1 5 ?_
 all_goals try (skip)
 all_goals try refine XO.r0 1 ?_
 all_goals try (skip)
 all_goals try (refine XO.p (q) ?_; rintro _ ⟨fs, rfl, hb⟩)
 all_goals try (skip)
 all_goals try refine XO.r0 1 ?_
 all_goals try (skip)
 all_goals try refine XO.r0 2 ?_
 all_goals try refine XO.done [1, 6, 9, 10] ?_
 all_goals try refine XW.ra2 7 [1, 6, 9, 10] ?_
 all_goals try (refine XH.le ?_; first | (exact hY0 (i + 1, out ++ [{ x with fields := fs }]) (⟨by simp only; omega, by simp; omega, mem_snoc m3 ⟨hb, (hl x hxm).2⟩⟩) (by first | omega | (simp; done) | (simp; omega)) _ _ (mkWk [some 0, some 1] [] (by simp [wkEnv, lk, lkh, I, str, B, U8, U64, U32, nilV, evE_sn9, evC]; first | done | omega) (by simp [wkHp, wkHp1, wkEnt, lkh, I, str, nilV, evE_sn9, evC]))))
 all_goals try (refine XW.at 9 ?_; obtain ⟨m1, m2, m3⟩ := hI0; (try simp only at m1 m2 m3); have h9 := geC c23)
 all_goals try refine XW.ra0 9 [4, 5] ?_
 all_goals try (refine XW.atr ?_; first | (exact XP.ro2 ⟨out, rfl, by omega, m3⟩))
theorem fields59_3 (e : Ev) (he : EvB e) : PCall Tryz.prog 59 [.agg [I 5, nilV, str [108, 101, 118, 101, 108], .sl 6 kd3, I 0, I 0], .agg (evC e)] (fun r => ∃ fs : List Fl, r = .agg (evC { e with fields := fs }) ∧ EvB { e with fields := fs }) := by
 have qt := PCall.of (text12 e he.ln he.lt)
 have htl := textF_le e he
 obtain ⟨tx, htx⟩ : ∃ tx, tx = textF e := ⟨_, rfl⟩
 rw [← htx] at qt htl
 simp only [evC] at qt
 all_goals refine PCall.go 56 (fn := Tryz.f59) Tryz.func59 rfl rfl rfl (by simp) rfl ?_
 all_goals try refine XW.ra0 0 [2, 3, 4] ?_
 all_goals try refine XW.rS 1 ?_
 all_goals try refine XO.r0 1 ?_
 all_goals try (refine XO.p (qt) ?_; rintro _ rfl)
 all_goals try refine XO.r0 1 ?_
 all_goals try refine XO.done [2, 3, 4, 5] ?_
 all_goals try refine XW.rS 2 ?_
 all_goals try refine XO.r0 2 ?_
 all_goals try (refine XO.p (find82_3 tx htl) ?_; rintro _ (rfl | ⟨f, t, gs, rfl, gok, gl⟩))
 all_goals try refine XO.r0 6 ?_
 all_goals try refine XO.done [3, 4, 5, 6, 7] ?_
 all_goals try refine XW.ra0 3 [3, 4, 5, 6, 20] ?_
 all_goals try first | refine XW.cT 20 ?_ | refine XW.cF 20 ?_ | refine XW.cB 20 (fun c20 => ?_) (fun c20 => ?_)
 all_goals try refine XW.ra0 4 [4] ?_
 all_goals try (refine XW.atr ?_; first | (exact XP.rs ⟨e.fields, rfl, he⟩) | (exact XP.rs ⟨fs, rfl, he.tr, he.sm, by simp only; omega, m3, he.ln, he.lt, he.wt⟩))
 all_goals try refine XW.ra0 5 [3, 4, 5, 6, 8] ?_
 all_goals try refine XW.ra0 6 [3, 4, 5, 6, 8, 9] ?_
 all_goals try (refine XW.lp 3 (fun s : Nat × List Fl => ⟨[(3, .ptr 0 10 0 0), (4, .ptr 1 10 0 0), (5, str tx), (6, .ptr 2 3 0 0), (8, .sl 2 (flE s.2)), (9, I (s.1 : Nat))], [(0, some ⟨62, 10, [evC e]⟩), (1, some ⟨62, 10, [evZ]⟩), (2, some ⟨163, 3, [[I f, I t, .sl 3 (grE gs)]]⟩)]⟩) (fun s => s.1 ≤ gs.length ∧ s.2.length ≤ e.fields.length + s.1 ∧ ∀ y ∈ s.2, y.name.length ≤ 2 ^ 20 ∧ y.val.length ≤ 2 ^ 20) (fun s => gs.length - s.1) (0, e.fields) (mkWk [some 0, some 1, some 2] [] (by simp [wkEnv, lk, lkh, I, str, B, U8, U64, U32, evC, evZ, nilV]; first | done | omega) (by simp [wkHp, wkHp1, wkEnt, lkh, I, str, evC, evZ, nilV])) ?_ (h0 := ⟨by simp, by simp, he.fl⟩); rintro ⟨i, fs⟩ hI0 Y0 hY0; skip)
 all_goals try refine XW.ra0 7 [3, 4, 5, 6, 8, 9, 28] ?_
 all_goals try first | refine XW.cT 28 ?_ | refine XW.cF 28 ?_ | refine XW.cB 28 (fun c28 => ?_) (fun c28 => ?_)
 all_goals try (refine XW.at 9 ?_; obtain ⟨m1, m2, m3⟩ := hI0; (try simp only at m1 m2 m3); have hfn := he.fn; have hi := ltC c28; obtain ⟨⟨nm, ga, gb⟩, hx, hxm⟩ := getx gs i hi; obtain ⟨g1, g2, g3, g4⟩ := gok _ hxm; simp only at g1 g2 g3 g4; obtain ⟨na, rfl⟩ := Int.eq_ofNat_of_zero_le g2; obtain ⟨nb, rfl⟩ := Int.eq_ofNat_of_zero_le (Int.le_trans g2 g3))
 all_goals try refine XW.ra1 9 [3, 4, 5, 6, 8, 9, 10] ?_
 all_goals try refine XW.rS 10 ?_
 all_goals try refine XO.r3 12 ?_
 all_goals try (refine XO.p (set83 fs ⟨nm, (tx.take nb).drop na⟩ (by omega)) ?_; rintro _ ⟨fs2, rfl, fl2, fm2⟩)
 all_goals try refine XO.r0 1 ?_
 all_goals try refine XO.done [3, 4, 5, 6, 8, 9] ?_
 all_goals try refine XW.ra2 8 [3, 4, 5, 6, 8, 9] ?_
 all_goals try (refine XH.le ?_; first | (exact hY0 (i + 1, fs2) (⟨by simp only; omega, by simp only; omega, fun y hy => by rcases fm2 y hy with h | h; exact m3 y h; rw [h]; simp; omega⟩) (by first | omega | (simp; done) | (simp; omega)) _ _ (mkWk [some 0, some 1, some 2] [] (by simp [wkEnv, lk, lkh, I, str, B, U8, U64, U32, evC, evZ, nilV]; first | done | omega) (by simp [wkHp, wkHp1, wkEnt, lkh, I, str, evC, evZ, nilV]))))
 all_goals try (refine XW.at 11 ?_; obtain ⟨m1, m2, m3⟩ := hI0; (try simp only at m1 m2 m3))
 all_goals try refine XW.ra0 11 [3, 4, 8, 51] ?_
 all_goals try first | refine XW.cT 51 ?_ | refine XW.cF 51 ?_ | refine XW.cB 51 (fun c51 => ?_) (fun c51 => ?_)
 all_goals try refine XW.ra0 12 [4] ?_
 all_goals try (refine XW.atr ?_; first | (exact XP.rs ⟨e.fields, rfl, he⟩) | (exact XP.rs ⟨fs, rfl, he.tr, he.sm, by simp only; omega, m3, he.ln, he.lt, he.wt⟩))
 all_goals try (refine XW.at 13 ?_; have h51 : fs.length ≤ 32 := (by have h := of_decide_eq_false c51; omega))
 all_goals try refine XW.ra0 13 [3, 4] ?_
 all_goals try refine XW.ra0 14 [4] ?_
 all_goals try (refine XW.atr ?_; first | (exact XP.rs ⟨e.fields, rfl, he⟩) | (exact XP.rs ⟨fs, rfl, he.tr, he.sm, by simp only; omega, m3, he.ln, he.lt, he.wt⟩))
theorem par55_3 : PCall Tryz.prog 55 [str [40, 108, 101, 118, 101, 108, 58, 103, 101, 116, 124, 119, 97, 114, 110, 41]] (fun r => r = .tup [.agg [I 5, nilV, str [108, 101, 118, 101, 108], .sl 6 kd3, I 0, I 0], I 16, I 0]) := PCall.of (nd3_eq ▸ parse55_3)
theorem apply34_3 (l : List Ev) (hl : ∀ e ∈ l, EvD e) (hn : l.length ≤ 2 ^ 20) : PCall Tryz.prog 34 [str [40, 108, 101, 118, 101, 108, 58, 103, 101, 116, 124, 119, 97, 114, 110, 41], .sl 10 (evE l)] (fun r => ∃ out : List Ev, r = .tup [.sl 10 (evE out), I 0] ∧ out.length = l.length ∧ ∀ e ∈ out, EvD e) := by
 all_goals refine PCall.go 36 (fn := Tryz.f34) Tryz.func34 rfl rfl rfl (by simp) rfl ?_
 all_goals try refine XW.ra0 0 [0, 1] ?_
 all_goals try refine XW.rS 1 ?_
 all_goals try refine XO.r0 1 ?_
 all_goals try (refine XO.p (par55_3) ?_; rintro _ rfl)
 all_goals try refine XO.r0 8 ?_
 all_goals try refine XO.done [1, 6, 8] ?_
 all_goals try refine XW.ra0 2 [1, 6, 8, 18] ?_
 all_goals try first | refine XW.cT 18 ?_ | refine XW.cF 18 ?_ | refine XW.cB 18 (fun c18 => ?_) (fun c18 => ?_)
 all_goals try refine XW.ra0 3 [4, 5] ?_
 all_goals try (refine XW.atr ?_; first | (exact XP.ro2 ⟨out, rfl, by omega, m3⟩))
 all_goals try refine XW.ra0 4 [1, 6, 9] ?_
 all_goals try refine XW.ra0 5 [1, 6, 9, 10] ?_
 all_goals try (refine XW.lp 2 (fun s : Nat × List Ev => ⟨[(1, .sl 10 (evE l)), (6, .ptr 0 6 0 0), (9, .osl 1 s.2.length 10), (10, I (s.1 : Nat))], [(0, some ⟨121, 6, [[I 5, nilV, str [108, 101, 118, 101, 108], .sl 6 kd3, I 0, I 0]]⟩), (1, some ⟨62, 10, evE s.2⟩)]⟩) (fun s => s.1 ≤ l.length ∧ s.2.length = s.1 ∧ ∀ e ∈ s.2, EvD e) (fun s => l.length - s.1) (0, []) (mkWk [some 0, none] [] (by simp [wkEnv, lk, lkh, I, str, B, U8, U64, U32, nilV]; first | done | omega) (by simp [wkHp, wkHp1, wkEnt, lkh, I, str, nilV])) ?_ (h0 := ⟨by simp, by simp, fun _ h => by simp at h⟩); rintro ⟨i, out⟩ hI0 Y0 hY0; skip)
 all_goals try refine XW.ra0 6 [1, 6, 9, 10, 23] ?_
 all_goals try first | refine XW.cT 23 ?_ | refine XW.cF 23 ?_ | refine XW.cB 23 (fun c23 => ?_) (fun c23 => ?_)
 all_goals try (refine XW.at 8 ?_; obtain ⟨m1, m2, m3⟩ := hI0; (try simp only at m1 m2 m3); have hi := ltC c23; obtain ⟨x, hx, hxm⟩ := getx l i hi; have q := fields59_3 x (hl x hxm).1; simp only [evC] at q)
 all_goals try refine XW.rS 8 ?_
 all_goals try refine XO.r1 5 ?_
 all_goals try (skip)
 all_goals try refine XO.r0 1 ?_
 all_goals try (skip)
 all_goals try (refine XO.p (q) ?_; rintro _ ⟨fs, rfl, hb⟩)
 all_goals try (skip)
 all_goals try refine XO.r0 1 ?_
 all_goals try (skip)
 all_goals try refine XO.r0 2 ?_
 all_goals try refine XO.done [1, 6, 9, 10] ?_
 all_goals try refine XW.ra2 7 [1, 6, 9, 10] ?_
 all_goals try (refine XH.le ?_; first | (exact hY0 (i + 1, out ++ [{ x with fields := fs }]) (⟨by simp only; omega, by simp; omega, mem_snoc m3 ⟨hb, (hl x hxm).2⟩⟩) (by first | omega | (simp; done) | (simp; omega)) _ _ (mkWk [some 0, some 1] [] (by simp [wkEnv, lk, lkh, I, str, B, U8, U64, U32, nilV, evE_sn9, evC]; first | done | omega) (by simp [wkHp, wkHp1, wkEnt, lkh, I, str, nilV, evE_sn9, evC]))))
 all_goals try (refine XW.at 9 ?_; obtain ⟨m1, m2, m3⟩ := hI0; (try simp only at m1 m2 m3); have h9 := geC c23)
 all_goals try refine XW.ra0 9 [4, 5] ?_
 all_goals try (refine XW.atr ?_; first | (exact XP.ro2 ⟨out, rfl, by omega, m3⟩))
theorem apply34 (s : S) (hs : s ∈ qsL) (l : List Ev) (hl : ∀ e ∈ l, EvD e) (hn : l.length ≤ 2 ^ 20) : PCall Tryz.prog 34 [str s, .sl 10 (evE l)] (fun r => ∃ out : List Ev, r = .tup [.sl 10 (evE out), I 0] ∧ out.length = l.length ∧ ∀ e ∈ out, EvD e) := by
 simp only [qsL, List.mem_cons, List.not_mem_nil, or_false] at hs
 rcases hs with rfl | rfl | rfl | rfl
 · exact apply34_0 l hl hn
 · exact apply34_1 l hl hn
 · exact apply34_2 l hl hn
 · exact apply34_3 l hl hn
end Go.Proofs.YtffchapiaampmaaGreatDoor
