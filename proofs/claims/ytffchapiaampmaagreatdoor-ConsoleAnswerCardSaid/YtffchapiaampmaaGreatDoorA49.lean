/-
  Part 49 of the proof that logtidelaw45.ConsoleAnswer returns true for every list of bytes and every text, and leaves both as they were.
-/
import Derived.Test.YtffchapiaampmaaGreatDoorA19
import Derived.Test.YtffchapiaampmaaGreatDoorA33
import Derived.Test.YtffchapiaampmaaGreatDoorA48
set_option linter.unusedSimpArgs false
set_option linter.unusedVariables false
namespace Go.Proofs.YtffchapiaampmaaGreatDoor
open Go.Av
set_option maxHeartbeats 4000000
set_option maxRecDepth 10000
attribute [local irreducible] XH XO PCall ACall
theorem XO.str {n k : Nat} {ops : Array Oper} {s0 s : AS} {G : Prop} {rem : List Oper} {ts : List Av.Touch} (i j : Nat) {o : Oper} {b : Bool} {out : S} (hl : out.length ≤ 2 ^ 46) (h : XO Tryz.prog n ops s0 G (k + 1) rem ⟨putE o.dst (str out) s.env, [(j, none), (i, some (paE b i j out.length))] ++ s.hp⟩ ((k, [i, j], [i, j]) :: ts)) (hcal : oCal o = some 23 := by rfl) (hgd : aGuard ops (lk s.env) o = some true := by rfl)
   (ha : oArgs o (lk s.env) = [.ptr i 2 0 0] := by rfl) (h1 : lkh s.hp i = some (paE b i j out.length) := by rfl) (h2 : lkh s.hp j = some (byE out) := by rfl) (hij : i ≠ j := by decide) : XO Tryz.prog n ops s0 G k (o :: rem) s ts := by
 have e0 : rhoI [i, j] (n + 8 * k) 0 = i := rfl
 have e1 : rhoI [i, j] (n + 8 * k) 1 = j := rfl
 have hb := ren_by (rhoI [i, j] (n + 8 * k)) out
 refine XO.o [i, j] (xa := [.ptr 0 2 0 0]) (hs := [paE b 0 1 out.length, byE out]) (string23 b out hl) hcal hgd (by rw [ha]; exact viewsA_self _ _) (by simp [hij]) ⟨?_, ?_, ?_, bytesE_id9 _ _, trivial⟩ (by simp) (by simp) (by rfl) (by simp) ?_
 · rw [h1]
   simp only [renEnt, paE, List.map_cons, List.map_nil, renL, ren_adA, ren, e0, e1]
 · cases b <;> rfl
 · rw [h2, hb]
 · have hw : hwOf (rhoI [i, j] (n + 8 * k)) 0 [some (paE b 0 1 out.length), none] = [(i, some (paE b i j out.length)), (j, none)] := by
     simp only [hwOf, Option.map_some, Option.map_none, e0, Nat.zero_add, e1]
     simp only [renEnt, paE, List.map_cons, List.map_nil, renL, ren_adA, ren, e0, e1]
   rw [hw]
   exact h
theorem line21' (b : Bool) (out t : S) (ws : List Wd) (ht : lineF ws = t) (hw : ∀ w ∈ ws, WdOk w) (hn : ws.length ≤ 2 ^ 40) (hl : out.length + t.length ≤ 2 ^ 46) : BCall 21 [.sl 1 (wdE ws)] b out (.tup []) (out ++ t) := by
 subst ht
 refine line21 b out ws hw hn ?_
 unfold lineF at hl
 rw [List.length_append, List.length_singleton] at hl
 omega
theorem evW_ok {e : Ev} (h : EvT e) : ∀ w ∈ evW e, WdOk w := by
 intro w hw
 simp only [evW, List.mem_cons, List.not_mem_nil, or_false] at hw
 rcases hw with rfl | rfl | rfl | rfl | rfl
 · exact h.1
 · exact h.2.1
 · exact h.2.2.1
 · exact h.2.2.2
 · trivial
theorem prW_ok {x : Ev × Ev} (h : EvT x.1) (h2 : EvT x.2) : ∀ w ∈ prW x, WdOk w := by
 intro w hw
 simp only [prW, List.mem_cons, List.not_mem_nil, or_false] at hw
 rcases hw with rfl | rfl | rfl | rfl | rfl | rfl | rfl | rfl
 · exact h.1
 · exact h.2.1
 · exact h.2.2.1
 · exact h.2.2.2
 · exact h2.1
 · exact h2.2.1
 · exact h2.2.2.1
 · exact h2.2.2.2
theorem rwW_ok {sk : Int} {y : Rw} (h : RwP y) : ∀ w ∈ rwW sk y, WdOk w := by
 intro w hw
 rcases List.mem_append.1 hw with hw | hw
 · rcases List.mem_append.1 hw with hw | hw
   · obtain ⟨k, _, rfl⟩ := List.mem_map.1 hw
     trivial
   · obtain ⟨k, hk, rfl⟩ := List.mem_map.1 hw
     exact h.2.2.2.1 k hk
 · split at hw
   · simp at hw
   · simp only [List.mem_cons, List.not_mem_nil, or_false] at hw
     rcases hw with rfl | rfl
     · trivial
     · exact h.2.2.2.2
theorem rwW_n {sk : Int} {y : Rw} (h : RwP y) : (rwW sk y).length ≤ 2 ^ 40 := by
 have h1 := h.1
 have h2 := h.2.2.1
 unfold rwW kyW
 simp only [List.length_append, List.length_map]
 split <;> simp only [List.length_cons, List.length_nil] <;> omega
theorem kyW_len (l : List S) : (kyW l).length = l.length := by simp [kyW]
theorem ky_step {l : List S} {i : Nat} {k : S} (h : l[i]? = some k) : kyW (l.take (i + 1)) = kyW (l.take i) ++ [.t (quF k)] := by
 unfold kyW; rw [List.take_add_one, h]; simp
theorem nu_step {l : List Int} {i : Nat} {x : Int} (h : l[i]? = some x) : (l.take (i + 1)).map Wd.i = (l.take i).map Wd.i ++ [.i x] := by
 rw [List.take_add_one, h]; simp
theorem wdE_err (ws : List Wd) (n : Int) : wdE ws ++ [[.val (.iface 9 (.string ⟨#[101, 114, 114, 111, 114]⟩))], [.val (.iface 3 (.int .i64 n))]] = wdE (ws ++ [.t errS, .i n]) := by simp [wdE, wdC, wdV, errS]
theorem wdE_t (ws : List Wd) (x : S) : wdE ws ++ [[.val (.iface 9 (.string ⟨x.toArray⟩))]] = wdE (ws ++ [.t x]) := by simp [wdE, wdC, wdV]
theorem wdE_i (ws : List Wd) (x : Int) : wdE ws ++ [[.val (.iface 3 (.int .i64 x))]] = wdE (ws ++ [.i x]) := by simp [wdE, wdC, wdV]
attribute [go_sem] wdE_err wdE_t wdE_i
theorem out_len {es : List Ev} {rs : List Rw} {q : Qy} {ps : List (Ev × Ev)} (ok : AnOk q es rs ps) (k : ∀ y ∈ rs, y.key.length ≤ 2 ^ 10) : (es.flatMap evL ++ rs.flatMap (rowF q.sketch) ++ ps.flatMap prL).length ≤ 2 ^ 46 := by
 have h1 : (es.flatMap evL).length ≤ 2 ^ 44 := by
   have := fm_len (f := evL) (fun e he => evL_len (ok.el.2 e he).1) es.length
   rw [flat_all] at this
   exact Nat.le_trans this (Nat.le_trans (Nat.mul_le_mul ok.el.1 (Nat.le_refl _)) (by decide))
 have h2 : (rs.flatMap (rowF q.sketch)).length ≤ 36 * (2 ^ 40 + 2 ^ 37) := by
   have := fm_len (f := rowF q.sketch) (fun y hy => rowF_len2 (sk := q.sketch) (ok.rl.2 y hy) (k y hy)) rs.length
   rw [flat_all] at this
   exact Nat.le_trans this (Nat.mul_le_mul ok.rl.1 (Nat.le_refl _))
 have h3 : (ps.flatMap prL).length ≤ 2 ^ 44 := by
   have := fm_len (f := prL) (l := ps) (fun y _ => prL_len y) ps.length
   rw [flat_all] at this
   exact Nat.le_trans this (Nat.le_trans (Nat.mul_le_mul ok.pl.1 (Nat.le_refl _)) (by decide))
 simp only [List.length_append]
 by_cases h0 : q.kind = 0
 · rw [ok.r0 (by omega) (by omega), ok.p0 (by omega)] at *
   simp only [List.flatMap_nil, List.length_nil] at *
   omega
 · rw [ok.e0 h0] at *
   by_cases h12 : q.kind = 1 ∨ q.kind = 2
   · rw [ok.p0 (by omega)] at *
     simp only [List.flatMap_nil, List.length_nil] at *
     omega
   · rw [ok.r0 (by omega) (by omega)] at *
     simp only [List.flatMap_nil, List.length_nil] at *
     omega
theorem tk_len {α : Type} {f : α → S} {l : List α} {i : Nat} {x : α} (h : l[i]? = some x) : ((l.take i).flatMap f).length + (f x).length ≤ (l.flatMap f).length := by
 have e : l.flatMap f = (l.take (i + 1)).flatMap f ++ (l.drop (i + 1)).flatMap f := by
   rw [← List.flatMap_append, List.take_append_drop]
 rw [e, fm_step h]
 simp only [List.length_append]
 omega
theorem answer9 (q : Qy) (es : List Ev) (rs : List Rw) (ps : List (Ev × Ev)) (ok : AnOk q es rs ps) (hk : ∀ y ∈ rs, y.key.length ≤ 2 ^ 10) : PCall Tryz.prog 9 [.agg (qyC q), .agg [.sl 10 (evE es), .sl 3 (rwE rs), .sl 20 (prE ps)]] (fun r => r = str (ansF q es rs ps)) := by
 have hel := ok.el.1
 have hrl := ok.rl.1
 have hpl := ok.pl.1
 have hall := out_len ok hk
 simp only [List.length_append] at hall
 all_goals refine PCall.go 141 (fn := Tryz.f9) Tryz.func9 rfl rfl rfl (by simp) rfl ?_
 all_goals try refine XW.ra0 0 [2, 3] ?_
 all_goals try refine XW.ra0 1 [2, 3, 5] ?_
 all_goals try refine XW.ra0 2 [2, 3, 5, 20, 21, 22] ?_
 all_goals try (refine XW.lp 4 (fun s : Nat × Bool × S => ⟨[(2, .ptr 0 19 0 0), (3, .ptr 1 3 0 0), (5, .ptr 2 2 0 0), (20, .sl 10 (evE es)), (21, I (es.length : Nat)), (22, I (s.1 : Nat))], [(0, some ⟨33, 19, [qyC q]⟩), (1, some ⟨40, 3, [[.sl 10 (evE es), .sl 3 (rwE rs), .sl 20 (prE ps)]]⟩), (2, some ⟨75, 2, [[adA s.2.1 2, .osl 3 s.2.2.length 1]]⟩), (3, some ⟨5, 1, bytesE s.2.2⟩)]⟩) (fun s => s.1 ≤ es.length ∧ s.2.2 = (es.take s.1).flatMap evL) (fun s => es.length - s.1) (0, false, []) (mkWk [some 0, some 1, some 2, none] [] (by simp [wkEnv, lk, lkh, I, str, B, U8, U64, U32, paE, adA, byE, bytesE_app9, bytesE_cons9, bytesE_nil9, nilV, qyC, tsC_c, B]; first | done | omega) (by simp [wkHp, wkHp1, wkEnt, lkh, I, str, paE, adA, byE, bytesE_app9, bytesE_cons9, bytesE_nil9, nilV, qyC, tsC_c, B])) ?_ (h0 := ⟨by simp, by simp⟩); rintro ⟨i, bb, out⟩ hI0 Y0 hY0; have hbv : bb = bb := rfl; cases bb <;> first | (have h9 : true = true := hbv; obtain ⟨bo, hbo⟩ : ∃ b : Bool, b = true := ⟨_, rfl⟩) | obtain ⟨bo, hbo⟩ : ∃ b : Bool, b = false := ⟨_, rfl⟩)
 all_goals try refine XW.ra0 3 [2, 3, 5, 20, 21, 22, 23] ?_
 all_goals try first | refine XW.cT 23 ?_ | refine XW.cF 23 ?_ | refine XW.cB 23 (fun c23 => ?_) (fun c23 => ?_)
 all_goals try (refine XW.at 4 ?_; obtain ⟨m1, m2⟩ := hI0; (try simp only at m1 m2); have hi := ltC c23; obtain ⟨x, hx, hxm⟩ := getx es i hi; have hst := fm_step (f := evL) hx; have htl0 := tk_len (f := evL) hx; rw [← m2] at hst htl0; have hxb := (ok.el.2 x hxm).1; have hxt := (ok.el.2 x hxm).2; have htl := textF_le x hxb; have hql := quF_len (textF x); have qt := text22 x hxb.ln hxb.lt; simp only [evC] at qt; have h5 : (evW x).length ≤ 2 ^ 40 := (by simp [evW]); have hbl : out.length + (evL x).length ≤ 2 ^ 46 := (by omega))
 all_goals try refine XW.ra1 4 [2, 3, 5, 7, 20, 21, 22] ?_
 all_goals try refine XW.rS 5 ?_
 all_goals try refine XO.r0 2 ?_
 all_goals try (skip)
 all_goals try refine XO.r0 11 ?_
 all_goals try (skip)
 all_goals try refine XO.r0 1 ?_
 all_goals try (skip)
 all_goals try (refine XO.p (qt) ?_; rintro _ rfl)
 all_goals try (refine XO.p (quote11 (textF x) (by omega)) ?_; rintro _ rfl)
 all_goals try refine XO.r0 1 ?_
 all_goals try refine XO.sb ?_
 all_goals try first | (refine XO.b 2 3 (b := true) (out := out) (line21' true out (evL x) (evW x) (evW_line x) (evW_ok hxt) h5 hbl) ?_) | (refine XO.b 2 3 (b := false) (out := out) (line21' false out (evL x) (evW x) (evW_line x) (evW_ok hxt) h5 hbl) ?_) | (refine XO.b 2 4 (b := true) (out := out) (line21' true out (evL x) (evW x) (evW_line x) (evW_ok hxt) h5 hbl) ?_) | (refine XO.b 2 4 (b := false) (out := out) (line21' false out (evL x) (evW x) (evW_line x) (evW_ok hxt) h5 hbl) ?_) | (refine XO.b 3 4 (b := true) (out := out) (line21' true out (evL x) (evW x) (evW_line x) (evW_ok hxt) h5 hbl) ?_) | (refine XO.b 3 4 (b := false) (out := out) (line21' false out (evL x) (evW x) (evW_line x) (evW_ok hxt) h5 hbl) ?_)
 all_goals try refine XO.done [2, 3, 5, 20, 21, 22] ?_
 all_goals try refine XW.ra2 6 [2, 3, 5, 20, 21, 22] ?_
 all_goals try (refine XH.le ?_; first | (exact hY0 (i + 1, true, out ++ evL x) (by (refine ⟨?_, ?_⟩ <;> first | (simp only; omega) | (simp only; rw [hst]))) (by first | omega | (simp; done) | (simp; omega)) _ _ (mkWk [some 0, some 1, some 2, some 3] [] (by simp [wkEnv, lk, lkh, I, str, B, U8, U64, U32, paE, adA, byE, bytesE_app9, bytesE_cons9, bytesE_nil9, nilV, qyC, tsC_c, B]; first | done | omega) (by simp [wkHp, wkHp1, wkEnt, lkh, I, str, paE, adA, byE, bytesE_app9, bytesE_cons9, bytesE_nil9, nilV, qyC, tsC_c, B]))))
 all_goals try (refine XW.at 7 ?_; obtain ⟨m1, m2⟩ := hI0; (try simp only at m1 m2); have h9 := geC c23; obtain rfl : i = es.length := (by omega); rw [flat_all] at m2)
 all_goals try refine XW.ra0 7 [2, 3, 5, 47, 48, 49] ?_
 all_goals try ((first | (have h9 : true = true := hbv; refine XW.lp 4 (fun s : Nat × Bool × S => ⟨[(2, .ptr 0 19 0 0), (3, .ptr 1 3 0 0), (5, .ptr 2 2 0 0), (47, .sl 3 (rwE rs)), (48, I (rs.length : Nat)), (49, I (s.1 : Nat))], [(0, some ⟨33, 19, [qyC q]⟩), (1, some ⟨40, 3, [[.sl 10 (evE es), .sl 3 (rwE rs), .sl 20 (prE ps)]]⟩), (2, some ⟨75, 2, [[adA s.2.1 2, .osl 3 s.2.2.length 1]]⟩), (3, some ⟨5, 1, bytesE s.2.2⟩)]⟩) (fun s => s.1 ≤ rs.length ∧ s.2.2 = es.flatMap evL ++ (rs.take s.1).flatMap (rowF q.sketch)) (fun s => rs.length - s.1) (0, true, out) (mkWk [some 0, some 1, some 2, some 3] [] ?_ ?_) ?_ (h0 := ⟨Nat.zero_le _, by simp [m2]⟩); (next => simp [wkEnv, lk, lkh, I, str, B, U8, U64, U32, paE, adA, byE, bytesE_app9, bytesE_cons9, bytesE_nil9, nilV, qyC, tsC_c, B]; first | done | omega); (next => simp [wkHp, wkHp1, wkEnt, lkh, I, str, paE, adA, byE, bytesE_app9, bytesE_cons9, bytesE_nil9, nilV, qyC, tsC_c, B])) | (have h9 : false = false := hbv; refine XW.lp 4 (fun s : Nat × Bool × S => ⟨[(2, .ptr 0 19 0 0), (3, .ptr 1 3 0 0), (5, .ptr 2 2 0 0), (47, .sl 3 (rwE rs)), (48, I (rs.length : Nat)), (49, I (s.1 : Nat))], [(0, some ⟨33, 19, [qyC q]⟩), (1, some ⟨40, 3, [[.sl 10 (evE es), .sl 3 (rwE rs), .sl 20 (prE ps)]]⟩), (2, some ⟨75, 2, [[adA s.2.1 2, .osl 3 s.2.2.length 1]]⟩), (3, some ⟨5, 1, bytesE s.2.2⟩)]⟩) (fun s => s.1 ≤ rs.length ∧ s.2.2 = es.flatMap evL ++ (rs.take s.1).flatMap (rowF q.sketch)) (fun s => rs.length - s.1) (0, false, out) (mkWk [some 0, some 1, some 2, some 3] [] ?_ ?_) ?_ (h0 := ⟨Nat.zero_le _, by simp [m2]⟩); (next => simp [wkEnv, lk, lkh, I, str, B, U8, U64, U32, paE, adA, byE, bytesE_app9, bytesE_cons9, bytesE_nil9, nilV, qyC, tsC_c, B]; first | done | omega); (next => simp [wkHp, wkHp1, wkEnt, lkh, I, str, paE, adA, byE, bytesE_app9, bytesE_cons9, bytesE_nil9, nilV, qyC, tsC_c, B]))); rintro ⟨i, bb, out⟩ hI1 Y1 hY1; clear hbv hbo; have hbv : bb = bb := rfl; cases bb <;> first | (have h9 : true = true := hbv; obtain ⟨bo, hbo⟩ : ∃ b : Bool, b = true := ⟨_, rfl⟩) | obtain ⟨bo, hbo⟩ : ∃ b : Bool, b = false := ⟨_, rfl⟩)
 all_goals try refine XW.ra0 8 [2, 3, 5, 47, 48, 49, 50] ?_
 all_goals try first | refine XW.cT 50 ?_ | refine XW.cF 50 ?_ | refine XW.cB 50 (fun c50 => ?_) (fun c50 => ?_)
 all_goals try (refine XW.at 9 ?_; obtain ⟨m1, m2⟩ := hI1; (try simp only at m1 m2); have hi := ltC c50; obtain ⟨y, hx, hym⟩ := getx rs i hi; have hst := fm_step (f := rowF q.sketch) hx; have htl0 := tk_len (f := rowF q.sketch) hx; have hyp := ok.rl.2 y hym; have hky := hk y hym; have hvl := hyp.2.2.1; have hbl : out.length + (rowF q.sketch y).length ≤ 2 ^ 46 := (by rw [m2, List.length_append]; omega))
 all_goals try refine XW.ra1 9 [2, 3, 5, 9, 47, 48, 49] ?_
 all_goals try refine XW.ra0 10 [2, 3, 5, 9, 10, 47, 48, 49] ?_
 all_goals try refine XW.ra0 11 [2, 3, 5, 9, 10, 47, 48, 49, 54, 55, 56] ?_
 all_goals try ((first | (have h9 : true = true := hbv; refine XW.lp 6 (fun s : Nat × Bool × List Wd => ⟨[(2, .ptr 0 19 0 0), (3, .ptr 1 3 0 0), (5, .ptr 2 2 0 0), (9, .ptr 4 3 0 0), (10, .osl 5 s.2.2.length 1), (47, .sl 3 (rwE rs)), (48, I (rs.length : Nat)), (49, I (i : Nat)), (54, .sl 1 (strE y.key)), (55, I (y.key.length : Nat)), (56, I (s.1 : Nat))], [(0, some ⟨33, 19, [qyC q]⟩), (1, some ⟨40, 3, [[.sl 10 (evE es), .sl 3 (rwE rs), .sl 20 (prE ps)]]⟩), (2, some ⟨75, 2, [[adA s.2.1 2, .osl 3 out.length 1]]⟩), (3, some ⟨5, 1, bytesE out⟩), (4, some ⟨80, 3, [rwC y]⟩), (5, some ⟨20, 1, wdE s.2.2⟩)]⟩) (fun s => s.1 ≤ y.key.length ∧ s.2.2 = kyW (y.key.take s.1) ∧ s.2.1 = bo) (fun s => y.key.length - s.1) (0, true, []) (mkWk [some 0, some 1, some 2, some 3, some 4, none] [] ?_ ?_) ?_ (h0 := ⟨Nat.zero_le _, by simp [kyW], hbo.symm⟩); (next => simp [wkEnv, lk, lkh, I, str, B, U8, U64, U32, paE, adA, byE, bytesE_app9, bytesE_cons9, bytesE_nil9, nilV, qyC, tsC_c, B, rwC]; first | done | omega); (next => simp [wkHp, wkHp1, wkEnt, lkh, I, str, paE, adA, byE, bytesE_app9, bytesE_cons9, bytesE_nil9, nilV, qyC, tsC_c, B, rwC])) | (have h9 : false = false := hbv; refine XW.lp 6 (fun s : Nat × Bool × List Wd => ⟨[(2, .ptr 0 19 0 0), (3, .ptr 1 3 0 0), (5, .ptr 2 2 0 0), (9, .ptr 4 3 0 0), (10, .osl 5 s.2.2.length 1), (47, .sl 3 (rwE rs)), (48, I (rs.length : Nat)), (49, I (i : Nat)), (54, .sl 1 (strE y.key)), (55, I (y.key.length : Nat)), (56, I (s.1 : Nat))], [(0, some ⟨33, 19, [qyC q]⟩), (1, some ⟨40, 3, [[.sl 10 (evE es), .sl 3 (rwE rs), .sl 20 (prE ps)]]⟩), (2, some ⟨75, 2, [[adA s.2.1 2, .osl 3 out.length 1]]⟩), (3, some ⟨5, 1, bytesE out⟩), (4, some ⟨80, 3, [rwC y]⟩), (5, some ⟨20, 1, wdE s.2.2⟩)]⟩) (fun s => s.1 ≤ y.key.length ∧ s.2.2 = kyW (y.key.take s.1) ∧ s.2.1 = bo) (fun s => y.key.length - s.1) (0, false, []) (mkWk [some 0, some 1, some 2, some 3, some 4, none] [] ?_ ?_) ?_ (h0 := ⟨Nat.zero_le _, by simp [kyW], hbo.symm⟩); (next => simp [wkEnv, lk, lkh, I, str, B, U8, U64, U32, paE, adA, byE, bytesE_app9, bytesE_cons9, bytesE_nil9, nilV, qyC, tsC_c, B, rwC]; first | done | omega); (next => simp [wkHp, wkHp1, wkEnt, lkh, I, str, paE, adA, byE, bytesE_app9, bytesE_cons9, bytesE_nil9, nilV, qyC, tsC_c, B, rwC]))); rintro ⟨j, b2, ws⟩ hI2 Y2 hY2; have hb2 := hI2.2.2.trans hbo; (try simp only at hb2); subst hb2)
 all_goals try refine XW.ra0 12 [2, 3, 5, 9, 10, 47, 48, 49, 54, 55, 56, 57] ?_
 all_goals try first | refine XW.cT 57 ?_ | refine XW.cF 57 ?_ | refine XW.cB 57 (fun c57 => ?_) (fun c57 => ?_)
 all_goals try (refine XW.at 13 ?_; obtain ⟨n1, n2, _⟩ := hI2; (try simp only at n1 n2); have hj := ltC c57; obtain ⟨k, hx, hkm⟩ := getx y.key j hj; have hks := ky_step hx; have hkl := hyp.2.1 k hkm; have hql := quF_len k; have hwl : ws.length = j := (by rw [n2, kyW_len, List.length_take]; omega))
 all_goals try refine XW.ra1 13 [2, 3, 5, 9, 10, 12, 47, 48, 49, 54, 55, 56] ?_
 all_goals try refine XW.rS 14 ?_
 all_goals try refine XO.r0 2 ?_
 all_goals try (refine XO.p (quote11 k (by omega)) ?_; rintro _ rfl)
 all_goals try refine XO.r0 4 ?_
 all_goals try refine XO.done [2, 3, 5, 9, 10, 47, 48, 49, 54, 55, 56] ?_
 all_goals try refine XW.ra2 15 [2, 3, 5, 9, 10, 47, 48, 49, 54, 55, 56] ?_
 all_goals try (refine XH.le ?_; first | (refine hY2 (j + 1, true, ws ++ [.t (quF k)]) ?_ ?_ _ _ (mkWk [some 0, some 1, some 2, some 3, some 4, some 5] [] ?_ ?_); (next => (refine ⟨?_, ?_, ?_⟩ <;> first | exact hbo.symm | (simp only; omega) | (simp only; rw [hks, n2]))); (next => first | omega | (simp; done) | (simp; omega)); (next => simp [wkEnv, lk, lkh, I, str, B, U8, U64, U32, paE, adA, byE, bytesE_app9, bytesE_cons9, bytesE_nil9, nilV, qyC, tsC_c, B, rwC]; first | done | omega); (next => simp [wkHp, wkHp1, wkEnt, lkh, I, str, paE, adA, byE, bytesE_app9, bytesE_cons9, bytesE_nil9, nilV, qyC, tsC_c, B, rwC])) | (refine hY2 (j + 1, false, ws ++ [.t (quF k)]) ?_ ?_ _ _ (mkWk [some 0, some 1, some 2, some 3, some 4, some 5] [] ?_ ?_); (next => (refine ⟨?_, ?_, ?_⟩ <;> first | exact hbo.symm | (simp only; omega) | (simp only; rw [hks, n2]))); (next => first | omega | (simp; done) | (simp; omega)); (next => simp [wkEnv, lk, lkh, I, str, B, U8, U64, U32, paE, adA, byE, bytesE_app9, bytesE_cons9, bytesE_nil9, nilV, qyC, tsC_c, B, rwC]; first | done | omega); (next => simp [wkHp, wkHp1, wkEnt, lkh, I, str, paE, adA, byE, bytesE_app9, bytesE_cons9, bytesE_nil9, nilV, qyC, tsC_c, B, rwC])))
 all_goals try (refine XW.at 16 ?_; obtain ⟨n1, n2, _⟩ := hI2; (try simp only at n1 n2); have h9 := geC c57; obtain rfl : j = y.key.length := (by omega); rw [List.take_length] at n2; have hwl : ws.length = y.key.length := (by rw [n2, kyW_len]))
 all_goals try refine XW.ra0 16 [2, 3, 5, 9, 10, 47, 48, 49, 68, 69, 70] ?_
 all_goals try ((first | (have h9 : true = true := hbv; refine XW.lp 6 (fun s : Nat × Bool × List Wd => ⟨[(2, .ptr 0 19 0 0), (3, .ptr 1 3 0 0), (5, .ptr 2 2 0 0), (9, .ptr 4 3 0 0), (10, .osl 5 s.2.2.length 1), (47, .sl 3 (rwE rs)), (48, I (rs.length : Nat)), (49, I (i : Nat)), (68, .sl 1 (intE y.vals)), (69, I (y.vals.length : Nat)), (70, I (s.1 : Nat))], [(0, some ⟨33, 19, [qyC q]⟩), (1, some ⟨40, 3, [[.sl 10 (evE es), .sl 3 (rwE rs), .sl 20 (prE ps)]]⟩), (2, some ⟨75, 2, [[adA s.2.1 2, .osl 3 out.length 1]]⟩), (3, some ⟨5, 1, bytesE out⟩), (4, some ⟨80, 3, [rwC y]⟩), (5, some ⟨20, 1, wdE s.2.2⟩)]⟩) (fun s => s.1 ≤ y.vals.length ∧ s.2.2 = kyW y.key ++ (y.vals.take s.1).map Wd.i ∧ s.2.1 = bo) (fun s => y.vals.length - s.1) (0, true, ws) (mkWk [some 0, some 1, some 2, some 3, some 4, some 5] [] ?_ ?_) ?_ (h0 := ⟨Nat.zero_le _, by simp [n2], hbo.symm⟩); (next => simp [wkEnv, lk, lkh, I, str, B, U8, U64, U32, paE, adA, byE, bytesE_app9, bytesE_cons9, bytesE_nil9, nilV, qyC, tsC_c, B, rwC]; first | done | omega); (next => simp [wkHp, wkHp1, wkEnt, lkh, I, str, paE, adA, byE, bytesE_app9, bytesE_cons9, bytesE_nil9, nilV, qyC, tsC_c, B, rwC])) | (have h9 : false = false := hbv; refine XW.lp 6 (fun s : Nat × Bool × List Wd => ⟨[(2, .ptr 0 19 0 0), (3, .ptr 1 3 0 0), (5, .ptr 2 2 0 0), (9, .ptr 4 3 0 0), (10, .osl 5 s.2.2.length 1), (47, .sl 3 (rwE rs)), (48, I (rs.length : Nat)), (49, I (i : Nat)), (68, .sl 1 (intE y.vals)), (69, I (y.vals.length : Nat)), (70, I (s.1 : Nat))], [(0, some ⟨33, 19, [qyC q]⟩), (1, some ⟨40, 3, [[.sl 10 (evE es), .sl 3 (rwE rs), .sl 20 (prE ps)]]⟩), (2, some ⟨75, 2, [[adA s.2.1 2, .osl 3 out.length 1]]⟩), (3, some ⟨5, 1, bytesE out⟩), (4, some ⟨80, 3, [rwC y]⟩), (5, some ⟨20, 1, wdE s.2.2⟩)]⟩) (fun s => s.1 ≤ y.vals.length ∧ s.2.2 = kyW y.key ++ (y.vals.take s.1).map Wd.i ∧ s.2.1 = bo) (fun s => y.vals.length - s.1) (0, false, ws) (mkWk [some 0, some 1, some 2, some 3, some 4, some 5] [] ?_ ?_) ?_ (h0 := ⟨Nat.zero_le _, by simp [n2], hbo.symm⟩); (next => simp [wkEnv, lk, lkh, I, str, B, U8, U64, U32, paE, adA, byE, bytesE_app9, bytesE_cons9, bytesE_nil9, nilV, qyC, tsC_c, B, rwC]; first | done | omega); (next => simp [wkHp, wkHp1, wkEnt, lkh, I, str, paE, adA, byE, bytesE_app9, bytesE_cons9, bytesE_nil9, nilV, qyC, tsC_c, B, rwC]))); rintro ⟨j2, b2, ws2⟩ hI3 Y3 hY3; have hb2 := hI3.2.2.trans hbo; (try simp only at hb2); subst hb2)
 all_goals try refine XW.ra0 17 [2, 3, 5, 9, 10, 47, 48, 49, 68, 69, 70, 71] ?_
 all_goals try first | refine XW.cT 71 ?_ | refine XW.cF 71 ?_ | refine XW.cB 71 (fun c71 => ?_) (fun c71 => ?_)
 all_goals try (refine XW.at 18 ?_; obtain ⟨n3, n4, _⟩ := hI3; (try simp only at n3 n4); have hj := ltC c71; obtain ⟨k, hx, hkm⟩ := getx y.vals j2 hj; have hks := nu_step hx; have hwl : ws2.length = y.key.length + j2 := (by rw [n4, List.length_append, kyW_len, List.length_map, List.length_take]; omega))
 all_goals try refine XW.ra1 18 [2, 3, 5, 9, 10, 14, 47, 48, 49, 68, 69, 70] ?_
 all_goals try refine XW.ra0 19 [2, 3, 5, 9, 10, 47, 48, 49, 68, 69, 70] ?_
 all_goals try refine XW.ra2 20 [2, 3, 5, 9, 10, 47, 48, 49, 68, 69, 70] ?_
 all_goals try (refine XH.le ?_; first | (refine hY3 (j2 + 1, true, ws2 ++ [.i k]) ?_ ?_ _ _ (mkWk [some 0, some 1, some 2, some 3, some 4, some 5] [] ?_ ?_); (next => (refine ⟨?_, ?_, ?_⟩ <;> first | exact hbo.symm | (simp only; omega) | (simp only; rw [hks, n4, List.append_assoc]))); (next => first | omega | (simp; done) | (simp; omega)); (next => simp [wkEnv, lk, lkh, I, str, B, U8, U64, U32, paE, adA, byE, bytesE_app9, bytesE_cons9, bytesE_nil9, nilV, qyC, tsC_c, B, rwC]; first | done | omega); (next => simp [wkHp, wkHp1, wkEnt, lkh, I, str, paE, adA, byE, bytesE_app9, bytesE_cons9, bytesE_nil9, nilV, qyC, tsC_c, B, rwC])) | (refine hY3 (j2 + 1, false, ws2 ++ [.i k]) ?_ ?_ _ _ (mkWk [some 0, some 1, some 2, some 3, some 4, some 5] [] ?_ ?_); (next => (refine ⟨?_, ?_, ?_⟩ <;> first | exact hbo.symm | (simp only; omega) | (simp only; rw [hks, n4, List.append_assoc]))); (next => first | omega | (simp; done) | (simp; omega)); (next => simp [wkEnv, lk, lkh, I, str, B, U8, U64, U32, paE, adA, byE, bytesE_app9, bytesE_cons9, bytesE_nil9, nilV, qyC, tsC_c, B, rwC]; first | done | omega); (next => simp [wkHp, wkHp1, wkEnt, lkh, I, str, paE, adA, byE, bytesE_app9, bytesE_cons9, bytesE_nil9, nilV, qyC, tsC_c, B, rwC])))
 all_goals try (refine XW.at 21 ?_; obtain ⟨n3, n4, _⟩ := hI3; (try simp only at n3 n4); have h9 := geC c71; obtain rfl : j2 = y.vals.length := (by omega); rw [List.take_length] at n4; have hwl : ws2.length = y.key.length + y.vals.length := (by rw [n4, List.length_append, kyW_len, List.length_map]))
 all_goals try refine XW.ra0 21 [2, 3, 5, 9, 10, 47, 48, 49, 82] ?_
 all_goals try first | refine XW.cT 82 ?_ | refine XW.cF 82 ?_ | refine XW.cB 82 (fun c82 => ?_) (fun c82 => ?_)
 all_goals try refine XW.ra0 22 [2, 3, 5, 10, 47, 48, 49] ?_
 all_goals try (refine XW.at 23 ?_; first | (have h9 : true = true := hbv; have hsz := bne_iff_ne.1 c82; have hws : ws2 ++ [.t errS, .i y.n] = rwW q.sketch y := (by rw [rwW, if_neg hsz, n4]); refine XW.wkr 23 4 ⟨[(2, .ptr 0 19 0 0), (3, .ptr 1 3 0 0), (5, .ptr 2 2 0 0), (10, .sl 1 (wdE (ws2 ++ [.t errS, .i y.n]))), (47, .sl 3 (rwE rs)), (48, I (rs.length : Nat)), (49, I (i : Nat))], [(0, some ⟨33, 19, [qyC q]⟩), (1, some ⟨40, 3, [[.sl 10 (evE es), .sl 3 (rwE rs), .sl 20 (prE ps)]]⟩), (2, some ⟨75, 2, [[adA true 2, .osl 3 out.length 1]]⟩), (3, some ⟨5, 1, bytesE out⟩)]⟩ (mkWk [some 0, some 1, some 2, some 3] [4] ?_ ?_) ?_; (next => simp [wkEnv, lk, lkh, I, str, B, U8, U64, U32, paE, adA, byE, bytesE_app9, bytesE_cons9, bytesE_nil9, nilV, qyC, tsC_c, B, wdE_len]; first | done | omega); (next => simp [wkHp, wkHp1, wkEnt, lkh, I, str, paE, adA, byE, bytesE_app9, bytesE_cons9, bytesE_nil9, nilV, qyC, tsC_c, B, wdE_len]); rw [hws]) | (have h9 : true = true := hbv; have hsz := bne0 c82; have hws : ws2 = rwW q.sketch y := (by rw [rwW, if_pos hsz, n4, List.append_nil]); refine XW.wkr 23 4 ⟨[(2, .ptr 0 19 0 0), (3, .ptr 1 3 0 0), (5, .ptr 2 2 0 0), (10, .sl 1 (wdE (ws2))), (47, .sl 3 (rwE rs)), (48, I (rs.length : Nat)), (49, I (i : Nat))], [(0, some ⟨33, 19, [qyC q]⟩), (1, some ⟨40, 3, [[.sl 10 (evE es), .sl 3 (rwE rs), .sl 20 (prE ps)]]⟩), (2, some ⟨75, 2, [[adA true 2, .osl 3 out.length 1]]⟩), (3, some ⟨5, 1, bytesE out⟩)]⟩ (mkWk [some 0, some 1, some 2, some 3] [5] ?_ ?_) ?_; (next => simp [wkEnv, lk, lkh, I, str, B, U8, U64, U32, paE, adA, byE, bytesE_app9, bytesE_cons9, bytesE_nil9, nilV, qyC, tsC_c, B, wdE_len]; first | done | omega); (next => simp [wkHp, wkHp1, wkEnt, lkh, I, str, paE, adA, byE, bytesE_app9, bytesE_cons9, bytesE_nil9, nilV, qyC, tsC_c, B, wdE_len]); rw [hws]) | (have h9 : false = false := hbv; have hsz := bne_iff_ne.1 c82; have hws : ws2 ++ [.t errS, .i y.n] = rwW q.sketch y := (by rw [rwW, if_neg hsz, n4]); refine XW.wkr 23 4 ⟨[(2, .ptr 0 19 0 0), (3, .ptr 1 3 0 0), (5, .ptr 2 2 0 0), (10, .sl 1 (wdE (ws2 ++ [.t errS, .i y.n]))), (47, .sl 3 (rwE rs)), (48, I (rs.length : Nat)), (49, I (i : Nat))], [(0, some ⟨33, 19, [qyC q]⟩), (1, some ⟨40, 3, [[.sl 10 (evE es), .sl 3 (rwE rs), .sl 20 (prE ps)]]⟩), (2, some ⟨75, 2, [[adA false 2, .osl 3 out.length 1]]⟩), (3, some ⟨5, 1, bytesE out⟩)]⟩ (mkWk [some 0, some 1, some 2, some 3] [4] ?_ ?_) ?_; (next => simp [wkEnv, lk, lkh, I, str, B, U8, U64, U32, paE, adA, byE, bytesE_app9, bytesE_cons9, bytesE_nil9, nilV, qyC, tsC_c, B, wdE_len]; first | done | omega); (next => simp [wkHp, wkHp1, wkEnt, lkh, I, str, paE, adA, byE, bytesE_app9, bytesE_cons9, bytesE_nil9, nilV, qyC, tsC_c, B, wdE_len]); rw [hws]) | (have h9 : false = false := hbv; have hsz := bne0 c82; have hws : ws2 = rwW q.sketch y := (by rw [rwW, if_pos hsz, n4, List.append_nil]); refine XW.wkr 23 4 ⟨[(2, .ptr 0 19 0 0), (3, .ptr 1 3 0 0), (5, .ptr 2 2 0 0), (10, .sl 1 (wdE (ws2))), (47, .sl 3 (rwE rs)), (48, I (rs.length : Nat)), (49, I (i : Nat))], [(0, some ⟨33, 19, [qyC q]⟩), (1, some ⟨40, 3, [[.sl 10 (evE es), .sl 3 (rwE rs), .sl 20 (prE ps)]]⟩), (2, some ⟨75, 2, [[adA false 2, .osl 3 out.length 1]]⟩), (3, some ⟨5, 1, bytesE out⟩)]⟩ (mkWk [some 0, some 1, some 2, some 3] [5] ?_ ?_) ?_; (next => simp [wkEnv, lk, lkh, I, str, B, U8, U64, U32, paE, adA, byE, bytesE_app9, bytesE_cons9, bytesE_nil9, nilV, qyC, tsC_c, B, wdE_len]; first | done | omega); (next => simp [wkHp, wkHp1, wkEnt, lkh, I, str, paE, adA, byE, bytesE_app9, bytesE_cons9, bytesE_nil9, nilV, qyC, tsC_c, B, wdE_len]); rw [hws]))
 all_goals try refine XW.rS 23 ?_
 all_goals try refine XO.r0 2 ?_
 all_goals try first | (refine XO.b 2 3 (b := true) (out := out) (line21' true out (rowF q.sketch y) (rwW q.sketch y) (rwW_line q.sketch y (ok.rv y hym)) (rwW_ok hyp) (rwW_n hyp) hbl) ?_) | (refine XO.b 2 3 (b := false) (out := out) (line21' false out (rowF q.sketch y) (rwW q.sketch y) (rwW_line q.sketch y (ok.rv y hym)) (rwW_ok hyp) (rwW_n hyp) hbl) ?_)
 all_goals try refine XO.done [2, 3, 5, 47, 48, 49] ?_
 all_goals try refine XW.ra2 24 [2, 3, 5, 47, 48, 49] ?_
 all_goals try (refine XH.le ?_; first | (exact hY1 (i + 1, true, out ++ rowF q.sketch y) (by (refine ⟨?_, ?_⟩ <;> first | (simp only; omega) | (simp only; rw [hst, m2, List.append_assoc]))) (by first | omega | (simp; done) | (simp; omega)) _ _ (mkWk [some 0, some 1, some 2, some 3] [] (by simp [wkEnv, lk, lkh, I, str, B, U8, U64, U32, paE, adA, byE, bytesE_app9, bytesE_cons9, bytesE_nil9, nilV, qyC, tsC_c, B]; first | done | omega) (by simp [wkHp, wkHp1, wkEnt, lkh, I, str, paE, adA, byE, bytesE_app9, bytesE_cons9, bytesE_nil9, nilV, qyC, tsC_c, B]))))
 all_goals try (refine XW.at 25 ?_; obtain ⟨m1, m2⟩ := hI1; (try simp only at m1 m2); have h9 := geC c50; obtain rfl : i = rs.length := (by omega); rw [flat_all] at m2)
 all_goals try refine XW.ra0 25 [5, 95, 96, 97] ?_
 all_goals try ((first | (have h9 : true = true := hbv; refine XW.lp 2 (fun s : Nat × Bool × S => ⟨[(5, .ptr 0 2 0 0), (95, .sl 20 (prE ps)), (96, I (ps.length : Nat)), (97, I (s.1 : Nat))], [(0, some ⟨75, 2, [[adA s.2.1 0, .osl 1 s.2.2.length 1]]⟩), (1, some ⟨5, 1, bytesE s.2.2⟩)]⟩) (fun s => s.1 ≤ ps.length ∧ s.2.2 = es.flatMap evL ++ rs.flatMap (rowF q.sketch) ++ (ps.take s.1).flatMap prL) (fun s => ps.length - s.1) (0, true, out) (mkWk [some 0, some 1] [] ?_ ?_) ?_ (h0 := ⟨Nat.zero_le _, by simp [m2]⟩); (next => simp [wkEnv, lk, lkh, I, str, B, U8, U64, U32, paE, adA, byE, bytesE_app9, bytesE_cons9, bytesE_nil9, nilV, qyC, tsC_c, B]; first | done | omega); (next => simp [wkHp, wkHp1, wkEnt, lkh, I, str, paE, adA, byE, bytesE_app9, bytesE_cons9, bytesE_nil9, nilV, qyC, tsC_c, B])) | (have h9 : false = false := hbv; refine XW.lp 2 (fun s : Nat × Bool × S => ⟨[(5, .ptr 0 2 0 0), (95, .sl 20 (prE ps)), (96, I (ps.length : Nat)), (97, I (s.1 : Nat))], [(0, some ⟨75, 2, [[adA s.2.1 0, .osl 1 s.2.2.length 1]]⟩), (1, some ⟨5, 1, bytesE s.2.2⟩)]⟩) (fun s => s.1 ≤ ps.length ∧ s.2.2 = es.flatMap evL ++ rs.flatMap (rowF q.sketch) ++ (ps.take s.1).flatMap prL) (fun s => ps.length - s.1) (0, false, out) (mkWk [some 0, some 1] [] ?_ ?_) ?_ (h0 := ⟨Nat.zero_le _, by simp [m2]⟩); (next => simp [wkEnv, lk, lkh, I, str, B, U8, U64, U32, paE, adA, byE, bytesE_app9, bytesE_cons9, bytesE_nil9, nilV, qyC, tsC_c, B]; first | done | omega); (next => simp [wkHp, wkHp1, wkEnt, lkh, I, str, paE, adA, byE, bytesE_app9, bytesE_cons9, bytesE_nil9, nilV, qyC, tsC_c, B]))); rintro ⟨i, bb, out⟩ hI4 Y4 hY4; clear hbv hbo; have hbv : bb = bb := rfl; cases bb <;> first | (have h9 : true = true := hbv; obtain ⟨bo, hbo⟩ : ∃ b : Bool, b = true := ⟨_, rfl⟩) | obtain ⟨bo, hbo⟩ : ∃ b : Bool, b = false := ⟨_, rfl⟩)
 all_goals try refine XW.ra0 26 [5, 95, 96, 97, 98] ?_
 all_goals try first | refine XW.cT 98 ?_ | refine XW.cF 98 ?_ | refine XW.cB 98 (fun c98 => ?_) (fun c98 => ?_)
 all_goals try (refine XW.at 27 ?_; obtain ⟨m1, m2⟩ := hI4; (try simp only at m1 m2); have hi := ltC c98; obtain ⟨x, hx, hxm⟩ := getx ps i hi; have hst := fm_step (f := prL) hx; have htl0 := tk_len (f := prL) hx; have h8 : (prW x).length ≤ 2 ^ 40 := (by simp [prW]); have hbl : out.length + (prL x).length ≤ 2 ^ 46 := (by rw [m2]; simp only [List.length_append]; omega))
 all_goals try refine XW.ra1 27 [5, 16, 95, 96, 97] ?_
 all_goals try refine XW.rS 28 ?_
 all_goals try refine XO.r0 8 ?_
 all_goals try (skip)
 all_goals try refine XO.r0 8 ?_
 all_goals try (skip)
 all_goals try refine XO.r0 8 ?_
 all_goals try (skip)
 all_goals try refine XO.r0 8 ?_
 all_goals try (skip)
 all_goals try refine XO.r0 1 ?_
 all_goals try refine XO.sb ?_
 all_goals try first | (refine XO.b 0 1 (b := true) (out := out) (line21' true out (prL x) (prW x) (prW_line x) (prW_ok (ok.pl.2 x hxm).1.2 (ok.pl.2 x hxm).2.2) h8 hbl) ?_) | (refine XO.b 0 1 (b := false) (out := out) (line21' false out (prL x) (prW x) (prW_line x) (prW_ok (ok.pl.2 x hxm).1.2 (ok.pl.2 x hxm).2.2) h8 hbl) ?_) | (refine XO.b 0 2 (b := true) (out := out) (line21' true out (prL x) (prW x) (prW_line x) (prW_ok (ok.pl.2 x hxm).1.2 (ok.pl.2 x hxm).2.2) h8 hbl) ?_) | (refine XO.b 0 2 (b := false) (out := out) (line21' false out (prL x) (prW x) (prW_line x) (prW_ok (ok.pl.2 x hxm).1.2 (ok.pl.2 x hxm).2.2) h8 hbl) ?_) | (refine XO.b 1 2 (b := true) (out := out) (line21' true out (prL x) (prW x) (prW_line x) (prW_ok (ok.pl.2 x hxm).1.2 (ok.pl.2 x hxm).2.2) h8 hbl) ?_) | (refine XO.b 1 2 (b := false) (out := out) (line21' false out (prL x) (prW x) (prW_line x) (prW_ok (ok.pl.2 x hxm).1.2 (ok.pl.2 x hxm).2.2) h8 hbl) ?_)
 all_goals try refine XO.done [5, 95, 96, 97] ?_
 all_goals try refine XW.ra2 29 [5, 95, 96, 97] ?_
 all_goals try (refine XH.le ?_; first | (exact hY4 (i + 1, true, out ++ prL x) (by (refine ⟨?_, ?_⟩ <;> first | (simp only; omega) | (simp only; rw [hst, m2, List.append_assoc]))) (by first | omega | (simp; done) | (simp; omega)) _ _ (mkWk [some 0, some 1] [] (by simp [wkEnv, lk, lkh, I, str, B, U8, U64, U32, paE, adA, byE, bytesE_app9, bytesE_cons9, bytesE_nil9, nilV, qyC, tsC_c, B]; first | done | omega) (by simp [wkHp, wkHp1, wkEnt, lkh, I, str, paE, adA, byE, bytesE_app9, bytesE_cons9, bytesE_nil9, nilV, qyC, tsC_c, B]))))
 all_goals try (refine XW.at 30 ?_; obtain ⟨m1, m2⟩ := hI4; (try simp only at m1 m2); have h9 := geC c98; obtain rfl : i = ps.length := (by omega); rw [flat_all] at m2; have hol : out.length ≤ 2 ^ 46 := (by rw [m2]; simp only [List.length_append]; omega); have hfin : str out = str (ansF q es rs ps) := (by rw [m2, ans_all ok]))
 all_goals try refine XW.rS 30 ?_
 all_goals try refine XO.r0 3 ?_
 all_goals try first | (refine XO.str 0 1 (b := true) (out := out) (by omega) ?_) | (refine XO.str 0 1 (b := false) (out := out) (by omega) ?_)
 all_goals try refine XO.r0 1 ?_
 all_goals try refine XO.done [4] ?_
 all_goals try (refine XW.atr ?_; first | (exact XP.rs hfin))
end Go.Proofs.YtffchapiaampmaaGreatDoor
namespace Go.Proofs.YtffchapiaampmaaGreatDoor
open Go.Av
attribute [local irreducible] ACall
/-- The next choice out of n, and the place behind it. -/
def nxV (L : List UInt8) (a n : Nat) : Nat := match L[a]? with
 | some b => b.toNat * n / 256
 | none => 0
def nxA (L : List UInt8) (a : Nat) : Nat := if a < L.length then a + 1 else a
theorem nextX (L : List UInt8) (hL : L.length ≤ 2 ^ 20) (a n : Nat) (ha : a ≤ L.length) (hn : n ≤ 2 ^ 30) (hn1 : 1 ≤ n) :
   ACall Tryz.prog 14 [.ptr 0 2 0 0, I n] [some (cdE L a)] (I (nxV L a n)) [some (cdE L (nxA L a))] := by
 have q := left28 L a
 have d1 := dLtF (a := (n : Int)) (b := 1) (by omega)
 by_cases h : a < L.length
 · rw [dLtT (by omega)] at q
   have hx := List.getElem?_eq_getElem h
   have e1 : nxV L a n = L[a].toNat * n / 256 := by unfold nxV; rw [hx]
   have e2 : nxA L a = a + 1 := by unfold nxA; rw [if_pos h]
   rw [e1, e2]
   clear e1 e2
   generalize L[a] = b at *
   have hb := b.toNat_lt
   have hm : b.toNat * n ≤ 255 * n := Nat.mul_le_mul_right _ (by omega)
   have e1 : ((b.toNat : Int) * (n : Int)).tdiv 256 = ((b.toNat * n / 256 : Nat) : Int) := by
     rw [Int.tdiv_eq_ediv_of_nonneg (Int.mul_nonneg (by omega) (by omega)), Int.natCast_ediv, Int.natCast_mul]
     rfl
   have w1 := wrap64 (n := (b.toNat : Int) * (n : Int)) (by
     have : ((b.toNat : Int) * (n : Int)) = ((b.toNat * n : Nat) : Int) := by rw [Int.natCast_mul]
     omega)
   have w2 := wrap64 (n := (b.toNat : Int)) (by omega)
   have w3 := wrap64 (n := ((b.toNat * n / 256 : Nat) : Int)) (by omega)
   refine acall 35 1 Tryz.func14 rfl rfl rfl (by simp) rfl rfl ?_
   intro C hN hk
   refine nx ?_; refine rG hN hk noc [0] [0, 1] fun K hK => ?_; simp only [go_sem, seval]; refine hK _ _ ?_
   clear hK K; refine nx ?_
   refine rG hN hk (onc 1 (ocq 0 q) noc) [0] [0, 1, 12] fun K hK => ?_; simp only [go_sem, seval, d1]
   try simp (disch := omega) only [au]
   try simp only [go_sem, seval, d1]
   refine obK (hK _ _ ?_); clear hK K; refine nx ?_; refine cF ?_; refine nx ?_
   refine rD hN hk noc [0] [0, 1, 5] fun K tok htok hK => ?_
   simp only [go_sem, seval, hx, w2]
   try simp (disch := omega) only [au]
   refine ⟨htok _ (by decide +kernel), ?_⟩
   (first | with_reducible refine hK _ _ ?_ | refine obK (hK _ _ ?_)); clear hK K htok tok
   refine nx ?_; refine rG hN hk noc [0] [1, 5] fun K hK => ?_; simp only [go_sem, seval]
   try simp (disch := omega) only [au]
   (first | with_reducible refine hK _ _ ?_ | refine obK (hK _ _ ?_)); clear hK K; refine nx ?_
   refine rG hN hk noc [0] [4] fun K hK => ?_; simp only [go_sem, seval, w1, e1, w3]
   try simp (disch := omega) only [au]
   (first | with_reducible refine hK _ _ ?_ | refine obK (hK _ _ ?_)); clear hK K; refine nx ?_
   refine AW.ret (mkRet [some 0] [] rfl (by simp [resOf, lk, lkh, I, str, B, U8, U64, U32, cdE] <;> omega) (by first | (simp [wkHp, wkHp1, wkEnt, lkh, cdE]; done) | simp [wkHp, wkHp1, wkEnt, lkh, I, str, cdE]))
 · rw [dLtF (by omega)] at q
   have e1 : nxV L a n = 0 := by unfold nxV; rw [List.getElem?_eq_none (by omega)]
   have e2 : nxA L a = a := by unfold nxA; rw [if_neg h]
   rw [e1, e2]
   refine acall 35 1 Tryz.func14 rfl rfl rfl (by simp) rfl rfl ?_
   intro C hN hk
   refine nx ?_; refine rG hN hk noc [0] [0, 1] fun K hK => ?_; simp only [go_sem, seval]; refine hK _ _ ?_
   clear hK K; refine nx ?_
   refine rG hN hk (onc 1 (ocq 0 q) noc) [0] [0, 1, 12] fun K hK => ?_; simp only [go_sem, seval]
   try simp (disch := omega) only [au]
   try simp only [go_sem, seval]
   refine obK (hK _ _ ?_); clear hK K; refine nx ?_; refine cT ?_; refine nx ?_; refine rG hN hk noc [0] [4] fun K hK => ?_; simp only [go_sem, seval]; refine hK _ _ ?_
   clear hK K; refine nx ?_
   refine AW.ret (mkRet [some 0] [] rfl (by simp [resOf, lk, lkh, I, str, B, U8, U64, U32, cdE] <;> omega) (by first | (simp [wkHp, wkHp1, wkEnt, lkh, cdE]; done) | simp [wkHp, wkHp1, wkEnt, lkh, I, str, cdE]))
theorem evD_of {e : Ev} (h : DrE e) : EvD e := by
 obtain ⟨⟨h1, h2, h3, h4, h5, h6, h7, h8, h9, h10, h11, h12, h13, h14⟩, h15, h16, h17⟩ := h
 refine ⟨⟨by omega, by omega, by omega, fun f hf => ?_, by omega, h10, ?_⟩, ?_, ?_, ?_, ?_⟩
 · have a := (h13 f hf).2
   have b := h15 f hf
   refine ⟨?_, by omega⟩
   simp only [fnL, List.mem_cons, List.not_mem_nil, or_false] at b
   rcases b with b | b | b | b <;> rw [b] <;> decide
 · unfold weightB at h6
   simp at h6
   unfold In64
   omega
 all_goals (unfold In64; omega)
theorem awake4 : ACall Tryz.prog 4 [] [] (B true) [] := by
 obtain ⟨_, rfl, _, q⟩ := quote11 [97] (by simp)
 have e1 : quF [97] = [34, 97, 34] := by decide
 rw [e1] at q
 refine acall 3 0 Tryz.func4 rfl rfl rfl (by simp) rfl rfl ?_
 intro C hN hk
 refine nx ?_; refine rG hN hk noc [] [] fun K hK => ?_; simp only [go_sem, seval]; refine hK _ _ ?_
 clear hK K; refine nx ?_
 refine rG hN hk (onc 0 (pcq q) noc) [] [0] fun K hK => ?_; simp only [go_sem, seval]
 try simp (disch := omega) only [au]
 refine obK (hK _ _ ?_); clear hK K; refine nx ?_
 refine AW.ret (mkRet [] [] rfl (by simp [resOf, lk, lkh, I, str, B, U8, U64, U32] <;> omega) (by first | (simp [wkHp, wkHp1, wkEnt, lkh]; done) | simp [wkHp, wkHp1, wkEnt, lkh, I, str]))
theorem consoleAnswer3 (cs : List UInt8) (hc : cs.length < 2 ^ 63) (t : S) (ht : t.length < 2 ^ 63) : ACall Tryz.prog 3 [.sl 1 (bytesE cs), str t] [] (B true) [] := by
 have qa := awake4
 obtain ⟨L, hL, q5⟩ := new10 cs hc
 obtain ⟨_, ⟨q, a1, rfl, hq, ha1⟩, q6⟩ := query11 L (by omega) 0 (by omega)
 obtain ⟨_, ⟨l, a2, rfl, ⟨hasc, hdr, hll⟩, ha2⟩, q7⟩ := events12 L (by omega) a1 ha1 5 (by omega)
 obtain ⟨es, rs, ps, n, ok, q8⟩ := run8s q hq l (fun e he => evD_of (hdr e he)) hll
 obtain ⟨_, rfl, _, q9⟩ := answer9 q es rs ps ok (fun y hy => (ok.rl.2 y hy).1)
 obtain ⟨_, rfl, _, q10⟩ := answer10 q es rs ps ok
 by_cases h : t.length > 300
 · have d0 : decide (((t.length : Nat) : Int) > 300) = true := by simp; omega
   refine acall 46 0 Tryz.func3 rfl rfl rfl (by simp) rfl rfl ?_
   intro C hN hk
   refine nx ?_; refine rG hN hk noc [] [0, 1] fun K hK => ?_; simp only [go_sem, seval]; refine hK _ _ ?_
   clear hK K; refine nx ?_
   refine rG hN hk (onc 0 (pcq qa) noc) [] [0, 1, 16] fun K hK => ?_; simp only [go_sem, seval, d0]
   try simp (disch := omega) only [au]
   try simp only [go_sem, seval, d0]
   refine obK (hK _ _ ?_); clear hK K; refine nx ?_; refine cT ?_; refine nx ?_; refine rG hN hk noc [] [4] fun K hK => ?_; simp only [go_sem, seval, d0]
   try simp (disch := omega) only [au]
   (first | with_reducible refine hK _ _ ?_ | refine obK (hK _ _ ?_)); clear hK K; refine nx ?_
   refine AW.ret (mkRet [] [] rfl (by simp [resOf, lk, lkh, I, str, B, U8, U64, U32] <;> omega) (by first | (simp [wkHp, wkHp1, wkEnt, lkh]; done) | simp [wkHp, wkHp1, wkEnt, lkh, I, str]))
 · have d0 : decide (((t.length : Nat) : Int) > 300) = false := by simp; omega
   obtain ⟨_, rfl, _, q11⟩ := quote11 t (by omega)
   obtain ⟨_, rfl, _, q12⟩ := quote12 t (by omega)
   obtain ⟨A, hA⟩ : ∃ A, A = ansF q es rs ps := ⟨_, rfl⟩
   obtain ⟨U, hU⟩ : ∃ U, U = quF t := ⟨_, rfl⟩
   rw [← hA] at q9 q10
   rw [← hU] at q11 q12
   clear hA hU
   simp only [qyC, tsC_c, List.cons_append, List.nil_append] at q6 q8 q9 q10
   generalize evE l = le at *
   generalize evE es = ee at *
   generalize rwE rs = re at *
   generalize prE ps = pe at *
   refine acall 46 0 Tryz.func3 rfl rfl rfl (by simp) rfl rfl ?_
   intro C hN hk
   refine nx ?_; refine rG hN hk noc [] [0, 1] fun K hK => ?_; simp only [go_sem, seval]; refine hK _ _ ?_
   clear hK K; refine nx ?_
   refine rG hN hk (onc 0 (pcq qa) noc) [] [0, 1, 16] fun K hK => ?_; simp only [go_sem, seval, d0]
   try simp (disch := omega) only [au]
   try simp only [go_sem, seval, d0]
   refine obK (hK _ _ ?_); clear hK K; refine nx ?_; refine cF ?_; refine nx ?_; refine rG hN hk (onc 1 (pcq q5) noc) [] [1, 5] fun K hK => ?_; simp only [go_sem, seval]; refine obK (hK _ _ ?_)
   clear hK K; refine nx ?_
   refine rG hN hk (onc 1 (ocq 0 q6) (onc 3 (ocq 0 q7) noc)) [] [1, 6, 7] fun K hK => ?_; simp only [go_sem, seval]; refine obK (hK _ _ ?_)
   clear hK K; refine nx ?_
   refine rG hN hk (onc 2 (pcq q8) noc) [] [1, 6, 8] fun K hK => ?_; simp only [go_sem, seval]; refine obK (hK _ _ ?_)
   clear hK K; refine nx ?_
   refine rD hN hk (onc 2 (pcq q9) (onc 5 (pcq q10) (onc 9 (pcq q11) (onc 11 (pcq q12) noc)))) [] [4] fun K tok htok hK => ?_
   simp only [go_sem, seval]
   try simp (disch := omega) only [au]
   try simp only [go_sem, seval]
   refine ⟨htok _ (by decide +kernel), ?_⟩
   refine obK (hK _ _ ?_); clear hK K htok tok
   refine nx ?_
   refine AW.ret (mkRet [] [] rfl (by simp [resOf, lk, lkh, I, str, B, U8, U64, U32] <;> omega) (by first | (simp [wkHp, wkHp1, wkEnt, lkh]; done) | simp [wkHp, wkHp1, wkEnt, lkh, I, str]))
end Go.Proofs.YtffchapiaampmaaGreatDoor
