/-
  Part 32 of the proof that logtidelaw45.ConsoleAnswer returns true for every list of bytes and every text, and leaves both as they were.
-/
import Derived.Test.YtffchapiaampmaaGreatDoorA31
set_option linter.unusedSimpArgs false
set_option linter.unusedVariables false
namespace Go.Proofs.YtffchapiaampmaaGreatDoor
open Go.Av
attribute [local irreducible] ACall
def kt6 : Nat → List Nat
 | 0 => [0, 2]
 | 1 => [0, 2, 3]
 | 2 => [0, 2, 3, 4]
 | 3 => [0, 2, 3, 4, 13]
 | 4 => [0, 2, 3, 4]
 | 5 => [0, 2, 3, 4, 18]
 | 6 => [0, 2, 3, 4]
 | 7 => [0, 2, 3, 4]
 | 8 => [0, 2, 3, 39]
 | 9 => [0, 2, 3, 39, 40]
 | 10 => [2, 3]
 | 11 => [0, 2, 3, 39, 49]
 | 12 => [0, 2, 3]
 | 13 => [0, 2, 3, 5]
 | 14 => [0, 2, 3, 5, 59]
 | 15 => [0, 2, 3, 5]
 | 16 => [0, 2, 3, 5, 6]
 | 17 => [0, 2, 3, 5, 6, 67]
 | 18 => [0, 2, 3, 5, 6]
 | 19 => [0, 2, 3, 5]
 | 20 => [0, 2, 3, 39, 80]
 | 21 => [0, 2, 3]
 | 22 => [0, 2, 3]
 | 23 => [0, 2, 3, 95]
 | 24 => [2, 3]
 | 25 => [2, 3, 102]
 | 26 => [2, 3]
 | 27 => [0, 2, 3, 107]
 | 28 => [0, 2, 3]
 | 29 => [2, 3]
 | 30 => [2]
 | _ => []
def qsL : List S := [[40, 109, 115, 58, 92, 100, 43, 41], [40, 117, 115, 101, 114, 58, 91, 97, 45, 122, 93, 43, 41, 95, 40, 99, 111, 100, 101, 58, 92, 100, 41], [120], [40, 108, 101, 118, 101, 108, 58, 103, 101, 116, 124, 119, 97, 114, 110, 41]]
def qaL : List S := [[109, 115], [99, 111, 100, 101], [64, 116, 105, 109, 101], [108, 101, 118, 101, 108]]
def qkL : List S := [[64, 116, 114, 97, 99, 101], [117, 115, 101, 114], [108, 101, 118, 101, 108]]
@[simp] theorem qsL_n : qsL.length = 4 := rfl
@[simp] theorem qaL_n : qaL.length = 4 := rfl
@[simp] theorem qkL_n : qkL.length = 3 := rfl
theorem lit_qsL : ([[AV.val (.string ⟨#[40, 109, 115, 58, 92, 100, 43, 41]⟩)], [AV.val (.string ⟨#[40, 117, 115, 101, 114, 58, 91, 97, 45, 122, 93, 43, 41, 95, 40, 99, 111, 100, 101, 58, 92, 100, 41]⟩)], [AV.val (.string ⟨#[120]⟩)], [AV.val (.string ⟨#[40, 108, 101, 118, 101, 108, 58, 103, 101, 116, 124, 119, 97, 114, 110, 41]⟩)]] : List (List AV)) = strE qsL := rfl
theorem lit_qaL : ([[AV.val (.string ⟨#[109, 115]⟩)], [AV.val (.string ⟨#[99, 111, 100, 101]⟩)], [AV.val (.string ⟨#[64, 116, 105, 109, 101]⟩)], [AV.val (.string ⟨#[108, 101, 118, 101, 108]⟩)]] : List (List AV)) = strE qaL := rfl
theorem lit_qkL : ([[AV.val (.string ⟨#[64, 116, 114, 97, 99, 101]⟩)], [AV.val (.string ⟨#[117, 115, 101, 114]⟩)], [AV.val (.string ⟨#[108, 101, 118, 101, 108]⟩)]] : List (List AV)) = strE qkL := rfl
/-- The shapes of queries that are drawn. -/
def QyS (q : Qy) : Prop :=
 (∃ t sg lim last, q = ⟨t, sg, 0, lim, last, [], [], 0, tz, [], 0⟩) ∨ (∃ t sg ns ag, q = ⟨t, sg, 1, 0, false, ns, ag, 0, tz, [], 0⟩) ∨
 (∃ t sg lim ns ag sk, q = ⟨t, sg, 2, lim, false, ns, ag, sk, tz, [], 0⟩) ∨ (∃ t sg lim o key w, q = ⟨t, sg, 3, lim, false, [], [], 0, o, key, w⟩)
/-- A stage that is drawn. -/
def SgB (s : Sg) : Prop := TsB 1 s.test ∧ (s.ext = true → s.src ∈ qsL) ∧ (s.ext = false → s.src = [])
/-- Queries that are drawn. -/
structure QyG (q : Qy) : Prop where
 test : TsB 2 q.test
 other : TsB 1 q.other
 st : q.stages.length ≤ 2 ∧ ∀ s ∈ q.stages, SgB s
 shape : QyS q
 names : q.names.length ≤ 2 ∧ ∀ n ∈ q.names, n.length ≤ 19
 aggs : q.aggs.length ≤ 10 ∧ ∀ x ∈ q.aggs, x.fld.length ≤ 19
 sk : 0 ≤ q.sketch
 key : q.key.length ≤ 19
 one : q.kind = 2 → q.aggs.length = 1
 ag1 : q.kind = 1 → 1 ≤ q.aggs.length
theorem tz0 : TsB 1 tz := TsB.mk0 1 (by simp) (by simp) (by omega) (by unfold In64; omega)
theorem QyG.k0 {t : Ts} {sg : List Sg} {lim : Int} {last : Bool} (tb : TsB 2 t) (hs : sg.length ≤ 2 ∧ ∀ x ∈ sg, SgB x) : QyG ⟨t, sg, 0, lim, last, [], [], 0, tz, [], 0⟩ :=
 ⟨tb, tz0, hs, .inl ⟨_, _, _, _, rfl⟩, ⟨by simp, fun _ h => by simp at h⟩, ⟨by simp, fun _ h => by simp at h⟩, Int.le_refl _, by simp, fun h => by simp at h, fun h => by simp at h⟩
theorem QyG.k1 {t : Ts} {sg : List Sg} {ns : List S} {ag : List Ag} (tb : TsB 2 t) (hs : sg.length ≤ 2 ∧ ∀ x ∈ sg, SgB x) (nb : ns.length ≤ 2 ∧ ∀ n ∈ ns, n.length ≤ 19) (ab : ag.length ≤ 10 ∧ ∀ x ∈ ag, x.fld.length ≤ 19) (a1 : 1 ≤ ag.length) : QyG ⟨t, sg, 1, 0, false, ns, ag, 0, tz, [], 0⟩ :=
 ⟨tb, tz0, hs, .inr (.inl ⟨_, _, _, _, rfl⟩), nb, ab, Int.le_refl _, by simp, fun h => by simp at h, fun _ => a1⟩
theorem QyG.k2 {t : Ts} {sg : List Sg} {ns : List S} {a : Ag} {lim sk : Int} (tb : TsB 2 t) (hs : sg.length ≤ 2 ∧ ∀ x ∈ sg, SgB x) (nb : ns.length ≤ 2 ∧ ∀ n ∈ ns, n.length ≤ 19) (ab : a.fld.length ≤ 19) (hk : 0 ≤ sk) : QyG ⟨t, sg, 2, lim, false, ns, [a], sk, tz, [], 0⟩ :=
 ⟨tb, tz0, hs, .inr (.inr (.inl ⟨_, _, _, _, _, _, rfl⟩)), nb, ⟨by simp, by simpa using ab⟩, hk, by simp, fun _ => rfl, fun h => by simp at h⟩
theorem QyG.k3 {t o : Ts} {sg : List Sg} {key : S} {lim w : Int} (tb : TsB 2 t) (ob : TsB 1 o) (hs : sg.length ≤ 2 ∧ ∀ x ∈ sg, SgB x) (kb : key.length ≤ 19) : QyG ⟨t, sg, 3, lim, false, [], [], 0, o, key, w⟩ :=
 ⟨tb, ob, hs, .inr (.inr (.inr ⟨_, _, _, _, _, _, rfl⟩)), ⟨by simp, fun _ h => by simp at h⟩, ⟨by simp, fun _ h => by simp at h⟩, Int.le_refl _, kb, fun h => by simp at h, fun h => by simp at h⟩
theorem mem_lit {l : List S} {v n : Nat} (hn : l.length = n) (h : v < n) : l.getD v [] ∈ l := by
 subst hn; rw [getD_of h]; exact List.getElem_mem h
@[simp] theorem wkE_sg {hp : Hp} {ids : List (Option Nat)} {D : List Nat} (l : List Sg) (x c : List AV) : wkE hp ids D (sgE l ++ [c]) (sgE l ++ [x]) ↔ wkL hp ids D c x := wkE_snoc_iff (sgE_id 0 l)
noncomputable def rest11 : Code := cR (cR (cR (bodyOf Tryz.f6)))
/-- What is returned by Query. -/
def R11 (L : List UInt8) : Res → Prop := fun x => ∃ (q : Qy) (a' : Nat), x = (.agg (qyC q), [some (cdE L a')]) ∧ QyG q ∧ a' ≤ L.length
def st11 (L : List UInt8) (t : Ts) (sg : List Sg) (a3 : Nat) : AS := ⟨[(0, .ptr 0 2 0 0), (2, .ptr 1 19 0 0), (3, .ptr 2 19 0 0)], [(0, some (cdE L a3)), (1, some ⟨33, 19, [[I 0, str [], str [], I 0, nilV, nilV, I 0, I 0, B false, nilV, nilV, I 0, I 0, str [], str [], I 0, nilV, str [], I 0]]⟩), (2, some ⟨33, 19, [[I t.op, str t.name, str t.text, I t.num, .sl 5 (tsE t.kids), .osl 3 sg.length 7, I 0, I 0, B false, nilV, nilV, I 0, I 0, str [], str [], I 0, nilV, str [], I 0]]⟩), (3, some ⟨52, 7, sgE sg⟩)]⟩
theorem query11_0 (L : List UInt8) (hL : L.length ≤ 2 ^ 20) (t : Ts) (tb : TsB 2 t) (sg : List Sg) (hs : sg.length ≤ 2 ∧ ∀ x ∈ sg, SgB x) (a3 a4 : Nat) (ha4 : a4 ≤ L.length) (q1 : ACall Tryz.prog 14 [.ptr 0 2 0 0, I 5] [some (cdE L a3)] (I 0) [some (cdE L a4)]) :
   EX 126 1 (R11 L) (fun x C => AW Tryz.prog C rest11 (retQ (tabOf Tryz.prog) [.cell 2 33] x.1 x.2 1) 4 (st11 L t sg a3)) := by
 dsimp only [rest11, cR, bodyOf, Tryz.f6, Option.getD]
 simp only [st11, cdE, nilV]
 obtain ⟨c, a5, ha5, clt, q2⟩ := next13 L hL a4 2 ha4 (by omega) (by omega)
 obtain ⟨m, a6, ha6, mlt, q3⟩ := next13 L hL a5 4 ha5 (by omega) (by omega)
 apply EX.step
 · intro xX C hN hk hqX
   repeat first | (with_reducible first | apply s1 | apply s2 | apply s5 | apply s6 | refine s7 ?_ | apply s3 | apply s4 | apply s8 | apply s9) | refine AW.condT rfl ?_ | refine AW.condF rfl ?_ | (refine AW.rT mixed hN hk (atO 8 (onc 1 (ocq 0 q1) noc) (atO 10 (onc 1 (ocq 0 q2) (onc 4 (ocq 0 q3) noc)) noO)) kt6 [0] rfl (by decide +kernel) (fun K hK => ?_); simp only [go_sem, seval, kt6]; (iterate 3 (try simp (disch := omega) only [au]; try simp only [go_sem, seval, kt6])); (first | with_reducible refine hK _ _ ?_ | refine obK (hK _ _ ?_)); clear hK K) | (refine AW.rD mixed hN hk (atO 8 (onc 1 (ocq 0 q1) noc) (atO 10 (onc 1 (ocq 0 q2) (onc 4 (ocq 0 q3) noc)) noO)) kt6 [0] rfl (by decide +kernel) (fun K tok htok hK => ?_); simp only [go_sem, seval, kt6]; (iterate 3 (try simp (disch := omega) only [au]; try simp only [go_sem, seval, kt6])); refine ⟨htok _ (by decide +kernel), ?_⟩; (first | with_reducible refine hK _ _ ?_ | refine obK (hK _ _ ?_)); clear hK K htok tok)
   exact hqX
 refine EX.ret (.agg (qyC ⟨t, sg, 0, m, ((c : Int) == 1), [], [], 0, tz, [], 0⟩)) [some (cdE L a6)] ?_ (fun C hN hk => AW.ret (mkRet [some 0] [2] (by simp only [resList, go_sem, seval]; rfl) (by simp [resOf, lk, lkh, I, str, B, U8, U64, U32, cdE, qyC, tsC_c, tz] <;> omega) (by first | (simp [wkHp, wkHp1, wkEnt, lkh, cdE, qyC, tsC_c, tz]; done) | simp [wkHp, wkHp1, wkEnt, lkh, I, str, cdE, qyC, tsC_c, tz])))
 exact ⟨_, a6, rfl, QyG.k0 tb hs, ha6⟩
theorem query11_1 (L : List UInt8) (hL : L.length ≤ 2 ^ 20) (t : Ts) (tb : TsB 2 t) (sg : List Sg) (hs : sg.length ≤ 2 ∧ ∀ x ∈ sg, SgB x) (a3 a4 : Nat) (ha4 : a4 ≤ L.length) (q1 : ACall Tryz.prog 14 [.ptr 0 2 0 0, I 5] [some (cdE L a3)] (I 1) [some (cdE L a4)]) :
   EX 126 1 (R11 L) (fun x C => AW Tryz.prog C rest11 (retQ (tabOf Tryz.prog) [.cell 2 33] x.1 x.2 1) 4 (st11 L t sg a3)) := by
 dsimp only [rest11, cR, bodyOf, Tryz.f6, Option.getD]
 simp only [st11, cdE, nilV]
 obtain ⟨_, ⟨ns, a5, rfl, nb, ha5⟩, q2⟩ := names25 L hL a4 ha4
 obtain ⟨m, a6, ha6, mlt, q3⟩ := next13 L hL a5 3 ha5 (by omega) (by omega)
 simp only at q2
 have w1 := wrap64 (n := 1 + (m : Int)) (by omega)
 apply EX.step
 · intro xX C hN hk hqX
   repeat first | (with_reducible first | apply s1 | apply s2 | apply s5 | apply s6 | refine s7 ?_ | apply s3 | apply s4 | apply s8 | apply s9) | refine AW.condT rfl ?_ | refine AW.condF rfl ?_ | (refine AW.rT mixed hN hk (atO 8 (onc 1 (ocq 0 q1) noc) (atO 12 (onc 1 (ocq 0 q2) noc) (atO 13 (onc 1 (ocq 0 q3) noc) noO))) kt6 [0] rfl (by decide +kernel) (fun K hK => ?_); simp only [go_sem, seval, kt6, w1]; (iterate 3 (try simp (disch := omega) only [au]; try simp only [go_sem, seval, kt6, w1])); (first | with_reducible refine hK _ _ ?_ | refine obK (hK _ _ ?_)); clear hK K) | (refine AW.rD mixed hN hk (atO 8 (onc 1 (ocq 0 q1) noc) (atO 12 (onc 1 (ocq 0 q2) noc) (atO 13 (onc 1 (ocq 0 q3) noc) noO))) kt6 [0] rfl (by decide +kernel) (fun K tok htok hK => ?_); simp only [go_sem, seval, kt6, w1]; (iterate 3 (try simp (disch := omega) only [au]; try simp only [go_sem, seval, kt6, w1])); refine ⟨htok _ (by decide +kernel), ?_⟩; (first | with_reducible refine hK _ _ ?_ | refine obK (hK _ _ ?_)); clear hK K htok tok)
   exact hqX
 have hm2 : 1 + (m : Int) = ((m + 1 : Nat) : Int) := by omega
 simp only [hm2]
 clear q1 q2 q3 w1 hm2
 apply EX.step
 · intro xX C hN hk hqX
   repeat first | with_reducible refine AW.seq ?_ | with_reducible refine AW.block ?_
   exact hqX
 refine lpX 6 (fun s : Nat × List Ag × Nat => ⟨[(0, .ptr 0 2 0 0), (2, .ptr 1 19 0 0), (3, .ptr 2 19 0 0), (5, I s.1)], [(0, some ⟨48, 2, [[.sl 1 (bytesE L), I s.2.2]]⟩), (1, some ⟨33, 19, [[I 0, str [], str [], I 0, nilV, nilV, I 0, I 0, B false, nilV, nilV, I 0, I 0, str [], str [], I 0, nilV, str [], I 0]]⟩), (2, some ⟨33, 19, [[I t.op, str t.name, str t.text, I t.num, .sl 5 (tsE t.kids), .osl 3 sg.length 7, I 1, I 0, B false, .osl 4 ns.length 1, .osl 5 s.2.1.length 2, I 0, I 0, str [], str [], I 0, nilV, str [], I 0]]⟩), (3, some ⟨52, 7, sgE sg⟩), (4, some ⟨9, 1, strE ns⟩), (5, some ⟨55, 2, agE s.2.1⟩)]⟩) (fun s => (s.2.1.length + s.1 ≤ 10 ∧ 1 ≤ s.2.1.length + s.1) ∧ s.2.2 ≤ L.length ∧ ∀ x ∈ s.2.1, x.fld.length ≤ 19) (fun s => s.1) (m + 1, [], a6) (mkWk [some 0, some 1, some 2, some 3, some 4, none] [] (by simp [wkEnv, lk, lkh, I, str, B, U8, U64, U32, nilV, B] <;> omega) (by first | (simp [wkHp, wkHp1, wkEnt, lkh, nilV, B]; done) | simp [wkHp, wkHp1, wkEnt, lkh, I, str, nilV, B])) ?_
 intro ⟨j, ag, a7⟩ hI2 Y2 hY2
 obtain ⟨m1, ha7, m3⟩ := hI2
 simp only at m1 ha7 m3
 cases j with
 | succ j =>
   have d2 : decide (((j + 1 : Nat) : Int) > 0) = true := by simp
   have e2 : (((j + 1 : Nat) : Int) - 1) = (j : Int) := by omega
   have w8 := wrap64 (n := (j : Int)) (by omega)
   obtain ⟨c, a8, ha8, clt, q4⟩ := next13 L hL a7 5 ha7 (by omega) (by omega)
   obtain rfl | hc : c = 0 ∨ c ≠ 0 := by omega
   · apply EX.step
     · intro xX C hN hk hqX
       repeat first | (with_reducible first | apply s1 | apply s2 | apply s5 | apply s6 | refine s7 ?_ | apply s3 | apply s4 | apply s8 | apply s9) | refine AW.condT rfl ?_ | refine AW.condF rfl ?_ | (refine AW.rT mixed hN hk (atO 16 (onc 1 (ocq 0 q4) noc) noO) kt6 [0] rfl (by decide +kernel) (fun K hK => ?_); simp only [go_sem, seval, kt6, d2, e2, w8]; (iterate 3 (try simp (disch := omega) only [au]; try simp only [go_sem, seval, kt6, d2, e2, w8])); (first | with_reducible refine hK _ _ ?_ | refine obK (hK _ _ ?_)); clear hK K) | (refine AW.rD mixed hN hk (atO 16 (onc 1 (ocq 0 q4) noc) noO) kt6 [0] rfl (by decide +kernel) (fun K tok htok hK => ?_); simp only [go_sem, seval, kt6, d2, e2, w8]; (iterate 3 (try simp (disch := omega) only [au]; try simp only [go_sem, seval, kt6, d2, e2, w8])); refine ⟨htok _ (by decide +kernel), ?_⟩; (first | with_reducible refine hK _ _ ?_ | refine obK (hK _ _ ?_)); clear hK K htok tok)
       exact hqX
     obtain ⟨g2, hg2⟩ : ∃ g2, g2 = ag ++ [⟨0, []⟩] := ⟨_, rfl⟩
     have g2m : ∀ x ∈ g2, x.fld.length ≤ 19 := by
       intro x hx
       rw [hg2] at hx
       rcases List.mem_append.1 hx with hx | hx
       · exact m3 x hx
       · rw [List.mem_singleton.1 hx]; simp
     have hgl : g2.length = ag.length + 1 := by rw [hg2]; simp
     have hge : agE g2 = agE ag ++ [[.val (.int .i64 0), .val (.string ⟨#[]⟩)]] := by rw [hg2]; simp [agE, agC, I, str]
     refine eY hY2 ((j, g2, a8)) (mkWk [some 0, some 1, some 2, some 3, some 4, some 5] [] (by simp [wkEnv, lk, lkh, I, str, B, U8, U64, U32, hge, hgl, nilV, B, idLtL, idLt] <;> omega) (by first | (simp [wkHp, wkHp1, wkEnt, lkh, hge, hgl, nilV, B, idLtL, idLt]; done) | simp [wkHp, wkHp1, wkEnt, lkh, I, str, hge, hgl, nilV, B, idLtL, idLt]))
   · have dn : ((c : Int) != 0) = true := by simp; omega
     obtain ⟨v, a9, ha9, vlt, q5⟩ := next13 L hL a8 4 ha8 (by omega) (by omega)
     have vx := lit_get (l := qaL) rfl vlt
     have wl9 : (qaL.getD v []).length ≤ 19 := getD_len (by decide) v
     generalize qaL.getD v [] = w at *
     obtain ⟨g2, hg2⟩ : ∃ g2, g2 = ag ++ [⟨(c : Int), w⟩] := ⟨_, rfl⟩
     have g2m : ∀ x ∈ g2, x.fld.length ≤ 19 := by
       intro x hx
       rw [hg2] at hx
       rcases List.mem_append.1 hx with hx | hx
       · exact m3 x hx
       · rw [List.mem_singleton.1 hx]; exact wl9
     have hgl : g2.length = ag.length + 1 := by rw [hg2]; simp
     have hge : agE g2 = agE ag ++ [[.val (.int .i64 c), .val (.string ⟨w.toArray⟩)]] := by rw [hg2]; simp [agE, agC, I, str]
     apply EX.step
     · intro xX C hN hk hqX
       repeat first | (with_reducible first | apply s1 | apply s2 | apply s5 | apply s6 | refine s7 ?_ | apply s3 | apply s4 | apply s8 | apply s9) | refine AW.condT rfl ?_ | refine AW.condF rfl ?_ | (refine AW.rT mixed hN hk (atO 16 (onc 1 (ocq 0 q4) noc) (atO 18 (onc 2 (ocq 0 q5) noc) noO)) kt6 [0] rfl (by decide +kernel) (fun K hK => ?_); simp only [go_sem, seval, kt6, d2, e2, w8, dn, lit_qaL, vx]; (iterate 3 (try simp (disch := omega) only [au]; try simp only [go_sem, seval, kt6, d2, e2, w8, dn, lit_qaL, vx])); (first | with_reducible refine hK _ _ ?_ | refine obK (hK _ _ ?_)); clear hK K) | (refine AW.rD mixed hN hk (atO 16 (onc 1 (ocq 0 q4) noc) (atO 18 (onc 2 (ocq 0 q5) noc) noO)) kt6 [0] rfl (by decide +kernel) (fun K tok htok hK => ?_); simp only [go_sem, seval, kt6, d2, e2, w8, dn, lit_qaL, vx]; (iterate 3 (try simp (disch := omega) only [au]; try simp only [go_sem, seval, kt6, d2, e2, w8, dn, lit_qaL, vx])); refine ⟨htok _ (by decide +kernel), ?_⟩; (first | with_reducible refine hK _ _ ?_ | refine obK (hK _ _ ?_)); clear hK K htok tok)
       exact hqX
     refine eY hY2 ((j, g2, a9)) (mkWk [some 0, some 1, some 2, some 3, some 4, some 5] [] (by simp [wkEnv, lk, lkh, I, str, B, U8, U64, U32, hge, hgl, nilV, B, idLtL, idLt] <;> omega) (by first | (simp [wkHp, wkHp1, wkEnt, lkh, hge, hgl, nilV, B, idLtL, idLt]; done) | simp [wkHp, wkHp1, wkEnt, lkh, I, str, hge, hgl, nilV, B, idLtL, idLt]))
 | zero =>
   apply EX.step
   · intro xX C hN hk hqX
     repeat first | (with_reducible first | apply s1 | apply s2 | apply s5 | apply s6 | refine s7 ?_ | apply s3 | apply s4 | apply s8 | apply s9) | refine AW.condT rfl ?_ | refine AW.condF rfl ?_ | (refine AW.rT mixed hN hk noO kt6 [0] rfl (by decide +kernel) (fun K hK => ?_); simp only [go_sem, seval, kt6]; (iterate 3 (try simp (disch := omega) only [au]; try simp only [go_sem, seval, kt6])); (first | with_reducible refine hK _ _ ?_ | refine obK (hK _ _ ?_)); clear hK K) | (refine AW.rD mixed hN hk noO kt6 [0] rfl (by decide +kernel) (fun K tok htok hK => ?_); simp only [go_sem, seval, kt6]; (iterate 3 (try simp (disch := omega) only [au]; try simp only [go_sem, seval, kt6])); refine ⟨htok _ (by decide +kernel), ?_⟩; (first | with_reducible refine hK _ _ ?_ | refine obK (hK _ _ ?_)); clear hK K htok tok)
     exact hqX
   refine EX.ret (.agg (qyC ⟨t, sg, 1, 0, false, ns, ag, 0, tz, [], 0⟩)) [some (cdE L a7)] ?_ (fun C hN hk => AW.ret (mkRet [some 0] [2, 3, 4] (by simp only [resList, go_sem, seval]; rfl) (by simp [resOf, lk, lkh, I, str, B, U8, U64, U32, cdE, qyC, tsC_c, tz] <;> omega) (by first | (simp [wkHp, wkHp1, wkEnt, lkh, cdE, qyC, tsC_c, tz]; done) | simp [wkHp, wkHp1, wkEnt, lkh, I, str, cdE, qyC, tsC_c, tz])))
   exact ⟨_, a7, rfl, QyG.k1 tb hs nb ⟨by omega, m3⟩ (by omega), ha7⟩
theorem query11_2 (L : List UInt8) (hL : L.length ≤ 2 ^ 20) (t : Ts) (tb : TsB 2 t) (sg : List Sg) (hs : sg.length ≤ 2 ∧ ∀ x ∈ sg, SgB x) (a3 a4 : Nat) (ha4 : a4 ≤ L.length) (q1 : ACall Tryz.prog 14 [.ptr 0 2 0 0, I 5] [some (cdE L a3)] (I 2) [some (cdE L a4)]) :
   EX 126 1 (R11 L) (fun x C => AW Tryz.prog C rest11 (retQ (tabOf Tryz.prog) [.cell 2 33] x.1 x.2 1) 4 (st11 L t sg a3)) := by
 dsimp only [rest11, cR, bodyOf, Tryz.f6, Option.getD]
 simp only [st11, cdE, nilV]
 obtain ⟨_, ⟨ns, a5, rfl, nb, ha5⟩, q2⟩ := names25 L hL a4 ha4
 obtain ⟨m, a6, ha6, mlt, q3⟩ := next13 L hL a5 4 ha5 (by omega) (by omega)
 obtain ⟨c, a7, ha7, clt, q4⟩ := next13 L hL a6 2 ha6 (by omega) (by omega)
 simp only at q2
 have w1 := wrap64 (n := 1 + (m : Int)) (by omega)
 apply EX.step
 · intro xX C hN hk hqX
   repeat first | (with_reducible first | apply s1 | apply s2 | apply s5 | apply s6 | refine s7 ?_ | apply s3 | apply s4 | apply s8 | apply s9) | refine AW.condT rfl ?_ | refine AW.condF rfl ?_ | (refine AW.rT mixed hN hk (atO 8 (onc 1 (ocq 0 q1) noc) (atO 21 (onc 1 (ocq 0 q2) (onc 3 (ocq 0 q3) noc)) (atO 23 (onc 1 (ocq 0 q4) noc) noO))) kt6 [0] rfl (by decide +kernel) (fun K hK => ?_); simp only [go_sem, seval, kt6, w1]; (iterate 3 (try simp (disch := omega) only [au]; try simp only [go_sem, seval, kt6, w1])); (first | with_reducible refine hK _ _ ?_ | refine obK (hK _ _ ?_)); clear hK K) | (refine AW.rD mixed hN hk (atO 8 (onc 1 (ocq 0 q1) noc) (atO 21 (onc 1 (ocq 0 q2) (onc 3 (ocq 0 q3) noc)) (atO 23 (onc 1 (ocq 0 q4) noc) noO))) kt6 [0] rfl (by decide +kernel) (fun K tok htok hK => ?_); simp only [go_sem, seval, kt6, w1]; (iterate 3 (try simp (disch := omega) only [au]; try simp only [go_sem, seval, kt6, w1])); refine ⟨htok _ (by decide +kernel), ?_⟩; (first | with_reducible refine hK _ _ ?_ | refine obK (hK _ _ ?_)); clear hK K htok tok)
   exact hqX
 by_cases hc : c = 1
 · subst hc
   obtain ⟨v, a8, ha8, vlt, q5⟩ := next13 L hL a7 4 ha7 (by omega) (by omega)
   have w2 := wrap64 (n := 1 + (v : Int)) (by omega)
   apply EX.step
   · intro xX C hN hk hqX
     repeat first | (with_reducible first | apply s1 | apply s2 | apply s5 | apply s6 | refine s7 ?_ | apply s3 | apply s4 | apply s8 | apply s9) | refine AW.condT rfl ?_ | refine AW.condF rfl ?_ | (refine AW.rT mixed hN hk (atO 24 (onc 1 (ocq 0 q5) noc) noO) kt6 [0] rfl (by decide +kernel) (fun K hK => ?_); simp only [go_sem, seval, kt6, w2]; (iterate 3 (try simp (disch := omega) only [au]; try simp only [go_sem, seval, kt6, w2])); (first | with_reducible refine hK _ _ ?_ | refine obK (hK _ _ ?_)); clear hK K) | (refine AW.rD mixed hN hk (atO 24 (onc 1 (ocq 0 q5) noc) noO) kt6 [0] rfl (by decide +kernel) (fun K tok htok hK => ?_); simp only [go_sem, seval, kt6, w2]; (iterate 3 (try simp (disch := omega) only [au]; try simp only [go_sem, seval, kt6, w2])); refine ⟨htok _ (by decide +kernel), ?_⟩; (first | with_reducible refine hK _ _ ?_ | refine obK (hK _ _ ?_)); clear hK K htok tok)
     exact hqX
   refine EX.ret (.agg (qyC ⟨t, sg, 2, (1 + m), false, ns, [⟨0, []⟩], (1 + v), tz, [], 0⟩)) [some (cdE L a8)] ?_ (fun C hN hk => AW.ret (mkRet [some 0] [2, 3, 4] (by simp only [resList, go_sem, seval]; rfl) (by simp [resOf, lk, lkh, I, str, B, U8, U64, U32, cdE, qyC, tsC_c, tz, agE, agC] <;> omega) (by first | (simp [wkHp, wkHp1, wkEnt, lkh, cdE, qyC, tsC_c, tz, agE, agC]; done) | simp [wkHp, wkHp1, wkEnt, lkh, I, str, cdE, qyC, tsC_c, tz, agE, agC])))
   exact ⟨_, a8, rfl, QyG.k2 tb hs nb (by simp) (by omega), ha8⟩
 · have dc : ((c : Int) == 1) = false := by simp; omega
   simp only [dc]
   obtain ⟨v, a8, ha8, vlt, q5⟩ := next13 L hL a7 2 ha7 (by omega) (by omega)
   apply EX.step
   · intro xX C hN hk hqX
     repeat first | (with_reducible first | apply s1 | apply s2 | apply s5 | apply s6 | refine s7 ?_ | apply s3 | apply s4 | apply s8 | apply s9) | refine AW.condT rfl ?_ | refine AW.condF rfl ?_ | (refine AW.rT mixed hN hk (atO 25 (onc 1 (ocq 0 q5) noc) noO) kt6 [0] rfl (by decide +kernel) (fun K hK => ?_); simp only [go_sem, seval, kt6]; (iterate 3 (try simp (disch := omega) only [au]; try simp only [go_sem, seval, kt6])); (first | with_reducible refine hK _ _ ?_ | refine obK (hK _ _ ?_)); clear hK K) | (refine AW.rD mixed hN hk (atO 25 (onc 1 (ocq 0 q5) noc) noO) kt6 [0] rfl (by decide +kernel) (fun K tok htok hK => ?_); simp only [go_sem, seval, kt6]; (iterate 3 (try simp (disch := omega) only [au]; try simp only [go_sem, seval, kt6])); refine ⟨htok _ (by decide +kernel), ?_⟩; (first | with_reducible refine hK _ _ ?_ | refine obK (hK _ _ ?_)); clear hK K htok tok)
     exact hqX
   by_cases hv : v = 1
   · subst hv
     apply EX.step
     · intro xX C hN hk hqX
       repeat first | (with_reducible first | apply s1 | apply s2 | apply s5 | apply s6 | refine s7 ?_ | apply s3 | apply s4 | apply s8 | apply s9) | refine AW.condT rfl ?_ | refine AW.condF rfl ?_ | (refine AW.rT mixed hN hk noO kt6 [0] rfl (by decide +kernel) (fun K hK => ?_); simp only [go_sem, seval, kt6]; (iterate 3 (try simp (disch := omega) only [au]; try simp only [go_sem, seval, kt6])); (first | with_reducible refine hK _ _ ?_ | refine obK (hK _ _ ?_)); clear hK K) | (refine AW.rD mixed hN hk noO kt6 [0] rfl (by decide +kernel) (fun K tok htok hK => ?_); simp only [go_sem, seval, kt6]; (iterate 3 (try simp (disch := omega) only [au]; try simp only [go_sem, seval, kt6])); refine ⟨htok _ (by decide +kernel), ?_⟩; (first | with_reducible refine hK _ _ ?_ | refine obK (hK _ _ ?_)); clear hK K htok tok)
       exact hqX
     refine EX.ret (.agg (qyC ⟨t, sg, 2, (1 + m), false, ns, [⟨1, [109, 115]⟩], 0, tz, [], 0⟩)) [some (cdE L a8)] ?_ (fun C hN hk => AW.ret (mkRet [some 0] [2, 3, 4] (by simp only [resList, go_sem, seval]; rfl) (by simp [resOf, lk, lkh, I, str, B, U8, U64, U32, cdE, qyC, tsC_c, tz, agE, agC] <;> omega) (by first | (simp [wkHp, wkHp1, wkEnt, lkh, cdE, qyC, tsC_c, tz, agE, agC]; done) | simp [wkHp, wkHp1, wkEnt, lkh, I, str, cdE, qyC, tsC_c, tz, agE, agC])))
     exact ⟨_, a8, rfl, QyG.k2 tb hs nb (by simp) (Int.le_refl _), ha8⟩
   · have dv : ((v : Int) == 1) = false := by simp; omega
     simp only [dv]
     apply EX.step
     · intro xX C hN hk hqX
       repeat first | (with_reducible first | apply s1 | apply s2 | apply s5 | apply s6 | refine s7 ?_ | apply s3 | apply s4 | apply s8 | apply s9) | refine AW.condT rfl ?_ | refine AW.condF rfl ?_ | (refine AW.rT mixed hN hk noO kt6 [0] rfl (by decide +kernel) (fun K hK => ?_); simp only [go_sem, seval, kt6]; (iterate 3 (try simp (disch := omega) only [au]; try simp only [go_sem, seval, kt6])); (first | with_reducible refine hK _ _ ?_ | refine obK (hK _ _ ?_)); clear hK K) | (refine AW.rD mixed hN hk noO kt6 [0] rfl (by decide +kernel) (fun K tok htok hK => ?_); simp only [go_sem, seval, kt6]; (iterate 3 (try simp (disch := omega) only [au]; try simp only [go_sem, seval, kt6])); refine ⟨htok _ (by decide +kernel), ?_⟩; (first | with_reducible refine hK _ _ ?_ | refine obK (hK _ _ ?_)); clear hK K htok tok)
       exact hqX
     refine EX.ret (.agg (qyC ⟨t, sg, 2, (1 + m), false, ns, [⟨0, []⟩], 0, tz, [], 0⟩)) [some (cdE L a8)] ?_ (fun C hN hk => AW.ret (mkRet [some 0] [2, 3, 4] (by simp only [resList, go_sem, seval]; rfl) (by simp [resOf, lk, lkh, I, str, B, U8, U64, U32, cdE, qyC, tsC_c, tz, agE, agC] <;> omega) (by first | (simp [wkHp, wkHp1, wkEnt, lkh, cdE, qyC, tsC_c, tz, agE, agC]; done) | simp [wkHp, wkHp1, wkEnt, lkh, I, str, cdE, qyC, tsC_c, tz, agE, agC])))
     exact ⟨_, a8, rfl, QyG.k2 tb hs nb (by simp) (Int.le_refl _), ha8⟩
theorem query11_3 (L : List UInt8) (hL : L.length ≤ 2 ^ 20) (t : Ts) (tb : TsB 2 t) (sg : List Sg) (hs : sg.length ≤ 2 ∧ ∀ x ∈ sg, SgB x) (a3 a4 : Nat) (ha4 : a4 ≤ L.length) (q1 : ACall Tryz.prog 14 [.ptr 0 2 0 0, I 5] [some (cdE L a3)] (I 3) [some (cdE L a4)]) :
   EX 126 1 (R11 L) (fun x C => AW Tryz.prog C rest11 (retQ (tabOf Tryz.prog) [.cell 2 33] x.1 x.2 1) 4 (st11 L t sg a3)) := by
 dsimp only [rest11, cR, bodyOf, Tryz.f6, Option.getD]
 simp only [st11, cdE, nilV]
 obtain ⟨v, a5, ha5, vlt, q2⟩ := next13 L hL a4 3 ha4 (by omega) (by omega)
 obtain ⟨m, a6, ha6, mlt, q3⟩ := next13 L hL a5 60 ha5 (by omega) (by omega)
 obtain ⟨_, ⟨t2, a7, rfl, tb2, ha7⟩, q4⟩ := test24 1 (by omega) L hL a6 ha6
 simp only [tsC_c] at q4
 obtain ⟨i, a8, ha8, ilt, q5⟩ := next13 L hL a7 5 ha7 (by omega) (by omega)
 have vx := lit_get (l := qkL) rfl vlt
 have wk9 : (qkL.getD v []).length ≤ 19 := getD_len (by decide) v
 generalize qkL.getD v [] = w at *
 apply EX.step
 · intro xX C hN hk hqX
   repeat first | (with_reducible first | apply s1 | apply s2 | apply s5 | apply s6 | refine s7 ?_ | apply s3 | apply s4 | apply s8 | apply s9) | refine AW.condT rfl ?_ | refine AW.condF rfl ?_ | (refine AW.rT mixed hN hk (atO 8 (onc 1 (ocq 0 q1) noc) (atO 28 (onc 2 (ocq 0 q2) (onc 6 (ocq 0 q3) noc)) (atO 29 (onc 1 (ocq 0 q4) (onc 3 (ocq 0 q5) noc)) noO))) kt6 [0] rfl (by decide +kernel) (fun K hK => ?_); simp only [go_sem, seval, kt6, lit_qkL, vx]; (iterate 3 (try simp (disch := omega) only [au]; try simp only [go_sem, seval, kt6, lit_qkL, vx])); (first | with_reducible refine hK _ _ ?_ | refine obK (hK _ _ ?_)); clear hK K) | (refine AW.rD mixed hN hk (atO 8 (onc 1 (ocq 0 q1) noc) (atO 28 (onc 2 (ocq 0 q2) (onc 6 (ocq 0 q3) noc)) (atO 29 (onc 1 (ocq 0 q4) (onc 3 (ocq 0 q5) noc)) noO))) kt6 [0] rfl (by decide +kernel) (fun K tok htok hK => ?_); simp only [go_sem, seval, kt6, lit_qkL, vx]; (iterate 3 (try simp (disch := omega) only [au]; try simp only [go_sem, seval, kt6, lit_qkL, vx])); refine ⟨htok _ (by decide +kernel), ?_⟩; (first | with_reducible refine hK _ _ ?_ | refine obK (hK _ _ ?_)); clear hK K htok tok)
   exact hqX
 refine EX.ret (.agg (qyC ⟨t, sg, 3, i, false, [], [], 0, t2, w, m⟩)) [some (cdE L a8)] ?_ (fun C hN hk => AW.ret (mkRet [some 0] [2] (by simp only [resList, go_sem, seval]; rfl) (by simp [resOf, lk, lkh, I, str, B, U8, U64, U32, cdE, qyC, tsC_c, tz] <;> omega) (by first | (simp [wkHp, wkHp1, wkEnt, lkh, cdE, qyC, tsC_c, tz]; done) | simp [wkHp, wkHp1, wkEnt, lkh, I, str, cdE, qyC, tsC_c, tz])))
 exact ⟨_, a8, rfl, QyG.k3 tb tb2 hs wk9, ha8⟩
theorem query11_4 (L : List UInt8) (hL : L.length ≤ 2 ^ 20) (t : Ts) (tb : TsB 2 t) (sg : List Sg) (hs : sg.length ≤ 2 ∧ ∀ x ∈ sg, SgB x) (a3 a4 : Nat) (ha4 : a4 ≤ L.length) (q1 : ACall Tryz.prog 14 [.ptr 0 2 0 0, I 5] [some (cdE L a3)] (I 4) [some (cdE L a4)]) :
   EX 126 1 (R11 L) (fun x C => AW Tryz.prog C rest11 (retQ (tabOf Tryz.prog) [.cell 2 33] x.1 x.2 1) 4 (st11 L t sg a3)) := by
 dsimp only [rest11, cR, bodyOf, Tryz.f6, Option.getD]
 simp only [st11, cdE, nilV]
 apply EX.step
 · intro xX C hN hk hqX
   repeat first | (with_reducible first | apply s1 | apply s2 | apply s5 | apply s6 | refine s7 ?_ | apply s3 | apply s4 | apply s8 | apply s9) | refine AW.condT rfl ?_ | refine AW.condF rfl ?_ | (refine AW.rT mixed hN hk (atO 8 (onc 1 (ocq 0 q1) noc) noO) kt6 [0] rfl (by decide +kernel) (fun K hK => ?_); simp only [go_sem, seval, kt6]; (iterate 3 (try simp (disch := omega) only [au]; try simp only [go_sem, seval, kt6])); (first | with_reducible refine hK _ _ ?_ | refine obK (hK _ _ ?_)); clear hK K) | (refine AW.rD mixed hN hk (atO 8 (onc 1 (ocq 0 q1) noc) noO) kt6 [0] rfl (by decide +kernel) (fun K tok htok hK => ?_); simp only [go_sem, seval, kt6]; (iterate 3 (try simp (disch := omega) only [au]; try simp only [go_sem, seval, kt6])); refine ⟨htok _ (by decide +kernel), ?_⟩; (first | with_reducible refine hK _ _ ?_ | refine obK (hK _ _ ?_)); clear hK K htok tok)
   exact hqX
 refine EX.ret (.agg (qyC ⟨t, sg, 0, 0, false, [], [], 0, tz, [], 0⟩)) [some (cdE L a4)] ?_ (fun C hN hk => AW.ret (mkRet [some 0] [2] (by simp only [resList, go_sem, seval]; rfl) (by simp [resOf, lk, lkh, I, str, B, U8, U64, U32, cdE, qyC, tsC_c, tz] <;> omega) (by first | (simp [wkHp, wkHp1, wkEnt, lkh, cdE, qyC, tsC_c, tz]; done) | simp [wkHp, wkHp1, wkEnt, lkh, I, str, cdE, qyC, tsC_c, tz])))
 exact ⟨_, a4, rfl, QyG.k0 tb hs, ha4⟩
theorem query11 (L : List UInt8) (hL : L.length ≤ 2 ^ 20) (a : Nat) (ha : a ≤ L.length) :
   ACallE Tryz.prog 6 [.ptr 0 2 0 0] [some (cdE L a)] (R11 L) := by
 obtain ⟨_, ⟨t, a1, rfl, tb, ha1⟩, q1⟩ := test24 2 (by omega) L hL a ha
 simp only [tsC_c] at q1
 obtain ⟨n, a2, ha2, nlt, q2⟩ := next13 L hL a1 3 ha1 (by omega) (by omega)
 refine acallE 126 1 Tryz.func6 rfl rfl rfl (by simp) rfl rfl ?_
 apply EX.step
 · intro xX C hN hk hqX
   repeat first | (with_reducible first | apply s1 | apply s2 | apply s5 | apply s6 | refine s7 ?_ | apply s3 | apply s4 | apply s8 | apply s9) | refine AW.condT rfl ?_ | refine AW.condF rfl ?_ | (refine AW.rT mixed hN hk (atO 1 (onc 1 (ocq 0 q1) noc) (atO 2 (onc 1 (ocq 0 q2) noc) noO)) kt6 [0] rfl (by decide +kernel) (fun K hK => ?_); simp only [go_sem, seval, kt6]; (iterate 3 (try simp (disch := omega) only [au]; try simp only [go_sem, seval, kt6])); (first | with_reducible refine hK _ _ ?_ | refine obK (hK _ _ ?_)); clear hK K) | (refine AW.rD mixed hN hk (atO 1 (onc 1 (ocq 0 q1) noc) (atO 2 (onc 1 (ocq 0 q2) noc) noO)) kt6 [0] rfl (by decide +kernel) (fun K tok htok hK => ?_); simp only [go_sem, seval, kt6]; (iterate 3 (try simp (disch := omega) only [au]; try simp only [go_sem, seval, kt6])); refine ⟨htok _ (by decide +kernel), ?_⟩; (first | with_reducible refine hK _ _ ?_ | refine obK (hK _ _ ?_)); clear hK K htok tok)
   exact hqX
 clear q1 q2
 apply EX.step
 · intro xX C hN hk hqX
   repeat first | with_reducible refine AW.seq ?_ | with_reducible refine AW.block ?_
   exact hqX
 refine lpX 4 (fun s : Nat × List Sg × Nat => ⟨[(0, .ptr 0 2 0 0), (2, .ptr 1 19 0 0), (3, .ptr 2 19 0 0), (4, I s.1)], [(0, some ⟨48, 2, [[.sl 1 (bytesE L), I s.2.2]]⟩), (1, some ⟨33, 19, [[I 0, str [], str [], I 0, nilV, nilV, I 0, I 0, B false, nilV, nilV, I 0, I 0, str [], str [], I 0, nilV, str [], I 0]]⟩), (2, some ⟨33, 19, [[I t.op, str t.name, str t.text, I t.num, .sl 5 (tsE t.kids), .osl 3 s.2.1.length 7, I 0, I 0, B false, nilV, nilV, I 0, I 0, str [], str [], I 0, nilV, str [], I 0]]⟩), (3, some ⟨52, 7, sgE s.2.1⟩)]⟩) (fun s => s.2.1.length + s.1 ≤ 2 ∧ s.2.2 ≤ L.length ∧ ∀ x ∈ s.2.1, SgB x) (fun s => s.1) (n, [], a2) (mkWk [some 0, some 1, some 2, none] [] (by simp [wkEnv, lk, lkh, I, str, B, U8, U64, U32, nilV, B] <;> omega) (by first | (simp [wkHp, wkHp1, wkEnt, lkh, nilV, B]; done) | simp [wkHp, wkHp1, wkEnt, lkh, I, str, nilV, B])) ?_
 intro ⟨j, sg, a3⟩ hI Y hY
 obtain ⟨g1, ha3, g3⟩ := hI
 simp only at g1 ha3 g3
 cases j with
 | succ j =>
   have d0 : decide (((j + 1 : Nat) : Int) > 0) = true := by simp
   have e2 : (((j + 1 : Nat) : Int) - 1) = (j : Int) := by omega
   have w8 := wrap64 (n := (j : Int)) (by omega)
   obtain ⟨c, a4, ha4, clt, q1⟩ := next13 L hL a3 2 ha3 (by omega) (by omega)
   apply EX.step
   · intro xX C hN hk hqX
     repeat first | (with_reducible first | apply s1 | apply s2 | apply s5 | apply s6 | refine s7 ?_ | apply s3 | apply s4 | apply s8 | apply s9) | refine AW.condT rfl ?_ | refine AW.condF rfl ?_ | (refine AW.rT mixed hN hk (atO 5 (onc 1 (ocq 0 q1) noc) noO) kt6 [0] rfl (by decide +kernel) (fun K hK => ?_); simp only [go_sem, seval, kt6, d0]; (iterate 3 (try simp (disch := omega) only [au]; try simp only [go_sem, seval, kt6, d0])); (first | with_reducible refine hK _ _ ?_ | refine obK (hK _ _ ?_)); clear hK K) | (refine AW.rD mixed hN hk (atO 5 (onc 1 (ocq 0 q1) noc) noO) kt6 [0] rfl (by decide +kernel) (fun K tok htok hK => ?_); simp only [go_sem, seval, kt6, d0]; (iterate 3 (try simp (disch := omega) only [au]; try simp only [go_sem, seval, kt6, d0])); refine ⟨htok _ (by decide +kernel), ?_⟩; (first | with_reducible refine hK _ _ ?_ | refine obK (hK _ _ ?_)); clear hK K htok tok)
     exact hqX
   by_cases hc : c = 1
   · subst hc
     obtain ⟨v, a5, ha5, vlt, q2⟩ := next13 L hL a4 4 ha4 (by omega) (by omega)
     have vx := lit_get (l := qsL) rfl vlt
     have wm := mem_lit (l := qsL) rfl vlt
     generalize qsL.getD v [] = w at *
     obtain ⟨s2, hs2⟩ : ∃ s2, s2 = sg ++ [⟨true, w, tz⟩] := ⟨_, rfl⟩
     have hsl : s2.length = sg.length + 1 := by rw [hs2]; simp
     have hsm : ∀ x ∈ s2, SgB x := by
       intro x hx
       rw [hs2] at hx
       rcases List.mem_append.1 hx with hx | hx
       · exact g3 x hx
       · rw [List.mem_singleton.1 hx]; exact ⟨tz0, fun _ => wm, fun h => by simp at h⟩
     apply EX.step
     · intro xX C hN hk hqX
       repeat first | (with_reducible first | apply s1 | apply s2 | apply s5 | apply s6 | refine s7 ?_ | apply s3 | apply s4 | apply s8 | apply s9) | refine AW.condT rfl ?_ | refine AW.condF rfl ?_ | (refine AW.rT mixed hN hk (atO 6 (onc 4 (ocq 0 q2) noc) noO) kt6 [0] rfl (by decide +kernel) (fun K hK => ?_); simp only [go_sem, seval, kt6, lit_qsL, vx, e2, w8]; (iterate 3 (try simp (disch := omega) only [au]; try simp only [go_sem, seval, kt6, lit_qsL, vx, e2, w8])); (first | with_reducible refine hK _ _ ?_ | refine obK (hK _ _ ?_)); clear hK K) | (refine AW.rD mixed hN hk (atO 6 (onc 4 (ocq 0 q2) noc) noO) kt6 [0] rfl (by decide +kernel) (fun K tok htok hK => ?_); simp only [go_sem, seval, kt6, lit_qsL, vx, e2, w8]; (iterate 3 (try simp (disch := omega) only [au]; try simp only [go_sem, seval, kt6, lit_qsL, vx, e2, w8])); refine ⟨htok _ (by decide +kernel), ?_⟩; (first | with_reducible refine hK _ _ ?_ | refine obK (hK _ _ ?_)); clear hK K htok tok)
       exact hqX
     have hse : sgE s2 = sgE sg ++ [[B true, str w, I 0, str [], str [], I 0, .sl 5 (tsE [])]] := by rw [hs2]; simp [sgE, sgC, tsC_c, tz, B, I, str]
     refine eY hY ((j, s2, a5)) (mkWk [some 0, some 1, some 2, some 3] [] (by simp [wkEnv, lk, lkh, I, str, B, U8, U64, U32, hse, hsl, nilV, B, idLtL, idLt] <;> omega) (by first | (simp [wkHp, wkHp1, wkEnt, lkh, hse, hsl, nilV, B, idLtL, idLt]; done) | simp [wkHp, wkHp1, wkEnt, lkh, I, str, hse, hsl, nilV, B, idLtL, idLt]))
   · have dc : ((c : Int) == 1) = false := by simp; omega
     simp only [dc]
     obtain ⟨_, ⟨t2, a5, rfl, tb2, ha5⟩, q2⟩ := test24 1 (by omega) L hL a4 ha4
     simp only [tsC_c] at q2
     obtain ⟨s2, hs2⟩ : ∃ s2, s2 = sg ++ [⟨false, [], t2⟩] := ⟨_, rfl⟩
     have hsl : s2.length = sg.length + 1 := by rw [hs2]; simp
     have hsm : ∀ x ∈ s2, SgB x := by
       intro x hx
       rw [hs2] at hx
       rcases List.mem_append.1 hx with hx | hx
       · exact g3 x hx
       · rw [List.mem_singleton.1 hx]; exact ⟨tb2, fun h => by simp at h, fun _ => rfl⟩
     apply EX.step
     · intro xX C hN hk hqX
       repeat first | (with_reducible first | apply s1 | apply s2 | apply s5 | apply s6 | refine s7 ?_ | apply s3 | apply s4 | apply s8 | apply s9) | refine AW.condT rfl ?_ | refine AW.condF rfl ?_ | (refine AW.rT mixed hN hk (atO 7 (onc 3 (ocq 0 q2) noc) noO) kt6 [0] rfl (by decide +kernel) (fun K hK => ?_); simp only [go_sem, seval, kt6, e2, w8]; (iterate 3 (try simp (disch := omega) only [au]; try simp only [go_sem, seval, kt6, e2, w8])); (first | with_reducible refine hK _ _ ?_ | refine obK (hK _ _ ?_)); clear hK K) | (refine AW.rD mixed hN hk (atO 7 (onc 3 (ocq 0 q2) noc) noO) kt6 [0] rfl (by decide +kernel) (fun K tok htok hK => ?_); simp only [go_sem, seval, kt6, e2, w8]; (iterate 3 (try simp (disch := omega) only [au]; try simp only [go_sem, seval, kt6, e2, w8])); refine ⟨htok _ (by decide +kernel), ?_⟩; (first | with_reducible refine hK _ _ ?_ | refine obK (hK _ _ ?_)); clear hK K htok tok)
       exact hqX
     have hse : sgE s2 = sgE sg ++ [[.val (.bool false), .val (.string ⟨#[]⟩), .val (.int .i64 t2.op), .val (.string ⟨t2.name.toArray⟩), .val (.string ⟨t2.text.toArray⟩), .val (.int .i64 t2.num), .sl 5 (tsE t2.kids)]] := by rw [hs2]; simp [sgE, sgC, tsC_c, B, I, str]
     refine eY hY ((j, s2, a5)) (mkWk [some 0, some 1, some 2, some 3] [] (by simp [wkEnv, lk, lkh, I, str, B, U8, U64, U32, hse, hsl, nilV, B, idLtL, idLt] <;> omega) (by first | (simp [wkHp, wkHp1, wkEnt, lkh, hse, hsl, nilV, B, idLtL, idLt]; done) | simp [wkHp, wkHp1, wkEnt, lkh, I, str, hse, hsl, nilV, B, idLtL, idLt]))
 | zero =>
   have hs : sg.length ≤ 2 ∧ ∀ x ∈ sg, SgB x := ⟨by omega, g3⟩
   have d0 : decide (((0 : Nat) : Int) > 0) = false := by simp
   obtain ⟨k, a4, ha4, klt, q1⟩ := next13 L hL a3 5 ha3 (by omega) (by omega)
   apply EX.step
   · intro xX C hN hk hqX
     repeat first | with_reducible refine AW.seq ?_ | with_reducible refine AW.block ?_
     refine rG hN hk noc [0] [0, 2, 3, 4, 13] fun K hK => ?_; simp only [go_sem, seval, d0]
     try simp (disch := omega) only [au]
     refine hK _ _ ?_; clear hK K
     repeat first | with_reducible refine qBlock ?_ | with_reducible refine qNext ?_
     exact hqX
   apply EX.step
   · intro xX C hN hk hqX
     repeat first | with_reducible refine AW.seq ?_ | with_reducible refine AW.block ?_
     refine cF ?_
     try first | refine AW.skip ?_ | refine AW.exit ?_
     repeat first | with_reducible refine qThen ?_ | with_reducible refine qHere ?_ | with_reducible refine qOut (by decide) ?_ | with_reducible refine qBlock ?_ | with_reducible refine qNext ?_
     exact hqX
   refine EX.wk 4 (st11 L t sg a3) (by simp only [st11, cdE]; exact ⟨[some 0, some 1, some 2, some 3], [], ⟨by simp [srcIds], by simp [srcIds], by simp⟩, by simp, by simp [wkEnv, lk, lkh, I, str], by simp [wkHp, wkHp1, wkEnt, lkh, nilV, B, I, str]⟩) ?_
   obtain rfl | rfl | rfl | rfl | rfl : k = 0 ∨ k = 1 ∨ k = 2 ∨ k = 3 ∨ k = 4 := by omega
   · exact query11_0 L hL t tb sg hs a3 a4 ha4 q1
   · exact query11_1 L hL t tb sg hs a3 a4 ha4 q1
   · exact query11_2 L hL t tb sg hs a3 a4 ha4 q1
   · exact query11_3 L hL t tb sg hs a3 a4 ha4 q1
   · exact query11_4 L hL t tb sg hs a3 a4 ha4 q1
end Go.Proofs.YtffchapiaampmaaGreatDoor
