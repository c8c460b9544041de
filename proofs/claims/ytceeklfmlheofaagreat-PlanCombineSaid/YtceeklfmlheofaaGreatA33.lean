/-
  Part 33 of the proof that logtidelaw41.PlanCombine returns true for every list of bytes and leaves its argument as it was; no condition.
-/
import Derived.Test.YtceeklfmlheofaaGreatA14
import Derived.Test.YtceeklfmlheofaaGreatA32
set_option linter.unusedSimpArgs false
set_option linter.unusedVariables false
namespace Go.Proofs.YtceeklfmlheofaaGreat
open Go.Av
attribute [local irreducible] ACall
theorem new10 (cs : List UInt8) (hc : cs.length < 2 ^ 63) : ∃ L : List UInt8, L.length ≤ 500 ∧ ACall Tryz.prog 10 [.sl 1 (bytesE cs), I 500] [] (.ptr 0 2 0 0) [some (cdE L 0)] := by
 refine ⟨cs.take (min cs.length 500), by simp; omega, ?_⟩
 refine acall 13 0 Tryz.func10 rfl rfl rfl (by simp) rfl rfl ?_
 intro C hN hk
 refine nx ?_; refine rG hN hk noc [] [0, 1] fun K hK => ?_; simp only [go_sem, seval]; refine hK _ _ ?_
 clear hK K; refine nx ?_
 have e1 : (if 500 < (cs.length : Int) then 500 else (cs.length : Int)) = ((min cs.length 500 : Nat) : Int) := by split <;> omega
 refine nx ?_; refine rG hN hk noc [] [4] fun K hK => ?_; simp only [go_sem, seval, e1]
 (first | with_reducible refine hK _ _ ?_ | refine obK (hK _ _ ?_)); clear hK K; refine nx ?_
 refine AW.ret (mkRet [some 0] [] rfl (by simp [resOf, lk, lkh, I, str, B, U8, U64, U32, cdE] <;> omega) (by first | (simp [wkHp, wkHp1, wkEnt, lkh, cdE]; done) | simp [wkHp, wkHp1, wkEnt, lkh, I, str, cdE]))
def zev (t : Int) : Ev := ⟨0, 0, 0, 0, [], t, 0, [], [], []⟩
theorem awake4 : ACall Tryz.prog 4 [] [] (B true) [] := by
 have hcb : cbTo [[zev 1], [zev 2]] 2 = [zev 1, zev 2] := by
   have ha : Asc [zev 1, zev 2] := by
     unfold Asc
     simp [lessF, zev]
   exact cb_all [zev 1, zev 2] ha [fun i => i == 0, fun i => i == 1] (by
     intro i hi
     have : i = 0 ∨ i = 1 := by simp at hi; omega
     rcases this with rfl | rfl <;> rfl)
 have q := combine41 [[zev 1], [zev 2]] (by simp) (by simp)
 rw [show ([[zev 1], [zev 2]] : List (List Ev)).length = 2 from rfl, hcb] at q
 refine acall 9 0 Tryz.func4 rfl rfl rfl (by simp) rfl rfl ?_
 intro C hN hk
 refine nx ?_; refine rG hN hk noc [] [] fun K hK => ?_; simp only [go_sem, seval]; refine hK _ _ ?_
 clear hK K; refine nx ?_
 refine AW.opsW ?_
 refine OW.run hN hk noc [] [2, 4, 5] rfl 5 (by decide) (by decide +kernel) (fun K hK => ?_)
 simp only [regO_eq, List.drop_zero, List.take_succ_cons, List.take_zero]
 simp only [go_sem, seval]
 first | with_reducible refine hK _ _ ?_ | refine ⟨by simp, hK _ _ ?_⟩ | refine obK (hK _ _ ?_)
 clear hK K
 refine OW.wk hk 3 ⟨[(5, .osl 2 2 1)], [(0, some ⟨48, 10, evE [zev 1]⟩), (1, some ⟨48, 10, evE [zev 2]⟩), (2, some ⟨32, 1, [[.osl 0 1 10], [.osl 1 1 10]]⟩)]⟩ ⟨[some 0, some 1, some 2], [], ⟨by simp [srcIds], by simp [srcIds], by simp⟩, by simp, by simp [wkEnv, lk], by simp [wkHp, wkHp1, wkEnt, lkh, evE, evC, zev, I, str]⟩ ?_
 refine OW.wk hk 1 ⟨[(5, .osl 0 2 1)], [(0, some ⟨32, 1, elE [[zev 1], [zev 2]]⟩)]⟩ ⟨[some 2], [0, 1], ⟨by simp [srcIds], by simp [srcIds], by simp⟩, by simp, by simp [wkEnv, lk], by simp [wkHp, wkHp1, wkEnt, lkh, elE, elC]⟩ ?_
 refine OW.wk hk 0 ⟨[(5, .sl 1 (elE [[zev 1], [zev 2]]))], []⟩ ⟨[], [0], ⟨by simp [srcIds], by simp [srcIds], by simp⟩, by simp, by simp [wkEnv, lk, lkh], by simp [wkHp]⟩ ?_
 refine OW.run hN hk (onc 5 (pcq q) noc) [] [0] rfl 4 (by decide) (by decide +kernel) (fun K hK => ?_)
 simp only [regO_eq, List.drop_succ_cons, List.drop_zero, List.take_succ_cons, List.take_zero]
 simp only [go_sem, seval]
 first | with_reducible refine hK _ _ ?_ | refine ⟨by first | exact pureA q | exact ⟨trivial, pureA q⟩ | exact ⟨pureA q, trivial⟩, hK _ _ ?_⟩ | refine obK (hK _ _ ?_)
 clear hK K
 refine OW.done (by decide) (qNext ?_)
 refine AW.ret (mkRet [] [] rfl (by simp [resOf, lk, lkh, I, str, B, U8, U64, U32] <;> omega) (by first | (simp [wkHp, wkHp1, wkEnt, lkh]; done) | simp [wkHp, wkHp1, wkEnt, lkh, I, str]))
/-- The next choice out of n, and the place behind it. -/
def nxV (L : List UInt8) (a n : Nat) : Nat := match L[a]? with
 | some b => b.toNat * n / 256
 | none => 0
def nxA (L : List UInt8) (a : Nat) : Nat := if a < L.length then a + 1 else a
theorem nxA_le {L : List UInt8} {a : Nat} (h : a ≤ L.length) : nxA L a ≤ L.length := by unfold nxA; split <;> omega
theorem nxV_lt (L : List UInt8) (a n : Nat) (hn : 1 ≤ n) : nxV L a n < n := by
 unfold nxV
 split
 · next b hb =>
   have := b.toNat_lt
   have hm : b.toNat * n ≤ 255 * n := Nat.mul_le_mul_right _ (by omega)
   omega
 · omega
theorem nextX (L : List UInt8) (hL : L.length ≤ 2 ^ 20) (a n : Nat) (ha : a ≤ L.length) (hn : n ≤ 2 ^ 30) (hn1 : 1 ≤ n) :
   ACall Tryz.prog 13 [.ptr 0 2 0 0, I n] [some (cdE L a)] (I (nxV L a n)) [some (cdE L (nxA L a))] := by
 have q := left28 L a
 have d1 := dLtF (a := (n : Int)) (b := 1) (by omega)
 by_cases h : a < L.length
 · rw [dLtT (by omega)] at q
   have hx := List.getElem?_eq_getElem h
   have e1 : nxV L a n = L[a].toNat * n / 256 := by unfold nxV; rw [hx]
   have e2 : nxA L a = a + 1 := by unfold nxA; rw [if_pos h]
   rw [e1, e2]
   clear e1 e2
   generalize L[a] = b at *
   have hb := b.toNat_lt
   have hm : b.toNat * n ≤ 255 * n := Nat.mul_le_mul_right _ (by omega)
   have e1 : ((b.toNat : Int) * (n : Int)).tdiv 256 = ((b.toNat * n / 256 : Nat) : Int) := by
     rw [Int.tdiv_eq_ediv_of_nonneg (Int.mul_nonneg (by omega) (by omega)), Int.natCast_ediv, Int.natCast_mul]
     rfl
   have w1 := wrap64 (n := (b.toNat : Int) * (n : Int)) (by
     have : ((b.toNat : Int) * (n : Int)) = ((b.toNat * n : Nat) : Int) := by rw [Int.natCast_mul]
     omega)
   have w2 := wrap64 (n := (b.toNat : Int)) (by omega)
   have w3 := wrap64 (n := ((b.toNat * n / 256 : Nat) : Int)) (by omega)
   refine acall 35 1 Tryz.func13 rfl rfl rfl (by simp) rfl rfl ?_
   intro C hN hk
   refine nx ?_; refine rG hN hk noc [0] [0, 1] fun K hK => ?_; simp only [go_sem, seval]; refine hK _ _ ?_
   clear hK K; refine nx ?_
   refine rG hN hk (onc 1 (ocq 0 q) noc) [0] [0, 1, 12] fun K hK => ?_; simp only [go_sem, seval, d1]
   try simp (disch := omega) only [au]
   try simp only [go_sem, seval, d1]
   refine obK (hK _ _ ?_); clear hK K; refine nx ?_; refine cF ?_; refine nx ?_
   refine rD hN hk noc [0] [0, 1, 5] fun K tok htok hK => ?_
   simp only [go_sem, seval, hx, w2]
   try simp (disch := omega) only [au]
   refine ⟨htok _ (by decide +kernel), ?_⟩
   (first | with_reducible refine hK _ _ ?_ | refine obK (hK _ _ ?_)); clear hK K htok tok
   refine nx ?_; refine rG hN hk noc [0] [1, 5] fun K hK => ?_; simp only [go_sem, seval]
   try simp (disch := omega) only [au]
   (first | with_reducible refine hK _ _ ?_ | refine obK (hK _ _ ?_)); clear hK K; refine nx ?_
   refine rG hN hk noc [0] [4] fun K hK => ?_; simp only [go_sem, seval, w1, e1, w3]
   try simp (disch := omega) only [au]
   (first | with_reducible refine hK _ _ ?_ | refine obK (hK _ _ ?_)); clear hK K; refine nx ?_
   refine AW.ret (mkRet [some 0] [] rfl (by simp [resOf, lk, lkh, I, str, B, U8, U64, U32, cdE] <;> omega) (by first | (simp [wkHp, wkHp1, wkEnt, lkh, cdE]; done) | simp [wkHp, wkHp1, wkEnt, lkh, I, str, cdE]))
 · rw [dLtF (by omega)] at q
   have e1 : nxV L a n = 0 := by unfold nxV; rw [List.getElem?_eq_none (by omega)]
   have e2 : nxA L a = a := by unfold nxA; rw [if_neg h]
   rw [e1, e2]
   refine acall 35 1 Tryz.func13 rfl rfl rfl (by simp) rfl rfl ?_
   intro C hN hk
   refine nx ?_; refine rG hN hk noc [0] [0, 1] fun K hK => ?_; simp only [go_sem, seval]; refine hK _ _ ?_
   clear hK K; refine nx ?_
   refine rG hN hk (onc 1 (ocq 0 q) noc) [0] [0, 1, 12] fun K hK => ?_; simp only [go_sem, seval]
   try simp (disch := omega) only [au]
   try simp only [go_sem, seval]
   refine obK (hK _ _ ?_); clear hK K; refine nx ?_; refine cT ?_; refine nx ?_; refine rG hN hk noc [0] [4] fun K hK => ?_; simp only [go_sem, seval]; refine hK _ _ ?_
   clear hK K; refine nx ?_
   refine AW.ret (mkRet [some 0] [] rfl (by simp [resOf, lk, lkh, I, str, B, U8, U64, U32, cdE] <;> omega) (by first | (simp [wkHp, wkHp1, wkEnt, lkh, cdE]; done) | simp [wkHp, wkHp1, wkEnt, lkh, I, str, cdE]))
/-- The choices of a scene: the place of the choices, and where each event goes. -/
def scS (L : List UInt8) (m a0 : Nat) : Nat → Nat × List (Nat × Option Nat)
 | 0 => (a0, [])
 | i + 1 => (nxA L (nxA L (nxA L (scS L m a0 i).1)), (scS L m a0 i).2 ++ [(nxV L (scS L m a0 i).1 m,
     if nxV L (nxA L (nxA L (scS L m a0 i).1)) 4 = 3 ∧ nxV L (nxA L (scS L m a0 i).1) m ≠ nxV L (scS L m a0 i).1 m then some (nxV L (nxA L (scS L m a0 i).1) m) else none)])
theorem scS_len (L : List UInt8) (m a0 : Nat) : ∀ i, (scS L m a0 i).2.length = i
 | 0 => rfl
 | i + 1 => by rw [scS, List.length_append, scS_len L m a0 i]; rfl
theorem scS_le (L : List UInt8) (m a0 : Nat) (h : a0 ≤ L.length) : ∀ i, (scS L m a0 i).1 ≤ L.length
 | 0 => h
 | i + 1 => nxA_le (nxA_le (nxA_le (scS_le L m a0 h i)))
theorem scS_ok (L : List UInt8) (m a0 : Nat) (hm : 1 ≤ m) : ∀ i, ∀ c ∈ (scS L m a0 i).2, c.1 < m
 | 0 => by simp [scS]
 | i + 1 => by
   intro c hc
   rw [scS] at hc
   rcases List.mem_append.1 hc with hc | hc
   · exact scS_ok L m a0 hm i c hc
   · rw [List.mem_singleton.1 hc]; exact nxV_lt L _ m hm
theorem evEs_plain (X : List (List Ev)) : ∀ L ∈ X.map evE, idLtE 0 L = true := by
 intro L hL
 obtain ⟨v, _, rfl⟩ := List.mem_map.1 hL
 simp
@[simp] theorem wkE_bb {hp : Hp} {ids : List (Option Nat)} {D : List Nat} (l : List (List UInt8)) (x : List UInt8) (c : List AV) : wkE hp ids D (bbE l ++ [c]) (bbE (l ++ [x])) ↔ wkL hp ids D c [.sl 1 (bytesE x)] := by
 rw [← bbE_snoc]; exact wkE_snoc_iff (bbE_id 0 l)
theorem scene5 (cs : List UInt8) (hc : cs.length < 2 ^ 63) : ∃ (l : List Ev) (m : Nat) (K : List (Nat × Option Nat)) (q : Qy), (Asc l ∧ (∀ e ∈ l, DrE e) ∧ l.length ≤ 36) ∧ (1 ≤ m ∧ m ≤ 4) ∧ (K.length = l.length ∧ ∀ c ∈ K, c.1 < m) ∧
   ACall Tryz.prog 5 [.sl 1 (bytesE cs)] [] (.tup [.agg (qyC q), .sl 10 (evE l), .sl 1 (bbE (((scX l m K).drop 1).map segE)), .sl 10 (evE ((scX l m K).getD 0 [])), .any]) [] := by
 obtain ⟨L, hL5, q1⟩ := new10 cs hc
 have hL : L.length ≤ 2 ^ 20 := by omega
 obtain ⟨_, ⟨q, a1, rfl, _, ha1⟩, q2⟩ := query11 L hL 0 (by omega)
 obtain ⟨_, ⟨l, a2, rfl, ⟨hasc, hdr, hll⟩, ha2⟩, q3⟩ := events12 L hL a1 ha1 6 (by omega)
 simp only [qyC, tsC_c, List.cons_append, List.nil_append] at q2 q3
 have q4 := nextX L hL a2 4 ha2 (by omega) (by omega)
 have hv4 := nxV_lt L a2 4 (by omega)
 have ha3 := nxA_le ha2
 generalize nxA L a2 = a3 at *
 generalize nxV L a2 4 = v at *
 obtain ⟨m, hm⟩ : ∃ m, m = v + 1 := ⟨_, rfl⟩
 have hm1 : 1 ≤ m ∧ m ≤ 4 := by omega
 have w4 := wrap64 (n := 1 + (v : Int)) (by omega)
 have e4 : 1 + (v : Int) = (m : Int) := by omega
 have hsl := scS_len L m a3
 have hsle := scS_le L m a3 ha3
 have hsok := scS_ok L m a3 hm1.1
 refine ⟨l, m, (scS L m a3 l.length).2, q, ⟨hasc, hdr, hll⟩, hm1, ⟨hsl l.length, hsok l.length⟩, ?_⟩
 refine acall 101 0 Tryz.func5 rfl rfl rfl (by simp) rfl rfl ?_
 intro C hN hk
 refine nx ?_; refine rG hN hk noc [] [0, 2] fun K hK => ?_; simp only [go_sem, seval]; refine hK _ _ ?_
 clear hK K; refine nx ?_
 refine rG hN hk (onc 1 (pcq q1) noc) [] [2, 7] fun K hK => ?_; simp only [go_sem, seval]; refine obK (hK _ _ ?_)
 clear hK K; refine nx ?_
 refine rG hN hk (onc 1 (ocq 1 q2) noc) [] [2, 7, 8] fun K hK => ?_; simp only [go_sem, seval]; refine obK (hK _ _ ?_)
 clear hK K; refine nx ?_
 refine rG hN hk (onc 1 (ocq 1 q3) noc) [] [2, 7, 8, 9] fun K hK => ?_; simp only [go_sem, seval]; refine obK (hK _ _ ?_)
 clear hK K; refine nx ?_
 rw [e4] at w4
 refine nx ?_; refine rG hN hk (onc 1 (ocq 1 q4) noc) [] [2, 7, 8, 9, 10] fun K hK => ?_; simp only [go_sem, seval, e4, w4]
 try simp (disch := omega) only [au]
 refine obK (hK _ _ ?_); clear hK K; refine nx ?_; refine rG hN hk noc [] [2, 7, 8, 9, 10, 11] fun K hK => ?_; simp only [go_sem, seval]; refine hK _ _ ?_
 clear hK K; refine nx ?_
 clear q1 q2 q3 q4 w4 e4 hm hv4
 have FC : ∀ {a : Nat} (env : List (Nat × AV)), envLt 4 env = true → FamC 3 env [(0, some ⟨31, 19, [[I 0, str [], str [], I 0, nilV, nilV, I 0, I 0, B false, nilV, nilV, I 0, I 0, str [], str [], I 0, nilV, str [], I 0]]⟩), (1, some ⟨70, 2, [[.sl 1 (bytesE L), I a]]⟩), (2, some ⟨31, 19, [[I q.test.op, str q.test.name, str q.test.text, I q.test.num, .sl 5 (tsE q.test.kids), .sl 7 (sgE q.stages), I q.kind, I q.limit, B q.last, .sl 1 (strE q.names), .sl 2 (agE q.aggs), I q.sketch, I q.other.op, str q.other.name, str q.other.text, I q.other.num, .sl 5 (tsE q.other.kids), str q.key, I q.window]]⟩)] := fun env he => ⟨rfl, rfl, he⟩
 refine AW.famNew (o := 3) (sz := 10) (ty := 48) (oty := 32) (m := m) (hp := [(0, some ⟨31, 19, [[I 0, str [], str [], I 0, nilV, nilV, I 0, I 0, B false, nilV, nilV, I 0, I 0, str [], str [], I 0, nilV, str [], I 0]]⟩), (1, some ⟨70, 2, [[.sl 1 (bytesE L), I a3]]⟩), (2, some ⟨31, 19, [[I q.test.op, str q.test.name, str q.test.text, I q.test.num, .sl 5 (tsE q.test.kids), .sl 7 (sgE q.stages), I q.kind, I q.limit, B q.last, .sl 1 (strE q.names), .sl 2 (agE q.aggs), I q.sketch, I q.other.op, str q.other.name, str q.other.text, I q.other.num, .sl 5 (tsE q.other.kids), str q.key, I q.window]]⟩)]) hk (by omega) (FC _ rfl) ?_
 refine AW.loopS (k := 0) (fun i : Nat => SO [(2, .ptr 0 19 0 0), (7, .ptr 1 2 0 0), (8, .ptr 2 19 0 0), (9, .sl 10 (evE l)), (10, .osl 3 m 1), (11, I i)] [(0, some ⟨31, 19, [[I 0, str [], str [], I 0, nilV, nilV, I 0, I 0, B false, nilV, nilV, I 0, I 0, str [], str [], I 0, nilV, str [], I 0]]⟩), (1, some ⟨70, 2, [[.sl 1 (bytesE L), I (scS L m a3 i).1]]⟩), (2, some ⟨31, 19, [[I q.test.op, str q.test.name, str q.test.text, I q.test.num, .sl 5 (tsE q.test.kids), .sl 7 (sgE q.stages), I q.kind, I q.limit, B q.last, .sl 1 (strE q.names), .sl 2 (agE q.aggs), I q.sketch, I q.other.op, str q.other.name, str q.other.text, I q.other.num, .sl 5 (tsE q.other.kids), str q.key, I q.window]]⟩)] 3 10 48 32 ((scX l m (scS L m a3 i).2).map evE)) (fun i => i ≤ l.length) (fun i => l.length - i) 0 (by omega) (by simp [scS, scX_0, I, str, B, nilV]) ?_
 intro i h1
 have hai := hsle i
 have hKl := hsl i
 have hsS : scS L m a3 (i + 1) = (nxA L (nxA L (nxA L (scS L m a3 i).1)), (scS L m a3 i).2 ++ [(nxV L (scS L m a3 i).1 m,
     if nxV L (nxA L (nxA L (scS L m a3 i).1)) 4 = 3 ∧ nxV L (nxA L (scS L m a3 i).1) m ≠ nxV L (scS L m a3 i).1 m then some (nxV L (nxA L (scS L m a3 i).1) m) else none)]) := rfl
 generalize (scS L m a3 i).1 = a at *
 obtain ⟨K, hKE⟩ : ∃ K, (scS L m a3 i).2 = K := ⟨_, rfl⟩
 rw [hKE] at hKl hsS ⊢
 have hpl := evEs_plain (scX l m K)
 have hxl := scX_len l m K
 have hm : 3 + 1 + m = 3 + 1 + ((scX l m K).map evE).length := by simp [hxl]
 have hno : ((scX l m K).map evE)[m]? = none := by simp [hxl]
 by_cases hi : i < l.length
 · have hx := List.getElem?_eq_getElem hi
   have q1 := nextX L hL a m hai (by omega) hm1.1
   have hk1 := nxV_lt L a m hm1.1
   have hb1 := nxA_le hai
   have q2 := nextX L hL (nxA L a) m hb1 (by omega) hm1.1
   have hk2 := nxV_lt L (nxA L a) m hm1.1
   have hb2 := nxA_le hb1
   have q3 := nextX L hL (nxA L (nxA L a)) 4 hb2 (by omega) (by omega)
   have hk3 := nxV_lt L (nxA L (nxA L a)) 4 (by omega)
   have hXs := scX_s l m K (by omega) (nxV L a m) hk1
   generalize nxA L (nxA L (nxA L a)) = b3 at *
   generalize nxV L (nxA L (nxA L a)) 4 = t at *
   generalize nxA L (nxA L a) = b2 at *
   generalize nxV L (nxA L a) m = k2 at *
   generalize nxA L a = b1 at *
   generalize nxV L a m = k1 at *
   simp only [hKl] at hXs
   generalize l[i] = e at *
   have hbig : ∀ p, ((scX l m K).getD p []).length ≤ 40 := by
     intro p
     by_cases hp : p < m
     · rw [scX_at _ _ _ _ hp]
       have := (selF_sub (l.take K.length) (pOf K p)).length_le
       simp at this; omega
     · simp [List.getD, List.getElem?_eq_none (show (scX l m K).length ≤ p by rw [scX_len]; omega)]
   refine nx ?_
   rw [hm]
   refine AW.famE hN hk (m) (.normal) [(2, .ptr 0 19 0 0), (7, .ptr 1 2 0 0), (8, .ptr 2 19 0 0), (9, .sl 10 (evE l)), (10, .osl 3 m 1), (11, I i), (31, B true)] [(0, some ⟨31, 19, [[I 0, str [], str [], I 0, nilV, nilV, I 0, I 0, B false, nilV, nilV, I 0, I 0, str [], str [], I 0, nilV, str [], I 0]]⟩), (1, some ⟨70, 2, [[.sl 1 (bytesE L), I a]]⟩), (2, some ⟨31, 19, [[I q.test.op, str q.test.name, str q.test.text, I q.test.num, .sl 5 (tsE q.test.kids), .sl 7 (sgE q.stages), I q.kind, I q.limit, B q.last, .sl 1 (strE q.names), .sl 2 (agE q.aggs), I q.sketch, I q.other.op, str q.other.name, str q.other.text, I q.other.num, .sl 5 (tsE q.other.kids), str q.key, I q.window]]⟩)] 3 (none) (by omega) (FC _ rfl) hpl (by omega) (FC _ rfl) (by simp) (by first | (simp; done) | (simp [hxl]; done) | (simp [hxl]; omega)) ?_ ?_
   · intro C vs hN hk hvl
     rw [hno]
     simp only [Go.Av.ST, tcell, Option.map_none, List.cons_append, List.nil_append, Nat.reduceAdd]
     refine nx ?_
     refine AW.rcK mixed hN hk (noc) [0, 1, 2, 3, 4] [2, 7, 8, 9, 10, 11, 31] 5 (by omega) rfl (by decide +kernel) (fun K hK => ?_)
     simp only [go_sem, seval]
     try simp (disch := omega) only [au]
     (first | with_reducible refine hK _ _ ?_ | refine obK (hK _ _ ?_)); clear hK K; refine nx ?_
     refine ⟨rfl, [some 0, some 1, some 2, some 3], [], ⟨by simp [srcIds], by simp [srcIds], by simp⟩, by simp, by simp [wkEnv, lk, lkh, I, str, B, U8, U64, U32, B, nilV] <;> omega, by first | (simp [wkHp, wkHp1, wkEnt, lkh, B, nilV]; done) | (simp [wkHp, wkHp1, wkEnt, lkh, I, str, B, nilV]; done) | simp [wkHp, wkHp1, wkEnt, lkh, I, str, B, nilV]⟩
   rw [← hm]
   refine qNext ?_
   refine AW.condT rfl (AW.skip (qNext ?_))
   simp only [famPut]
   refine nx ?_
   rw [hm]
   refine AW.famE hN hk (m) (.normal) [(2, .ptr 0 19 0 0), (7, .ptr 1 2 0 0), (8, .ptr 2 19 0 0), (9, .sl 10 (evE l)), (10, .osl 3 m 1), (11, I i), (12, I k1)] [(0, some ⟨31, 19, [[I 0, str [], str [], I 0, nilV, nilV, I 0, I 0, B false, nilV, nilV, I 0, I 0, str [], str [], I 0, nilV, str [], I 0]]⟩), (1, some ⟨70, 2, [[.sl 1 (bytesE L), I b1]]⟩), (2, some ⟨31, 19, [[I q.test.op, str q.test.name, str q.test.text, I q.test.num, .sl 5 (tsE q.test.kids), .sl 7 (sgE q.stages), I q.kind, I q.limit, B q.last, .sl 1 (strE q.names), .sl 2 (agE q.aggs), I q.sketch, I q.other.op, str q.other.name, str q.other.text, I q.other.num, .sl 5 (tsE q.other.kids), str q.key, I q.window]]⟩)] 3 (none) (by omega) (FC _ rfl) hpl (by omega) (FC _ rfl) (by simp) (by first | (simp; done) | (simp [hxl]; done) | (simp [hxl]; omega)) ?_ ?_
   · intro C vs hN hk hvl
     rw [hno]
     simp only [Go.Av.ST, tcell, Option.map_none, List.cons_append, List.nil_append, Nat.reduceAdd]
     refine nx ?_
     refine AW.rcK mixed hN hk (onc 3 (ocq 1 q1) noc) [0, 1, 2, 3, 4] [2, 7, 8, 9, 10, 11, 12] 5 (by omega) rfl (by decide +kernel) (fun K hK => ?_)
     simp only [go_sem, seval]; refine obK (hK _ _ ?_)
     clear hK K; refine nx ?_
     refine ⟨rfl, [some 0, some 1, some 2, some 3], [], ⟨by simp [srcIds], by simp [srcIds], by simp⟩, by simp, by simp [wkEnv, lk, lkh, I, str, B, U8, U64, U32, B, nilV] <;> omega, by first | (simp [wkHp, wkHp1, wkEnt, lkh, B, nilV]; done) | (simp [wkHp, wkHp1, wkEnt, lkh, I, str, B, nilV]; done) | simp [wkHp, wkHp1, wkEnt, lkh, I, str, B, nilV]⟩
   rw [← hm]
   refine qNext ?_
   simp only [famPut]
   have hpl2 : k1 < (scX l m K).length := by omega
   have hat : ((scX l m K).map evE)[k1]? = some (evE ((scX l m K).getD k1 [])) := by simp [List.getD, hpl2]
   have hbz := hbig k1
   have hX1 : ((scX l m K).map evE).set k1 (evE ((scX l m K).getD k1 [] ++ [e])) = (addEv (scX l m K) k1 e).map evE := by unfold addEv; rw [List.map_set]
   generalize (scX l m K).getD k1 [] = Z at *
   refine nx ?_
   rw [hm]
   refine AW.famE hN hk k1 .normal [(2, .ptr 0 19 0 0), (7, .ptr 1 2 0 0), (8, .ptr 2 19 0 0), (9, .sl 10 (evE l)), (10, .osl 3 m 1), (11, I i), (12, I k1)] [(0, some ⟨31, 19, [[I 0, str [], str [], I 0, nilV, nilV, I 0, I 0, B false, nilV, nilV, I 0, I 0, str [], str [], I 0, nilV, str [], I 0]]⟩), (1, some ⟨70, 2, [[.sl 1 (bytesE L), I b1]]⟩), (2, some ⟨31, 19, [[I q.test.op, str q.test.name, str q.test.text, I q.test.num, .sl 5 (tsE q.test.kids), .sl 7 (sgE q.stages), I q.kind, I q.limit, B q.last, .sl 1 (strE q.names), .sl 2 (agE q.aggs), I q.sketch, I q.other.op, str q.other.name, str q.other.text, I q.other.num, .sl 5 (tsE q.other.kids), str q.key, I q.window]]⟩)] 3 (some (evE (Z ++ [e]))) (by omega) (FC _ rfl) hpl (by omega) (FC _ rfl) (by simp) (by simp; omega) ?_ ?_
   · intro C vs hN hk hvl
     rw [hat]
     simp only [Go.Av.ST, tcell, Option.map_some, List.cons_append, List.nil_append, Nat.reduceAdd]
     have hvp : k1 < vs.length := by rw [hvl]; simpa using hpl2
     have hv0 := fun c => valC_self (c := c) hvp
     have hfe := evE_snocC Z e
     refine nx ?_
     refine AW.rcdK mixed hN hk (noc) [0, 1, 2, 3, 4] [2, 7, 8, 9, 10, 11, 12, 49] 5 (by omega) rfl (by decide +kernel) (fun K tok htok hK => ?_)
     simp only [go_sem, seval, hv0, hx]
     refine ⟨htok _ (by decide +kernel), ?_⟩
     (first | with_reducible refine hK _ _ ?_ | refine obK (hK _ _ ?_)); clear hK K htok tok
     refine nx ?_
     refine ⟨rfl, [some 0, some 1, some 2, some 3, some 5], [], ⟨by simp [srcIds], by simp [srcIds], by simp⟩, by simp, by simp [wkEnv, lk, lkh, I, str, B, U8, U64, U32, wkE_valC_iff hvp, hfe, idLtL, idLt, B, nilV] <;> omega, by first | (simp [wkHp, wkHp1, wkEnt, lkh, wkE_valC_iff hvp, hfe, idLtL, idLt, B, nilV]; done) | (simp [wkHp, wkHp1, wkEnt, lkh, I, str, wkE_valC_iff hvp, hfe, idLtL, idLt, B, nilV]; done) | simp [wkHp, wkHp1, wkEnt, lkh, I, str, wkE_valC_iff hvp, hfe, idLtL, idLt, B, nilV]⟩
   rw [← hm]
   refine qNext ?_
   simp only [famPut]
   rw [hX1]
   clear hX1 hat hno hpl
   have hbig1 : ∀ p, ((addEv (scX l m K) k1 e).getD p []).length ≤ 41 := by
     intro p
     rw [addEv_at _ _ _ _ hpl2, List.length_append]
     have := hbig p
     split <;> simp only [List.length_singleton, List.length_nil] <;> omega
   have hxl1 := addEv_len (scX l m K) k1 e
   obtain ⟨X1, hX1⟩ : ∃ X1, X1 = addEv (scX l m K) k1 e := ⟨_, rfl⟩
   rw [← hX1] at hbig1 hxl1 hXs ⊢
   have hpl := evEs_plain X1
   have hm : 3 + 1 + m = 3 + 1 + (X1.map evE).length := by simp [hxl1, hxl]
   have hno : (X1.map evE)[m]? = none := by simp [hxl1, hxl]
   refine nx ?_
   rw [hm]
   refine AW.famE hN hk (m) (.normal) [(2, .ptr 0 19 0 0), (7, .ptr 1 2 0 0), (8, .ptr 2 19 0 0), (9, .sl 10 (evE l)), (10, .osl 3 m 1), (11, I i), (12, I k1), (13, I k2)] [(0, some ⟨31, 19, [[I 0, str [], str [], I 0, nilV, nilV, I 0, I 0, B false, nilV, nilV, I 0, I 0, str [], str [], I 0, nilV, str [], I 0]]⟩), (1, some ⟨70, 2, [[.sl 1 (bytesE L), I b2]]⟩), (2, some ⟨31, 19, [[I q.test.op, str q.test.name, str q.test.text, I q.test.num, .sl 5 (tsE q.test.kids), .sl 7 (sgE q.stages), I q.kind, I q.limit, B q.last, .sl 1 (strE q.names), .sl 2 (agE q.aggs), I q.sketch, I q.other.op, str q.other.name, str q.other.text, I q.other.num, .sl 5 (tsE q.other.kids), str q.key, I q.window]]⟩)] 3 (none) (by omega) (FC _ rfl) hpl (by omega) (FC _ rfl) (by simp) (by first | (simp; done) | (simp [hxl]; done) | (simp [hxl]; omega)) ?_ ?_
   · intro C vs hN hk hvl
     rw [hno]
     simp only [Go.Av.ST, tcell, Option.map_none, List.cons_append, List.nil_append, Nat.reduceAdd]
     refine nx ?_
     refine AW.rcK mixed hN hk (onc 3 (ocq 1 q2) noc) [0, 1, 2, 3, 4] [2, 7, 8, 9, 10, 11, 12, 13] 5 (by omega) rfl (by decide +kernel) (fun K hK => ?_)
     simp only [go_sem, seval]; refine obK (hK _ _ ?_)
     clear hK K; refine nx ?_
     refine ⟨rfl, [some 0, some 1, some 2, some 3], [], ⟨by simp [srcIds], by simp [srcIds], by simp⟩, by simp, by simp [wkEnv, lk, lkh, I, str, B, U8, U64, U32, B, nilV] <;> omega, by first | (simp [wkHp, wkHp1, wkEnt, lkh, B, nilV]; done) | (simp [wkHp, wkHp1, wkEnt, lkh, I, str, B, nilV]; done) | simp [wkHp, wkHp1, wkEnt, lkh, I, str, B, nilV]⟩
   rw [← hm]
   refine qNext ?_
   simp only [famPut]
   by_cases hc : t = 3 ∧ k2 ≠ k1
   · obtain ⟨rfl, hne⟩ := hc
     have dn : ((k2 : Int) != (k1 : Int)) = true := by simp; omega
     have hsS2 : scS L m a3 (i + 1) = (b3, K ++ [(k1, some k2)]) := by rw [hsS]; simp [hne]
     have hXn := hXs (some k2) (by intro k3 h; cases h; exact ⟨hk2, hne⟩)
     simp only at hXn
     refine nx ?_
     rw [hm]
     refine AW.famE hN hk (m) (.normal) [(2, .ptr 0 19 0 0), (7, .ptr 1 2 0 0), (8, .ptr 2 19 0 0), (9, .sl 10 (evE l)), (10, .osl 3 m 1), (11, I i), (13, I k2), (62, B true)] [(0, some ⟨31, 19, [[I 0, str [], str [], I 0, nilV, nilV, I 0, I 0, B false, nilV, nilV, I 0, I 0, str [], str [], I 0, nilV, str [], I 0]]⟩), (1, some ⟨70, 2, [[.sl 1 (bytesE L), I b3]]⟩), (2, some ⟨31, 19, [[I q.test.op, str q.test.name, str q.test.text, I q.test.num, .sl 5 (tsE q.test.kids), .sl 7 (sgE q.stages), I q.kind, I q.limit, B q.last, .sl 1 (strE q.names), .sl 2 (agE q.aggs), I q.sketch, I q.other.op, str q.other.name, str q.other.text, I q.other.num, .sl 5 (tsE q.other.kids), str q.key, I q.window]]⟩)] 3 (none) (by omega) (FC _ rfl) hpl (by omega) (FC _ rfl) (by simp) (by first | (simp; done) | (simp [hxl]; done) | (simp [hxl]; omega)) ?_ ?_
     · intro C vs hN hk hvl
       rw [hno]
       simp only [Go.Av.ST, tcell, Option.map_none, List.cons_append, List.nil_append, Nat.reduceAdd]
       refine nx ?_
       refine AW.rcK mixed hN hk (onc 1 (ocq 1 q3) noc) [0, 1, 2, 3, 4] [2, 7, 8, 9, 10, 11, 13, 62] 5 (by omega) rfl (by decide +kernel) (fun K hK => ?_)
       simp only [go_sem, seval, dn]
       try simp (disch := omega) only [au]
       try simp only [go_sem, seval, dn]
       refine obK (hK _ _ ?_); clear hK K; refine nx ?_
       refine ⟨rfl, [some 0, some 1, some 2, some 3], [], ⟨by simp [srcIds], by simp [srcIds], by simp⟩, by simp, by simp [wkEnv, lk, lkh, I, str, B, U8, U64, U32, B, nilV] <;> omega, by first | (simp [wkHp, wkHp1, wkEnt, lkh, B, nilV]; done) | (simp [wkHp, wkHp1, wkEnt, lkh, I, str, B, nilV]; done) | simp [wkHp, wkHp1, wkEnt, lkh, I, str, B, nilV]⟩
     rw [← hm]
     refine qNext ?_
     refine cT ?_
     simp only [famPut]
     have hpl2 : k2 < X1.length := by omega
     have hat : (X1.map evE)[k2]? = some (evE (X1.getD k2 [])) := by simp [List.getD, hpl2]
     have hbz := hbig1 k2
     have hX2 : (X1.map evE).set k2 (evE (X1.getD k2 [] ++ [e])) = (addEv X1 k2 e).map evE := by unfold addEv; rw [List.map_set]
     generalize X1.getD k2 [] = Z2 at *
     refine nx ?_
     rw [hm]
     refine AW.famE hN hk k2 .normal [(2, .ptr 0 19 0 0), (7, .ptr 1 2 0 0), (8, .ptr 2 19 0 0), (9, .sl 10 (evE l)), (10, .osl 3 m 1), (11, I i)] [(0, some ⟨31, 19, [[I 0, str [], str [], I 0, nilV, nilV, I 0, I 0, B false, nilV, nilV, I 0, I 0, str [], str [], I 0, nilV, str [], I 0]]⟩), (1, some ⟨70, 2, [[.sl 1 (bytesE L), I b3]]⟩), (2, some ⟨31, 19, [[I q.test.op, str q.test.name, str q.test.text, I q.test.num, .sl 5 (tsE q.test.kids), .sl 7 (sgE q.stages), I q.kind, I q.limit, B q.last, .sl 1 (strE q.names), .sl 2 (agE q.aggs), I q.sketch, I q.other.op, str q.other.name, str q.other.text, I q.other.num, .sl 5 (tsE q.other.kids), str q.key, I q.window]]⟩)] 3 (some (evE (Z2 ++ [e]))) (by omega) (FC _ rfl) hpl (by omega) (FC _ rfl) (by simp) (by simp; omega) ?_ ?_
     · intro C vs hN hk hvl
       rw [hat]
       simp only [Go.Av.ST, tcell, Option.map_some, List.cons_append, List.nil_append, Nat.reduceAdd]
       have hvp : k2 < vs.length := by rw [hvl]; simpa using hpl2
       have hv0 := fun c => valC_self (c := c) hvp
       have hfe := evE_snocC Z2 e
       refine nx ?_
       refine AW.rcdK mixed hN hk (noc) [0, 1, 2, 3, 4] [2, 7, 8, 9, 10, 11, 74] 5 (by omega) rfl (by decide +kernel) (fun K tok htok hK => ?_)
       simp only [go_sem, seval, hv0, hx]
       refine ⟨htok _ (by decide +kernel), ?_⟩
       (first | with_reducible refine hK _ _ ?_ | refine obK (hK _ _ ?_)); clear hK K htok tok
       refine nx ?_
       refine ⟨rfl, [some 0, some 1, some 2, some 3, some 5], [], ⟨by simp [srcIds], by simp [srcIds], by simp⟩, by simp, by simp [wkEnv, lk, lkh, I, str, B, U8, U64, U32, wkE_valC_iff hvp, hfe, idLtL, idLt, B, nilV] <;> omega, by first | (simp [wkHp, wkHp1, wkEnt, lkh, wkE_valC_iff hvp, hfe, idLtL, idLt, B, nilV]; done) | (simp [wkHp, wkHp1, wkEnt, lkh, I, str, wkE_valC_iff hvp, hfe, idLtL, idLt, B, nilV]; done) | simp [wkHp, wkHp1, wkEnt, lkh, I, str, wkE_valC_iff hvp, hfe, idLtL, idLt, B, nilV]⟩
     simp only [famPut]
     rw [hX2, ← hXn, ← hm]
     refine nx ?_
     clear hpl hno hm
     have hpl := evEs_plain (scX l m (K ++ [(k1, some k2)]))
     have hxl2 := scX_len l m (K ++ [(k1, some k2)])
     have hm : 3 + 1 + m = 3 + 1 + ((scX l m (K ++ [(k1, some k2)])).map evE).length := by simp [hxl2]
     have hno : ((scX l m (K ++ [(k1, some k2)])).map evE)[m]? = none := by simp [hxl2]
     refine nx ?_
     rw [hm]
     refine AW.famE hN hk (m) (.normal) [(2, .ptr 0 19 0 0), (7, .ptr 1 2 0 0), (8, .ptr 2 19 0 0), (9, .sl 10 (evE l)), (10, .osl 3 m 1), (11, I (i + 1 : Nat))] [(0, some ⟨31, 19, [[I 0, str [], str [], I 0, nilV, nilV, I 0, I 0, B false, nilV, nilV, I 0, I 0, str [], str [], I 0, nilV, str [], I 0]]⟩), (1, some ⟨70, 2, [[.sl 1 (bytesE L), I b3]]⟩), (2, some ⟨31, 19, [[I q.test.op, str q.test.name, str q.test.text, I q.test.num, .sl 5 (tsE q.test.kids), .sl 7 (sgE q.stages), I q.kind, I q.limit, B q.last, .sl 1 (strE q.names), .sl 2 (agE q.aggs), I q.sketch, I q.other.op, str q.other.name, str q.other.text, I q.other.num, .sl 5 (tsE q.other.kids), str q.key, I q.window]]⟩)] 3 (none) (by omega) (FC _ rfl) hpl (by omega) (FC _ rfl) (by simp) (by first | (simp; done) | (simp [hxl]; done) | (simp [hxl]; omega)) ?_ ?_
     · intro C vs hN hk hvl
       rw [hno]
       simp only [Go.Av.ST, tcell, Option.map_none, List.cons_append, List.nil_append, Nat.reduceAdd]
       refine nx ?_
       refine AW.rcK mixed hN hk (noc) [0, 1, 2, 3, 4] [2, 7, 8, 9, 10, 11] 5 (by omega) rfl (by decide +kernel) (fun K hK => ?_)
       simp only [go_sem, seval]
       try simp (disch := omega) only [au]
       refine hK _ _ ?_; clear hK K; refine nx ?_
       refine ⟨rfl, [some 0, some 1, some 2, some 3], [], ⟨by simp [srcIds], by simp [srcIds], by simp⟩, by simp, by simp [wkEnv, lk, lkh, I, str, B, U8, U64, U32, B, nilV] <;> omega, by first | (simp [wkHp, wkHp1, wkEnt, lkh, B, nilV]; done) | (simp [wkHp, wkHp1, wkEnt, lkh, I, str, B, nilV]; done) | simp [wkHp, wkHp1, wkEnt, lkh, I, str, B, nilV]⟩
     refine qNext ⟨by first | rfl | exact hm.symm, i + 1, by omega, by omega, ?_⟩
     simp only [famPut]
     rw [hsS2]
   · have hsS2 : scS L m a3 (i + 1) = (b3, K ++ [(k1, none)]) := by rw [hsS]; simp only [if_neg hc]
     have hXn := hXs none (by intro k3 h; cases h)
     simp only at hXn
     have hcb : ((t : Int) == 3) = false ∨ (((t : Int) == 3) = true ∧ ((k2 : Int) != (k1 : Int)) = false) := by
       by_cases ht : t = 3
       · refine .inr ⟨by simp [ht], ?_⟩
         have : k2 = k1 := by
           rcases Nat.decEq k2 k1 with h | h
           · exact absurd ⟨ht, h⟩ hc
           · exact h
         simp [this]
       · exact .inl (by simp; omega)
     rcases hcb with d1 | ⟨d1, d2⟩
     · clear hXs hbig1
       refine nx ?_
       rw [hm]
       refine AW.famE hN hk (m) (.normal) [(2, .ptr 0 19 0 0), (7, .ptr 1 2 0 0), (8, .ptr 2 19 0 0), (9, .sl 10 (evE l)), (10, .osl 3 m 1), (11, I i), (13, I k2), (62, B false)] [(0, some ⟨31, 19, [[I 0, str [], str [], I 0, nilV, nilV, I 0, I 0, B false, nilV, nilV, I 0, I 0, str [], str [], I 0, nilV, str [], I 0]]⟩), (1, some ⟨70, 2, [[.sl 1 (bytesE L), I b3]]⟩), (2, some ⟨31, 19, [[I q.test.op, str q.test.name, str q.test.text, I q.test.num, .sl 5 (tsE q.test.kids), .sl 7 (sgE q.stages), I q.kind, I q.limit, B q.last, .sl 1 (strE q.names), .sl 2 (agE q.aggs), I q.sketch, I q.other.op, str q.other.name, str q.other.text, I q.other.num, .sl 5 (tsE q.other.kids), str q.key, I q.window]]⟩)] 3 (none) (by omega) (FC _ rfl) hpl (by omega) (FC _ rfl) (by simp) (by first | (simp; done) | (simp [hxl]; done) | (simp [hxl]; omega)) ?_ ?_
       · intro C vs hN hk hvl
         rw [hno]
         simp only [Go.Av.ST, tcell, Option.map_none, List.cons_append, List.nil_append, Nat.reduceAdd]
         refine nx ?_
         refine AW.rcK mixed hN hk (onc 1 (ocq 1 q3) noc) [0, 1, 2, 3, 4] [2, 7, 8, 9, 10, 11, 13, 62] 5 (by omega) rfl (by decide +kernel) (fun K hK => ?_)
         simp only [go_sem, seval, d1]
         try simp (disch := omega) only [au]
         try simp only [go_sem, seval, d1]
         refine obK (hK _ _ ?_); clear hK K; refine nx ?_
         refine ⟨rfl, [some 0, some 1, some 2, some 3], [], ⟨by simp [srcIds], by simp [srcIds], by simp⟩, by simp, by simp [wkEnv, lk, lkh, I, str, B, U8, U64, U32, B, nilV] <;> omega, by first | (simp [wkHp, wkHp1, wkEnt, lkh, B, nilV]; done) | (simp [wkHp, wkHp1, wkEnt, lkh, I, str, B, nilV]; done) | simp [wkHp, wkHp1, wkEnt, lkh, I, str, B, nilV]⟩
       rw [← hm]
       refine qNext ?_
       refine AW.condF rfl (AW.skip ?_)
       simp only [famPut]
       rw [← hXn]
       refine nx ?_
       clear hpl hno hm
       have hpl := evEs_plain (scX l m (K ++ [(k1, none)]))
       have hxl2 := scX_len l m (K ++ [(k1, none)])
       have hm : 3 + 1 + m = 3 + 1 + ((scX l m (K ++ [(k1, none)])).map evE).length := by simp [hxl2]
       have hno : ((scX l m (K ++ [(k1, none)])).map evE)[m]? = none := by simp [hxl2]
       refine nx ?_
       rw [hm]
       refine AW.famE hN hk (m) (.normal) [(2, .ptr 0 19 0 0), (7, .ptr 1 2 0 0), (8, .ptr 2 19 0 0), (9, .sl 10 (evE l)), (10, .osl 3 m 1), (11, I (i + 1 : Nat))] [(0, some ⟨31, 19, [[I 0, str [], str [], I 0, nilV, nilV, I 0, I 0, B false, nilV, nilV, I 0, I 0, str [], str [], I 0, nilV, str [], I 0]]⟩), (1, some ⟨70, 2, [[.sl 1 (bytesE L), I b3]]⟩), (2, some ⟨31, 19, [[I q.test.op, str q.test.name, str q.test.text, I q.test.num, .sl 5 (tsE q.test.kids), .sl 7 (sgE q.stages), I q.kind, I q.limit, B q.last, .sl 1 (strE q.names), .sl 2 (agE q.aggs), I q.sketch, I q.other.op, str q.other.name, str q.other.text, I q.other.num, .sl 5 (tsE q.other.kids), str q.key, I q.window]]⟩)] 3 (none) (by omega) (FC _ rfl) hpl (by omega) (FC _ rfl) (by simp) (by first | (simp; done) | (simp [hxl]; done) | (simp [hxl]; omega)) ?_ ?_
       · intro C vs hN hk hvl
         rw [hno]
         simp only [Go.Av.ST, tcell, Option.map_none, List.cons_append, List.nil_append, Nat.reduceAdd]
         refine nx ?_
         refine AW.rcK mixed hN hk (noc) [0, 1, 2, 3, 4] [2, 7, 8, 9, 10, 11] 5 (by omega) rfl (by decide +kernel) (fun K hK => ?_)
         simp only [go_sem, seval]
         try simp (disch := omega) only [au]
         refine hK _ _ ?_; clear hK K; refine nx ?_
         refine ⟨rfl, [some 0, some 1, some 2, some 3], [], ⟨by simp [srcIds], by simp [srcIds], by simp⟩, by simp, by simp [wkEnv, lk, lkh, I, str, B, U8, U64, U32, B, nilV] <;> omega, by first | (simp [wkHp, wkHp1, wkEnt, lkh, B, nilV]; done) | (simp [wkHp, wkHp1, wkEnt, lkh, I, str, B, nilV]; done) | simp [wkHp, wkHp1, wkEnt, lkh, I, str, B, nilV]⟩
       refine qNext ⟨by first | rfl | exact hm.symm, i + 1, by omega, by omega, ?_⟩
       simp only [famPut]
       rw [hsS2]
     · clear hXs hbig1
       refine nx ?_
       rw [hm]
       refine AW.famE hN hk (m) (.normal) [(2, .ptr 0 19 0 0), (7, .ptr 1 2 0 0), (8, .ptr 2 19 0 0), (9, .sl 10 (evE l)), (10, .osl 3 m 1), (11, I i), (13, I k2), (62, B false)] [(0, some ⟨31, 19, [[I 0, str [], str [], I 0, nilV, nilV, I 0, I 0, B false, nilV, nilV, I 0, I 0, str [], str [], I 0, nilV, str [], I 0]]⟩), (1, some ⟨70, 2, [[.sl 1 (bytesE L), I b3]]⟩), (2, some ⟨31, 19, [[I q.test.op, str q.test.name, str q.test.text, I q.test.num, .sl 5 (tsE q.test.kids), .sl 7 (sgE q.stages), I q.kind, I q.limit, B q.last, .sl 1 (strE q.names), .sl 2 (agE q.aggs), I q.sketch, I q.other.op, str q.other.name, str q.other.text, I q.other.num, .sl 5 (tsE q.other.kids), str q.key, I q.window]]⟩)] 3 (none) (by omega) (FC _ rfl) hpl (by omega) (FC _ rfl) (by simp) (by first | (simp; done) | (simp [hxl]; done) | (simp [hxl]; omega)) ?_ ?_
       · intro C vs hN hk hvl
         rw [hno]
         simp only [Go.Av.ST, tcell, Option.map_none, List.cons_append, List.nil_append, Nat.reduceAdd]
         refine nx ?_
         refine AW.rcK mixed hN hk (onc 1 (ocq 1 q3) noc) [0, 1, 2, 3, 4] [2, 7, 8, 9, 10, 11, 13, 62] 5 (by omega) rfl (by decide +kernel) (fun K hK => ?_)
         simp only [go_sem, seval, d1, d2]
         try simp (disch := omega) only [au]
         try simp only [go_sem, seval, d1, d2]
         refine obK (hK _ _ ?_); clear hK K; refine nx ?_
         refine ⟨rfl, [some 0, some 1, some 2, some 3], [], ⟨by simp [srcIds], by simp [srcIds], by simp⟩, by simp, by simp [wkEnv, lk, lkh, I, str, B, U8, U64, U32, B, nilV] <;> omega, by first | (simp [wkHp, wkHp1, wkEnt, lkh, B, nilV]; done) | (simp [wkHp, wkHp1, wkEnt, lkh, I, str, B, nilV]; done) | simp [wkHp, wkHp1, wkEnt, lkh, I, str, B, nilV]⟩
       rw [← hm]
       refine qNext ?_
       refine AW.condF rfl (AW.skip ?_)
       simp only [famPut]
       rw [← hXn]
       refine nx ?_
       clear hpl hno hm
       have hpl := evEs_plain (scX l m (K ++ [(k1, none)]))
       have hxl2 := scX_len l m (K ++ [(k1, none)])
       have hm : 3 + 1 + m = 3 + 1 + ((scX l m (K ++ [(k1, none)])).map evE).length := by simp [hxl2]
       have hno : ((scX l m (K ++ [(k1, none)])).map evE)[m]? = none := by simp [hxl2]
       refine nx ?_
       rw [hm]
       refine AW.famE hN hk (m) (.normal) [(2, .ptr 0 19 0 0), (7, .ptr 1 2 0 0), (8, .ptr 2 19 0 0), (9, .sl 10 (evE l)), (10, .osl 3 m 1), (11, I (i + 1 : Nat))] [(0, some ⟨31, 19, [[I 0, str [], str [], I 0, nilV, nilV, I 0, I 0, B false, nilV, nilV, I 0, I 0, str [], str [], I 0, nilV, str [], I 0]]⟩), (1, some ⟨70, 2, [[.sl 1 (bytesE L), I b3]]⟩), (2, some ⟨31, 19, [[I q.test.op, str q.test.name, str q.test.text, I q.test.num, .sl 5 (tsE q.test.kids), .sl 7 (sgE q.stages), I q.kind, I q.limit, B q.last, .sl 1 (strE q.names), .sl 2 (agE q.aggs), I q.sketch, I q.other.op, str q.other.name, str q.other.text, I q.other.num, .sl 5 (tsE q.other.kids), str q.key, I q.window]]⟩)] 3 (none) (by omega) (FC _ rfl) hpl (by omega) (FC _ rfl) (by simp) (by first | (simp; done) | (simp [hxl]; done) | (simp [hxl]; omega)) ?_ ?_
       · intro C vs hN hk hvl
         rw [hno]
         simp only [Go.Av.ST, tcell, Option.map_none, List.cons_append, List.nil_append, Nat.reduceAdd]
         refine nx ?_
         refine AW.rcK mixed hN hk (noc) [0, 1, 2, 3, 4] [2, 7, 8, 9, 10, 11] 5 (by omega) rfl (by decide +kernel) (fun K hK => ?_)
         simp only [go_sem, seval]
         try simp (disch := omega) only [au]
         refine hK _ _ ?_; clear hK K; refine nx ?_
         refine ⟨rfl, [some 0, some 1, some 2, some 3], [], ⟨by simp [srcIds], by simp [srcIds], by simp⟩, by simp, by simp [wkEnv, lk, lkh, I, str, B, U8, U64, U32, B, nilV] <;> omega, by first | (simp [wkHp, wkHp1, wkEnt, lkh, B, nilV]; done) | (simp [wkHp, wkHp1, wkEnt, lkh, I, str, B, nilV]; done) | simp [wkHp, wkHp1, wkEnt, lkh, I, str, B, nilV]⟩
       refine qNext ⟨by first | rfl | exact hm.symm, i + 1, by omega, by omega, ?_⟩
       simp only [famPut]
       rw [hsS2]
 · have hie : i = l.length := by omega
   rw [hm]
   refine AW.famE hN hk m (.exit 0) [(2, .ptr 0 19 0 0), (7, .ptr 1 2 0 0), (8, .ptr 2 19 0 0), (9, .sl 10 (evE l)), (10, .osl 3 m 1)] [(0, some ⟨31, 19, [[I 0, str [], str [], I 0, nilV, nilV, I 0, I 0, B false, nilV, nilV, I 0, I 0, str [], str [], I 0, nilV, str [], I 0]]⟩), (1, some ⟨70, 2, [[.sl 1 (bytesE L), I a]]⟩), (2, some ⟨31, 19, [[I q.test.op, str q.test.name, str q.test.text, I q.test.num, .sl 5 (tsE q.test.kids), .sl 7 (sgE q.stages), I q.kind, I q.limit, B q.last, .sl 1 (strE q.names), .sl 2 (agE q.aggs), I q.sketch, I q.other.op, str q.other.name, str q.other.text, I q.other.num, .sl 5 (tsE q.other.kids), str q.key, I q.window]]⟩)] 3 none (by omega) (FC _ rfl) hpl (by omega) (FC _ rfl) (by simp) (by simp [hxl]) ?_ ?_
   · intro C vs hN hk hvl
     rw [hno]
     simp only [Go.Av.ST, tcell, Option.map_none, List.cons_append, List.nil_append, Nat.reduceAdd]
     refine nx ?_
     refine AW.rcK mixed hN hk (noc) [0, 1, 2, 3, 4] [2, 7, 8, 9, 10, 11, 31] 5 (by omega) rfl (by decide +kernel) (fun K hK => ?_)
     simp only [go_sem, seval]
     try simp (disch := omega) only [au]
     (first | with_reducible refine hK _ _ ?_ | refine obK (hK _ _ ?_)); clear hK K; refine nx ?_
     refine cF ?_; refine nx ?_
     refine ⟨rfl, [some 0, some 1, some 2, some 3], [], ⟨by simp [srcIds], by simp [srcIds], by simp⟩, by simp, by simp [wkEnv, lk, lkh, I, str, B, U8, U64, U32, B, nilV] <;> omega, by first | (simp [wkHp, wkHp1, wkEnt, lkh, B, nilV]; done) | (simp [wkHp, wkHp1, wkEnt, lkh, I, str, B, nilV]; done) | simp [wkHp, wkHp1, wkEnt, lkh, I, str, B, nilV]⟩
   refine nx ?_
   simp only [famPut]
   rw [← hm]
   subst hie
   have hxm : ∀ i, i < m → (scX l m K)[i]? = some ((scX l m K).getD i []) := by intro i hi; simp [List.getD, show i < (scX l m K).length by omega]
   have hsgG : ∀ i, i < m → SegG ((scX l m K).getD i []) := by
     intro i hi
     rw [scX_at _ _ _ _ hi]
     exact segG_sub ((selF_sub _ _).trans (List.take_sublist _ _)) hasc hdr hll
   have hx0 := hxm 0 (by omega)
   have hdl : ∀ i, i + 1 < m → (((scX l m K).drop 1).take (i + 1)).map segE = (((scX l m K).drop 1).take i).map segE ++ [segE ((scX l m K).getD (i + 1) [])] := by
     intro i hi
     have h1 : ((scX l m K).drop 1)[i]? = some ((scX l m K).getD (i + 1) []) := by rw [List.getElem?_drop, Nat.add_comm 1 i]; exact hxm (i + 1) hi
     rw [List.take_add_one, h1]
     simp
   have hda : (((scX l m K).drop 1).take (m - 1)).map segE = ((scX l m K).drop 1).map segE := by rw [List.take_of_length_le (by simp; omega)]
   obtain ⟨SF, hSF⟩ : ∃ SF : Nat → List (List UInt8), ∀ i, (((scX l m K).drop 1).take i).map segE = SF i := ⟨_, fun _ => rfl⟩
   have hS0 : SF 0 = [] := by rw [← hSF]; simp
   have hSl : ∀ i, i ≤ m → (SF i).length ≤ 4 := by intro i hi; rw [← hSF]; simp; omega
   simp only [hSF] at hdl hda
   rw [hKE, ← hda]
   clear hSF hda hKE
   generalize (scX l m K).getD 0 [] = x0 at *
   have hpx := hpl
   have FO := SO_ok (sz := 10) (ty := 48) (oty := 32) (FC (a := a) [(2, .ptr 0 19 0 0), (7, .ptr 1 2 0 0), (8, .ptr 2 19 0 0), (9, .sl 10 (evE l)), (10, .osl 3 m 1)] rfl) hpl
   generalize scX l m K = X at *
   refine AW.wk hk 4 ⟨[(2, .ptr 0 19 0 0), (7, .ptr 1 2 0 0), (8, .ptr 2 19 0 0), (9, .sl 10 (evE l)), (10, .osl 3 m 1)], [(0, some ⟨31, 19, [[I 0, str [], str [], I 0, nilV, nilV, I 0, I 0, B false, nilV, nilV, I 0, I 0, str [], str [], I 0, nilV, str [], I 0]]⟩), (1, some ⟨70, 2, [[.sl 1 (bytesE L), I a]]⟩), (2, some ⟨31, 19, [[I q.test.op, str q.test.name, str q.test.text, I q.test.num, .sl 5 (tsE q.test.kids), .sl 7 (sgE q.stages), I q.kind, I q.limit, B q.last, .sl 1 (strE q.names), .sl 2 (agE q.aggs), I q.sketch, I q.other.op, str q.other.name, str q.other.text, I q.other.num, .sl 5 (tsE q.other.kids), str q.key, I q.window]]⟩), (3, some ⟨32, 1, elE X⟩)]⟩ ⟨[some 0, some 1, some 2, some 3], List.range' 4 X.length, ⟨by simp [srcIds], by simp [srcIds], by simp⟩, by simp, by simp [wkEnv, lk, SO], ?_⟩ ?_
   · refine ⟨.inl ⟨0, _, rfl, rfl, rfl, rfl, .inl ⟨rfl, rfl⟩⟩, .inl ⟨1, _, rfl, rfl, rfl, rfl, .inl ⟨rfl, rfl⟩⟩, .inl ⟨2, _, rfl, rfl, rfl, rfl, .inl ⟨rfl, rfl⟩⟩, .inl ⟨3, ⟨32, 1, famC 4 10 (X.map evE)⟩, rfl, rfl, rfl, rfl, .inr ?_⟩, trivial⟩
     have := famC_wk (hp := lkh (SO [(2, .ptr 0 19 0 0), (7, .ptr 1 2 0 0), (8, .ptr 2 19 0 0), (9, .sl 10 (evE l)), (10, .osl 3 m 1)] [(0, some ⟨31, 19, [[I 0, str [], str [], I 0, nilV, nilV, I 0, I 0, B false, nilV, nilV, I 0, I 0, str [], str [], I 0, nilV, str [], I 0]]⟩), (1, some ⟨70, 2, [[.sl 1 (bytesE L), I a]]⟩), (2, some ⟨31, 19, [[I q.test.op, str q.test.name, str q.test.text, I q.test.num, .sl 5 (tsE q.test.kids), .sl 7 (sgE q.stages), I q.kind, I q.limit, B q.last, .sl 1 (strE q.names), .sl 2 (agE q.aggs), I q.sketch, I q.other.op, str q.other.name, str q.other.text, I q.other.num, .sl 5 (tsE q.other.kids), str q.key, I q.window]]⟩)] 3 10 48 32 (X.map evE)).hp) (ids := [some 0, some 1, some 2, some 3]) (D := List.range' 4 X.length) (ty := 48) (sz := 10) (X.map evE) 4 (fun j hj => by simp at hj ⊢; omega) (fun j L hj => FO.inn j L hj) hpl
     rw [List.map_map] at this
     exact this
   refine AW.wk hk 2 ⟨[(2, .ptr 0 19 0 0), (7, .any), (8, .ptr 1 19 0 0), (9, .sl 10 (evE l)), (10, .sl 1 (elE X))], [(0, some ⟨31, 19, [[I 0, str [], str [], I 0, nilV, nilV, I 0, I 0, B false, nilV, nilV, I 0, I 0, str [], str [], I 0, nilV, str [], I 0]]⟩), (1, some ⟨31, 19, [[I q.test.op, str q.test.name, str q.test.text, I q.test.num, .sl 5 (tsE q.test.kids), .sl 7 (sgE q.stages), I q.kind, I q.limit, B q.last, .sl 1 (strE q.names), .sl 2 (agE q.aggs), I q.sketch, I q.other.op, str q.other.name, str q.other.text, I q.other.num, .sl 5 (tsE q.other.kids), str q.key, I q.window]]⟩)]⟩ ⟨[some 0, some 2], [3], ⟨by simp [srcIds], by simp [srcIds], by simp⟩, by simp, by simp [wkEnv, lk, lkh, hxl], by simp [wkHp, wkHp1, wkEnt, lkh, I, str, B, nilV]⟩ ?_
   clear FO hpx hpl hno hm
   refine nx ?_; refine rG hN hk noc [] [2, 7, 8, 9, 10, 14] fun K hK => ?_; simp only [go_sem, seval]; refine hK _ _ ?_
   clear hK K; refine nx ?_
   refine rG hN hk noc [] [2, 7, 8, 9, 10, 14, 15] fun K hK => ?_; simp only [go_sem, seval]; refine hK _ _ ?_
   clear hK K; refine nx ?_
   refine lpF hk 3 (fun i : Nat => ⟨[(2, .ptr 0 19 0 0), (7, .any), (8, .ptr 1 19 0 0), (9, .sl 10 (evE l)), (10, .sl 1 (elE X)), (14, .osl 2 (SF i).length 1), (15, I (i + 1 : Nat))], [(0, some ⟨31, 19, [[I 0, str [], str [], I 0, nilV, nilV, I 0, I 0, B false, nilV, nilV, I 0, I 0, str [], str [], I 0, nilV, str [], I 0]]⟩), (1, some ⟨31, 19, [[I q.test.op, str q.test.name, str q.test.text, I q.test.num, .sl 5 (tsE q.test.kids), .sl 7 (sgE q.stages), I q.kind, I q.limit, B q.last, .sl 1 (strE q.names), .sl 2 (agE q.aggs), I q.sketch, I q.other.op, str q.other.name, str q.other.text, I q.other.num, .sl 5 (tsE q.other.kids), str q.key, I q.window]]⟩), (2, some ⟨22, 1, bbE (SF i)⟩)]⟩) (fun i => i + 1 ≤ m) (fun i => m - i) 0 (mkWk [some 0, some 1, none] [] (by simp [wkEnv, lk, lkh, I, str, B, U8, U64, U32, hS0, B, nilV] <;> omega) (by first | (simp [wkHp, wkHp1, wkEnt, lkh, hS0, B, nilV]; done) | simp [wkHp, wkHp1, wkEnt, lkh, I, str, hS0, B, nilV])) ?_
   intro i hi0
   have hol := hSl i (by omega)
   by_cases hi : i + 1 < m
   · have hx := hxm (i + 1) hi
     have hs := hdl i hi
     have hG := hsgG (i + 1) hi
     generalize X.getD (i + 1) [] = y at *
     have q := encode27 y hG
     generalize segE y = by1 at *
     generalize SF i = sg at *
     refine nx ?_; refine rG hN hk noc [] [2, 7, 8, 9, 10, 14, 15, 79] fun K hK => ?_; simp only [go_sem, seval]
     try simp (disch := omega) only [au]
     (first | with_reducible refine hK _ _ ?_ | refine obK (hK _ _ ?_)); clear hK K; refine nx ?_
     refine cT ?_; refine nx ?_; refine rG hN hk (onc 4 (pcq q) noc) [] [2, 7, 8, 9, 10, 14, 15, 16] fun K hK => ?_; simp only [go_sem, seval, hx]; refine obK (hK _ _ ?_)
     clear hK K; refine nx ?_
     refine rG hN hk noc [] [2, 7, 8, 9, 10, 14, 15, 16] fun K hK => ?_; simp only [go_sem, seval]
     (first | with_reducible refine hK _ _ ?_ | refine obK (hK _ _ ?_)); clear hK K; refine nx ?_
     refine rG hN hk noc [] [2, 7, 8, 9, 10, 14, 15, 16] fun K hK => ?_; simp only [go_sem, seval]
     try simp (disch := omega) only [au]
     refine hK _ _ ?_; clear hK K; refine nx ?_
     refine eE (i + 1) (mkWk [some 0, some 1, some 2] [3] (by simp [wkEnv, lk, lkh, I, str, B, U8, U64, U32, hs, B, nilV] <;> omega) (by first | (simp [wkHp, wkHp1, wkEnt, lkh, hs, B, nilV]; done) | simp [wkHp, wkHp1, wkEnt, lkh, I, str, hs, B, nilV]))
   · have : i = m - 1 := by omega
     subst this
     generalize SF (m - 1) = sg at *
     refine nx ?_; refine rG hN hk noc [] [2, 7, 8, 9, 10, 14, 15, 79] fun K hK => ?_; simp only [go_sem, seval]
     try simp (disch := omega) only [au]
     (first | with_reducible refine hK _ _ ?_ | refine obK (hK _ _ ?_)); clear hK K; refine nx ?_
     refine cF ?_; refine nx ?_
     refine rD hN hk noc [] [2, 3, 4, 5, 6] fun K tok htok hK => ?_
     simp only [go_sem, seval, hx0]
     refine ⟨htok _ (by decide +kernel), ?_⟩
     (first | with_reducible refine hK _ _ ?_ | refine obK (hK _ _ ?_)); clear hK K htok tok
     refine nx ?_
     refine AW.ret (mkRet [] [1] (by simp only [resList, go_sem, seval]; rfl) (by simp [resOf, lk, lkh, I, str, B, U8, U64, U32, qyC, tsC_c, B, nilV] <;> omega) (by first | (simp [wkHp, wkHp1, wkEnt, lkh, qyC, tsC_c, B, nilV]; done) | simp [wkHp, wkHp1, wkEnt, lkh, I, str, qyC, tsC_c, B, nilV]))
@[simp] theorem wkE_el {hp : Hp} {ids : List (Option Nat)} {D : List Nat} (l : List (List Ev)) (x : List Ev) (c : List AV) : wkE hp ids D (elE l ++ [c]) (elE (l ++ [x])) ↔ wkL hp ids D c [.sl 10 (evE x)] := by
 rw [← elE_snoc]; exact wkE_snoc_iff (elE_id 0 l)
theorem planCombine3 (cs : List UInt8) (hc : cs.length < 2 ^ 63) : ACall Tryz.prog 3 [.sl 1 (bytesE cs)] [] (B true) [] := by
 obtain ⟨l, m, K, q, ⟨hasc, hdr, hll⟩, hm1, ⟨hKl, hKok⟩, q5⟩ := scene5 cs hc
 have hxl := scX_len l m K
 have hall := pOf_any l m K hKl hKok
 have hXa := scX_all l m K hKl
 have hcb := cb_all l hasc _ hall
 have hmg := mg_all l hasc _ hall
 rw [← hXa] at hcb hmg
 have hxm : ∀ i, i < m → (scX l m K)[i]? = some ((scX l m K).getD i []) := by intro i hi; simp [List.getD, show i < (scX l m K).length by omega]
 have hsub : ∀ x ∈ scX l m K, x.length ≤ 4096 ∧ Asc x := by
   intro x hx
   obtain ⟨j, hj, rfl⟩ := List.mem_map.1 hx
   have hs := (selF_sub (l.take K.length) (pOf K j)).trans (List.take_sublist _ _)
   exact ⟨by have := hs.length_le; omega, hasc.sublist hs⟩
 have hsgG : ∀ i, i < m → SegG ((scX l m K).getD i []) := by
   intro i hi
   rw [scX_at _ _ _ _ hi]
   exact segG_sub ((selF_sub _ _).trans (List.take_sublist _ _)) hasc hdr hll
 have q10 := combine41 (scX l m K) (by omega) (fun x hx => (hsub x hx).1)
 have q11 := merge31 (scX l m K) (by omega) hsub
 rw [hcb] at q10
 rw [hmg] at q11
 have q12 := sameEvents l (by omega) (fun e he => (hdr e he).good.evT)
 have hgx : ∀ i, i + 1 < m → (((scX l m K).drop 1).map segE)[i]? = some (segE ((scX l m K).getD (i + 1) [])) := by
   intro i hi
   rw [List.getElem?_map, List.getElem?_drop, Nat.add_comm 1 i, hxm (i + 1) hi]; rfl
 have hgl : (((scX l m K).drop 1).map segE).length = m - 1 := by simp [hxl]
 have ht0 : (scX l m K).take (0 + 1) = [(scX l m K).getD 0 []] := by rw [List.take_add_one, hxm 0 (by omega)]; rfl
 have htS : ∀ i, i + 1 < m → (scX l m K).take (i + 1 + 1) = (scX l m K).take (i + 1) ++ [(scX l m K).getD (i + 1) []] := by
   intro i hi
   rw [List.take_add_one (i := i + 1), hxm (i + 1) hi]; rfl
 have htm : (scX l m K).take (m - 1 + 1) = scX l m K := List.take_of_length_le (by omega)
 have htl : ∀ i, i + 1 ≤ m → ((scX l m K).take (i + 1)).length = i + 1 := by intro i hi; simp [hxl]; omega
 have qa := awake4
 clear hcb hmg hsub hXa hall
 simp only [qyC, tsC_c, List.cons_append, List.nil_append] at q5
 generalize ((scX l m K).drop 1).map segE = sg at *
 generalize scX l m K = X at *
 refine acall 60 0 Tryz.func3 rfl rfl rfl (by simp) rfl rfl ?_
 intro C hN hk
 refine nx ?_; refine rG hN hk noc [] [0] fun K hK => ?_; simp only [go_sem, seval]; refine hK _ _ ?_
 clear hK K; refine nx ?_
 refine rG hN hk (onc 0 (pcq qa) noc) [] [0, 16] fun K hK => ?_; simp only [go_sem, seval]; refine obK (hK _ _ ?_)
 clear hK K; refine nx ?_
 refine cF ?_; refine nx ?_; refine rG hN hk (onc 1 (pcq q5) noc) [] [4, 5, 6] fun K hK => ?_; simp only [go_sem, seval]; refine obK (hK _ _ ?_)
 clear hK K; refine nx ?_
 refine rG hN hk noc [] [4, 5, 8] fun K hK => ?_; simp only [go_sem, seval]
 (first | with_reducible refine hK _ _ ?_ | refine obK (hK _ _ ?_)); clear hK K; refine nx ?_
 refine rG hN hk noc [] [4, 5, 8, 9] fun K hK => ?_; simp only [go_sem, seval]; refine hK _ _ ?_
 clear hK K; refine nx ?_
 clear qa q5
 obtain ⟨T, hT⟩ : ∃ T : Nat → List (List Ev), ∀ i, X.take (i + 1) = T i := ⟨_, fun _ => rfl⟩
 simp only [hT] at htS htm htl
 rw [hT] at ht0
 refine nx ?_
 refine lpF hk 1 (fun i : Nat => ⟨[(4, .sl 10 (evE l)), (5, .sl 1 (bbE sg)), (8, .osl 0 (T i).length 1), (9, I i)], [(0, some ⟨32, 1, elE (T i)⟩)]⟩) (fun i => i ≤ m - 1) (fun i => m - 1 - i) 0 (mkWk [some 0] [] (by simp [wkEnv, lk, lkh, I, str, B, U8, U64, U32, ht0, elE, elC] <;> omega) (by first | (simp [wkHp, wkHp1, wkEnt, lkh, ht0, elE, elC]; done) | simp [wkHp, wkHp1, wkEnt, lkh, I, str, ht0, elE, elC])) ?_
 intro i hi0
 have hTl := htl i (by omega)
 by_cases hi : i < m - 1
 · have hx := hgx i (by omega)
   have hs := htS i (by omega)
   have qd := decode27 _ (hsgG (i + 1) (by omega))
   generalize X.getD (i + 1) [] = y at *
   generalize segE y = b at *
   generalize T i = o at *
   refine nx ?_; refine rG hN hk noc [] [4, 5, 8, 9, 30] fun K hK => ?_; simp only [go_sem, seval]
   try simp (disch := omega) only [au]
   (first | with_reducible refine hK _ _ ?_ | refine obK (hK _ _ ?_)); clear hK K; refine nx ?_
   refine cT ?_; refine nx ?_; refine rG hN hk (onc 4 (pcq qd) noc) [] [4, 5, 8, 9, 10] fun K hK => ?_; simp only [go_sem, seval, hx]; refine obK (hK _ _ ?_)
   clear hK K; refine nx ?_
   refine rG hN hk noc [] [4, 5, 8, 9, 10] fun K hK => ?_; simp only [go_sem, seval]
   (first | with_reducible refine hK _ _ ?_ | refine obK (hK _ _ ?_)); clear hK K; refine nx ?_
   refine rG hN hk noc [] [4, 5, 8, 9, 10] fun K hK => ?_; simp only [go_sem, seval]
   try simp (disch := omega) only [au]
   refine hK _ _ ?_; clear hK K; refine nx ?_
   refine eE (i + 1) (mkWk [some 0] [1] (by simp [wkEnv, lk, lkh, I, str, B, U8, U64, U32, hs] <;> omega) (by first | (simp [wkHp, wkHp1, wkEnt, lkh, hs]; done) | simp [wkHp, wkHp1, wkEnt, lkh, I, str, hs]))
 · have : i = m - 1 := by omega
   subst this
   rw [htm]
   rw [htm] at hTl
   refine nx ?_; refine rG hN hk noc [] [4, 5, 8, 9, 30] fun K hK => ?_; simp only [go_sem, seval]
   try simp (disch := omega) only [au]
   (first | with_reducible refine hK _ _ ?_ | refine obK (hK _ _ ?_)); clear hK K; refine nx ?_
   refine cF ?_; refine nx ?_
   refine AW.wk hk 0 ⟨[(4, .sl 10 (evE l)), (8, .sl 1 (elE X))], []⟩ ⟨[], [0], ⟨by simp [srcIds], by simp [srcIds], by simp⟩, by simp, by simp [wkEnv, lk, lkh], by simp [wkHp]⟩ ?_
   refine nx ?_; refine rG hN hk (onc 1 (pcq q10) noc) [] [4, 8, 12] fun K hK => ?_; simp only [go_sem, seval]; refine obK (hK _ _ ?_)
   clear hK K; refine nx ?_
   refine rG hN hk (onc 1 (pcq q11) noc) [] [4, 12, 13] fun K hK => ?_; simp only [go_sem, seval]; refine obK (hK _ _ ?_)
   clear hK K; refine nx ?_
   refine rG hN hk (onc 2 (pcq q12) (onc 6 (pcq q12) noc)) [] [2] fun K hK => ?_; simp only [go_sem, seval]
   try simp only [go_sem, seval]
   refine obK (hK _ _ ?_); clear hK K; refine nx ?_
   refine AW.ret (mkRet [] [] rfl (by simp [resOf, lk, lkh, I, str, B, U8, U64, U32] <;> omega) (by first | (simp [wkHp, wkHp1, wkEnt, lkh]; done) | simp [wkHp, wkHp1, wkEnt, lkh, I, str]))
end Go.Proofs.YtceeklfmlheofaaGreat
