/-
  Part 25 of the proof that logtidelaw41.PlanCombine returns true for every list of bytes and leaves its argument as it was; no condition.
-/
import Derived.Test.YtceeklfmlheofaaGreatA08
import Derived.Test.YtceeklfmlheofaaGreatA24
set_option linter.unusedSimpArgs false
set_option linter.unusedVariables false
namespace Go.Proofs.YtceeklfmlheofaaGreat
open Go.Av
attribute [local irreducible] ACall
theorem und3 : Tryz.prog.underlying 3 = some (.int .i64) := by kernel_rfl
theorem und9 : Tryz.prog.underlying 9 = some .string := by kernel_rfl
theorem und129 : Tryz.prog.underlying 129 = some (.struct #[⟨ "Offset", 3, 0, false, "", "", 0⟩, ⟨ "Length", 3, 1, false, "", "", 8⟩, ⟨ "Text", 9, 2, false, "", "", 16⟩]) := by kernel_rfl
theorem und131 : Tryz.prog.underlying 131 = some (.struct #[⟨ "Name", 9, 0, false, "", "", 0⟩, ⟨ "Value", 9, 1, false, "", "", 16⟩]) := by kernel_rfl
theorem inf3 : ∃ i, Tryz.prog.info? 3 = some i := ⟨Tryz.t3, by kernel_rfl⟩
theorem inf9 : ∃ i, Tryz.prog.info? 9 = some i := ⟨Tryz.t9, by kernel_rfl⟩
theorem st129 : Tryz.prog.stoodInHeld 129 = false := by kernel_rfl
theorem eg129 : Tryz.prog.eqGuardType Tryz.prog.depth 129 = false := by kernel_rfl
theorem st131 : Tryz.prog.stoodInHeld 131 = false := by kernel_rfl
theorem eg131 : Tryz.prog.eqGuardType Tryz.prog.depth 131 = false := by kernel_rfl
theorem eqLn (a b a' b' : Int) (t t' : ByteArray) : EqSays Tryz.prog 129 [.int .i64 a, .int .i64 b, .string t] [.int .i64 a', .int .i64 b', .string t'] (a == a' && (b == b' && (bl t == bl t' && true))) := by
 refine ⟨eg129, fun w => ?_⟩
 obtain ⟨i3, h3⟩ := inf3
 obtain ⟨i9, h9⟩ := inf9
 show (Op.equalIn (9998 + 1 + 1) 129 _ _).run Tryz.prog w = _
 rw [Op.equalIn, run_bind, run_underlying und129]
 simp only [run_bind, run_program, st129]
 simp only [Bool.false_eq_true, if_false, List.forIn_toArray, List.forIn_cons, List.forIn_nil, run_bind, run_part und3 h3, run_part und9 h9, aggD, run_eq_int und3, run_eq_str und9]
 by_cases g1 : a = a' <;> by_cases g2 : b = b' <;> by_cases g3 : bl t = bl t' <;>
   simp [g1, g2, g3, run_pure, run_bind, run_part und3 h3, run_part und9 h9, aggD, run_eq_int und3, run_eq_str und9]
theorem eqFl (s s' t t' : ByteArray) : EqSays Tryz.prog 131 [.string s, .string t] [.string s', .string t'] (bl s == bl s' && (bl t == bl t' && true)) := by
 refine ⟨eg131, fun w => ?_⟩
 obtain ⟨i9, h9⟩ := inf9
 show (Op.equalIn (9998 + 1 + 1) 131 _ _).run Tryz.prog w = _
 rw [Op.equalIn, run_bind, run_underlying und131]
 simp only [run_bind, run_program, st131]
 simp only [Bool.false_eq_true, if_false, List.forIn_toArray, List.forIn_cons, List.forIn_nil, run_bind, run_part und9 h9, aggD, run_eq_str und9]
 by_cases g1 : bl s = bl s' <;> by_cases g3 : bl t = bl t' <;>
   simp [g1, g3, run_pure, run_bind, run_part und9 h9, aggD, run_eq_str und9]
theorem sameLines (L : List Ln) (hl : L.length ≤ 2 ^ 40) : ACall Tryz.prog 67 [.sl 3 (lnE L), .sl 3 (lnE L)] [] (B true) [] := by
 refine acall 26 0 Tryz.func67 rfl rfl rfl (by simp) rfl rfl ?_
 intro C hN hk
 refine nx ?_; refine rG hN hk noc [] [0, 1] fun K hK => ?_; simp only [go_sem, seval]; refine hK _ _ ?_
 clear hK K; refine nx ?_
 refine rG hN hk noc [] [0, 1, 10] fun K hK => ?_; simp only [go_sem, seval, bne_self_eq_false]
 try simp (disch := omega) only [au]
 (first | with_reducible refine hK _ _ ?_ | refine obK (hK _ _ ?_)); clear hK K; refine nx ?_
 refine cF ?_; refine nx ?_; refine rG hN hk noc [] [0, 1, 5] fun K hK => ?_; simp only [go_sem, seval]; refine hK _ _ ?_
 clear hK K; refine nx ?_
 refine lpF hk 0 (fun i : Nat => ⟨[(0, .sl 3 (lnE L)), (1, .sl 3 (lnE L)), (5, I i)], []⟩) (fun i => i ≤ L.length) (fun i => L.length - i) 0 (mkWk [] [] (by simp [wkEnv, lk, lkh, I, str, B, U8, U64, U32] <;> omega) (by first | (simp [wkHp, wkHp1, wkEnt, lkh]; done) | simp [wkHp, wkHp1, wkEnt, lkh, I, str])) ?_
 intro i h1
 by_cases hi : i < L.length
 · have hx := List.getElem?_eq_getElem hi
   generalize L[i] = x at *
   have q := eqLn x.off x.len x.off x.len ⟨x.text.toArray⟩ ⟨x.text.toArray⟩
   simp only [bl_mk, beq_self_eq_true, Bool.and_true] at q
   refine nx ?_; refine rG hN hk noc [] [0, 1, 5, 14] fun K hK => ?_; simp only [go_sem, seval]
   try simp (disch := omega) only [au]
   (first | with_reducible refine hK _ _ ?_ | refine obK (hK _ _ ?_)); clear hK K; refine nx ?_
   refine cT ?_; refine nx ?_
   refine rD hN hk noc [] [0, 1, 5, 25] fun K tok htok hK => ?_
   simp only [go_sem, seval, hx]
   try simp (disch := omega) only [au]
   refine ⟨htok _ (by decide +kernel), ?_⟩
   (first | with_reducible refine hK _ _ ?_ | refine obK (hK _ _ ?_)); clear hK K htok tok
   refine nx ?_; refine cF ?_; refine nx ?_; refine rG hN hk noc [] [0, 1, 5] fun K hK => ?_; simp only [go_sem, seval]
   try simp (disch := omega) only [au]
   refine hK _ _ ?_; clear hK K; refine nx ?_
   refine eE (i + 1) (mkWk [] [] (by simp [wkEnv, lk, lkh, I, str, B, U8, U64, U32] <;> omega) (by first | (simp [wkHp, wkHp1, wkEnt, lkh]; done) | simp [wkHp, wkHp1, wkEnt, lkh, I, str]))
 · refine nx ?_
   refine rG hN hk noc [] [0, 1, 5, 14] fun K hK => ?_; simp only [go_sem, seval]
   try simp (disch := omega) only [au]
   (first | with_reducible refine hK _ _ ?_ | refine obK (hK _ _ ?_)); clear hK K; refine nx ?_
   refine cF ?_; refine nx ?_; refine rG hN hk noc [] [4] fun K hK => ?_; simp only [go_sem, seval]; refine hK _ _ ?_
   clear hK K; refine nx ?_
   refine AW.ret (mkRet [] [] rfl (by simp [resOf, lk, lkh, I, str, B, U8, U64, U32] <;> omega) (by first | (simp [wkHp, wkHp1, wkEnt, lkh]; done) | simp [wkHp, wkHp1, wkEnt, lkh, I, str]))
theorem sameFields (L : List Fl) (hl : L.length ≤ 2 ^ 40) : ACall Tryz.prog 68 [.sl 2 (flE L), .sl 2 (flE L)] [] (B true) [] := by
 refine acall 26 0 Tryz.func68 rfl rfl rfl (by simp) rfl rfl ?_
 intro C hN hk
 refine nx ?_; refine rG hN hk noc [] [0, 1] fun K hK => ?_; simp only [go_sem, seval]; refine hK _ _ ?_
 clear hK K; refine nx ?_
 refine rG hN hk noc [] [0, 1, 10] fun K hK => ?_; simp only [go_sem, seval, bne_self_eq_false]
 try simp (disch := omega) only [au]
 (first | with_reducible refine hK _ _ ?_ | refine obK (hK _ _ ?_)); clear hK K; refine nx ?_
 refine cF ?_; refine nx ?_; refine rG hN hk noc [] [0, 1, 5] fun K hK => ?_; simp only [go_sem, seval]; refine hK _ _ ?_
 clear hK K; refine nx ?_
 refine lpF hk 0 (fun i : Nat => ⟨[(0, .sl 2 (flE L)), (1, .sl 2 (flE L)), (5, I i)], []⟩) (fun i => i ≤ L.length) (fun i => L.length - i) 0 (mkWk [] [] (by simp [wkEnv, lk, lkh, I, str, B, U8, U64, U32] <;> omega) (by first | (simp [wkHp, wkHp1, wkEnt, lkh]; done) | simp [wkHp, wkHp1, wkEnt, lkh, I, str])) ?_
 intro i h1
 by_cases hi : i < L.length
 · have hx := List.getElem?_eq_getElem hi
   generalize L[i] = x at *
   have q := eqFl ⟨x.name.toArray⟩ ⟨x.name.toArray⟩ ⟨x.val.toArray⟩ ⟨x.val.toArray⟩
   simp only [bl_mk, beq_self_eq_true, Bool.and_true] at q
   refine nx ?_; refine rG hN hk noc [] [0, 1, 5, 14] fun K hK => ?_; simp only [go_sem, seval]
   try simp (disch := omega) only [au]
   (first | with_reducible refine hK _ _ ?_ | refine obK (hK _ _ ?_)); clear hK K; refine nx ?_
   refine cT ?_; refine nx ?_
   refine rD hN hk noc [] [0, 1, 5, 25] fun K tok htok hK => ?_
   simp only [go_sem, seval, hx]
   try simp (disch := omega) only [au]
   refine ⟨htok _ (by decide +kernel), ?_⟩
   (first | with_reducible refine hK _ _ ?_ | refine obK (hK _ _ ?_)); clear hK K htok tok
   refine nx ?_; refine cF ?_; refine nx ?_; refine rG hN hk noc [] [0, 1, 5] fun K hK => ?_; simp only [go_sem, seval]
   try simp (disch := omega) only [au]
   refine hK _ _ ?_; clear hK K; refine nx ?_
   refine eE (i + 1) (mkWk [] [] (by simp [wkEnv, lk, lkh, I, str, B, U8, U64, U32] <;> omega) (by first | (simp [wkHp, wkHp1, wkEnt, lkh]; done) | simp [wkHp, wkHp1, wkEnt, lkh, I, str]))
 · refine nx ?_
   refine rG hN hk noc [] [0, 1, 5, 14] fun K hK => ?_; simp only [go_sem, seval]
   try simp (disch := omega) only [au]
   (first | with_reducible refine hK _ _ ?_ | refine obK (hK _ _ ?_)); clear hK K; refine nx ?_
   refine cF ?_; refine nx ?_; refine rG hN hk noc [] [4] fun K hK => ?_; simp only [go_sem, seval]; refine hK _ _ ?_
   clear hK K; refine nx ?_
   refine AW.ret (mkRet [] [] rfl (by simp [resOf, lk, lkh, I, str, B, U8, U64, U32] <;> omega) (by first | (simp [wkHp, wkHp1, wkEnt, lkh]; done) | simp [wkHp, wkHp1, wkEnt, lkh, I, str]))
set_option maxRecDepth 100000 in
theorem same12 (e : Ev) (r : S) (h1 : e.lines.length ≤ 2 ^ 40) (h2 : e.fields.length ≤ 2 ^ 40) : ACall Tryz.prog 44 [.agg (str r :: evC e), .agg (str r :: evC e)] [] (B true) [] := by
 refine acall 86 0 Tryz.func44 rfl rfl rfl (by simp) rfl rfl ?_
 intro C hN hk
 have q1 := sameLines e.lines h1
 have q2 := sameFields e.fields h2
 refine nx ?_; refine rG hN hk noc [] [2, 3] fun K hK => ?_; simp only [go_sem, seval]; refine hK _ _ ?_
 clear hK K; refine nx ?_
 refine rD hN hk noc [] [2, 3, 5, 6] fun K tok htok hK => ?_
 simp only [go_sem, seval]
 refine ⟨htok _ (by decide +kernel), ?_⟩
 refine hK _ _ ?_; clear hK K htok tok
 refine nx ?_; refine rG hN hk (onc 66 (pcq q1) (onc 73 (pcq q2) noc)) [] [4] fun K hK => ?_; simp only [go_sem, seval, List.append_eq, beq_self_eq_true]
 try simp (disch := omega) only [au]
 try simp only [go_sem, seval, List.append_eq, beq_self_eq_true]
 iterate 10 try (simp (disch := omega) only [au]; try simp only [go_sem, seval, List.append_eq, beq_self_eq_true])
 refine obK (hK _ _ ?_); clear hK K; refine nx ?_
 refine AW.ret (mkRet [] [] rfl (by simp [resOf, lk, lkh, I, str, B, U8, U64, U32] <;> omega) (by first | (simp [wkHp, wkHp1, wkEnt, lkh]; done) | simp [wkHp, wkHp1, wkEnt, lkh, I, str]))
theorem sameEvent (e : Ev) (h1 : e.lines.length ≤ 2 ^ 40) (h2 : e.fields.length ≤ 2 ^ 40) : ACall Tryz.prog 23 [.agg (evC e), .agg (evC e)] [] (B true) [] := by
 refine acall 10 0 Tryz.func23 rfl rfl rfl (by simp) rfl rfl ?_
 intro C hN hk
 have q := same12 e [] h1 h2
 refine nx ?_; refine rG hN hk noc [] [2, 3] fun K hK => ?_; simp only [go_sem, seval]; refine hK _ _ ?_
 clear hK K; refine nx ?_
 refine rG hN hk (onc 4 (pcq q) noc) [] [4] fun K hK => ?_; simp only [go_sem, seval]; refine obK (hK _ _ ?_)
 clear hK K; refine nx ?_
 refine AW.ret (mkRet [] [] rfl (by simp [resOf, lk, lkh, I, str, B, U8, U64, U32] <;> omega) (by first | (simp [wkHp, wkHp1, wkEnt, lkh]; done) | simp [wkHp, wkHp1, wkEnt, lkh, I, str]))
theorem sameEvents (l : List Ev) (hl : l.length ≤ 2 ^ 40) (h : ∀ e ∈ l, EvT e) : ACall Tryz.prog 9 [.sl 10 (evE l), .sl 10 (evE l)] [] (B true) [] := by
 refine acall 27 0 Tryz.func9 rfl rfl rfl (by simp) rfl rfl ?_
 intro C hN hk
 refine nx ?_; refine rG hN hk noc [] [0, 1] fun K hK => ?_; simp only [go_sem, seval]; refine hK _ _ ?_
 clear hK K; refine nx ?_
 refine rG hN hk noc [] [0, 1, 10] fun K hK => ?_; simp only [go_sem, seval, bne_self_eq_false]
 try simp (disch := omega) only [au]
 (first | with_reducible refine hK _ _ ?_ | refine obK (hK _ _ ?_)); clear hK K; refine nx ?_
 refine cF ?_; refine nx ?_; refine rG hN hk noc [] [0, 1, 5] fun K hK => ?_; simp only [go_sem, seval]; refine hK _ _ ?_
 clear hK K; refine nx ?_
 refine lpF hk 0 (fun i : Nat => ⟨[(0, .sl 10 (evE l)), (1, .sl 10 (evE l)), (5, I i)], []⟩) (fun i => i ≤ l.length) (fun i => l.length - i) 0 (mkWk [] [] (by simp [wkEnv, lk, lkh, I, str, B, U8, U64, U32] <;> omega) (by first | (simp [wkHp, wkHp1, wkEnt, lkh]; done) | simp [wkHp, wkHp1, wkEnt, lkh, I, str])) ?_
 intro i h1
 by_cases hi : i < l.length
 · have hx := List.getElem?_eq_getElem hi
   have he := h _ (List.getElem_mem hi)
   have := he.nl
   have := he.nf
   have q := sameEvent l[i] (by omega) (by omega)
   generalize l[i] = x at *
   refine nx ?_; refine rG hN hk noc [] [0, 1, 5, 14] fun K hK => ?_; simp only [go_sem, seval]
   try simp (disch := omega) only [au]
   (first | with_reducible refine hK _ _ ?_ | refine obK (hK _ _ ?_)); clear hK K; refine nx ?_
   refine cT ?_; refine nx ?_
   refine rD hN hk (onc 8 (pcq q) noc) [] [0, 1, 5, 26] fun K tok htok hK => ?_
   simp only [go_sem, seval, hx]
   refine ⟨htok _ (by decide +kernel), ?_⟩
   refine obK (hK _ _ ?_); clear hK K htok tok
   refine nx ?_; refine cF ?_; refine nx ?_; refine rG hN hk noc [] [0, 1, 5] fun K hK => ?_; simp only [go_sem, seval]
   try simp (disch := omega) only [au]
   refine hK _ _ ?_; clear hK K; refine nx ?_
   refine eE (i + 1) (mkWk [] [] (by simp [wkEnv, lk, lkh, I, str, B, U8, U64, U32] <;> omega) (by first | (simp [wkHp, wkHp1, wkEnt, lkh]; done) | simp [wkHp, wkHp1, wkEnt, lkh, I, str]))
 · refine nx ?_
   refine rG hN hk noc [] [0, 1, 5, 14] fun K hK => ?_; simp only [go_sem, seval]
   try simp (disch := omega) only [au]
   (first | with_reducible refine hK _ _ ?_ | refine obK (hK _ _ ?_)); clear hK K; refine nx ?_
   refine cF ?_; refine nx ?_; refine rG hN hk noc [] [4] fun K hK => ?_; simp only [go_sem, seval]; refine hK _ _ ?_
   clear hK K; refine nx ?_
   refine AW.ret (mkRet [] [] rfl (by simp [resOf, lk, lkh, I, str, B, U8, U64, U32] <;> omega) (by first | (simp [wkHp, wkHp1, wkEnt, lkh]; done) | simp [wkHp, wkHp1, wkEnt, lkh, I, str]))
def lessF (a b : Ev) : Bool := if a.time ≠ b.time then decide (a.time < b.time) else if a.host ≠ b.host then decide (a.host < b.host) else if a.file ≠ b.file then decide (a.file < b.file) else decide (a.frm < b.frm)
theorem less12 (a b : Ev) : ACall Tryz.prog 43 [.agg (evC a), .agg (evC b)] [] (B (lessF a b)) [] := by
 refine acall 43 0 Tryz.func43 rfl rfl rfl (by simp) rfl rfl ?_
 intro C hN hk
 rcases dqE a.time b.time with ⟨p0, e0, f0⟩ | ⟨p0, e0, f0⟩
 · rcases dqE a.host b.host with ⟨p1, e1, f1⟩ | ⟨p1, e1, f1⟩
   · rcases dqE a.file b.file with ⟨p2, e2, f2⟩ | ⟨p2, e2, f2⟩
     · have e : lessF a b = decide (a.frm < b.frm) := by simp [lessF, p0, p1, p2]
       rw [e]
       refine nx ?_; refine rG hN hk noc [] [2, 3] fun K hK => ?_; simp only [go_sem, seval, f0, f1, f2]; refine hK _ _ ?_
       clear hK K; refine nx ?_
       refine rG hN hk noc [] [2, 3, 5] fun K hK => ?_; simp only [go_sem, seval, f0, f1, f2]
       try simp (disch := omega) only [au]
       refine hK _ _ ?_; clear hK K; refine nx ?_; refine cF ?_; refine nx ?_; refine rG hN hk noc [] [2, 3, 16] fun K hK => ?_; simp only [go_sem, seval, f0, f1, f2]
       try simp (disch := omega) only [au]
       refine hK _ _ ?_; clear hK K; refine nx ?_; refine cF ?_; refine nx ?_; refine rG hN hk noc [] [2, 3, 27] fun K hK => ?_; simp only [go_sem, seval, f0, f1, f2]
       try simp (disch := omega) only [au]
       refine hK _ _ ?_; clear hK K; refine nx ?_; refine cF ?_; refine nx ?_; refine rG hN hk noc [] [4] fun K hK => ?_; simp only [go_sem, seval, f0, f1, f2]
       try simp (disch := omega) only [au]
       refine hK _ _ ?_; clear hK K; refine nx ?_
       refine AW.ret (mkRet [] [] rfl (by simp [resOf, lk, lkh, I, str, B, U8, U64, U32] <;> omega) (by first | (simp [wkHp, wkHp1, wkEnt, lkh]; done) | simp [wkHp, wkHp1, wkEnt, lkh, I, str]))
     · have e : lessF a b = decide (a.file < b.file) := by simp [lessF, p0, p1, p2]
       rw [e]
       refine nx ?_; refine rG hN hk noc [] [2, 3] fun K hK => ?_; simp only [go_sem, seval, f0, f1, f2]; refine hK _ _ ?_
       clear hK K; refine nx ?_
       refine rG hN hk noc [] [2, 3, 5] fun K hK => ?_; simp only [go_sem, seval, f0, f1, f2]
       try simp (disch := omega) only [au]
       refine hK _ _ ?_; clear hK K; refine nx ?_; refine cF ?_; refine nx ?_; refine rG hN hk noc [] [2, 3, 16] fun K hK => ?_; simp only [go_sem, seval, f0, f1, f2]
       try simp (disch := omega) only [au]
       refine hK _ _ ?_; clear hK K; refine nx ?_; refine cF ?_; refine nx ?_; refine rG hN hk noc [] [2, 3, 27] fun K hK => ?_; simp only [go_sem, seval, f0, f1, f2]
       try simp (disch := omega) only [au]
       refine hK _ _ ?_; clear hK K; refine nx ?_; refine cT ?_; refine nx ?_; refine rG hN hk noc [] [4] fun K hK => ?_; simp only [go_sem, seval, f0, f1, f2]
       try simp (disch := omega) only [au]
       refine hK _ _ ?_; clear hK K; refine nx ?_
       refine AW.ret (mkRet [] [] rfl (by simp [resOf, lk, lkh, I, str, B, U8, U64, U32] <;> omega) (by first | (simp [wkHp, wkHp1, wkEnt, lkh]; done) | simp [wkHp, wkHp1, wkEnt, lkh, I, str]))
   · have e : lessF a b = decide (a.host < b.host) := by simp [lessF, p0, p1]
     rw [e]
     refine nx ?_; refine rG hN hk noc [] [2, 3] fun K hK => ?_; simp only [go_sem, seval, f0, f1]; refine hK _ _ ?_
     clear hK K; refine nx ?_
     refine rG hN hk noc [] [2, 3, 5] fun K hK => ?_; simp only [go_sem, seval, f0, f1]
     try simp (disch := omega) only [au]
     refine hK _ _ ?_; clear hK K; refine nx ?_; refine cF ?_; refine nx ?_; refine rG hN hk noc [] [2, 3, 16] fun K hK => ?_; simp only [go_sem, seval, f0, f1]
     try simp (disch := omega) only [au]
     refine hK _ _ ?_; clear hK K; refine nx ?_; refine cT ?_; refine nx ?_; refine rG hN hk noc [] [4] fun K hK => ?_; simp only [go_sem, seval, f0, f1]
     try simp (disch := omega) only [au]
     refine hK _ _ ?_; clear hK K; refine nx ?_
     refine AW.ret (mkRet [] [] rfl (by simp [resOf, lk, lkh, I, str, B, U8, U64, U32] <;> omega) (by first | (simp [wkHp, wkHp1, wkEnt, lkh]; done) | simp [wkHp, wkHp1, wkEnt, lkh, I, str]))
 · have e : lessF a b = decide (a.time < b.time) := by simp [lessF, p0]
   rw [e]
   refine nx ?_; refine rG hN hk noc [] [2, 3] fun K hK => ?_; simp only [go_sem, seval, f0]; refine hK _ _ ?_
   clear hK K; refine nx ?_
   refine rG hN hk noc [] [2, 3, 5] fun K hK => ?_; simp only [go_sem, seval, f0]
   try simp (disch := omega) only [au]
   refine hK _ _ ?_; clear hK K; refine nx ?_; refine cT ?_; refine nx ?_; refine rG hN hk noc [] [4] fun K hK => ?_; simp only [go_sem, seval, f0]
   try simp (disch := omega) only [au]
   refine hK _ _ ?_; clear hK K; refine nx ?_
   refine AW.ret (mkRet [] [] rfl (by simp [resOf, lk, lkh, I, str, B, U8, U64, U32] <;> omega) (by first | (simp [wkHp, wkHp1, wkEnt, lkh]; done) | simp [wkHp, wkHp1, wkEnt, lkh, I, str]))
theorem lessF_irrefl (a : Ev) : lessF a a = false := by simp [lessF]
theorem lessF_asymm {a b : Ev} (h : lessF a b = true) : lessF b a = false := by
 unfold lessF at *
 split at h <;> split <;> (try split at h) <;> (try split) <;> (try split at h) <;> (try split) <;> simp_all <;> omega
def Asc (l : List Ev) : Prop := l.Pairwise fun a b => lessF a b = true
def selF : List Ev → (Nat → Bool) → List Ev
 | [], _ => []
 | x :: l, p => if p 0 then x :: selF l (fun i => p (i + 1)) else selF l (fun i => p (i + 1))
theorem selF_sub : ∀ (l : List Ev) (p : Nat → Bool), (selF l p).Sublist l
 | [], _ => List.Sublist.slnil
 | x :: l, p => by
   simp only [selF]
   split
   · exact (selF_sub l _).cons_cons x
   · exact (selF_sub l _).cons x
theorem selF_all : ∀ (l : List Ev) (p : Nat → Bool), (∀ i, i < l.length → p i = true) → selF l p = l
 | [], _, _ => rfl
 | x :: l, p, h => by
   simp only [selF, h 0 (by simp), if_true]
   rw [selF_all l _ (fun i hi => h (i + 1) (by simp; omega))]
theorem selF_none : ∀ (l : List Ev) (p : Nat → Bool), (∀ i, i < l.length → p i = false) → selF l p = []
 | [], _, _ => rfl
 | x :: l, p, h => by
   simp only [selF, h 0 (by simp), Bool.false_eq_true, if_false]
   exact selF_none l _ (fun i hi => h (i + 1) (by simp; omega))
def pushF (out : List Ev) (x : Ev) : List Ev := match out.getLast? with
 | none => out ++ [x]
 | some y => if lessF y x then out ++ [x] else out
def addGo : List Ev → List Ev → List Ev → List Ev
 | [], [], out => out
 | x :: a, [], out => addGo a [] (pushF out x)
 | [], y :: b, out => addGo [] b (pushF out y)
 | x :: a, y :: b, out => if lessF y x then addGo (x :: a) b (pushF out y) else addGo a (y :: b) (pushF out x)
termination_by a b _ => a.length + b.length
def mergeGo : List Ev → List Ev → List Ev → List Ev
 | [], b, out => out ++ b
 | x :: a, [], out => out ++ (x :: a)
 | x :: a, y :: b, out => if lessF x y then mergeGo a (y :: b) (out ++ [x]) else if lessF y x then mergeGo (x :: a) b (out ++ [y]) else mergeGo a b (out ++ [x])
termination_by a b _ => a.length + b.length
theorem pushF_new {out : List Ev} {x : Ev} (h : ∀ y ∈ out, lessF y x = true) : pushF out x = out ++ [x] := by
 unfold pushF
 cases hl : out.getLast? with
 | none => rfl
 | some y => simp only [h y (List.mem_of_getLast? hl), if_true]
theorem pushF_old (out : List Ev) (x : Ev) : pushF (out ++ [x]) x = out ++ [x] := by
 simp [pushF, lessF_irrefl]
theorem mem_sel {l : List Ev} {p : Nat → Bool} {x : Ev} (h : x ∈ selF l p) : x ∈ l := (selF_sub l p).subset h
theorem addGo_sel : ∀ (l : List Ev) (p q : Nat → Bool) (out : List Ev), Asc l → (∀ y ∈ out, ∀ x ∈ l, lessF y x = true) → addGo (selF l p) (selF l q) out = out ++ selF l (fun i => p i || q i)
 | [], p, q, out, _, _ => by simp [selF, addGo]
 | x :: l, p, q, out, h, ho => by
   have h1 := (List.pairwise_cons.1 h).1
   have h2 := (List.pairwise_cons.1 h).2
   have hx := pushF_new (fun y hy => ho y hy x (by simp))
   have ho2 : ∀ y ∈ out ++ [x], ∀ z ∈ l, lessF y z = true := by
     intro y hy z hz
     rcases List.mem_append.1 hy with hy | hy
     · exact ho y hy z (by simp [hz])
     · rw [List.mem_singleton.1 hy]; exact h1 z hz
   have IH := fun p q out ho => addGo_sel l p q out h2 ho
   cases hp : p 0 <;> cases hq : q 0
   · simp only [selF, hp, hq, Bool.false_eq_true, if_false, Bool.or_self]
     exact IH _ _ _ (fun y hy z hz => ho y hy z (by simp [hz]))
   · simp only [selF, hp, hq, Bool.false_eq_true, if_false, if_true, Bool.false_or, Bool.or_true]
     have IH := IH (fun i => p (i + 1)) (fun i => q (i + 1)) (out ++ [x]) ho2
     cases hs : selF l (fun i => p (i + 1)) with
     | nil => rw [hs] at IH; rw [addGo, hx, IH]; simp
     | cons z a =>
       rw [hs] at IH
       have hz := h1 z (mem_sel (by rw [hs]; simp))
       rw [addGo, if_pos hz, hx, IH]; simp
   · simp only [selF, hp, hq, Bool.false_eq_true, if_false, if_true, Bool.or_false]
     have IH := IH (fun i => p (i + 1)) (fun i => q (i + 1)) (out ++ [x]) ho2
     cases hs : selF l (fun i => q (i + 1)) with
     | nil => rw [hs] at IH; rw [addGo, hx, IH]; simp
     | cons z b =>
       rw [hs] at IH
       have hz := lessF_asymm (h1 z (mem_sel (by rw [hs]; simp)))
       rw [addGo, if_neg (by simp [hz]), hx, IH]; simp
   · simp only [selF, hp, hq, if_true, Bool.or_self]
     have IH := IH (fun i => p (i + 1)) (fun i => q (i + 1)) (out ++ [x]) ho2
     rw [addGo, if_neg (by simp [lessF_irrefl]), hx]
     cases hs : selF l (fun i => p (i + 1)) with
     | nil => rw [hs] at IH; rw [addGo, pushF_old, IH]; simp
     | cons z a =>
       rw [hs] at IH
       have hz := h1 z (mem_sel (by rw [hs]; simp))
       rw [addGo, if_pos hz, pushF_old, IH]; simp
theorem mergeGo_nil (a out : List Ev) : mergeGo a [] out = out ++ a := by cases a <;> simp [mergeGo]
theorem mergeGo_sel : ∀ (l : List Ev) (p q : Nat → Bool) (out : List Ev), Asc l → mergeGo (selF l p) (selF l q) out = out ++ selF l (fun i => p i || q i)
 | [], p, q, out, _ => by simp [selF, mergeGo]
 | x :: l, p, q, out, h => by
   have h1 := (List.pairwise_cons.1 h).1
   have h2 := (List.pairwise_cons.1 h).2
   have IH := fun p q out => mergeGo_sel l p q out h2
   cases hp : p 0 <;> cases hq : q 0
   · simp only [selF, hp, hq, Bool.false_eq_true, if_false, Bool.or_self]
     exact IH _ _ _
   · simp only [selF, hp, hq, Bool.false_eq_true, if_false, if_true, Bool.false_or, Bool.or_true]
     have IH := IH (fun i => p (i + 1)) (fun i => q (i + 1)) (out ++ [x])
     cases hs : selF l (fun i => p (i + 1)) with
     | nil => rw [hs] at IH; rw [mergeGo] at IH ⊢; rw [show out ++ x :: selF l (fun i => q (i + 1)) = out ++ [x] ++ selF l (fun i => q (i + 1)) by simp, IH]; simp
     | cons z a =>
       rw [hs] at IH
       have hz := h1 z (mem_sel (by rw [hs]; simp))
       rw [mergeGo, if_neg (by simp [lessF_asymm hz]), if_pos hz, IH]; simp
   · simp only [selF, hp, hq, Bool.false_eq_true, if_false, if_true, Bool.or_false]
     have IH := IH (fun i => p (i + 1)) (fun i => q (i + 1)) (out ++ [x])
     cases hs : selF l (fun i => q (i + 1)) with
     | nil => rw [hs] at IH; rw [mergeGo_nil] at IH ⊢; rw [show out ++ x :: selF l (fun i => p (i + 1)) = out ++ [x] ++ selF l (fun i => p (i + 1)) by simp, IH]; simp
     | cons z b =>
       rw [hs] at IH
       have hz := h1 z (mem_sel (by rw [hs]; simp))
       rw [mergeGo, if_pos hz, IH]; simp
   · simp only [selF, hp, hq, if_true, Bool.or_self]
     have IH := IH (fun i => p (i + 1)) (fun i => q (i + 1)) (out ++ [x])
     rw [mergeGo, if_neg (by simp [lessF_irrefl]), if_neg (by simp [lessF_irrefl]), IH]; simp
def insGo (l : List Ev) (e : Ev) : Nat → Nat
 | 0 => 0
 | i + 1 => match l[i]? with
   | some y => if lessF e y then insGo l e i else i + 1
   | none => i + 1
def insF (l : List Ev) (e : Ev) : List Ev := l.take (insGo l e l.length) ++ [e] ++ l.drop (insGo l e l.length)
theorem insGo_le (l : List Ev) (e : Ev) : ∀ i, insGo l e i ≤ i
 | 0 => by simp [insGo]
 | i + 1 => by
   have := insGo_le l e i
   unfold insGo
   split
   · split <;> omega
   · omega
theorem insert29 (l : List Ev) (e : Ev) (hl : l.length ≤ 2 ^ 30) : ACall Tryz.prog 27 [.sl 10 (evE l), .agg (evC e)] [] (.osl 0 (insF l e).length 10) [some ⟨48, 10, evE (insF l e)⟩] := by
 refine acall 34 0 Tryz.func27 rfl rfl rfl (by simp) rfl rfl ?_
 intro C hN hk
 have hle := insGo_le l e l.length
 refine nx ?_; refine rG hN hk noc [] [0, 3] fun K hK => ?_; simp only [go_sem, seval]; refine hK _ _ ?_
 clear hK K; refine nx ?_
 refine rG hN hk noc [] [0, 3, 5] fun K hK => ?_; simp only [go_sem, seval]
 (first | with_reducible refine hK _ _ ?_ | refine obK (hK _ _ ?_)); clear hK K; refine nx ?_
 refine lpF hk 1 (fun i : Nat => ⟨[(0, .sl 10 (evE l)), (3, .ptr 0 10 0 0), (5, I i)], [(0, some ⟨48, 10, [evC e]⟩)]⟩) (fun i => i ≤ l.length ∧ insGo l e i = insGo l e l.length) (fun i => i) l.length (mkWk [some 0] [] (by simp [wkEnv, lk, lkh, I, str, B, U8, U64, U32, evC] <;> omega) (by first | (simp [wkHp, wkHp1, wkEnt, lkh, evC]; done) | simp [wkHp, wkHp1, wkEnt, lkh, I, str, evC])) ?_
 rintro i ⟨h1, h2⟩
 have fin : ∀ k, k = insGo l e l.length → (l.take k ++ [e] ++ l.drop k) = insF l e := by intro k hk; subst hk; rfl
 cases i with
 | zero =>
   have hf := fin 0 h2
   simp only [List.take_zero, List.drop_zero, List.nil_append] at hf
   have d0 : decide (((0 : Nat) : Int) > 0) = false := by simp
   have hfl : (insF l e).length = 1 + l.length := by rw [← hf]; simp; omega
   refine nx ?_
   refine rD hN hk noc [] [0, 3, 5, 19] fun K tok htok hK => ?_
   simp only [go_sem, seval, d0]
   try simp (disch := omega) only [au]
   try simp only [go_sem, seval, d0]
   refine ⟨htok _ (by decide +kernel), ?_⟩
   (first | with_reducible refine hK _ _ ?_ | refine obK (hK _ _ ?_)); clear hK K htok tok
   refine nx ?_; refine cF ?_; refine nx ?_; refine rG hN hk noc [] [0, 3, 5, 6] fun K hK => ?_; simp only [go_sem, seval]
   (first | with_reducible refine hK _ _ ?_ | refine obK (hK _ _ ?_)); clear hK K; refine nx ?_
   refine rD hN hk noc [] [4] fun K tok htok hK => ?_
   simp only [go_sem, seval]
   refine ⟨htok _ (by decide +kernel), ?_⟩
   (first | with_reducible refine hK _ _ ?_ | refine obK (hK _ _ ?_)); clear hK K htok tok
   refine nx ?_
   rw [← hf]
   have hcons : ∀ l, evE (e :: l) = evC e :: evE l := fun _ => rfl
   refine AW.ret (mkRet [some 0] [] rfl (by simp [resOf, lk, lkh, I, str, B, U8, U64, U32, hcons, evC, idLtL, idLt] <;> omega) (by first | (simp [wkHp, wkHp1, wkEnt, lkh, hcons, evC, idLtL, idLt]; done) | simp [wkHp, wkHp1, wkEnt, lkh, I, str, hcons, evC, idLtL, idLt]))
 | succ j =>
   have hj : j < l.length := by omega
   have hx := List.getElem?_eq_getElem hj
   have q := less12 e l[j]
   have h3 : insGo l e (j + 1) = if lessF e l[j] then insGo l e j else j + 1 := by rw [insGo, hx]
   have e1 : (((j + 1 : Nat) : Int) - 1) = (j : Int) := by omega
   have d0 : decide (((j + 1 : Nat) : Int) > 0) = true := by simp
   have w1 := wrap64 (n := (j : Int)) (by omega)
   generalize l[j] = y at *
   cases hb : lessF e y with
   | true =>
     rw [hb] at q h3
     rw [if_pos rfl] at h3
     refine nx ?_
     refine rD hN hk (onc 9 (pcq q) noc) [] [0, 3, 5, 19] fun K tok htok hK => ?_
     simp only [go_sem, seval, d0, e1, w1, hx]
     try simp (disch := omega) only [au]
     try simp only [go_sem, seval, d0, e1, w1, hx]
     refine ⟨htok _ (by decide +kernel), ?_⟩
     refine obK (hK _ _ ?_); clear hK K htok tok
     refine nx ?_; refine cT ?_; refine nx ?_; refine rG hN hk noc [] [0, 3, 5] fun K hK => ?_; simp only [go_sem, seval, e1, w1]
     try simp (disch := omega) only [au]
     refine hK _ _ ?_; clear hK K; refine nx ?_
     refine ⟨j, (by first | assumption | omega | (simp; done) | ((repeat' apply And.intro) <;> first | assumption | omega | (simp; done) | (simp; omega))), (by first | omega | (simp; omega)), ⟨[some 0], [], ⟨by simp [srcIds], by simp [srcIds], by simp⟩, by simp, by simp [wkEnv, lk, lkh, I, str, B, U8, U64, U32, evC] <;> omega, by first | (simp [wkHp, wkHp1, wkEnt, lkh, evC]; done) | (simp [wkHp, wkHp1, wkEnt, lkh, I, str, evC]; done) | simp [wkHp, wkHp1, wkEnt, lkh, I, str, evC]⟩⟩
   | false =>
     rw [hb] at q h3
     rw [if_neg (by simp)] at h3
     have hf := fin (j + 1) (by omega)
     have e3 : (((j + 1 : Nat) : Int)).toNat = j + 1 := by omega
     have hfl : (insF l e).length = l.length + 1 := by rw [← hf]; simp; omega
     refine nx ?_
     refine rD hN hk (onc 9 (pcq q) noc) [] [0, 3, 5, 19] fun K tok htok hK => ?_
     simp only [go_sem, seval, d0, e1, w1, hx]
     try simp (disch := omega) only [au]
     try simp only [go_sem, seval, d0, e1, w1, hx]
     refine ⟨htok _ (by decide +kernel), ?_⟩
     refine obK (hK _ _ ?_); clear hK K htok tok
     refine nx ?_; refine cF ?_; refine nx ?_; refine rG hN hk noc [] [0, 3, 5, 6] fun K hK => ?_; simp only [go_sem, seval, e3]
     (first | with_reducible refine hK _ _ ?_ | refine obK (hK _ _ ?_)); clear hK K; refine nx ?_
     refine rD hN hk noc [] [4] fun K tok htok hK => ?_
     simp only [go_sem, seval, e3]
     refine ⟨htok _ (by decide +kernel), ?_⟩
     (first | with_reducible refine hK _ _ ?_ | refine obK (hK _ _ ?_)); clear hK K htok tok
     refine nx ?_
     rw [← hf]
     refine AW.ret (mkRet [some 0] [] rfl (by simp [resOf, lk, lkh, I, str, B, U8, U64, U32] <;> omega) (by first | (simp [wkHp, wkHp1, wkEnt, lkh]; done) | simp [wkHp, wkHp1, wkEnt, lkh, I, str]))
theorem ascending31 (l : List Ev) (hl : l.length ≤ 2 ^ 30) (ha : Asc l) : ACall Tryz.prog 21 [.sl 10 (evE l)] [] (B true) [] := by
 refine acall 20 0 Tryz.func21 rfl rfl rfl (by simp) rfl rfl ?_
 intro C hN hk
 refine nx ?_; refine rG hN hk noc [] [0] fun K hK => ?_; simp only [go_sem, seval]; refine hK _ _ ?_
 clear hK K; refine nx ?_
 refine rG hN hk noc [] [0, 3] fun K hK => ?_; simp only [go_sem, seval]; refine hK _ _ ?_
 clear hK K; refine nx ?_
 refine lpF hk 0 (fun i : Nat => ⟨[(0, .sl 10 (evE l)), (3, I i)], []⟩) (fun i => 1 ≤ i ∧ (i ≤ l.length ∨ i = 1)) (fun i => l.length - i) 1 (mkWk [] [] (by simp [wkEnv, lk, lkh, I, str, B, U8, U64, U32] <;> omega) (by first | (simp [wkHp, wkHp1, wkEnt, lkh]; done) | simp [wkHp, wkHp1, wkEnt, lkh, I, str])) ?_
 rintro i ⟨h0, h1⟩
 by_cases hi : i < l.length
 · have hx := List.getElem?_eq_getElem hi
   have hj : i - 1 < l.length := by omega
   have hy := List.getElem?_eq_getElem hj
   have hls := lessF_asymm (List.pairwise_iff_getElem.1 ha (i - 1) i hj hi (by omega))
   have q := less12 l[i] l[i - 1]
   rw [hls] at q
   have w1 := wrap64 (n := (i : Int) - 1) (by omega)
   have e1 : ((i : Int) - 1).toNat = i - 1 := by omega
   generalize l[i] = x at *
   generalize l[i - 1] = y at *
   refine nx ?_; refine rG hN hk noc [] [0, 3, 7] fun K hK => ?_; simp only [go_sem, seval]
   try simp (disch := omega) only [au]
   (first | with_reducible refine hK _ _ ?_ | refine obK (hK _ _ ?_)); clear hK K; refine nx ?_
   refine cT ?_; refine nx ?_
   refine rD hN hk (onc 9 (pcq q) noc) [] [0, 3, 19] fun K tok htok hK => ?_
   simp only [go_sem, seval, hx, w1, e1, hy]
   try simp (disch := omega) only [au]
   refine ⟨htok _ (by decide +kernel), ?_⟩
   refine obK (hK _ _ ?_); clear hK K htok tok
   refine nx ?_; refine cF ?_; refine nx ?_; refine rG hN hk noc [] [0, 3] fun K hK => ?_; simp only [go_sem, seval]
   try simp (disch := omega) only [au]
   refine hK _ _ ?_; clear hK K; refine nx ?_
   refine ⟨i + 1, (by first | assumption | omega | (simp; done) | ((repeat' apply And.intro) <;> first | assumption | omega | (simp; done) | (simp; omega))), (by first | omega | (simp; omega)), ⟨[], [], ⟨by simp [srcIds], by simp [srcIds], by simp⟩, by simp, by simp [wkEnv, lk, lkh, I, str, B, U8, U64, U32] <;> omega, by first | (simp [wkHp, wkHp1, wkEnt, lkh]; done) | (simp [wkHp, wkHp1, wkEnt, lkh, I, str]; done) | simp [wkHp, wkHp1, wkEnt, lkh, I, str]⟩⟩
 · refine nx ?_
   refine rG hN hk noc [] [0, 3, 7] fun K hK => ?_; simp only [go_sem, seval]
   try simp (disch := omega) only [au]
   (first | with_reducible refine hK _ _ ?_ | refine obK (hK _ _ ?_)); clear hK K; refine nx ?_
   refine cF ?_; refine nx ?_; refine rG hN hk noc [] [2] fun K hK => ?_; simp only [go_sem, seval]; refine hK _ _ ?_
   clear hK K; refine nx ?_
   refine AW.ret (mkRet [] [] rfl (by simp [resOf, lk, lkh, I, str, B, U8, U64, U32] <;> omega) (by first | (simp [wkHp, wkHp1, wkEnt, lkh]; done) | simp [wkHp, wkHp1, wkEnt, lkh, I, str]))
def addR (a b : List Ev) : List Ev := addGo a b []
theorem drop_cons {l : List Ev} {i : Nat} (h : i < l.length) : l.drop i = l[i] :: l.drop (i + 1) := List.drop_eq_getElem_cons h
theorem drop_cons' {l : List Ev} {i : Nat} {x : Ev} (h : l[i]? = some x) : l.drop i = x :: l.drop (i + 1) := by
 obtain ⟨hi, rfl⟩ := List.getElem?_eq_some_iff.1 h
 exact drop_cons hi
theorem pushF_len (out : List Ev) (x : Ev) : (pushF out x).length ≤ out.length + 1 := by
 unfold pushF
 split
 · simp
 · split <;> simp
theorem add31 (a b : List Ev) (ha : a.length ≤ 2 ^ 30) (hb : b.length ≤ 2 ^ 30) : ACall Tryz.prog 22 [.sl 10 (evE a), .sl 10 (evE b)] [] (.osl 0 (addR a b).length 10) [some ⟨48, 10, evE (addR a b)⟩] := by
 refine acall 71 0 Tryz.func22 rfl rfl rfl (by simp) rfl rfl ?_
 intro C hN hk
 unfold addR
 refine nx ?_; refine rG hN hk noc [] [0, 1] fun K hK => ?_; simp only [go_sem, seval]; refine hK _ _ ?_
 clear hK K; refine nx ?_
 refine rG hN hk noc [] [0, 1, 5] fun K hK => ?_; simp only [go_sem, seval]; refine hK _ _ ?_
 clear hK K; refine nx ?_
 refine rG hN hk noc [] [0, 1, 5, 6, 7] fun K hK => ?_; simp only [go_sem, seval]; refine hK _ _ ?_
 clear hK K; refine nx ?_
 refine lpF hk 1 (fun s : Nat × Nat × List Ev => ⟨[(0, .sl 10 (evE a)), (1, .sl 10 (evE b)), (5, .osl 0 s.2.2.length 10), (6, I s.1), (7, I s.2.1)], [(0, some ⟨48, 10, evE s.2.2⟩)]⟩) (fun s => s.1 ≤ a.length ∧ s.2.1 ≤ b.length ∧ s.2.2.length ≤ s.1 + s.2.1 ∧ addGo (a.drop s.1) (b.drop s.2.1) s.2.2 = addGo a b []) (fun s => (a.length - s.1) + (b.length - s.2.1)) (0, 0, []) (mkWk [none] [] (by simp [wkEnv, lk, lkh, I, str, B, U8, U64, U32] <;> omega) (by first | (simp [wkHp, wkHp1, wkEnt, lkh]; done) | simp [wkHp, wkHp1, wkEnt, lkh, I, str])) ?_
 rintro ⟨i, k, out⟩ ⟨h1, h2, h3, h4⟩
 simp only at h1 h2 h3 h4
 by_cases hend : i < a.length ∨ k < b.length
 · have push : ∀ z : Nat × Nat × Ev, (z.1 ≤ a.length ∧ z.2.1 ≤ b.length ∧ out.length + 1 ≤ z.1 + z.2.1 ∧ (a.length - z.1) + (b.length - z.2.1) < (a.length - i) + (b.length - k) ∧ addGo (a.drop z.1) (b.drop z.2.1) (pushF out z.2.2) = addGo a b []) → True := fun _ _ => trivial
   clear push
   rcases dq ((i : Int) < a.length) with ⟨p0, e0⟩ | ⟨p0, e0⟩
   · have hia : i < a.length := by omega
     have hx := List.getElem?_eq_getElem hia
     rcases dq ((k : Int) < b.length) with ⟨p1, e1⟩ | ⟨p1, e1⟩
     · have hkb : k < b.length := by omega
       have hy := List.getElem?_eq_getElem hkb
       have f0 := iEqF (a := (k : Int)) (b := b.length) (by omega)
       rw [drop_cons hia, drop_cons hkb] at h4
       have q := less12 b[k] a[i]
       generalize a[i] = x at *
       generalize b[k] = y at *
       cases hl : lessF y x with
       | true =>
         rw [addGo, if_pos hl, ← drop_cons' hx] at h4
         rw [hl] at q
         refine nx ?_; refine rG hN hk noc [] [0, 1, 5, 6, 7, 18] fun K hK => ?_; simp only [go_sem, seval, e0, e1]
         try simp (disch := omega) only [au]
         try simp only [go_sem, seval, e0, e1]
         (first | with_reducible refine hK _ _ ?_ | refine obK (hK _ _ ?_)); clear hK K; refine nx ?_
         refine cT ?_; refine nx ?_; refine rG hN hk noc [] [0, 1, 5, 6, 7, 8] fun K hK => ?_; simp only [go_sem, seval]; refine hK _ _ ?_
         clear hK K; refine nx ?_
         refine rD hN hk (onc 18 (pcq q) noc) [] [0, 1, 5, 6, 7, 8, 40] fun K tok htok hK => ?_
         simp only [go_sem, seval, f0, e0, hx, hy]
         try simp (disch := omega) only [au]
         try simp only [go_sem, seval, f0, e0, hx, hy]
         iterate 2 try (simp (disch := omega) only [au]; try simp only [go_sem, seval, f0, e0, hx, hy])
         refine ⟨htok _ (by decide +kernel), ?_⟩
         refine obK (hK _ _ ?_); clear hK K htok tok
         refine nx ?_
         refine AW.joinF hk 2 (fun z : Nat × Nat × Ev => ⟨[(0, .sl 10 (evE a)), (1, .sl 10 (evE b)), (5, .osl 0 out.length 10), (6, I z.1), (7, I z.2.1), (8, .ptr 1 10 0 0)], [(0, some ⟨48, 10, evE out⟩), (1, some ⟨48, 10, [evC z.2.2]⟩)]⟩) (fun z => z.1 ≤ a.length ∧ z.2.1 ≤ b.length ∧ out.length + 1 ≤ z.1 + z.2.1 ∧ (a.length - z.1) + (b.length - z.2.1) < (a.length - i) + (b.length - k) ∧ addGo (a.drop z.1) (b.drop z.2.1) (pushF out z.2.2) = addGo a b []) ?_ ?_
         · refine cF ?_
           refine nx ?_; refine rG hN hk noc [] [0, 1, 5, 6, 7, 8] fun K hK => ?_; simp only [go_sem, seval, hy]
           (first | with_reducible refine hK _ _ ?_ | refine obK (hK _ _ ?_)); clear hK K; refine nx ?_
           refine rG hN hk noc [] [0, 1, 5, 6, 7, 8] fun K hK => ?_; simp only [go_sem, seval]
           try simp (disch := omega) only [au]
           refine hK _ _ ?_; clear hK K; refine nx ?_
           refine ⟨(i, k + 1, y), (by first | assumption | omega | (simp; done) | ((repeat' apply And.intro) <;> first | assumption | omega | (simp; done) | (simp; omega))), ⟨[some 0, some 1], [], ⟨by simp [srcIds], by simp [srcIds], by simp⟩, by simp, by simp [wkEnv, lk, lkh, I, str, B, U8, U64, U32, evC] <;> omega, by first | (simp [wkHp, wkHp1, wkEnt, lkh, evC]; done) | (simp [wkHp, wkHp1, wkEnt, lkh, I, str, evC]; done) | simp [wkHp, wkHp1, wkEnt, lkh, I, str, evC]⟩⟩
         · rintro ⟨i', k', x'⟩ ⟨g1, g2, g3, g4, g5⟩
           simp only at g1 g2 g3 g4 g5
           cases hlast : out.getLast? with
           | none =>
             have ho : out = [] := by simpa using hlast
             have hp : pushF out x' = out ++ [x'] := by simp [pushF, hlast]
             rw [hp] at g5
             have f1 : (((out.length : Nat) : Int) == 0) = true := by rw [ho]; rfl
             refine nx ?_
             refine rD hN hk noc [] [0, 1, 5, 6, 7, 8, 65] fun K tok htok hK => ?_
             simp only [go_sem, seval, f1]
             try simp (disch := omega) only [au]
             try simp only [go_sem, seval, f1]
             refine ⟨htok _ (by decide +kernel), ?_⟩
             (first | with_reducible refine hK _ _ ?_ | refine obK (hK _ _ ?_)); clear hK K htok tok
             refine nx ?_; refine cT ?_; refine nx ?_; refine rG hN hk noc [] [0, 1, 5, 6, 7] fun K hK => ?_; simp only [go_sem, seval]
             (first | with_reducible refine hK _ _ ?_ | refine obK (hK _ _ ?_)); clear hK K; refine nx ?_
             refine ⟨(i', k', out ++ [x']), (by first | assumption | omega | (simp; done) | ((repeat' apply And.intro) <;> first | assumption | omega | (simp; done) | (simp; omega))), (by first | omega | (simp; omega)), ⟨[some 0], [], ⟨by simp [srcIds], by simp [srcIds], by simp⟩, by simp, by simp [wkEnv, lk, lkh, I, str, B, U8, U64, U32] <;> omega, by first | (simp [wkHp, wkHp1, wkEnt, lkh]; done) | (simp [wkHp, wkHp1, wkEnt, lkh, I, str]; done) | simp [wkHp, wkHp1, wkEnt, lkh, I, str]⟩⟩
           | some y' =>
             have ho : 0 < out.length := by cases out <;> simp at hlast ⊢
             have hyl : out[out.length - 1]? = some y' := by rw [← List.getLast?_eq_getElem?]; exact hlast
             have f1 : (((out.length : Nat) : Int) == 0) = false := iEqF (by omega)
             have w1 := wrap64 (n := (out.length : Int) - 1) (by omega)
             have e1 : ((out.length : Int) - 1).toNat = out.length - 1 := by omega
             have q2 := less12 y' x'
             cases hb2 : lessF y' x' with
             | true =>
               have hp : pushF out x' = out ++ [x'] := by simp [pushF, hlast, hb2]
               rw [hp] at g5
               rw [hb2] at q2
               refine nx ?_
               refine rD hN hk (onc 11 (pcq q2) noc) [] [0, 1, 5, 6, 7, 8, 65] fun K tok htok hK => ?_
               simp only [go_sem, seval, f1, w1, e1, hyl]
               try simp (disch := omega) only [au]
               try simp only [go_sem, seval, f1, w1, e1, hyl]
               refine ⟨htok _ (by decide +kernel), ?_⟩
               refine obK (hK _ _ ?_); clear hK K htok tok
               refine nx ?_; refine cT ?_; refine nx ?_; refine rG hN hk noc [] [0, 1, 5, 6, 7] fun K hK => ?_; simp only [go_sem, seval]
               (first | with_reducible refine hK _ _ ?_ | refine obK (hK _ _ ?_)); clear hK K; refine nx ?_
               refine ⟨(i', k', out ++ [x']), (by first | assumption | omega | (simp; done) | ((repeat' apply And.intro) <;> first | assumption | omega | (simp; done) | (simp; omega))), (by first | omega | (simp; omega)), ⟨[some 0], [], ⟨by simp [srcIds], by simp [srcIds], by simp⟩, by simp, by simp [wkEnv, lk, lkh, I, str, B, U8, U64, U32] <;> omega, by first | (simp [wkHp, wkHp1, wkEnt, lkh]; done) | (simp [wkHp, wkHp1, wkEnt, lkh, I, str]; done) | simp [wkHp, wkHp1, wkEnt, lkh, I, str]⟩⟩
             | false =>
               have hp : pushF out x' = out := by simp [pushF, hlast, hb2]
               rw [hp] at g5
               rw [hb2] at q2
               refine nx ?_
               refine rD hN hk (onc 11 (pcq q2) noc) [] [0, 1, 5, 6, 7, 8, 65] fun K tok htok hK => ?_
               simp only [go_sem, seval, f1, w1, e1, hyl]
               try simp (disch := omega) only [au]
               try simp only [go_sem, seval, f1, w1, e1, hyl]
               refine ⟨htok _ (by decide +kernel), ?_⟩
               refine obK (hK _ _ ?_); clear hK K htok tok
               refine nx ?_; refine cF ?_; refine nx ?_
               refine ⟨(i', k', out), (by first | assumption | omega | (simp; done) | ((repeat' apply And.intro) <;> first | assumption | omega | (simp; done) | (simp; omega))), (by first | omega | (simp; omega)), ⟨[some 0], [], ⟨by simp [srcIds], by simp [srcIds], by simp⟩, by simp, by simp [wkEnv, lk, lkh, I, str, B, U8, U64, U32] <;> omega, by first | (simp [wkHp, wkHp1, wkEnt, lkh]; done) | (simp [wkHp, wkHp1, wkEnt, lkh, I, str]; done) | simp [wkHp, wkHp1, wkEnt, lkh, I, str]⟩⟩
       | false =>
         rw [addGo, if_neg (by simp [hl]), ← drop_cons' hy] at h4
         rw [hl] at q
         refine nx ?_; refine rG hN hk noc [] [0, 1, 5, 6, 7, 18] fun K hK => ?_; simp only [go_sem, seval, e0, e1]
         try simp (disch := omega) only [au]
         try simp only [go_sem, seval, e0, e1]
         (first | with_reducible refine hK _ _ ?_ | refine obK (hK _ _ ?_)); clear hK K; refine nx ?_
         refine cT ?_; refine nx ?_; refine rG hN hk noc [] [0, 1, 5, 6, 7, 8] fun K hK => ?_; simp only [go_sem, seval]; refine hK _ _ ?_
         clear hK K; refine nx ?_
         refine rD hN hk (onc 18 (pcq q) noc) [] [0, 1, 5, 6, 7, 8, 40] fun K tok htok hK => ?_
         simp only [go_sem, seval, f0, e0, hx, hy]
         try simp (disch := omega) only [au]
         try simp only [go_sem, seval, f0, e0, hx, hy]
         iterate 2 try (simp (disch := omega) only [au]; try simp only [go_sem, seval, f0, e0, hx, hy])
         refine ⟨htok _ (by decide +kernel), ?_⟩
         refine obK (hK _ _ ?_); clear hK K htok tok
         refine nx ?_
         refine AW.joinF hk 2 (fun z : Nat × Nat × Ev => ⟨[(0, .sl 10 (evE a)), (1, .sl 10 (evE b)), (5, .osl 0 out.length 10), (6, I z.1), (7, I z.2.1), (8, .ptr 1 10 0 0)], [(0, some ⟨48, 10, evE out⟩), (1, some ⟨48, 10, [evC z.2.2]⟩)]⟩) (fun z => z.1 ≤ a.length ∧ z.2.1 ≤ b.length ∧ out.length + 1 ≤ z.1 + z.2.1 ∧ (a.length - z.1) + (b.length - z.2.1) < (a.length - i) + (b.length - k) ∧ addGo (a.drop z.1) (b.drop z.2.1) (pushF out z.2.2) = addGo a b []) ?_ ?_
         · refine cT ?_
           refine nx ?_; refine rG hN hk noc [] [0, 1, 5, 6, 7, 8] fun K hK => ?_; simp only [go_sem, seval, hx]
           (first | with_reducible refine hK _ _ ?_ | refine obK (hK _ _ ?_)); clear hK K; refine nx ?_
           refine rG hN hk noc [] [0, 1, 5, 6, 7, 8] fun K hK => ?_; simp only [go_sem, seval]
           try simp (disch := omega) only [au]
           refine hK _ _ ?_; clear hK K; refine nx ?_
           refine ⟨(i + 1, k, x), (by first | assumption | omega | (simp; done) | ((repeat' apply And.intro) <;> first | assumption | omega | (simp; done) | (simp; omega))), ⟨[some 0, some 1], [], ⟨by simp [srcIds], by simp [srcIds], by simp⟩, by simp, by simp [wkEnv, lk, lkh, I, str, B, U8, U64, U32, evC] <;> omega, by first | (simp [wkHp, wkHp1, wkEnt, lkh, evC]; done) | (simp [wkHp, wkHp1, wkEnt, lkh, I, str, evC]; done) | simp [wkHp, wkHp1, wkEnt, lkh, I, str, evC]⟩⟩
         · rintro ⟨i', k', x'⟩ ⟨g1, g2, g3, g4, g5⟩
           simp only at g1 g2 g3 g4 g5
           cases hlast : out.getLast? with
           | none =>
             have ho : out = [] := by simpa using hlast
             have hp : pushF out x' = out ++ [x'] := by simp [pushF, hlast]
             rw [hp] at g5
             have f1 : (((out.length : Nat) : Int) == 0) = true := by rw [ho]; rfl
             refine nx ?_
             refine rD hN hk noc [] [0, 1, 5, 6, 7, 8, 65] fun K tok htok hK => ?_
             simp only [go_sem, seval, f1]
             try simp (disch := omega) only [au]
             try simp only [go_sem, seval, f1]
             refine ⟨htok _ (by decide +kernel), ?_⟩
             (first | with_reducible refine hK _ _ ?_ | refine obK (hK _ _ ?_)); clear hK K htok tok
             refine nx ?_; refine cT ?_; refine nx ?_; refine rG hN hk noc [] [0, 1, 5, 6, 7] fun K hK => ?_; simp only [go_sem, seval]
             (first | with_reducible refine hK _ _ ?_ | refine obK (hK _ _ ?_)); clear hK K; refine nx ?_
             refine ⟨(i', k', out ++ [x']), (by first | assumption | omega | (simp; done) | ((repeat' apply And.intro) <;> first | assumption | omega | (simp; done) | (simp; omega))), (by first | omega | (simp; omega)), ⟨[some 0], [], ⟨by simp [srcIds], by simp [srcIds], by simp⟩, by simp, by simp [wkEnv, lk, lkh, I, str, B, U8, U64, U32] <;> omega, by first | (simp [wkHp, wkHp1, wkEnt, lkh]; done) | (simp [wkHp, wkHp1, wkEnt, lkh, I, str]; done) | simp [wkHp, wkHp1, wkEnt, lkh, I, str]⟩⟩
           | some y' =>
             have ho : 0 < out.length := by cases out <;> simp at hlast ⊢
             have hyl : out[out.length - 1]? = some y' := by rw [← List.getLast?_eq_getElem?]; exact hlast
             have f1 : (((out.length : Nat) : Int) == 0) = false := iEqF (by omega)
             have w1 := wrap64 (n := (out.length : Int) - 1) (by omega)
             have e1 : ((out.length : Int) - 1).toNat = out.length - 1 := by omega
             have q2 := less12 y' x'
             cases hb2 : lessF y' x' with
             | true =>
               have hp : pushF out x' = out ++ [x'] := by simp [pushF, hlast, hb2]
               rw [hp] at g5
               rw [hb2] at q2
               refine nx ?_
               refine rD hN hk (onc 11 (pcq q2) noc) [] [0, 1, 5, 6, 7, 8, 65] fun K tok htok hK => ?_
               simp only [go_sem, seval, f1, w1, e1, hyl]
               try simp (disch := omega) only [au]
               try simp only [go_sem, seval, f1, w1, e1, hyl]
               refine ⟨htok _ (by decide +kernel), ?_⟩
               refine obK (hK _ _ ?_); clear hK K htok tok
               refine nx ?_; refine cT ?_; refine nx ?_; refine rG hN hk noc [] [0, 1, 5, 6, 7] fun K hK => ?_; simp only [go_sem, seval]
               (first | with_reducible refine hK _ _ ?_ | refine obK (hK _ _ ?_)); clear hK K; refine nx ?_
               refine ⟨(i', k', out ++ [x']), (by first | assumption | omega | (simp; done) | ((repeat' apply And.intro) <;> first | assumption | omega | (simp; done) | (simp; omega))), (by first | omega | (simp; omega)), ⟨[some 0], [], ⟨by simp [srcIds], by simp [srcIds], by simp⟩, by simp, by simp [wkEnv, lk, lkh, I, str, B, U8, U64, U32] <;> omega, by first | (simp [wkHp, wkHp1, wkEnt, lkh]; done) | (simp [wkHp, wkHp1, wkEnt, lkh, I, str]; done) | simp [wkHp, wkHp1, wkEnt, lkh, I, str]⟩⟩
             | false =>
               have hp : pushF out x' = out := by simp [pushF, hlast, hb2]
               rw [hp] at g5
               rw [hb2] at q2
               refine nx ?_
               refine rD hN hk (onc 11 (pcq q2) noc) [] [0, 1, 5, 6, 7, 8, 65] fun K tok htok hK => ?_
               simp only [go_sem, seval, f1, w1, e1, hyl]
               try simp (disch := omega) only [au]
               try simp only [go_sem, seval, f1, w1, e1, hyl]
               refine ⟨htok _ (by decide +kernel), ?_⟩
               refine obK (hK _ _ ?_); clear hK K htok tok
               refine nx ?_; refine cF ?_; refine nx ?_
               refine ⟨(i', k', out), (by first | assumption | omega | (simp; done) | ((repeat' apply And.intro) <;> first | assumption | omega | (simp; done) | (simp; omega))), (by first | omega | (simp; omega)), ⟨[some 0], [], ⟨by simp [srcIds], by simp [srcIds], by simp⟩, by simp, by simp [wkEnv, lk, lkh, I, str, B, U8, U64, U32] <;> omega, by first | (simp [wkHp, wkHp1, wkEnt, lkh]; done) | (simp [wkHp, wkHp1, wkEnt, lkh, I, str]; done) | simp [wkHp, wkHp1, wkEnt, lkh, I, str]⟩⟩
     · have hkb : k = b.length := by omega
       have f0 := iEqT (a := (k : Int)) (b := b.length) (by omega)
       rw [drop_cons hia, hkb, List.drop_length, addGo] at h4
       generalize a[i] = x at *
       refine nx ?_; refine rG hN hk noc [] [0, 1, 5, 6, 7, 18] fun K hK => ?_; simp only [go_sem, seval, e0, e1]
       try simp (disch := omega) only [au]
       try simp only [go_sem, seval, e0, e1]
       (first | with_reducible refine hK _ _ ?_ | refine obK (hK _ _ ?_)); clear hK K; refine nx ?_
       refine cT ?_; refine nx ?_; refine rG hN hk noc [] [0, 1, 5, 6, 7, 8] fun K hK => ?_; simp only [go_sem, seval]; refine hK _ _ ?_
       clear hK K; refine nx ?_
       refine rD hN hk noc [] [0, 1, 5, 6, 7, 8, 40] fun K tok htok hK => ?_
       simp only [go_sem, seval, f0, e0, hx]
       try simp (disch := omega) only [au]
       try simp only [go_sem, seval, f0, e0, hx]
       iterate 2 try (simp (disch := omega) only [au]; try simp only [go_sem, seval, f0, e0, hx])
       refine ⟨htok _ (by decide +kernel), ?_⟩
       (first | with_reducible refine hK _ _ ?_ | refine obK (hK _ _ ?_)); clear hK K htok tok
       refine nx ?_
       refine AW.joinF hk 2 (fun z : Nat × Nat × Ev => ⟨[(0, .sl 10 (evE a)), (1, .sl 10 (evE b)), (5, .osl 0 out.length 10), (6, I z.1), (7, I z.2.1), (8, .ptr 1 10 0 0)], [(0, some ⟨48, 10, evE out⟩), (1, some ⟨48, 10, [evC z.2.2]⟩)]⟩) (fun z => z.1 ≤ a.length ∧ z.2.1 ≤ b.length ∧ out.length + 1 ≤ z.1 + z.2.1 ∧ (a.length - z.1) + (b.length - z.2.1) < (a.length - i) + (b.length - k) ∧ addGo (a.drop z.1) (b.drop z.2.1) (pushF out z.2.2) = addGo a b []) ?_ ?_
       · refine cT ?_
         refine nx ?_; refine rG hN hk noc [] [0, 1, 5, 6, 7, 8] fun K hK => ?_; simp only [go_sem, seval, hx]
         (first | with_reducible refine hK _ _ ?_ | refine obK (hK _ _ ?_)); clear hK K; refine nx ?_
         refine rG hN hk noc [] [0, 1, 5, 6, 7, 8] fun K hK => ?_; simp only [go_sem, seval]
         try simp (disch := omega) only [au]
         refine hK _ _ ?_; clear hK K; refine nx ?_
         have h4' : addGo (a.drop (i + 1)) (b.drop k) (pushF out x) = addGo a b [] := by rw [hkb, List.drop_length]; exact h4
         refine ⟨(i + 1, k, x), (by first | assumption | omega | (simp; done) | ((repeat' apply And.intro) <;> first | assumption | omega | (simp; done) | (simp; omega))), ⟨[some 0, some 1], [], ⟨by simp [srcIds], by simp [srcIds], by simp⟩, by simp, by simp [wkEnv, lk, lkh, I, str, B, U8, U64, U32, evC] <;> omega, by first | (simp [wkHp, wkHp1, wkEnt, lkh, evC]; done) | (simp [wkHp, wkHp1, wkEnt, lkh, I, str, evC]; done) | simp [wkHp, wkHp1, wkEnt, lkh, I, str, evC]⟩⟩
       · rintro ⟨i', k', x'⟩ ⟨g1, g2, g3, g4, g5⟩
         simp only at g1 g2 g3 g4 g5
         cases hlast : out.getLast? with
         | none =>
           have ho : out = [] := by simpa using hlast
           have hp : pushF out x' = out ++ [x'] := by simp [pushF, hlast]
           rw [hp] at g5
           have f1 : (((out.length : Nat) : Int) == 0) = true := by rw [ho]; rfl
           refine nx ?_
           refine rD hN hk noc [] [0, 1, 5, 6, 7, 8, 65] fun K tok htok hK => ?_
           simp only [go_sem, seval, f1]
           try simp (disch := omega) only [au]
           try simp only [go_sem, seval, f1]
           refine ⟨htok _ (by decide +kernel), ?_⟩
           (first | with_reducible refine hK _ _ ?_ | refine obK (hK _ _ ?_)); clear hK K htok tok
           refine nx ?_; refine cT ?_; refine nx ?_; refine rG hN hk noc [] [0, 1, 5, 6, 7] fun K hK => ?_; simp only [go_sem, seval]
           (first | with_reducible refine hK _ _ ?_ | refine obK (hK _ _ ?_)); clear hK K; refine nx ?_
           refine ⟨(i', k', out ++ [x']), (by first | assumption | omega | (simp; done) | ((repeat' apply And.intro) <;> first | assumption | omega | (simp; done) | (simp; omega))), (by first | omega | (simp; omega)), ⟨[some 0], [], ⟨by simp [srcIds], by simp [srcIds], by simp⟩, by simp, by simp [wkEnv, lk, lkh, I, str, B, U8, U64, U32] <;> omega, by first | (simp [wkHp, wkHp1, wkEnt, lkh]; done) | (simp [wkHp, wkHp1, wkEnt, lkh, I, str]; done) | simp [wkHp, wkHp1, wkEnt, lkh, I, str]⟩⟩
         | some y' =>
           have ho : 0 < out.length := by cases out <;> simp at hlast ⊢
           have hyl : out[out.length - 1]? = some y' := by rw [← List.getLast?_eq_getElem?]; exact hlast
           have f1 : (((out.length : Nat) : Int) == 0) = false := iEqF (by omega)
           have w1 := wrap64 (n := (out.length : Int) - 1) (by omega)
           have e1 : ((out.length : Int) - 1).toNat = out.length - 1 := by omega
           have q2 := less12 y' x'
           cases hb2 : lessF y' x' with
           | true =>
             have hp : pushF out x' = out ++ [x'] := by simp [pushF, hlast, hb2]
             rw [hp] at g5
             rw [hb2] at q2
             refine nx ?_
             refine rD hN hk (onc 11 (pcq q2) noc) [] [0, 1, 5, 6, 7, 8, 65] fun K tok htok hK => ?_
             simp only [go_sem, seval, f1, w1, e1, hyl]
             try simp (disch := omega) only [au]
             try simp only [go_sem, seval, f1, w1, e1, hyl]
             refine ⟨htok _ (by decide +kernel), ?_⟩
             refine obK (hK _ _ ?_); clear hK K htok tok
             refine nx ?_; refine cT ?_; refine nx ?_; refine rG hN hk noc [] [0, 1, 5, 6, 7] fun K hK => ?_; simp only [go_sem, seval]
             (first | with_reducible refine hK _ _ ?_ | refine obK (hK _ _ ?_)); clear hK K; refine nx ?_
             refine ⟨(i', k', out ++ [x']), (by first | assumption | omega | (simp; done) | ((repeat' apply And.intro) <;> first | assumption | omega | (simp; done) | (simp; omega))), (by first | omega | (simp; omega)), ⟨[some 0], [], ⟨by simp [srcIds], by simp [srcIds], by simp⟩, by simp, by simp [wkEnv, lk, lkh, I, str, B, U8, U64, U32] <;> omega, by first | (simp [wkHp, wkHp1, wkEnt, lkh]; done) | (simp [wkHp, wkHp1, wkEnt, lkh, I, str]; done) | simp [wkHp, wkHp1, wkEnt, lkh, I, str]⟩⟩
           | false =>
             have hp : pushF out x' = out := by simp [pushF, hlast, hb2]
             rw [hp] at g5
             rw [hb2] at q2
             refine nx ?_
             refine rD hN hk (onc 11 (pcq q2) noc) [] [0, 1, 5, 6, 7, 8, 65] fun K tok htok hK => ?_
             simp only [go_sem, seval, f1, w1, e1, hyl]
             try simp (disch := omega) only [au]
             try simp only [go_sem, seval, f1, w1, e1, hyl]
             refine ⟨htok _ (by decide +kernel), ?_⟩
             refine obK (hK _ _ ?_); clear hK K htok tok
             refine nx ?_; refine cF ?_; refine nx ?_
             refine ⟨(i', k', out), (by first | assumption | omega | (simp; done) | ((repeat' apply And.intro) <;> first | assumption | omega | (simp; done) | (simp; omega))), (by first | omega | (simp; omega)), ⟨[some 0], [], ⟨by simp [srcIds], by simp [srcIds], by simp⟩, by simp, by simp [wkEnv, lk, lkh, I, str, B, U8, U64, U32] <;> omega, by first | (simp [wkHp, wkHp1, wkEnt, lkh]; done) | (simp [wkHp, wkHp1, wkEnt, lkh, I, str]; done) | simp [wkHp, wkHp1, wkEnt, lkh, I, str]⟩⟩
   · have hia : i = a.length := by omega
     have hkb : k < b.length := by omega
     have hy := List.getElem?_eq_getElem hkb
     have e1 := dLtT (a := (k : Int)) (b := b.length) (by omega)
     have f0 := iEqF (a := (k : Int)) (b := b.length) (by omega)
     rw [drop_cons hkb, hia, List.drop_length, addGo] at h4
     generalize b[k] = y at *
     refine nx ?_; refine rG hN hk noc [] [0, 1, 5, 6, 7, 18] fun K hK => ?_; simp only [go_sem, seval, e0, e1]
     try simp (disch := omega) only [au]
     try simp only [go_sem, seval, e0, e1]
     (first | with_reducible refine hK _ _ ?_ | refine obK (hK _ _ ?_)); clear hK K; refine nx ?_
     refine cT ?_; refine nx ?_; refine rG hN hk noc [] [0, 1, 5, 6, 7, 8] fun K hK => ?_; simp only [go_sem, seval]; refine hK _ _ ?_
     clear hK K; refine nx ?_
     refine rD hN hk noc [] [0, 1, 5, 6, 7, 8, 40] fun K tok htok hK => ?_
     simp only [go_sem, seval, f0, e0]
     try simp (disch := omega) only [au]
     try simp only [go_sem, seval, f0, e0]
     iterate 2 try (simp (disch := omega) only [au]; try simp only [go_sem, seval, f0, e0])
     refine ⟨htok _ (by decide +kernel), ?_⟩
     (first | with_reducible refine hK _ _ ?_ | refine obK (hK _ _ ?_)); clear hK K htok tok
     refine nx ?_
     refine AW.joinF hk 2 (fun z : Nat × Nat × Ev => ⟨[(0, .sl 10 (evE a)), (1, .sl 10 (evE b)), (5, .osl 0 out.length 10), (6, I z.1), (7, I z.2.1), (8, .ptr 1 10 0 0)], [(0, some ⟨48, 10, evE out⟩), (1, some ⟨48, 10, [evC z.2.2]⟩)]⟩) (fun z => z.1 ≤ a.length ∧ z.2.1 ≤ b.length ∧ out.length + 1 ≤ z.1 + z.2.1 ∧ (a.length - z.1) + (b.length - z.2.1) < (a.length - i) + (b.length - k) ∧ addGo (a.drop z.1) (b.drop z.2.1) (pushF out z.2.2) = addGo a b []) ?_ ?_
     · refine cF ?_
       refine nx ?_; refine rG hN hk noc [] [0, 1, 5, 6, 7, 8] fun K hK => ?_; simp only [go_sem, seval, hy]
       (first | with_reducible refine hK _ _ ?_ | refine obK (hK _ _ ?_)); clear hK K; refine nx ?_
       refine rG hN hk noc [] [0, 1, 5, 6, 7, 8] fun K hK => ?_; simp only [go_sem, seval]
       try simp (disch := omega) only [au]
       refine hK _ _ ?_; clear hK K; refine nx ?_
       have h4' : addGo (a.drop i) (b.drop (k + 1)) (pushF out y) = addGo a b [] := by rw [hia, List.drop_length]; exact h4
       refine ⟨(i, k + 1, y), (by first | assumption | omega | (simp; done) | ((repeat' apply And.intro) <;> first | assumption | omega | (simp; done) | (simp; omega))), ⟨[some 0, some 1], [], ⟨by simp [srcIds], by simp [srcIds], by simp⟩, by simp, by simp [wkEnv, lk, lkh, I, str, B, U8, U64, U32, evC] <;> omega, by first | (simp [wkHp, wkHp1, wkEnt, lkh, evC]; done) | (simp [wkHp, wkHp1, wkEnt, lkh, I, str, evC]; done) | simp [wkHp, wkHp1, wkEnt, lkh, I, str, evC]⟩⟩
     · rintro ⟨i', k', x'⟩ ⟨g1, g2, g3, g4, g5⟩
       simp only at g1 g2 g3 g4 g5
       cases hlast : out.getLast? with
       | none =>
         have ho : out = [] := by simpa using hlast
         have hp : pushF out x' = out ++ [x'] := by simp [pushF, hlast]
         rw [hp] at g5
         have f1 : (((out.length : Nat) : Int) == 0) = true := by rw [ho]; rfl
         refine nx ?_
         refine rD hN hk noc [] [0, 1, 5, 6, 7, 8, 65] fun K tok htok hK => ?_
         simp only [go_sem, seval, f1]
         try simp (disch := omega) only [au]
         try simp only [go_sem, seval, f1]
         refine ⟨htok _ (by decide +kernel), ?_⟩
         (first | with_reducible refine hK _ _ ?_ | refine obK (hK _ _ ?_)); clear hK K htok tok
         refine nx ?_; refine cT ?_; refine nx ?_; refine rG hN hk noc [] [0, 1, 5, 6, 7] fun K hK => ?_; simp only [go_sem, seval]
         (first | with_reducible refine hK _ _ ?_ | refine obK (hK _ _ ?_)); clear hK K; refine nx ?_
         refine ⟨(i', k', out ++ [x']), (by first | assumption | omega | (simp; done) | ((repeat' apply And.intro) <;> first | assumption | omega | (simp; done) | (simp; omega))), (by first | omega | (simp; omega)), ⟨[some 0], [], ⟨by simp [srcIds], by simp [srcIds], by simp⟩, by simp, by simp [wkEnv, lk, lkh, I, str, B, U8, U64, U32] <;> omega, by first | (simp [wkHp, wkHp1, wkEnt, lkh]; done) | (simp [wkHp, wkHp1, wkEnt, lkh, I, str]; done) | simp [wkHp, wkHp1, wkEnt, lkh, I, str]⟩⟩
       | some y' =>
         have ho : 0 < out.length := by cases out <;> simp at hlast ⊢
         have hyl : out[out.length - 1]? = some y' := by rw [← List.getLast?_eq_getElem?]; exact hlast
         have f1 : (((out.length : Nat) : Int) == 0) = false := iEqF (by omega)
         have w1 := wrap64 (n := (out.length : Int) - 1) (by omega)
         have e1 : ((out.length : Int) - 1).toNat = out.length - 1 := by omega
         have q2 := less12 y' x'
         cases hb2 : lessF y' x' with
         | true =>
           have hp : pushF out x' = out ++ [x'] := by simp [pushF, hlast, hb2]
           rw [hp] at g5
           rw [hb2] at q2
           refine nx ?_
           refine rD hN hk (onc 11 (pcq q2) noc) [] [0, 1, 5, 6, 7, 8, 65] fun K tok htok hK => ?_
           simp only [go_sem, seval, f1, w1, e1, hyl]
           try simp (disch := omega) only [au]
           try simp only [go_sem, seval, f1, w1, e1, hyl]
           refine ⟨htok _ (by decide +kernel), ?_⟩
           refine obK (hK _ _ ?_); clear hK K htok tok
           refine nx ?_; refine cT ?_; refine nx ?_; refine rG hN hk noc [] [0, 1, 5, 6, 7] fun K hK => ?_; simp only [go_sem, seval]
           (first | with_reducible refine hK _ _ ?_ | refine obK (hK _ _ ?_)); clear hK K; refine nx ?_
           refine ⟨(i', k', out ++ [x']), (by first | assumption | omega | (simp; done) | ((repeat' apply And.intro) <;> first | assumption | omega | (simp; done) | (simp; omega))), (by first | omega | (simp; omega)), ⟨[some 0], [], ⟨by simp [srcIds], by simp [srcIds], by simp⟩, by simp, by simp [wkEnv, lk, lkh, I, str, B, U8, U64, U32] <;> omega, by first | (simp [wkHp, wkHp1, wkEnt, lkh]; done) | (simp [wkHp, wkHp1, wkEnt, lkh, I, str]; done) | simp [wkHp, wkHp1, wkEnt, lkh, I, str]⟩⟩
         | false =>
           have hp : pushF out x' = out := by simp [pushF, hlast, hb2]
           rw [hp] at g5
           rw [hb2] at q2
           refine nx ?_
           refine rD hN hk (onc 11 (pcq q2) noc) [] [0, 1, 5, 6, 7, 8, 65] fun K tok htok hK => ?_
           simp only [go_sem, seval, f1, w1, e1, hyl]
           try simp (disch := omega) only [au]
           try simp only [go_sem, seval, f1, w1, e1, hyl]
           refine ⟨htok _ (by decide +kernel), ?_⟩
           refine obK (hK _ _ ?_); clear hK K htok tok
           refine nx ?_; refine cF ?_; refine nx ?_
           refine ⟨(i', k', out), (by first | assumption | omega | (simp; done) | ((repeat' apply And.intro) <;> first | assumption | omega | (simp; done) | (simp; omega))), (by first | omega | (simp; omega)), ⟨[some 0], [], ⟨by simp [srcIds], by simp [srcIds], by simp⟩, by simp, by simp [wkEnv, lk, lkh, I, str, B, U8, U64, U32] <;> omega, by first | (simp [wkHp, wkHp1, wkEnt, lkh]; done) | (simp [wkHp, wkHp1, wkEnt, lkh, I, str]; done) | simp [wkHp, wkHp1, wkEnt, lkh, I, str]⟩⟩
 · have hi : i = a.length := by omega
   have hk2 : k = b.length := by omega
   subst hi hk2
   simp only [List.drop_length] at h4
   rw [addGo] at h4
   subst h4
   have d0 := dLtF (a := (a.length : Int)) (b := a.length) (by omega)
   have d1 := dLtF (a := (b.length : Int)) (b := b.length) (by omega)
   refine nx ?_; refine rG hN hk noc [] [0, 1, 5, 6, 7, 18] fun K hK => ?_; simp only [go_sem, seval, d0, d1]
   try simp (disch := omega) only [au]
   try simp only [go_sem, seval, d0, d1]
   (first | with_reducible refine hK _ _ ?_ | refine obK (hK _ _ ?_)); clear hK K; refine nx ?_
   refine cF ?_; refine nx ?_; refine rG hN hk noc [] [4] fun K hK => ?_; simp only [go_sem, seval]; refine hK _ _ ?_
   clear hK K; refine nx ?_
   refine AW.ret (mkRet [some 0] [] rfl (by simp [resOf, lk, lkh, I, str, B, U8, U64, U32] <;> omega) (by first | (simp [wkHp, wkHp1, wkEnt, lkh]; done) | simp [wkHp, wkHp1, wkEnt, lkh, I, str]))
end Go.Proofs.YtceeklfmlheofaaGreat
