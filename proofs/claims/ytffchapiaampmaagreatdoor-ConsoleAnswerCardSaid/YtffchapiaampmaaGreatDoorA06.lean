/-
  Part 6 of the proof that logtidelaw45.ConsoleAnswer returns true for every list of bytes and every text, and leaves both as they were.
-/
import Derived.Test.YtffchapiaampmaaGreatDoorA05
import Derived.Tactics
set_option linter.unusedSimpArgs false
set_option linter.unusedVariables false
namespace Go.Av
structure St where
 env : Env
 hp : Hp
def St.app (s : St) (dst : Option Nat) (r : Out) : St := ⟨fun t => if dst = some t then r.v else s.env t, setHp s.hp r.hw⟩
def aGuard (ops : Array Oper) (env : Env) (o : Oper) : Option Bool :=
 match o.guard with
 | none => some true
 | some (j, want) => match (ops[j]?).bind (·.dst) with
   | none => some false
   | some t => match env t with
     | .val (.bool b) => some (b == want)
     | .val (.tuple _) => some false
     | _ => none
def astep (P : Program) (T : Tab) (orc : Nat → Option Orc) (n : Nat) (ops : Array Oper) (i : Nat) (o : Oper) (s : St) : Option Out :=
 match aGuard ops s.env o with
 | some true => aexec P T (orc i) (n + 8 * i) s.env s.hp o.op
 | some false => some { v := .val undef }
 | none => none
section reg
variable {P : Program} {T : Tab} {orc : Nat → Option Orc} {n : Nat} {ops : Array Oper}
theorem evA_slots {env env' : Env} {op : Op} {l : List Tmp} (h : ∀ t ∈ (op.operands.toList.filterMap fun | .tmp t => some t | _ => none), env t = env' t) : ∀ x ∈ op.operands, evA env x = evA env' x := by
 intro x hx
 cases x with
 | tmp t => exact h t (List.mem_filterMap.2 ⟨.tmp t, by simpa using hx, rfl⟩)
 | const v => cases v <;> rfl
 | global g => rfl
 | func f => rfl
theorem astep_local {i : Nat} {o : Oper} {s s' : St} {r : Out} (h : astep P T orc n ops i o s = some r) (he : ∀ t ∈ o.looksAt ops, s.env t = s'.env t) (hh : ∀ j ∈ r.hr, s.hp j = s'.hp j) :
   ∃ r', astep P T orc n ops i o s' = some r' ∧ OutLe r r' := by
 have hg : aGuard ops s'.env o = aGuard ops s.env o := by
   unfold aGuard
   cases hg : o.guard with
   | none => rfl
   | some jw =>
     obtain ⟨j, want⟩ := jw
     simp only
     cases hd : (ops[j]?).bind (·.dst) with
     | none => rfl
     | some t =>
       have : s.env t = s'.env t := he t (by simp [Oper.looksAt, hg, hd])
       simp only [this]
 unfold astep at h ⊢
 rw [hg]
 split at h
 · exact aexec_local h (evA_slots (l := []) (fun t ht => he t (by simp only [Oper.looksAt]; exact List.mem_append_left _ ht))) hh
 · exact ⟨r, h, OutLe.refl r⟩
 · simp at h
def stL (ops : Array Oper) (f : Nat → Out) (L : Nat → Bool) : Nat → St → St
 | 0, s => s
 | k + 1, s => if L k = true then (stL ops f L k s).app ((ops[k]?).bind (·.dst)) (f k) else stL ops f L k s
theorem setHp_notin : ∀ {hw : List (Nat × Option Ent)} {hp : Hp} {i : Nat}, i ∉ hw.map (·.1) → setHp hp hw i = hp i
 | [], hp, i, _ => rfl
 | (j, e) :: r, hp, i, h => by
   simp only [List.map_cons, List.mem_cons, not_or] at h
   rw [setHp_cons, setHp_notin h.2, hpSet_ne h.1]
theorem setHp_mem : ∀ {hw : List (Nat × Option Ent)} {hp hp' : Hp} {i : Nat}, i ∈ hw.map (·.1) → setHp hp hw i = setHp hp' hw i
 | [], hp, hp', i, h => by simp at h
 | (j, e) :: r, hp, hp', i, h => by
   simp only [setHp_cons]
   by_cases hm : i ∈ r.map (·.1)
   · exact setHp_mem hm
   · rw [setHp_notin hm, setHp_notin hm]
     have : i = j := by simpa [hm] using h
     subst this; simp
theorem stL_env {f : Nat → Out} {L L' : Nat → Bool} {t : Nat} {s : St} : ∀ k, (∀ j, j < k → (ops[j]?).bind (·.dst) = some t → L j = L' j) → (stL ops f L k s).env t = (stL ops f L' k s).env t
 | 0, _ => rfl
 | k + 1, h => by
   have ih := stL_env (f := f) (s := s) k (fun j hj => h j (by omega))
   simp only [stL]
   by_cases hd : (ops[k]?).bind (·.dst) = some t
   · rw [h k (by omega) hd]
     split
     · simp only [St.app, hd, if_true]
     · exact ih
   · have e : ∀ s' : St, (s'.app ((ops[k]?).bind (·.dst)) (f k)).env t = s'.env t := fun s' => by simp only [St.app, if_neg hd]
     split <;> split <;> (try rw [e]) <;> (try rw [e]) <;> exact ih
theorem stL_hp {f : Nat → Out} {L L' : Nat → Bool} {i : Nat} {s : St} : ∀ k, (∀ j, j < k → i ∈ (f j).hw.map (·.1) → L j = L' j) → (stL ops f L k s).hp i = (stL ops f L' k s).hp i
 | 0, _ => rfl
 | k + 1, h => by
   have ih := stL_hp (f := f) (s := s) k (fun j hj => h j (by omega))
   simp only [stL]
   by_cases hd : i ∈ (f k).hw.map (·.1)
   · rw [h k (by omega) hd]
     split
     · simp only [St.app]; exact setHp_mem hd
     · exact ih
   · have e : ∀ s' : St, (s'.app ((ops[k]?).bind (·.dst)) (f k)).hp i = s'.hp i := fun s' => by simp only [St.app]; exact setHp_notin hd
     split <;> split <;> (try rw [e]) <;> (try rw [e]) <;> exact ih
theorem stL_lt {f : Nat → Out} {s : St} {i : Nat} : ∀ k, i ≤ k → stL ops f (fun j => decide (j < i)) k s = stL ops f (fun _ => true) i s := by
 have h1 : ∀ k, k ≤ i → stL ops f (fun j => decide (j < i)) k s = stL ops f (fun _ => true) k s := by
   intro k
   induction k with
   | zero => intro _; rfl
   | succ k ih => intro hk; simp only [stL, ih (by omega)]; rw [if_pos (by simp; omega)]; simp
 intro k
 induction k with
 | zero => intro h; obtain rfl : i = 0 := (by omega); rfl
 | succ k ih =>
   intro hk
   by_cases he : i = k + 1
   · subst he; exact h1 _ (Nat.le_refl _)
   · simp only [stL]
     rw [if_neg (by simp; omega)]
     exact ih (by omega)
/-- Operations that touch the same thing are ordered. -/
structure Sep (ops : Array Oper) (f : Nat → Out) (anc : Nat → Nat → Prop) : Prop where
 slot : ∀ i j oi oj t, i ≠ j → ops[i]? = some oi → ops[j]? = some oj → oi.dst = some t → (t ∈ oj.looksAt ops ∨ oj.dst = some t) → (i < j ∧ anc j i) ∨ (j < i ∧ anc i j)
 heap : ∀ i j x, i ≠ j → i < ops.size → j < ops.size → x ∈ (f i).hw.map (·.1) → (x ∈ (f j).hr ∨ x ∈ (f j).hw.map (·.1)) → (i < j ∧ anc j i) ∨ (j < i ∧ anc i j)
section sep
variable {f : Nat → Out} {anc : Nat → Nat → Prop} {s0 : St} {L : Nat → Bool}
theorem dst_some {j t : Nat} (h : (ops[j]?).bind (·.dst) = some t) : ∃ oj, ops[j]? = some oj ∧ oj.dst = some t := by
 cases ho : ops[j]? with
 | none => rw [ho] at h; simp at h
 | some oj => rw [ho] at h; exact ⟨oj, rfl, by simpa using h⟩
/-- What an operation that is ready sees, whatever ran before it. -/
theorem sees (hs : Sep ops f anc) {i : Nat} {oi : Oper} (hi : ops[i]? = some oi) (hLi : L i = false) (hup : ∀ j x, L j = true → anc j x → L x = true) (hrdy : ∀ x, anc i x → L x = true)
   (hstep : astep P T orc n ops i oi (stL ops f (fun _ => true) i s0) = some (f i)) :
   ∃ r', astep P T orc n ops i oi (stL ops f L ops.size s0) = some r' ∧ OutLe (f i) r' := by
 have hlt : i < ops.size := getElem?_lt hi
 rw [← stL_lt ops.size (Nat.le_of_lt hlt)] at hstep
 have key : ∀ j, j < ops.size → j ≠ i → ((i < j ∧ anc j i) ∨ (j < i ∧ anc i j)) → decide (j < i) = L j := by
   intro j hj hne h
   rcases h with ⟨h1, h2⟩ | ⟨h1, h2⟩
   · have : L j = false := by
       cases hL : L j with
       | false => rfl
       | true => rw [hup j i hL h2] at hLi; simp at hLi
     rw [this]; simp; omega
   · rw [hrdy j h2]; simp; exact h1
 refine astep_local hstep ?_ ?_
 · intro t ht
   refine stL_env ops.size (fun j hj hd => ?_)
   obtain ⟨oj, hoj, hdj⟩ := dst_some hd
   by_cases hne : j = i
   · subst hne; rw [hLi]; simp
   · have := hs.slot j i oj oi t hne hoj hi hdj (.inl ht)
     exact key j hj hne (by rcases this with h | h; exact .inr h; exact .inl h)
 · intro x hx
   refine stL_hp ops.size (fun j hj hd => ?_)
   by_cases hne : j = i
   · subst hne; rw [hLi]; simp
   · have := hs.heap j i x hne hj hlt hd (.inl hx)
     exact key j hj hne (by rcases this with h | h; exact .inr h; exact .inl h)
/-- Running it adds it to what has run. -/
theorem adds (hs : Sep ops f anc) {i : Nat} {oi : Oper} (hi : ops[i]? = some oi) (hLi : L i = false) (hup : ∀ j x, L j = true → anc j x → L x = true) :
   stL ops f (fun j => if j = i then true else L j) ops.size s0 = (stL ops f L ops.size s0).app oi.dst (f i) := by
 have hlt : i < ops.size := getElem?_lt hi
 have hdi : (ops[i]?).bind (·.dst) = oi.dst := by rw [hi]; rfl
 have later : ∀ j, i < j → anc j i → L j = false := by
   intro j _ h
   cases hL : L j with
   | false => rfl
   | true => rw [hup j i hL h] at hLi; simp at hLi
 have henv : ∀ t, (stL ops f (fun j => if j = i then true else L j) ops.size s0).env t = ((stL ops f L ops.size s0).app oi.dst (f i)).env t := by
   intro t
   by_cases hd : oi.dst = some t
   · simp only [St.app, if_pos hd]
     have : ∀ k, i < k → k ≤ ops.size → (stL ops f (fun j => if j = i then true else L j) k s0).env t = (f i).v := by
       intro k
       induction k with
       | zero => intro h; omega
       | succ k ih =>
         intro h1 h2
         simp only [stL]
         by_cases hk : k = i
         · subst hk; simp only [if_true, St.app, hdi, hd]
         · by_cases hw : (ops[k]?).bind (·.dst) = some t
           · obtain ⟨ok, hok, hdk⟩ := dst_some hw
             have h3 := hs.slot i k oi ok t (fun e => hk e.symm) hi hok hd (.inr hdk)
             have h4 : L k = false := by
               rcases h3 with ⟨h, h'⟩ | ⟨h, h'⟩
               · exact later k h h'
               · omega
             simp only [if_neg hk, h4, Bool.false_eq_true, if_false]
             exact ih (by omega) (by omega)
           · simp only [if_neg hk]
             cases L k
             · simp only [Bool.false_eq_true, if_false]; exact ih (by omega) (by omega)
             · simp only [if_true, St.app, if_neg hw]; exact ih (by omega) (by omega)
     exact this ops.size hlt (Nat.le_refl _)
   · simp only [St.app, if_neg hd]
     refine stL_env ops.size (fun j hj hw => ?_)
     by_cases hne : j = i
     · subst hne; rw [hdi] at hw; exact absurd hw hd
     · simp [hne]
 have hhp : ∀ x, (stL ops f (fun j => if j = i then true else L j) ops.size s0).hp x = ((stL ops f L ops.size s0).app oi.dst (f i)).hp x := by
   intro x
   by_cases hd : x ∈ (f i).hw.map (·.1)
   · have : ∀ k, i < k → k ≤ ops.size → (stL ops f (fun j => if j = i then true else L j) k s0).hp x = setHp (fun _ => none) (f i).hw x := by
       intro k
       induction k with
       | zero => intro h; omega
       | succ k ih =>
         intro h1 h2
         simp only [stL]
         by_cases hk : k = i
         · subst hk; simp only [if_true, St.app]; exact setHp_mem hd
         · by_cases hw : x ∈ (f k).hw.map (·.1)
           · have h3 := hs.heap i k x (fun e => hk e.symm) hlt (by omega) hd (.inr hw)
             have h4 : L k = false := by
               rcases h3 with ⟨h, h'⟩ | ⟨h, h'⟩
               · exact later k h h'
               · omega
             simp only [if_neg hk, h4, Bool.false_eq_true, if_false]
             exact ih (by omega) (by omega)
           · simp only [if_neg hk]
             cases L k
             · simp only [Bool.false_eq_true, if_false]; exact ih (by omega) (by omega)
             · simp only [if_true, St.app]; rw [setHp_notin hw]; exact ih (by omega) (by omega)
     rw [this ops.size hlt (Nat.le_refl _)]
     simp only [St.app]; exact setHp_mem hd
   · simp only [St.app]; rw [setHp_notin hd]
     refine stL_hp ops.size (fun j hj hw => ?_)
     by_cases hne : j = i
     · subst hne; exact absurd hw hd
     · simp [hne]
 have e1 := funext henv
 have e2 := funext hhp
 cases h1 : stL ops f (fun j => if j = i then true else L j) ops.size s0
 cases h2 : (stL ops f L ops.size s0).app oi.dst (f i)
 rw [h1, h2] at e1 e2
 simp only at e1 e2
 rw [e1, e2]
end sep
end reg
/-- What a call began with. -/
structure Ctx where
 X : Nat → Prop
 w0 : World
 O0 : Nat → Prop
 βi : Gm
 N : Nat
 k : Nat
 hk : ∀ i, k ≤ i → βi i = none
structure InvS (C : Ctx) (β : Gm) (s : St) (a : Act) (w : World) : Prop where
 good : Good C.X w β s.hp
 env : EnvOk w β (Own C.X β s.hp) s.env a.tmps
 size : a.tmps.size = C.N
 defers : a.defers = []
 frm : Frm C.w0 C.O0 w (Own C.X β s.hp)
 keepX : ∀ b, C.X b → w.heap[b]? = C.w0.heap[b]?
 ext : GmExt C.βi β
def InvL (C : Ctx) (n : Nat) (L : Nat → Bool) (s : St) (a : Act) (w : World) : Prop :=
 ∃ β, InvS C β s a w ∧ ∀ j, β j ≠ none → j < n ∨ ∃ i, L i = true ∧ n + 8 * i ≤ j ∧ j < n + 8 * i + 8
def InvC (C : Ctx) (n : Nat) (s : St) (a : Act) (w : World) : Prop := ∃ β, InvS C β s a w ∧ ∀ j, n ≤ j → β j = none
section sim
variable {C : Ctx} {P : Program} {T : Tab} {orc : Nat → Option Orc} {n : Nat} {ops : Array Oper} {Q : Exit → Act → World → Prop}
theorem getD_set {a : Array Value} {d t : Nat} {v : Value} (hd : d < a.size) : (a.setIfInBounds d v).getD t undef = if d = t then v else a.getD t undef := by
 simp only [Array.getD_eq_getD_getElem?, Array.getElem?_setIfInBounds]
 by_cases h : d = t
 · subst h; simp [hd]
 · simp [h]
theorem wanted_of {o : Oper} {s : St} {β : Gm} {a : Act} {w : World} (h : InvS C β s a w) {b : Bool} (hg : aGuard ops s.env o = some b) : Region.wanted o (yielded ops a.tmps) = b := by
 unfold aGuard at hg
 unfold Region.wanted
 cases hgu : o.guard with
 | none => rw [hgu] at hg; simpa using hg
 | some jw =>
   obtain ⟨j, want⟩ := jw
   rw [hgu] at hg
   simp only at hg ⊢
   unfold yielded
   cases hd : (ops[j]?).bind (·.dst) with
   | none => rw [hd] at hg; simp only [Option.bind_none]; simp only [Option.some.injEq] at hg; subst hg; rfl
   | some t =>
     rw [hd] at hg
     simp only [Option.bind_some] at hg ⊢
     have hr := h.env t
     rw [Array.getD_eq_getD_getElem?] at hr
     split at hg
     · rename_i b' he
       rw [he] at hr
       simp only [Rep] at hr
       cases hx : a.tmps[t]? with
       | none => rw [hx] at hr; simp [undef] at hr
       | some v =>
         rw [hx] at hr
         simp only [Option.getD_some] at hr
         subst hr
         simp only [Option.some.injEq] at hg
         rw [← hg]
         simp
     · rename_i vs he
       rw [he] at hr
       simp only [Rep] at hr
       simp only [Option.some.injEq] at hg
       subst hg
       cases hx : a.tmps[t]? with
       | none => rfl
       | some v =>
         rw [hx] at hr
         simp only [Option.getD_some] at hr
         subst hr
         rfl
     · simp at hg
theorem invS_post {s : St} {a : Act} {w w' : World} {β β' : Gm} {r : Out} {nb : Nat} {v : Value} {dst : Option Nat} (h : InvS C β s a w) (hd : ∀ d, dst = some d → d < C.N) (hp : Post C.X w β s.hp nb r v w' β') :
   InvS C β' (s.app dst r) (a.put dst v) w' := by
 refine ⟨hp.good, ?_, ?_, ?_, h.frm.trans hp.frm, fun b hb => (hp.keepX b hb).trans (h.keepX b hb), h.ext.trans hp.ext⟩
 · intro t
   have hold := Rep.mono (hp.frm.stab hp.ext) _ _ (h.env t)
   cases dst with
   | none => simpa [St.app, Act.put] using hold
   | some d =>
     have hlt : d < a.tmps.size := by rw [h.size]; exact hd d rfl
     simp only [St.app, Act.put, getD_set hlt, Option.some.injEq]
     by_cases he : d = t
     · subst he; simp only [if_true]; exact hp.rep
     · simp only [if_neg he]; exact hold
 · cases dst with
   | none => exact h.size
   | some d => simp [Act.put, h.size]
 · cases dst with
   | none => exact h.defers
   | some d => exact h.defers
theorem op_sim (hT : TabOk P T) {L : Nat → Bool} {s : St} {a : Act} {w : World} (h : InvL C n L s a w) {i : Nat} {o : Oper} (hi : ops[i]? = some o) (hLi : L i = false) {r : Out} (hs : astep P T orc n ops i o s = some r) (hob : r.ob)
   (hd : ∀ d, o.dst = some d → d < C.N) {K : Act → World → Prop} (hK : ∀ a' w', InvL C n (fun j => if j = i then true else L j) (s.app o.dst r) a' w' → K a' w') : wpOp P ops Q i K a w := by
 obtain ⟨β, hS, hn⟩ := h
 have hlift : ∀ j, β j ≠ none → j < n ∨ ∃ k, (if k = i then true else L k) = true ∧ n + 8 * k ≤ j ∧ j < n + 8 * k + 8 := by
   intro j hj
   rcases hn j hj with h | ⟨k, h1, h2⟩
   · exact .inl h
   · exact .inr ⟨k, by split <;> simp [h1], h2⟩
 unfold wpOp
 simp only [hi]
 unfold astep at hs
 split at hs
 · rename_i hg
   rw [if_pos (wanted_of hS hg)]
   left
   have hfresh : ∀ j, n + 8 * i ≤ j → j < n + 8 * i + 8 → β j = none := by
     intro j h1 h2
     cases hb : β j with
     | none => rfl
     | some p =>
       rcases hn j (by rw [hb]; simp) with h | ⟨k, hk, h3, h4⟩
       · omega
       · have : k = i := by omega
         subst this; rw [hLi] at hk; simp at hk
   refine exec_sound hT hs hob hS.good hfresh hS.env ?_
   intro v w' β' hp
   refine hK _ _ ⟨β', invS_post hS hd hp, fun j hj => ?_⟩
   rcases hp.new j hj with h | h
   · exact hlift j h
   · exact .inr ⟨i, by simp, h.1, h.2⟩
 · rename_i hg
   rw [if_neg (by rw [wanted_of hS hg]; simp)]
   simp only [Option.some.injEq] at hs
   subst hs
   refine hK _ _ ⟨β, ?_, hlift⟩
   exact invS_post (nb := 0) hS hd (Post.still hS.good rfl (by simp [Rep]))
 · simp at hs
/-- The recorded run of a region, and that it is sound to rely on it. -/
structure Rec (P : Program) (T : Tab) (orc : Nat → Option Orc) (n N : Nat) (ops : Array Oper) (f : Nat → Out) (s : St) : Prop where
 step : ∀ (i : Nat) (o : Oper), ops[i]? = some o → astep P T orc n ops i o (stL ops f (fun _ => true) i s) = some (f i)
 ob : ∀ i, i < ops.size → (f i).ob
 dst : ∀ (i : Nat) (o : Oper) (d : Nat), ops[i]? = some o → o.dst = some d → d < N
theorem stL_congr {f : Nat → Out} {L L' : Nat → Bool} {s : St} : ∀ k, (∀ j, j < k → L j = L' j) → stL ops f L k s = stL ops f L' k s
 | 0, _ => rfl
 | k + 1, h => by simp only [stL]; rw [stL_congr k (fun j hj => h j (by omega)), h k (by omega)]
theorem InvL.done {L : Nat → Bool} {s : St} {a : Act} {w : World} {m : Nat} (h : InvL C n L s a w) (hL : ∀ i, L i = true → i < m) : InvC C (n + 8 * m) s a w := by
 obtain ⟨β, hS, hn⟩ := h
 refine ⟨β, hS, fun j hj => ?_⟩
 cases hb : β j with
 | none => rfl
 | some p =>
   rcases hn j (by rw [hb]; simp) with h | ⟨k, hk, h3, h4⟩
   · omega
   · have := hL k hk; omega
theorem InvC.start {s : St} {a : Act} {w : World} (h : InvC C n s a w) : InvL C n (fun _ => false) s a w := by
 obtain ⟨β, hS, hn⟩ := h
 refine ⟨β, hS, fun j hj => ?_⟩
 rcases Nat.lt_or_ge j n with h | h
 · exact .inl h
 · exact absurd (hn j h) hj
/-- A region that is run in the order of its text. -/
theorem region_text (hT : TabOk P T) {f : Nat → Out} {s : St} (hr : Rec P T orc n C.N ops f s) {a : Act} {w : World} (h : InvC C n s a w)
   (hQ : ∀ a' w', InvC C (n + 8 * ops.size) (stL ops f (fun _ => true) ops.size s) a' w' → Q .normal a' w') {id : Nat} : (Code.region id ops false).wp P Q a w := by
 refine wp_region ?_
 have key : ∀ m k a w, k + m = ops.size → InvL C n (fun j => decide (j < k)) (stL ops f (fun _ => true) k s) a w → wpOps P ops Q (List.range' k m) a w := by
   intro m
   induction m with
   | zero =>
     intro k a w hk hI
     simp only [List.range'_zero, wpOps]
     obtain rfl : k = ops.size := by omega
     exact hQ a w (hI.done (fun i hi => by simpa using hi))
   | succ m ih =>
     intro k a w hk hI
     rw [List.range'_succ, wpOps_cons]
     have hlt : k < ops.size := by omega
     have hok : ops[k]? = some ops[k] := by simp [hlt]
     refine op_sim hT hI hok (by simp) (hr.step k _ hok) (hr.ob k hlt) (fun d hd => hr.dst k _ d hok hd) ?_
     intro a' w' hI'
     refine ih (k + 1) a' w' (by omega) ?_
     obtain ⟨β, hS, hn⟩ := hI'
     refine ⟨β, ?_, fun j hj => ?_⟩
     · have : stL ops f (fun _ => true) (k + 1) s = (stL ops f (fun _ => true) k s).app ops[k].dst (f k) := by
         simp only [stL, if_true, hok]; rfl
       rw [this]; exact hS
     · rcases hn j hj with h | ⟨i, hi, h2⟩
       · exact .inl h
       · refine .inr ⟨i, ?_, h2⟩
         by_cases he : i = k
         · subst he; simp
         · simp only [if_neg he, decide_eq_true_eq] at hi ⊢; omega
 rw [List.range_eq_range']
 have h0 := h.start
 refine key ops.size 0 a w (by omega) ?_
 obtain ⟨β, hS, hn⟩ := h0
 exact ⟨β, hS, fun j hj => by rcases hn j hj with h | ⟨i, hi, _⟩; exact .inl h; simp at hi⟩
theorem count_set : ∀ (l : List Bool) (i : Nat), l[i]? = some false → (l.set i true).count false + 1 = l.count false
 | [], i, h => by simp at h
 | b :: l, 0, h => by simp at h; subst h; simp
 | b :: l, i + 1, h => by
   have := count_set l i (by simpa using h)
   simp only [List.set_cons_succ, List.count_cons]
   omega
/-- A region whose order is drawn. -/
theorem region_drawn (hT : TabOk P T) (hm : P.follows .mixedOrders = true) {f : Nat → Out} {s : St} (hr : Rec P T orc n C.N ops f s) {anc : Nat → Nat → Prop} (hs : Sep ops f anc)
   (hanc : ∀ L : Nat → Bool, (∀ j o, ops[j]? = some o → L j = true → ∀ e ∈ o.after.toList, Region.binds .any e = true → L e.on = true) → ∀ j o x, ops[j]? = some o → (∀ e ∈ o.after.toList, Region.binds .any e = true → L e.on = true) → anc j x → L x = true)
   (hanc0 : ∀ j x, anc j x → j < ops.size) (hedge : ∀ j o, ops[j]? = some o → ∀ e ∈ o.after.toList, Region.binds .any e = true → e.on < j)
   {a : Act} {w : World} (h : InvC C n s a w) (hQ : ∀ a' w', InvC C (n + 8 * ops.size) (stL ops f (fun _ => true) ops.size s) a' w' → Q .normal a' w') {id : Nat} : (Code.region id ops true).wp P Q a w := by
 refine wp_region_any hm ?_
 have key : ∀ fuel (listed : Array Bool) a w, listed.size = ops.size → listed.toList.count false ≤ fuel →
     (∀ j o, ops[j]? = some o → listed.getD j false = true → ∀ e ∈ o.after.toList, Region.binds .any e = true → listed.getD e.on false = true) →
     InvL C n (fun j => listed.getD j false) (stL ops f (fun j => listed.getD j false) ops.size s) a w → wpAny P .any ops Q fuel listed a w := by
   intro fuel
   induction fuel with
   | zero =>
     intro listed a w hsz hc hup hI
     have hall : ∀ j, j < ops.size → listed.getD j false = true := by
       intro j hj
       have hx : listed.toList[j]? = some listed[j] := by simp [hsz, hj]
       cases hb : listed[j] with
       | true => simp [Array.getD_eq_getD_getElem?, hsz, hj, hb]
       | false =>
         rw [hb] at hx
         have : false ∈ listed.toList := List.mem_of_getElem? hx
         have := List.count_pos_iff.2 this
         omega
     refine ⟨?_, ?_⟩
     · unfold Region.ready
       rw [List.filter_eq_nil_iff]
       intro i hi
       simp at hi
       have := hall i hi
       rw [Array.getD_eq_getD_getElem?] at this ⊢
       simp [hsz, hi] at this ⊢
       simp [this]
     · refine hQ a w ?_
       rw [stL_congr ops.size (L' := fun _ => true) (fun j hj => hall j hj)] at hI
       refine hI.done (fun i hi => ?_)
       rw [← hsz]
       rcases Nat.lt_or_ge i listed.size with h | h
       · exact h
       · simp [Array.getD_eq_getD_getElem?, Array.getElem?_eq_none h] at hi
   | succ fuel ih =>
     intro listed a w hsz hc hup hI
     have hupA : ∀ j x, listed.getD j false = true → anc j x → listed.getD x false = true := by
       intro j x hj hx
       have hlt := hanc0 j x hx
       exact hanc (fun k => listed.getD k false) hup j ops[j] x (by simp [hlt]) (hup j ops[j] (by simp [hlt]) hj) hx
     refine ⟨fun hrd => ?_, fun i hi => ?_⟩
     · -- nothing is ready: everything is listed
       have hall : ∀ j, j < ops.size → listed.getD j false = true := by
         intro j
         induction j using Nat.strongRecOn with
         | _ j ihj =>
           intro hj
           cases hb : listed.getD j false with
           | true => rfl
           | false =>
             exfalso
             have : j ∈ Region.ready .any ops listed := by
               unfold Region.ready
               rw [List.mem_filter]
               refine ⟨by simpa using hj, ?_⟩
               have h1 : listed.getD j true = false := by
                 rw [Array.getD_eq_getD_getElem?] at hb ⊢
                 simp [hsz, hj] at hb ⊢; exact hb
               have h2 : ops[j]? = some ops[j] := by simp [hj]
               rw [h1, h2]
               simp only [Bool.not_false, Bool.true_and, Option.map_some, Option.getD_some, Array.all_eq_true_iff_forall_mem]
               intro e he
               have he' : e ∈ ops[j].after.toList := by simpa using he
               cases hbd : Region.binds .any e with
               | false => simp
               | true =>
                 have hlt := hedge j _ h2 e he' hbd
                 simp [ihj e.on hlt (by omega)]
             rw [hrd] at this; simp at this
       refine hQ a w ?_
       rw [stL_congr ops.size (L' := fun _ => true) (fun j hj => hall j hj)] at hI
       refine hI.done (fun i hi => ?_)
       rw [← hsz]
       rcases Nat.lt_or_ge i listed.size with h | h
       · exact h
       · simp [Array.getD_eq_getD_getElem?, Array.getElem?_eq_none h] at hi
     · -- one that is ready is taken
       unfold Region.ready at hi
       rw [List.mem_filter] at hi
       obtain ⟨hi1, hi2⟩ := hi
       have hlt : i < ops.size := by simpa using hi1
       have hok : ops[i]? = some ops[i] := by simp [hlt]
       rw [hok] at hi2
       simp only [Option.map_some, Option.getD_some, Bool.and_eq_true, Bool.not_eq_true', Array.all_eq_true_iff_forall_mem] at hi2
       obtain ⟨hnl, hall⟩ := hi2
       have hLi : listed.getD i false = false := by
         rw [Array.getD_eq_getD_getElem?] at hnl ⊢
         simp [hsz, hlt] at hnl ⊢; exact hnl
       have hpre : ∀ e ∈ ops[i].after.toList, Region.binds .any e = true → listed.getD e.on false = true := by
         intro e he hb
         have := hall e (by simpa using he)
         simpa [hb] using this
       obtain ⟨r', hr', hle⟩ := sees (L := fun j => listed.getD j false) hs hok hLi hupA (fun x hx => hanc (fun k => listed.getD k false) hup i _ x hok hpre hx) (hr.step i _ hok)
       refine op_sim hT hI hok hLi hr' (hle.ob (hr.ob i hlt)) (fun d hd => hr.dst i _ d hok hd) ?_
       intro a' w' hI'
       have hset : (listed.setIfInBounds i true).size = ops.size := by simp [hsz]
       have hgetD : ∀ j, (listed.setIfInBounds i true).getD j false = if j = i then true else listed.getD j false := by
         intro j
         simp only [Array.getD_eq_getD_getElem?, Array.getElem?_setIfInBounds]
         by_cases h : i = j
         · subst h; simp [hsz, hlt]
         · rw [if_neg h, if_neg (fun h' : j = i => h h'.symm)]
       refine ih _ a' w' hset ?_ ?_ ?_
       · have hx : listed.toList[i]? = some false := by
           have : listed[i]? = some false := by
             rw [Array.getD_eq_getD_getElem?] at hLi
             simp [hsz, hlt] at hLi ⊢; exact hLi
           simpa using this
         have := count_set listed.toList i hx
         simp only [Array.toList_setIfInBounds]
         omega
       · intro j o hj hL e he hb
         rw [hgetD] at hL ⊢
         by_cases h1 : e.on = i
         · simp [h1]
         · rw [if_neg h1]
           by_cases h2 : j = i
           · subst h2
             rw [hok] at hj
             simp at hj
             subst hj
             exact hpre e he hb
           · rw [if_neg h2] at hL
             exact hup j o hj hL e he hb
       · have e1 : (fun j => (listed.setIfInBounds i true).getD j false) = (fun j => if j = i then true else listed.getD j false) := funext hgetD
         rw [e1, adds hs hok hLi hupA]
         obtain ⟨β, hS, hn⟩ := hI'
         refine ⟨β, ?_, hn⟩
         have : (stL ops f (fun j => listed.getD j false) ops.size s).app ops[i].dst (f i) = (stL ops f (fun j => listed.getD j false) ops.size s).app ops[i].dst r' := by
           simp only [St.app, hle.v, hle.hw]
         rw [this]; exact hS
 refine key ops.size _ a _ (by simp) (by simp) (by intro j o hj hL; simp only [Array.getD_eq_getD_getElem?, Array.getElem?_replicate] at hL; split at hL <;> simp at hL) ?_
 have e1 : (fun j => (Array.replicate ops.size false).getD j false) = (fun _ => false) := by
   funext j
   simp only [Array.getD_eq_getD_getElem?, Array.getElem?_replicate]
   split <;> rfl
 rw [e1]
 have e2 : ∀ k, stL ops f (fun _ => false) k s = s := by
   intro k; induction k with
   | zero => rfl
   | succ k ih => simp only [stL, Bool.false_eq_true, if_false, ih]
 rw [e2]
 obtain ⟨β, hS, hn⟩ := h.start
 refine ⟨β, ⟨?_, ?_, hS.size, hS.defers, ?_, hS.keepX, hS.ext⟩, hn⟩
 · have hst : Stab w { w with drawn := w.drawn + 1 } β β (Own C.X β s.hp) (Own C.X β s.hp) := ⟨Nat.le_refl _, fun _ _ h => h, fun _ _ h => h, fun _ _ h => ⟨rfl, h⟩⟩
   exact ⟨hS.good.inj, fun i e hi => (hS.good.ent i e hi).mono hst (fun _ _ => rfl), hS.good.xdis, hS.good.xlt, lwKeep (fun _ _ => rfl) hS.good.laid.1, hS.good.laid.2⟩
 · have hst : Stab w { w with drawn := w.drawn + 1 } β β (Own C.X β s.hp) (Own C.X β s.hp) := ⟨Nat.le_refl _, fun _ _ h => h, fun _ _ h => h, fun _ _ h => ⟨rfl, h⟩⟩
   exact fun t => Rep.mono hst _ _ (hS.env t)
 · exact ⟨hS.frm.os, hS.frm.tape, hS.frm.output, hS.frm.size, hS.frm.same, hS.frm.own, hS.frm.shape⟩
end sim
structure AS where
 env : List (Nat × AV)
 hp : List (Nat × Option Ent)
def lk : List (Nat × AV) → Nat → AV
 | [], _ => .any
 | (t, a) :: r, u => if t = u then a else lk r u
def lkh : List (Nat × Option Ent) → Nat → Option Ent
 | [], _ => none
 | (i, e) :: r, j => if i = j then e else lkh r j
def AS.st (s : AS) : St := ⟨lk s.env, lkh s.hp⟩
def putE (dst : Option Nat) (v : AV) (env : List (Nat × AV)) : List (Nat × AV) :=
 match dst with
 | some d => (d, v) :: env
 | none => env
abbrev Touch := Nat × List Nat × List Nat
def touch (i : Nat) (r : Out) (ts : List Touch) : List Touch :=
 match r.hr, r.hw with
 | [], [] => ts
 | hr, hw => (i, hr, hw.map (·.1)) :: ts
def arun (P : Program) (T : Tab) (orc : Nat → Option Orc) (n : Nat) (ops : Array Oper) : List Oper → Nat → AS → List Touch → Prop → Option (AS × List Touch × Prop)
 | [], _, s, ts, p => some (s, ts, p)
 | o :: l, i, s, ts, p => match aGuard ops (lk s.env) o with
   | some true => match aexec P T (orc i) (n + 8 * i) (lk s.env) (lkh s.hp) o.op with
     | some r => arun P T orc n ops l (i + 1) ⟨putE o.dst r.v s.env, r.hw.reverse ++ s.hp⟩ (touch i r ts) (p ∧ r.ob)
     | none => none
   | some false => arun P T orc n ops l (i + 1) ⟨putE o.dst (.val undef) s.env, s.hp⟩ ts p
   | none => none
section
variable {P : Program} {T : Tab} {orc : Nat → Option Orc} {n : Nat} {ops : Array Oper}
theorem lk_put (dst : Option Nat) (v : AV) (env : List (Nat × AV)) : lk (putE dst v env) = fun t => if dst = some t then v else lk env t := by
 funext t
 cases dst with
 | none => simp [putE]
 | some d => simp [putE, lk]
theorem lkh_app : ∀ (hw l : List (Nat × Option Ent)), lkh (hw.reverse ++ l) = setHp (lkh l) hw
 | [], l => rfl
 | (i, e) :: r, l => by
   rw [List.reverse_cons, List.append_assoc, List.singleton_append, lkh_app r ((i, e) :: l), setHp_cons]
   congr 1
   funext j
   simp only [lkh, hpSet]
   by_cases h : i = j
   · subst h; simp
   · rw [if_neg h, if_neg (fun h' => h h'.symm)]
theorem st_app (s : AS) (dst : Option Nat) (r : Out) : (⟨putE dst r.v s.env, r.hw.reverse ++ s.hp⟩ : AS).st = s.st.app dst r := by
 simp only [AS.st, St.app, lk_put, lkh_app]
theorem stL_fun {f g : Nat → Out} {L : Nat → Bool} {s : St} : ∀ k, (∀ j, j < k → f j = g j) → stL ops f L k s = stL ops g L k s
 | 0, _ => rfl
 | k + 1, h => by simp only [stL]; rw [stL_fun k (fun j hj => h j (by omega)), h k (by omega)]
theorem touch_sub (i : Nat) (r : Out) (ts : List Touch) : ∀ x ∈ ts, x ∈ touch i r ts := by
 intro x hx
 unfold touch
 split
 · exact hx
 · exact List.mem_cons_of_mem _ hx
theorem touch_has (i : Nat) (r : Out) (ts : List Touch) (h : ¬ (r.hr = [] ∧ r.hw = [])) : (i, r.hr, r.hw.map (·.1)) ∈ touch i r ts := by
 unfold touch
 split
 · rename_i h1 h2; exact absurd ⟨h1, h2⟩ h
 · simp
theorem arun_rec {s0 : St} : ∀ (l : List Oper) (i : Nat) (s : AS) (ts : List Touch) (p : Prop) (s' : AS) (ts' : List Touch) (p' : Prop) (g : Nat → Out), (∀ j, l[j]? = ops[i + j]?) →
   arun P T orc n ops l i s ts p = some (s', ts', p') → s.st = stL ops g (fun _ => true) i s0 →
   ∃ f : Nat → Out, (∀ j, j < i → f j = g j) ∧ (∀ (j : Nat) (o : Oper), i ≤ j → ops[j]? = some o → astep P T orc n ops j o (stL ops f (fun _ => true) j s0) = some (f j)) ∧
     s'.st = stL ops f (fun _ => true) (i + l.length) s0 ∧ (p' → p ∧ ∀ j, i ≤ j → j < i + l.length → (f j).ob) ∧ (∀ x ∈ ts, x ∈ ts') ∧
     (∀ j, i ≤ j → j < i + l.length → ¬ ((f j).hr = [] ∧ (f j).hw = []) → (j, (f j).hr, (f j).hw.map (·.1)) ∈ ts')
 | [], i, s, ts, p, s', ts', p', g, hl, h, hs => by
   simp only [arun, Option.some.injEq, Prod.mk.injEq] at h
   obtain ⟨rfl, rfl, rfl⟩ := h
   refine ⟨g, fun _ _ => rfl, fun j o hj ho => ?_, by simpa using hs, fun hp => ⟨hp, fun j h1 h2 => ?_⟩, fun x hx => hx, fun j h1 h2 => ?_⟩
   · have := hl (j - i)
     rw [show i + (j - i) = j by omega, ho] at this
     simp at this
   · simp at h2; omega
   · simp at h2; omega
 | o :: l, i, s, ts, p, s', ts', p', g, hl, h, hs => by
   have ho : ops[i]? = some o := by simpa using (hl 0).symm
   have hl' : ∀ j, l[j]? = ops[i + 1 + j]? := fun j => by
     have := hl (j + 1)
     rw [show i + 1 + j = i + (j + 1) by omega, ← this]; simp
   have go : ∀ (r : Out) (ts1 : List Touch) (p1 : Prop), astep P T orc n ops i o s.st = some r → arun P T orc n ops l (i + 1) ⟨putE o.dst r.v s.env, r.hw.reverse ++ s.hp⟩ ts1 p1 = some (s', ts', p') →
       (p1 → p ∧ r.ob) → (∀ x ∈ ts, x ∈ ts1) → (¬ (r.hr = [] ∧ r.hw = []) → (i, r.hr, r.hw.map (·.1)) ∈ ts1) →
       ∃ f : Nat → Out, (∀ j, j < i → f j = g j) ∧ (∀ (j : Nat) (o : Oper), i ≤ j → ops[j]? = some o → astep P T orc n ops j o (stL ops f (fun _ => true) j s0) = some (f j)) ∧
         s'.st = stL ops f (fun _ => true) (i + (o :: l).length) s0 ∧ (p' → p ∧ ∀ j, i ≤ j → j < i + (o :: l).length → (f j).ob) ∧ (∀ x ∈ ts, x ∈ ts') ∧
         (∀ j, i ≤ j → j < i + (o :: l).length → ¬ ((f j).hr = [] ∧ (f j).hw = []) → (j, (f j).hr, (f j).hw.map (·.1)) ∈ ts') := by
     intro r ts1 p1 hst hrun hp1 hsub hhas
     let g' : Nat → Out := fun j => if j = i then r else g j
     have hg' : ∀ j, j < i → g' j = g j := fun j hj => by simp [g', show j ≠ i by omega]
     have e1 : (⟨putE o.dst r.v s.env, r.hw.reverse ++ s.hp⟩ : AS).st = stL ops g' (fun _ => true) (i + 1) s0 := by
       rw [st_app, hs]
       simp only [stL, if_true, ho, Option.bind_some]
       rw [stL_fun i hg']
       simp [g']
     obtain ⟨f, f1, f2, f3, f4, f5, f6⟩ := arun_rec l (i + 1) _ ts1 p1 s' ts' p' g' hl' hrun e1
     have hfi : f i = r := by rw [f1 i (by omega)]; simp [g']
     have hfg : ∀ j, j < i → f j = g j := fun j hj => by rw [f1 j (by omega), hg' j hj]
     refine ⟨f, hfg, fun j o' hj hoj => ?_, ?_, fun hp' => ?_, fun x hx => f5 x (hsub x hx), fun j h1 h2 h3 => ?_⟩
     · by_cases he : j = i
       · subst he
         rw [ho] at hoj
         simp at hoj
         subst hoj
         rw [stL_fun j hfg, ← hs, hfi]; exact hst
       · exact f2 j o' (by omega) hoj
     · rw [f3]; congr 1; simp; omega
     · obtain ⟨h1, h2⟩ := f4 hp'
       obtain ⟨h3, h4⟩ := hp1 h1
       refine ⟨h3, fun j hj1 hj2 => ?_⟩
       by_cases he : j = i
       · subst he; rw [hfi]; exact h4
       · exact h2 j (by omega) (by simp at hj2; omega)
     · by_cases he : j = i
       · subst he; rw [hfi] at h3 ⊢; exact f5 _ (hhas h3)
       · exact f6 j (by omega) (by simp at h2; omega) h3
   simp only [arun] at h
   have hast : astep P T orc n ops i o s.st = match aGuard ops (lk s.env) o with
     | some true => aexec P T (orc i) (n + 8 * i) (lk s.env) (lkh s.hp) o.op
     | some false => some { v := .val undef }
     | none => none := rfl
   split at h
   · rename_i hg
     rw [hg] at hast
     split at h
     · rename_i r hr
       exact go r _ _ (by rw [hast]; exact hr) h (fun hp => hp) (touch_sub i r ts) (touch_has i r ts)
     · simp at h
   · rename_i hg
     rw [hg] at hast
     exact go { v := .val undef } ts p hast (by simpa using h) (fun hp => ⟨hp, trivial⟩) (fun x hx => hx) (fun hh => absurd ⟨rfl, rfl⟩ hh)
   · simp at h
def binding (o : Oper) : List Nat := (o.after.toList.filter fun e => Region.binds .any e).map (·.on)
def maskOf (acc : List Nat) : List Nat → Nat
 | [] => 0
 | d :: ds => 2 ^ d ||| acc.getD d 0 ||| maskOf acc ds
def masks : List Oper → List Nat → List Nat
 | [], acc => acc
 | o :: r, acc => masks r (acc ++ [maskOf acc (binding o)])
theorem maskOf_bit {acc : List Nat} {x : Nat} : ∀ {ds : List Nat}, (maskOf acc ds).testBit x = true → ∃ d ∈ ds, x = d ∨ (acc.getD d 0).testBit x = true
 | [], h => by simp [maskOf] at h
 | d :: ds, h => by
   simp only [maskOf, Nat.testBit_or, Bool.or_eq_true, Nat.testBit_two_pow, decide_eq_true_eq] at h
   rcases h with (h | h) | h
   · exact ⟨d, by simp, .inl h.symm⟩
   · exact ⟨d, by simp, .inr h⟩
   · obtain ⟨d', h1, h2⟩ := maskOf_bit h
     exact ⟨d', by simp [h1], h2⟩
theorem masks_acc : ∀ (l : List Oper) (acc : List Nat), ∃ r, masks l acc = acc ++ r
 | [], acc => ⟨[], by simp [masks]⟩
 | o :: l, acc => by
   obtain ⟨r, hr⟩ := masks_acc l (acc ++ [maskOf acc (binding o)])
   exact ⟨[maskOf acc (binding o)] ++ r, by simp only [masks, hr, List.append_assoc]⟩
theorem masks_get : ∀ (l : List Oper) (acc : List Nat) (j : Nat), acc.length ≤ j → ∀ x, ((masks l acc).getD j 0).testBit x = true → ∃ o, l[j - acc.length]? = some o ∧ ∃ d ∈ binding o, x = d ∨ (d < j ∧ ((masks l acc).getD d 0).testBit x = true)
 | [], acc, j, hj, x, h => by
   simp only [masks] at h
   rw [List.getD_eq_getElem?_getD, List.getElem?_eq_none hj] at h
   simp at h
 | o :: l, acc, j, hj, x, h => by
   simp only [masks] at h ⊢
   by_cases he : j = acc.length
   · subst he
     refine ⟨o, by simp, ?_⟩
     obtain ⟨r, hr⟩ := masks_acc l (acc ++ [maskOf acc (binding o)])
     have e1 : (masks l (acc ++ [maskOf acc (binding o)])).getD acc.length 0 = maskOf acc (binding o) := by
       rw [hr]; simp [List.getD_eq_getElem?_getD]
     rw [e1] at h
     obtain ⟨d, hd, hx⟩ := maskOf_bit h
     refine ⟨d, hd, ?_⟩
     rcases hx with hx | hx
     · exact .inl hx
     · right
       have hlt : d < acc.length := by
         rcases Nat.lt_or_ge d acc.length with h | h
         · exact h
         · rw [List.getD_eq_getElem?_getD, List.getElem?_eq_none h] at hx; simp at hx
       refine ⟨hlt, ?_⟩
       rw [hr]
       simp only [List.getD_eq_getElem?_getD, List.append_assoc, List.getElem?_append_left hlt] at hx ⊢
       exact hx
   · obtain ⟨o', h1, d, hd, hx⟩ := masks_get l (acc ++ [maskOf acc (binding o)]) j (by simp; omega) x h
     refine ⟨o', ?_, d, hd, hx⟩
     simp only [List.length_append, List.length_singleton] at h1
     rw [show j - acc.length = (j - (acc.length + 1)) + 1 by omega]
     simpa using h1
def ancP (ops : Array Oper) (j x : Nat) : Prop := ((masks ops.toList []).getD j 0).testBit x = true
theorem ancP_lt {j x : Nat} (h : ancP ops j x) : j < ops.size := by
 obtain ⟨o, h1, _⟩ := masks_get ops.toList [] j (by simp) x h
 simp at h1
 exact getElem?_lt h1
theorem ancP_up (L : Nat → Bool) (hL : ∀ (j : Nat) (o : Oper), ops[j]? = some o → L j = true → ∀ e ∈ o.after.toList, Region.binds .any e = true → L e.on = true) :
   ∀ (j : Nat) (o : Oper) (x : Nat), ops[j]? = some o → (∀ e ∈ o.after.toList, Region.binds .any e = true → L e.on = true) → ancP ops j x → L x = true := by
 intro j
 induction j using Nat.strongRecOn with
 | _ j ih =>
   intro o x ho hpre h
   obtain ⟨o', h1, d, hd, hx⟩ := masks_get ops.toList [] j (by simp) x h
   simp at h1
   rw [ho] at h1
   simp at h1
   subst h1
   have hLd : L d = true := by
     simp only [binding, List.mem_map, List.mem_filter] at hd
     obtain ⟨e, ⟨he, hb⟩, rfl⟩ := hd
     exact hpre e he hb
   rcases hx with rfl | ⟨hlt, hx⟩
   · exact hLd
   · have hd' := ancP_lt hx
     exact ih d hlt ops[d] x (by simp [hd']) (hL d ops[d] (by simp [hd']) hLd) hx
def slotConf (ops : Array Oper) (a b : Oper) : Bool :=
 (match a.dst with
  | some t => (b.looksAt ops).contains t || b.dst == some t
  | none => false) ||
 (match b.dst with
  | some t => (a.looksAt ops).contains t
  | none => false)
def slotsOkAt (ops : Array Oper) (m : Nat) (b : Oper) : List Oper → Nat → Bool
 | [], _ => true
 | a :: r, i => (!slotConf ops a b || m.testBit i) && slotsOkAt ops m b r (i + 1)
def slotsOk (ops : Array Oper) (M : List Nat) (all : List Oper) : List Oper → Nat → Bool
 | [], _ => true
 | b :: r, j => slotsOkAt ops (M.getD j 0) b (all.take j) 0 && slotsOk ops M all r (j + 1)
def edgesOk : List Oper → Nat → Bool
 | [], _ => true
 | o :: r, j => (binding o).all (fun d => decide (d < j)) && edgesOk r (j + 1)
def dstsOk (N : Nat) : List Oper → Bool
 | [] => true
 | o :: r => (match o.dst with | some d => decide (d < N) | none => true) && dstsOk N r
def regOk (N : Nat) (ops : Array Oper) (draw : Bool) : Bool :=
 dstsOk N ops.toList && (!draw || (edgesOk ops.toList 0 && slotsOk ops (masks ops.toList []) ops.toList ops.toList 0))
def touchesOk (M : List Nat) (ts : List Touch) : Bool :=
 ts.all fun x => ts.all fun y => x.1 == y.1 || !(x.2.2.any fun k => y.2.1.contains k || y.2.2.contains k) || (if x.1 < y.1 then (M.getD y.1 0).testBit x.1 else (M.getD x.1 0).testBit y.1)
theorem dstsOk_spec {N : Nat} : ∀ {l : List Oper}, dstsOk N l = true → ∀ o ∈ l, ∀ d, o.dst = some d → d < N
 | [], _, o, ho, _, _ => by simp at ho
 | a :: r, h, o, ho, d, hd => by
   simp only [dstsOk, Bool.and_eq_true] at h
   rcases List.mem_cons.1 ho with rfl | ho
   · have := h.1; rw [hd] at this; simpa using this
   · exact dstsOk_spec h.2 o ho d hd
theorem edgesOk_spec : ∀ {l : List Oper} {j : Nat}, edgesOk l j = true → ∀ (k : Nat) (o : Oper), l[k]? = some o → ∀ d ∈ binding o, d < j + k
 | [], _, _, k, o, ho, _, _ => by simp at ho
 | a :: r, j, h, k, o, ho, d, hd => by
   simp only [edgesOk, Bool.and_eq_true, List.all_eq_true, decide_eq_true_eq] at h
   cases k with
   | zero => simp at ho; subst ho; have := h.1 d hd; omega
   | succ k => have := edgesOk_spec h.2 k o (by simpa using ho) d hd; omega
theorem slotsOkAt_spec {m : Nat} {b : Oper} : ∀ {l : List Oper} {i : Nat}, slotsOkAt ops m b l i = true → ∀ (k : Nat) (a : Oper), l[k]? = some a → slotConf ops a b = true → m.testBit (i + k) = true
 | [], _, _, k, a, ha, _ => by simp at ha
 | c :: r, i, h, k, a, ha, hc => by
   simp only [slotsOkAt, Bool.and_eq_true] at h
   cases k with
   | zero => simp at ha; subst ha; have := h.1; rw [hc] at this; simpa using this
   | succ k => have := slotsOkAt_spec h.2 k a (by simpa using ha) hc; rw [show i + (k + 1) = i + 1 + k by omega]; exact this
theorem slotsOk_spec {M : List Nat} {all : List Oper} : ∀ {l : List Oper} {j : Nat}, slotsOk ops M all l j = true → ∀ (k : Nat) (b : Oper), l[k]? = some b → ∀ (i : Nat) (a : Oper), i < j + k → all[i]? = some a → slotConf ops a b = true → (M.getD (j + k) 0).testBit i = true
 | [], _, _, k, b, hb, _, _, _, _, _ => by simp at hb
 | c :: r, j, h, k, b, hb, i, a, hi, ha, hc => by
   simp only [slotsOk, Bool.and_eq_true] at h
   cases k with
   | zero =>
     simp at hb; subst hb
     have := slotsOkAt_spec h.1 i a (by rw [List.getElem?_take_of_lt (by omega)]; exact ha) hc
     simpa using this
   | succ k => have := slotsOk_spec h.2 k b (by simpa using hb) i a (by omega) ha hc; rw [show j + (k + 1) = j + 1 + k by omega]; exact this
theorem sep_of {f : Nat → Out} {N : Nat} (h : regOk N ops true = true) {ts : List Touch} (ht : touchesOk (masks ops.toList []) ts = true) (hts : ∀ j, j < ops.size → ¬ ((f j).hr = [] ∧ (f j).hw = []) → (j, (f j).hr, (f j).hw.map (·.1)) ∈ ts) : Sep ops f (ancP ops) := by
 simp only [regOk, Bool.and_eq_true, Bool.not_true, Bool.false_or] at h
 obtain ⟨_, _, hsl⟩ := h
 refine ⟨?_, ?_⟩
 · intro i j oi oj t hne hi hj hd hr
   rcases Nat.lt_or_gt_of_ne hne with hlt | hlt
   · left
     refine ⟨hlt, ?_⟩
     have := slotsOk_spec hsl j oj (by simpa using hj) i oi (by omega) (by simpa using hi) (by
       simp only [slotConf, hd, Bool.or_eq_true]
       left
       rcases hr with hr | hr
       · left; simpa using hr
       · right; simp [hr])
     simpa [ancP] using this
   · right
     refine ⟨hlt, ?_⟩
     have := slotsOk_spec hsl i oi (by simpa using hi) j oj (by omega) (by simpa using hj) (by
       simp only [slotConf, hd, Bool.or_eq_true]
       rcases hr with hr | hr
       · right; simpa using hr
       · left; rw [hr]; simp)
     simpa [ancP] using this
 · intro i j x hne hi hj hx hr
   have h1 : ¬ ((f i).hr = [] ∧ (f i).hw = []) := fun h => by rw [h.2] at hx; simp at hx
   have h2 : ¬ ((f j).hr = [] ∧ (f j).hw = []) := fun h => by rw [h.1, h.2] at hr; simp at hr
   have m1 := hts i hi h1
   have m2 := hts j hj h2
   simp only [touchesOk, List.all_eq_true] at ht
   have := ht _ m1 _ m2
   simp only [Bool.or_eq_true, beq_iff_eq, Bool.not_eq_true'] at this
   rcases this with (h | h) | h
   · exact absurd h hne
   · exfalso
     rw [Bool.eq_false_iff] at h
     apply h
     rw [List.any_eq_true]
     refine ⟨x, hx, ?_⟩
     rcases hr with hr | hr
     · simp [List.contains_iff_mem, hr]
     · rw [Bool.or_eq_true]; right; rw [List.contains_iff_mem]; exact hr
   · rcases Nat.lt_or_gt_of_ne hne with hlt | hlt
     · rw [if_pos hlt] at h; exact .inl ⟨hlt, h⟩
     · rw [if_neg (by omega)] at h; exact .inr ⟨hlt, h⟩
/-- A region by its run. -/
theorem region_run {C : Ctx} {Q : Exit → Act → World → Prop} (hT : TabOk P T) (hm : P.follows .mixedOrders = true) {s s' : AS} {ts : List Touch} {p : Prop} {draw : Bool} (hrun : arun P T orc n ops ops.toList 0 s [] True = some (s', ts, p)) (hp : p)
   (hok : regOk C.N ops draw = true) (ht : draw = true → touchesOk (masks ops.toList []) ts = true) {a : Act} {w : World} (h : InvC C n s.st a w) (hQ : ∀ a' w', InvC C (n + 8 * ops.size) s'.st a' w' → Q .normal a' w') {id : Nat} :
   (Code.region id ops draw).wp P Q a w := by
 obtain ⟨f, _, f2, f3, f4, _, f6⟩ := arun_rec (s0 := s.st) ops.toList 0 s [] True s' ts p (fun _ => { v := .any }) (by simp) hrun rfl
 obtain ⟨_, hob⟩ := f4 hp
 simp only [Nat.zero_add, Array.length_toList] at f3 hob f6
 have hd : dstsOk C.N ops.toList = true := by simp only [regOk, Bool.and_eq_true] at hok; exact hok.1
 have hrec : Rec P T orc n C.N ops f s.st := ⟨fun i o ho => f2 i o (by omega) ho, fun i hi => hob i (by omega) hi, fun i o d ho hdo => dstsOk_spec hd o (by rw [Array.mem_toList_iff]; exact Array.mem_of_getElem? ho) d hdo⟩
 rw [f3] at hQ
 cases draw with
 | false => exact region_text hT hrec h hQ
 | true =>
   refine region_drawn hT hm hrec (sep_of hok (ht rfl) (fun j hj => f6 j (by omega) hj)) (ancP_up) (fun j x => ancP_lt) ?_ h hQ
   intro j o ho e he hb
   simp only [regOk, Bool.and_eq_true, Bool.not_true, Bool.false_or] at hok
   have := edgesOk_spec hok.2.1 j o (by simpa using ho) e.on (by simp only [binding, List.mem_map, List.mem_filter]; exact ⟨e, ⟨he, hb⟩, rfl⟩)
   omega
end
def AW (P : Program) (C : Ctx) (c : Code) (Q : Exit → Nat → AS → Prop) (n : Nat) (s : AS) : Prop :=
 ∀ a w, InvC C n s.st a w → c.wp P (fun e a' w' => ∃ n' s', Q e n' s' ∧ InvC C n' s'.st a' w') a w
def thenQ (next : Nat → AS → Prop) (Q : Exit → Nat → AS → Prop) : Exit → Nat → AS → Prop
 | .normal, n, s => next n s
 | e, n, s => Q e n s
def blockQ (id : Nat) (Q : Exit → Nat → AS → Prop) : Exit → Nat → AS → Prop
 | .exit id', n, s => if id' = id then Q .normal n s else Q (.exit id') n s
 | e, n, s => Q e n s
section
variable {P : Program} {T : Tab} {C : Ctx} {Q : Exit → Nat → AS → Prop} {n : Nat} {s : AS}
theorem AW.skip (h : Q .normal n s) : AW P C .skip Q n s := fun a w hI => wp_skip ⟨n, s, h, hI⟩
theorem AW.exit {id : Nat} (h : Q (.exit id) n s) : AW P C (.exit id) Q n s := fun a w hI => wp_exit ⟨n, s, h, hI⟩
theorem AW.ret (h : Q .ret n s) : AW P C .ret Q n s := fun a w hI => wp_ret ⟨n, s, h, hI⟩
theorem AW.seq {x y : Code} (h : AW P C x (thenQ (AW P C y Q) Q) n s) : AW P C (.seq x y) Q n s := by
 intro a w hI
 refine wp_seq (wp_mono (h a w hI) ?_)
 rintro e a' w' ⟨n', s', hq, hI'⟩
 cases e with
 | normal => exact hq a' w' hI'
 | exit id => exact ⟨n', s', hq, hI'⟩
 | goto l => exact ⟨n', s', hq, hI'⟩
 | ret => exact ⟨n', s', hq, hI'⟩
 | panic c => exact ⟨n', s', hq, hI'⟩
 | outgrown => exact ⟨n', s', hq, hI'⟩
theorem AW.cond {c : Operand} {x y : Code} {t : Bool} (hc : evA (lk s.env) c = .val (.bool t)) (h : AW P C (if t then x else y) Q n s) : AW P C (.cond c x y) Q n s := by
 intro a w hI
 have : a.eval c = .bool t := by
   obtain ⟨β, hS, _⟩ := hI
   have := evA_rep hS.env c
   have e : evA s.st.env c = .val (.bool t) := hc
   rw [e] at this
   simpa [Rep] using this
 exact wp_cond this (h a w hI)
theorem AW.block {id : Nat} {c : Code} (h : AW P C c (blockQ id Q) n s) : AW P C (.block id c) Q n s := by
 intro a w hI
 refine wp_block (wp_mono (h a w hI) ?_)
 rintro e a' w' ⟨n', s', hq, hI'⟩
 cases e with
 | exit id' =>
   simp only [Exit.inBlock, blockQ] at hq ⊢
   split
   · rename_i he; rw [if_pos he] at hq; exact ⟨n', s', hq, hI'⟩
   · rename_i he; rw [if_neg he] at hq; exact ⟨n', s', hq, hI'⟩
 | normal => exact ⟨n', s', hq, hI'⟩
 | goto l => exact ⟨n', s', hq, hI'⟩
 | ret => exact ⟨n', s', hq, hI'⟩
 | panic c => exact ⟨n', s', hq, hI'⟩
 | outgrown => exact ⟨n', s', hq, hI'⟩
theorem least {R : Nat → Prop} (h : ∃ m, R m) : ∃ m, R m ∧ ∀ k, R k → m ≤ k := by
 obtain ⟨m, hm⟩ := h
 induction m using Nat.strongRecOn with
 | _ m ih =>
   by_cases hk : ∃ k, k < m ∧ R k
   · obtain ⟨k, h1, h2⟩ := hk; exact ih k h1 h2
   · exact ⟨m, hm, fun k hk' => by rcases Nat.lt_or_ge k m with h | h; exact absurd ⟨k, h, hk'⟩ hk; exact h⟩
/-- A loop: J m n s holds at its head, with a measure m that each round makes smaller. -/
theorem AW.loop {c : Code} (J : Nat → Nat → AS → Prop) {m : Nat} (h0 : J m n s) (hr : ∀ m n s, J m n s → AW P C c (thenQ (fun n' s' => ∃ m', m' < m ∧ J m' n' s') Q) n s) : AW P C (.loop c) Q n s := by
 intro a w hI
 let R : Act → World → Nat → Prop := fun a w m => ∃ n s, J m n s ∧ InvC C n s.st a w
 let μ : Act → World → Nat := fun a w => open Classical in if h : ∃ m, R a w m then Classical.choose (least h) else 0
 have hμ : ∀ a w, (∃ m, R a w m) → R a w (μ a w) ∧ ∀ k, R a w k → μ a w ≤ k := by
   intro a w h
   have e : μ a w = Classical.choose (least h) := by simp only [μ, dif_pos h]
   rw [e]; exact Classical.choose_spec (least h)
 refine wp_loop (fun a w => ∃ m, R a w m) μ ⟨m, n, s, h0, hI⟩ ?_
 intro a w hR
 obtain ⟨⟨n1, s1, hJ, hI1⟩, _⟩ := hμ a w hR
 refine wp_mono (hr _ n1 s1 hJ a w hI1) ?_
 rintro e a' w' ⟨n', s', hq, hI'⟩
 cases e with
 | normal =>
   obtain ⟨m', hlt, hJ'⟩ := hq
   have hR' : R a' w' m' := ⟨n', s', hJ', hI'⟩
   exact ⟨⟨m', hR'⟩, Nat.lt_of_le_of_lt ((hμ a' w' ⟨m', hR'⟩).2 m' hR') hlt⟩
 | exit id => exact ⟨n', s', hq, hI'⟩
 | goto l => exact ⟨n', s', hq, hI'⟩
 | ret => exact ⟨n', s', hq, hI'⟩
 | panic c => exact ⟨n', s', hq, hI'⟩
 | outgrown => exact ⟨n', s', hq, hI'⟩
theorem AW.mono {c : Code} {Q' : Exit → Nat → AS → Prop} (h : AW P C c Q n s) (hq : ∀ e n s, Q e n s → Q' e n s) : AW P C c Q' n s :=
 fun a w hI => wp_mono (h a w hI) (fun e a' w' ⟨n', s', h1, h2⟩ => ⟨n', s', hq _ _ _ h1, h2⟩)
theorem good_sub {X : Nat → Prop} {w : World} {β : Gm} {hp hp' : Hp} (hg : Good X w β hp) (hs : ∀ i e, hp' i = some e → hp i = some e) : Good X w β hp' ∧ Frm w (Own X β hp) w (Own X β hp') := by
 have hO : ∀ b, Own X β hp' b → Own X β hp b := by
   rintro b (h | ⟨i, e, hi, hb⟩)
   · exact .inl h
   · exact .inr ⟨i, e, hs i e hi, hb⟩
 have hf : Frm w (Own X β hp) w (Own X β hp') := ⟨rfl, rfl, rfl, Nat.le_refl _, fun _ _ _ => rfl, fun b hb => .inl (hO b hb), fun _ _ h => h⟩
 exact ⟨good_of hg hf (GmExt.refl _) (fun i j e f b hi hj => hg.inj i j e f b (hs i e hi) (hs j f hj)) (fun j e hj => .inr ⟨hs j e hj, fun _ _ => rfl⟩) (fun j e b hj => hg.xdis j e b (hs j e hj)), hf⟩
theorem InvC.sub {s' : St} {st : St} {a : Act} {w : World} (h : InvC C n st a w) (he : ∀ t, s'.env t = st.env t ∨ s'.env t = .any) (hh : ∀ i e, s'.hp i = some e → st.hp i = some e) : InvC C n s' a w := by
 obtain ⟨β, hS, hn⟩ := h
 obtain ⟨hg, hf⟩ := good_sub hS.good hh
 refine ⟨β, ⟨hg, fun t => ?_, hS.size, hS.defers, hS.frm.trans hf, hS.keepX, hS.ext⟩, hn⟩
 rcases he t with h | h
 · rw [h]; exact Rep.mono (hf.stab (GmExt.refl _)) _ _ (hS.env t)
 · rw [h]; simp [Rep]
def idsL : List AV → List Nat
 | [] => []
 | .osl i _ _ :: r => i :: idsL r
 | .ptr i _ _ _ :: r => i :: idsL r
 | _ :: r => idsL r
def idsTop (hp : List (Nat × Option Ent)) : AV → List Nat
 | .osl i _ _ => [i]
 | .ptr i _ _ _ => i :: (match lkh hp i with
   | some e => match e.es with
     | [cs] => idsL cs
     | _ => []
   | none => [])
 | .agg cs => idsL cs
 | .tup cs => idsL cs
 | _ => []
def addNew (l : List Nat) : List Nat → List Nat
 | [] => l
 | x :: r => if x ∈ l then addNew l r else addNew (x :: l) r
def reach (hp : List (Nat × Option Ent)) : List (Nat × AV) → List Nat → List Nat
 | [], acc => acc
 | (_, a) :: r, acc => reach hp r (addNew acc (idsTop hp a))
def keepE (env : List (Nat × AV)) : List Nat → List (Nat × AV)
 | [] => []
 | t :: r => (t, lk env t) :: keepE env r
def keepH (hp : List (Nat × Option Ent)) : List Nat → List (Nat × Option Ent)
 | [] => []
 | i :: r => (i, lkh hp i) :: keepH hp r
def trim (keep : List Nat) (s : AS) : AS := ⟨keepE s.env keep, keepH s.hp (reach s.hp (keepE s.env keep) [])⟩
theorem keepE_lk (env : List (Nat × AV)) : ∀ (l : List Nat) (t : Nat), lk (keepE env l) t = lk env t ∨ lk (keepE env l) t = .any
 | [], t => .inr rfl
 | u :: r, t => by
   simp only [keepE, lk]
   split
   · rename_i h; subst h; exact .inl rfl
   · exact keepE_lk env r t
theorem keepH_lk (hp : List (Nat × Option Ent)) : ∀ (l : List Nat) (i : Nat) (e : Ent), lkh (keepH hp l) i = some e → lkh hp i = some e
 | [], i, e, h => by simp [keepH, lkh] at h
 | j :: r, i, e, h => by
   simp only [keepH, lkh] at h
   split at h
   · rename_i he; subst he; exact h
   · exact keepH_lk hp r i e h
theorem InvC.trim {a : Act} {w : World} (keep : List Nat) (h : InvC C n s.st a w) : InvC C n (Av.trim keep s).st a w :=
 h.sub (fun t => keepE_lk s.env keep t) (fun i e hi => keepH_lk s.hp _ i e hi)
/-- A region: its run, what it asks, and what is kept of it. -/
theorem AW.region (hT : TabOk P T) (hm : P.follows .mixedOrders = true) {orc : Nat → Option Orc} {id : Nat} {ops : Array Oper} {draw : Bool} {N : Nat} (hN : C.N = N) (hok : regOk N ops draw = true) (keep : List Nat) {s' : AS} {ts : List Touch} {p : Prop}
   (hrun : arun P T orc n ops ops.toList 0 s [] True = some (s', ts, p)) (ht : (!draw || touchesOk (masks ops.toList []) ts) = true) (hp : p) (hQ : Q .normal (n + 8 * ops.size) (trim keep s')) : AW P C (.region id ops draw) Q n s := by
 intro a w hI
 subst hN
 refine region_run hT hm hrun hp hok (fun h => by subst h; simpa using ht) hI ?_
 intro a' w' hI'
 exact ⟨_, _, hQ, hI'.trim keep⟩
end
end Go.Av
