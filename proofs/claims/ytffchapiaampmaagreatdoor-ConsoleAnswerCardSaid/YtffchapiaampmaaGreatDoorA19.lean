/-
  Part 19 of the proof that logtidelaw45.ConsoleAnswer returns true for every list of bytes and every text, and leaves both as they were.
-/
import Derived.Test.YtffchapiaampmaaGreatDoorA18
set_option linter.unusedSimpArgs false
set_option linter.unusedVariables false
namespace Go.Av
section
variable {X : Nat → Prop} {P : Program} {T : Tab} {w : World} {β : Gm} {hp : Hp} {nb : Nat} {env : Env}
theorem repE_take' {O : Nat → Prop} {sz : Nat} : ∀ (k : Nat) (es : List (List AV)) (vs : List Value), RepE w β O sz es vs → ∃ v1 v2, vs = v1 ++ v2 ∧ RepE w β O sz (es.take k) v1
 | 0, es, vs, h => ⟨[], vs, rfl, by simp [RepE]⟩
 | k + 1, [], vs, h => ⟨[], vs, rfl, by simp [RepE]⟩
 | k + 1, c :: es, vs, h => by
   simp only [RepE] at h
   obtain ⟨u, r, rfl, h1, h2, h3⟩ := h
   obtain ⟨v1, v2, rfl, h4⟩ := repE_take' k es r h3
   exact ⟨u ++ v1, v2, by simp, by simp only [List.take_succ_cons, RepE]; exact ⟨u, v1, rfl, h1, h2, h4⟩⟩
theorem raw_cut (hT : TabOk P T) {t : TypeId} {x : Operand} {lo hi : Option Operand} {i n sz : Nat} {e : Ent} {ob ob' : Prop} {hr : List Nat} (he : hp i = some e)
   (h : aexec0 P T none nb env hp (.slice t x lo hi none) = some ⟨.osv i 0 n sz, [], hr, ob⟩) (hob : ob) :
   RawOk P nb env hp (.slice t x lo hi none) ⟨.osl i n sz, [(i, some { e with es := e.es.take n })], [i], ob'⟩ := by
 intro env' hp' hev hh X w β a o ho hg hfresh henv
 have he' : hp' i = some e := by rw [← hh i (by simp)]; exact he
 rw [aexec0_congr hev] at h
 simp only [aexec0] at h
 obtain ⟨z, h1, h2, _⟩ := slice_sound hT henv h hob (evA_rep henv x)
 refine ⟨z, w, β, by simp only [execOp, ho]; exact run_v h1, ?_⟩
 have hO : Own X β (setHp hp' [(i, some { e with es := e.es.take n })]) = Own X β hp' := by
   funext b
   apply propext
   constructor
   · rintro (hb | ⟨j, f, hj, hb⟩)
     · exact .inl hb
     · simp only [setHp] at hj
       split at hj
       · rename_i hji; subst hji; exact .inr ⟨j, e, he', hb⟩
       · exact .inr ⟨j, f, hj, hb⟩
   · rintro (hb | ⟨j, f, hj, hb⟩)
     · exact .inl hb
     · by_cases hji : j = i
       · subst hji; exact .inr ⟨j, { e with es := e.es.take n }, by simp [setHp], hb⟩
       · exact .inr ⟨j, f, by simp only [setHp, if_neg hji]; exact hj, hb⟩
 have hget : ∀ j f, setHp hp' [(i, some { e with es := e.es.take n })] j = some f → ∃ f', hp' j = some f' := by
   intro j f hj
   simp only [setHp] at hj
   split at hj
   · rename_i hji; subst hji; exact ⟨e, he'⟩
   · exact ⟨f, hj⟩
 refine ⟨?_, ?_, ?_, GmExt.refl _, fun _ _ => rfl, fun j hj => .inl hj⟩
 · simp only [hO]
   simp only [Rep] at h2 ⊢
   rcases h2 with h2 | ⟨b, off, cap, T', m, g1, g2, g3, g4, g5, g6⟩
   · exact .inl h2
   · have : off = 0 := by omega
     subst this
     exact .inr ⟨b, cap, T', m, g1, g2, g3, g5, by omega⟩
 · refine ⟨fun j k f1 f2 b g1 g2 => ?_, ?_, fun j f b g1 => ?_, hg.xlt, hg.laid.1, fun b hb => ⟨(hg.laid.2 b hb).1, fun h => (hg.laid.2 b hb).2 (hO ▸ h)⟩⟩
   · obtain ⟨f1', q1⟩ := hget j f1 g1
     obtain ⟨f2', q2⟩ := hget k f2 g2
     exact hg.inj j k f1' f2' b q1 q2
   · intro j f hj
     show EntOk w β (Own X β (setHp hp' [(i, some { e with es := e.es.take n })])) (β j) f
     rw [hO]
     simp only [setHp] at hj
     split at hj
     · rename_i hji; subst hji
       simp only [Option.some.injEq] at hj; subst hj
       rcases hg.ent j e he' with ⟨q1, q2⟩ | ⟨b, c, fr, vs, rest, q1, q2, q3, q4, q5⟩
       · exact .inl ⟨q1, by simp [q2]⟩
       · obtain ⟨v1, v2, rfl, q6⟩ := repE_take' n e.es vs q5
         exact .inr ⟨b, c, fr, v1, v2 ++ rest, q1, q2, q3, by rw [q4]; simp, q6⟩
     · exact hg.ent j f hj
   · obtain ⟨f', q⟩ := hget j f g1
     exact hg.xdis j f' b q
 · show Frm w (Own X β hp') w (Own X β (setHp hp' [(i, some { e with es := e.es.take n })]))
   rw [hO]
   exact Frm.refl _ _
end
section
variable {P : Program} {N kk n : Nat} {R : Res → Prop} {rv : List ResultVar} {st : List Fr} {s : AS} {ops : Array Oper} {s0 : AS} {G : Prop} {k : Nat} {ts : List Touch} {rem : List Oper}
theorem XO.sc (es' : List (List AV)) {o : Oper} {i m sz : Nat} {e : Ent} {hr : List Nat} {ob : Prop} {t : TypeId} {x : Operand} {lo hi : Option Operand} (h : XO P n ops s0 G (k + 1) rem ⟨putE o.dst (.osl i m sz) s.env, (i, some ⟨e.ty, e.sz, es'⟩) :: s.hp⟩ (touch k ⟨.osl i m sz, [(i, some ⟨e.ty, e.sz, es'⟩)], [i], True⟩ ts))
   (hop : o.op = .slice t x lo hi none := by rfl) (hr0 : aexec0 P (tabOf P) none (n + 8 * k) (lk s.env) (lkh s.hp) (.slice t x lo hi none) = some ⟨.osv i 0 m sz, [], hr, ob⟩ := by (try simp only [go_sem, seval]); (iterate 3 (first | (simp only [hx]; try simp only [go_sem, seval]) | skip)); rfl) (he : lkh s.hp i = some e := by rfl)
   (hob : ob := by (repeat' (with_reducible refine And.intro ?_ ?_)) <;> first | with_reducible exact True.intro | omega | with_reducible assumption | decide | (simp; done) | (simp; omega) | (simp [*]; done) | (simp [*]; omega))
   (hes : e.es.take m = es' := by (try simp only [go_sem]); simp [*]) (hgd : aGuard ops (lk s.env) o = some true := by rfl) : XO P n ops s0 G k (o :: rem) s ts := by
 subst hes
 have q := raw_cut (ob' := True) (tabOf_ok P) he hr0 hob
 rw [← hop] at q
 refine XO.runP (orc := fun _ => some ⟨[], [], [], .any, [], [], some ⟨.osl i m sz, [(i, some ⟨e.ty, e.sz, e.es.take m⟩)], [i], True⟩⟩) 1 (by simp) (rem' := rem) rfl (s' := ⟨putE o.dst (.osl i m sz) s.env, (i, some ⟨e.ty, e.sz, e.es.take m⟩) :: s.hp⟩) (ts' := touch k ⟨.osl i m sz, [(i, some ⟨e.ty, e.sz, e.es.take m⟩)], [i], True⟩ ts) (p := True ∧ True ∧ RawOk P (n + 8 * k) (lk s.env) (lkh s.hp) o.op ⟨.osl i m sz, [(i, some ⟨e.ty, e.sz, e.es.take m⟩)], [i], True⟩) ?_ ⟨trivial, trivial, q⟩ h
 simp only [List.take_succ_cons, List.take_zero, arun, hgd, aexec, rawOf]
 rfl
end
def nestE : List (List AV) → List Nat
 | [] => []
 | c :: cs => idsL c ++ nestE cs
def topN (hp : List (Nat × Option Ent)) (a : AV) : List Nat := match a with
 | .osl i _ _ => i :: (match lkh hp i with
   | some e => nestE e.es
   | none => [])
 | .ptr i _ _ _ => i :: (match lkh hp i with
   | some e => nestE e.es
   | none => [])
 | a => idsTop hp a
def reachN (hp : List (Nat × Option Ent)) : List (Nat × AV) → List Nat → List Nat
 | [], acc => acc
 | (_, a) :: r, acc => reachN hp r (addEnd acc (topN hp a))
def liveN (ks keep : List Nat) (s : AS) : List Nat := reachN s.hp (keepE s.env keep) ks
def trimN (ks keep : List Nat) (s : AS) : AS := ⟨envC (liveN ks keep s) (keepE s.env keep), hpC s.hp (liveN ks keep s) 0 (liveN ks keep s)⟩
theorem reachN_ok {hp : List (Nat × Option Ent)} : ∀ (env : List (Nat × AV)) (l : List Nat), l.Nodup → (reachN hp env l).Nodup ∧ ∃ r, reachN hp env l = l ++ r
 | [], l, h => ⟨h, [], by simp [reachN]⟩
 | (t, a) :: env, l, h => by
   simp only [reachN]
   obtain ⟨h1, r, h2⟩ := addEnd_ok (topN hp a) l h
   obtain ⟨h3, r', h4⟩ := reachN_ok env _ h1
   exact ⟨h3, r ++ r', by rw [h4, h2]; simp⟩
theorem wk_trimN {s : AS} {k : Nat} {ks keep : List Nat} (hks : ks = List.range k) : Wk k s (liveN ks keep s).length (trimN ks keep s) := by
 obtain ⟨hnd, r, hr⟩ := reachN_ok (hp := s.hp) (keepE s.env keep) ks (by rw [hks]; exact List.nodup_range)
 refine ⟨(liveN ks keep s).map some, [], ⟨hpC_nd _ 0 (by simp) hnd, by simp, ?_⟩, by simp, wkEnv_envC _ (fun t a h => keepE_mem h), hpC_wk _ 0 (by simp)⟩
 have : liveN ks keep s = List.range k ++ r := by rw [← hks]; exact hr
 rw [this, List.map_append, List.take_left' (by simp)]
attribute [go_sem] nestE topN reachN liveN trimN
section
variable {P : Program} {N kk n : Nat} {R : Res → Prop} {rv : List ResultVar} {st : List Fr} {s : AS} {s0 : AS} {k : Nat} {ts : List Touch}
theorem XO.doneN (keep : List Nat) {l : List Oper} {id : Nat} {draw : Bool} {n' : Nat} {s' : AS} {c' : Hd} {st' : List Fr} (h : XH P N kk R rv c' st' n' s')
   (hs : ((liveN (List.range kk) keep s).length, trimN (List.range kk) keep s) = (n', s') := by (try simp only [go_sem, seval]); rfl) (hn : navF 60 .n st = (c', st') := by rfl) (ht : (!draw || touchesOk (masks l []) ts) = true := by first | rfl | decide +kernel) (hok : regOk N l.toArray draw = true := by decide +kernel) (hk : l.length = k := by rfl) (hm : P.follows .mixedOrders = true := by exact mixed) :
   XO P n l.toArray s0 (XH P N kk R rv (.c (.region id l.toArray draw)) st n s0) k [] s ts := by
 rintro _ ⟨orc, p, s1, hr, hp, hse, hsh⟩
 have hst : s1.st = s.st := by simp only [AS.st, hse, hsh]
 have hall : l.toArray.toList.take k = l.toArray.toList := List.take_of_length_le (by simp; omega)
 rw [hall] at hr
 have hq : XH P N kk R rv .n st n' s' := navF_ok (by rw [hn]; exact h)
 simp only [Prod.mk.injEq] at hs
 obtain ⟨rfl, rfl⟩ := hs
 refine EX.step (fun x C hN hkk hq => ?_) (show XQ P N kk R rv .normal st _ _ from hq)
 intro a w hI
 refine region_run (tabOf_ok P) hm hr hp (hN ▸ hok) (fun hd => by subst hd; simpa using ht) hI ?_
 intro a' w' hI'
 rw [hst] at hI'
 exact ⟨_, _, hq, hI'.weak (hkk ▸ wk_trimN rfl)⟩
end
section
variable {P : Program} {T : Tab} {nb : Nat} {env : Env} {hp : Hp}
/-- The conditions of an operation, decided. -/
def obPart (tf : TI) (cs : List AV) : Bool := !tf.isAgg || decide (tf.size ≤ cs.length)
def obInt (op : BinOp) (k k' : IntKind) (b : Int) : Bool := match op with
 | .shl | .shr => decide (0 ≤ b)
 | .quo | .rem => decide (k = k') && decide (b ≠ 0)
 | _ => decide (k = k')
def obSrc (hp : Hp) (sz : Nat) : AV → Bool
 | .sl s es => s == sz
 | .osl i n s => match hp i with
   | some e => e.es.length == n && s == sz && e.sz == sz
   | none => false
 | .val (.slice none 0 0) => true
 | .val (.string s) => sz == 1
 | _ => false
def obBound (env : Env) : Option Operand → Bool
 | none => true
 | some x => match evA env x with
   | .val (.int _ n) => decide (0 ≤ n)
   | _ => false
def obFill (T : Tab) (t : TypeId) (env : Env) : List AV → List (Nat × Operand) → Bool
 | _, [] => true
 | cells, (f, x) :: r => match fieldOf T t f, acells (evA env x) with
   | some (o, tf), some xs => xs.length == tf.size && decide (o + xs.length ≤ cells.length) && obFill T t env (splice cells o xs) r
   | _, _ => false
def obD (T : Tab) (nb : Nat) (env : Env) (hp : Hp) (op : Op) : Bool := match op with
 | .move _ => true
 | .assign _ => true
 | .pick _ _ _ => true
 | .extract _ _ => true
 | .box _ _ => true
 | .alloc _ => true
 | .unOp _ _ _ => true
 | .binOp op _ x y _ => match evA env x, evA env y with
   | .val (.int k a), .val (.int k' b) => obInt op k k' b
   | .val (.string a), .val (.string b) => match op with
     | .add => decide ((((bl a).length + (bl b).length : Nat) : Int) < 2 ^ 63)
     | _ => true
   | .val (.bool _), .val (.bool _) => true
   | _, _ => false
 | .convert s d x => match descOf T s, descOf T d, evA env x with
   | some (.int _), some (.int _), .val (.int _ _) => true
   | some .string, some .string, .val (.string _) => true
   | _, _, _ => false
 | .field t x f => match fieldOf T t f, evA env x with
   | some (o, tf), .agg cs => obPart tf (cs.drop o)
   | _, _ => false
 | .fieldAddr t _ f => match fieldOf T t f with
   | some (_, tf) => tf.size != 0
   | none => false
 | .indexAddr t x i => match elemOf T t, evA env x, evA env i with
   | some (_, te), .sl sz es, .val (.int _ n) => decide (0 ≤ n) && sz == te.size
   | some (_, te), .osl _ m sz, .val (.int _ n) => decide (0 ≤ n) && decide (n < m) && sz == te.size
   | none, .ptr _ _ _ _, .val (.int _ n) => match arrOf T t with
     | some (len, _) => decide (0 ≤ n) && decide (n < len)
     | none => false
   | _, _, _ => false
 | .index t x i => match evA env i with
   | .val (.int _ n) => decide (0 ≤ n)
   | _ => false
 | .load t a => match T t, evA env a with
   | some ti, .rp cs => obPart ti cs
   | some ti, .ptr i sz k off => match hp i with
     | some e => match e.es[k]? with
       | some c => e.sz == sz && obPart ti (c.drop off)
       | none => false
     | none => false
   | _, _ => false
 | .store t a x => match T t, evA env a, acells (evA env x) with
   | some ti, .ptr i sz k off, some xs => match hp i with
     | some e => match e.es[k]? with
       | some c => e.sz == sz && decide (off + xs.length ≤ c.length) && xs.length == ti.size && xs.all storable
       | none => false
     | none => false
   | _, _, _ => false
 | .slice t x lo hi none => match descOf T t, evA env x with
   | some .string, .val (.string s) => match aBound env 0 lo, aBound env (bl s).length hi with
     | some (l, _), some (h, _) => obBound env lo && obBound env hi && decide (l ≤ h) && decide (h ≤ (bl s).length)
     | _, _ => false
   | _, _ => false
 | .build t parts => match T t with
   | some ti => obFill T t env (ti.zero.map .val) parts.toList && isStruct ti.desc
   | none => false
 | .buildSlice t len parts => match elemOf T t, partCells env parts.toList with
   | some (_, te), some es => allParts 0 parts.toList && es.length == len && es.all (fun c => c.length == te.size) && decide (len * te.size ≤ 2 ^ 24)
   | _, _ => false
 | .makeSlice _ _ _ => false
 | .call c => match c.callee with
   | .builtin .len => true
   | .builtin .min => true
   | .builtin .max => true
   | .builtin .append => match c.args.toList, c.argTypes.toList with
     | [x, y], [t, _] => match elemOf T t with
       | some (e, te) => match srcOf hp te.size (evA env y), evA env x with
         | some (es, _, _), .val (.slice none 0 0) => obSrc hp te.size (evA env y) && decide (0 < te.size) && decide (0 < te.bytes) && decide (es.length * te.bytes ≤ 2 ^ 47)
         | some (es, _, _), .osl i n sz => match hp i with
           | some en => obSrc hp te.size (evA env y) && es.all (fun c => c.all storable) && decide (0 < te.size) && decide (0 < te.bytes) && decide ((n + es.length) * te.bytes ≤ 2 ^ 47) && en.es.length == n && sz == te.size && en.sz == te.size && en.ty == e
           | none => false
         | _, _ => false
       | none => false
     | _, _ => false
   | _ => false
 | _ => false
theorem obPart_ok {tf : TI} {cs : List AV} {p : Prop} {hr : List Nat} {r : Out} (hd : obPart tf cs = true) (hp : p) (h : aPart tf cs p hr = some r) : r.ob := by
 unfold aPart at h
 split at h
 · rename_i ha
   simp only [Option.some.injEq] at h; subst h
   simp only [obPart, ha, Bool.not_true, Bool.false_or, decide_eq_true_eq] at hd
   exact ⟨hp, hd⟩
 · split at h
   · simp only [Option.some.injEq] at h; subst h; exact hp
   · simp at h
theorem obSrc_ok {sz : Nat} {y : AV} {es : List (List AV)} {rs : List Nat} {p : Prop} (hd : obSrc hp sz y = true) (h : srcOf hp sz y = some (es, rs, p)) : p := by
 unfold srcOf at h
 split at h
 · simp only [Option.some.injEq, Prod.mk.injEq] at h
   obtain ⟨rfl, rfl, rfl⟩ := h
   simpa [obSrc] using hd
 · split at h
   · rename_i e he
     simp only [Option.some.injEq, Prod.mk.injEq] at h
     obtain ⟨rfl, rfl, rfl⟩ := h
     simp only [obSrc, he, Bool.and_eq_true, beq_iff_eq] at hd
     exact ⟨hd.1.1, hd.1.2, hd.2⟩
   · simp at h
 · simp [obSrc] at hd
 · simp only [Option.some.injEq, Prod.mk.injEq] at h
   obtain ⟨rfl, rfl, rfl⟩ := h
   trivial
 · simp only [Option.some.injEq, Prod.mk.injEq] at h
   obtain ⟨rfl, rfl, rfl⟩ := h
   simpa [obSrc] using hd
 · simp at h
theorem obBound_ok {d l : Nat} {p : Prop} {x : Option Operand} (hd : obBound env x = true) (h : aBound env d x = some (l, p)) : p := by
 unfold aBound at h
 split at h
 · simp only [Option.some.injEq, Prod.mk.injEq] at h
   obtain ⟨rfl, rfl⟩ := h; trivial
 · rename_i x
   simp only [obBound] at hd
   split at h
   · rename_i k n hn
     simp only [Option.some.injEq, Prod.mk.injEq] at h
     obtain ⟨rfl, rfl⟩ := h
     simpa [hn] using hd
   · simp at h
theorem obFill_ok {t : TypeId} : ∀ {ps : List (Nat × Operand)} {cells cs : List AV} {q p : Prop}, obFill T t env cells ps = true → q → fillA T t env cells q ps = some (cs, p) → p
 | [], cells, cs, q, p, _, hq, h => by
   simp only [fillA, Option.some.injEq, Prod.mk.injEq] at h
   obtain ⟨rfl, rfl⟩ := h; exact hq
 | (f, x) :: r, cells, cs, q, p, hd, hq, h => by
   simp only [fillA] at h
   simp only [obFill] at hd
   split at h
   · rename_i o tf xs h1 h2
     simp only [h1, h2, Bool.and_eq_true, beq_iff_eq, decide_eq_true_eq] at hd
     exact obFill_ok hd.2 ⟨hq, hd.1.1, hd.1.2⟩ h
   · simp at h
theorem obInt_ok {op : BinOp} {k k' : IntKind} {a b : Int} (hd : obInt op k k' b = true) : (pint op k k' a b).2 := by
 cases op <;> simp only [obInt, pint, Bool.and_eq_true, decide_eq_true_eq] at hd ⊢ <;> exact hd
theorem obD_ok {op : Op} {r : Out} (hd : obD T nb env hp op = true) (h : aexec0 P T none nb env hp op = some r) : r.ob := by
 cases op with
 | move x => simp only [aexec0, out, Option.some.injEq] at h; subst h; trivial
 | assign x => simp only [aexec0, out, Option.some.injEq] at h; subst h; trivial
 | pick c a b =>
   simp only [aexec0] at h
   split at h
   · split at h <;> (simp only [out, Option.some.injEq] at h; subst h; trivial)
   · simp at h
 | extract x i =>
   simp only [aexec0] at h
   split at h
   · split at h
     · simp only [out, Option.some.injEq] at h; subst h; trivial
     · simp at h
   · simp at h
 | box el x =>
   simp only [aexec0] at h
   split at h
   · simp only [Option.some.injEq] at h; subst h; trivial
   · simp at h
 | alloc el =>
   simp only [aexec0] at h
   split at h
   · simp only [Option.some.injEq] at h; subst h; trivial
   · simp at h
 | unOp op t x =>
   simp only [aexec0] at h
   unfold aUn at h
   split at h
   · split at h
     · simp only [out, Option.some.injEq] at h; subst h; trivial
     · simp at h
   · split at h
     · simp only [out, Option.some.injEq] at h; subst h; trivial
     · simp only [out, Option.some.injEq] at h; subst h; trivial
     · simp at h
   · simp at h
 | binOp op xt x y yt =>
   simp only [aexec0] at h
   simp only [obD] at hd
   unfold aBin at h
   split at h
   · rename_i k a k' b h1 h2
     rw [h1, h2] at hd
     simp only [out, Option.some.injEq] at h; subst h
     exact obInt_ok hd
   · rename_i a b h1 h2
     rw [h1, h2] at hd
     split at h
     · rename_i v p hp'
       simp only [out, Option.some.injEq] at h; subst h
       cases op <;> simp only [pstr, Option.some.injEq, Prod.mk.injEq, reduceCtorEq] at hp' <;> (obtain ⟨_, rfl⟩ := hp') <;> first | exact of_decide_eq_true hd | trivial
     · simp at h
   · split at h
     · split at h
       · simp only [out, Option.some.injEq] at h; subst h; trivial
       · simp only [out, Option.some.injEq] at h; subst h; trivial
       · simp at h
     · simp at h
   · rename_i xs ys h1 h2
     simp [h1, h2] at hd
   · simp at h
 | convert s d x =>
   simp only [aexec0] at h
   simp only [obD] at hd
   split at hd
   · rename_i h1 h2 h3
     simp only [aConv, h1, h2, h3, out, Option.some.injEq] at h; subst h; trivial
   · rename_i h1 h2 h3
     simp only [aConv, h1, h2, h3, out, Option.some.injEq] at h; subst h; trivial
   · simp at hd
 | field t x f =>
   simp only [aexec0] at h
   simp only [obD] at hd
   unfold aField at h
   split at h
   · rename_i o tf cs h1 h2
     simp only [h1, h2] at hd
     exact obPart_ok hd trivial h
   · simp at h
 | fieldAddr t x f =>
   simp only [aexec0] at h
   simp only [obD] at hd
   unfold aFieldAddr at h
   split at h
   · rename_i o tf i sz k off h1 h2
     simp only [h1] at hd
     simp only [out, Option.some.injEq] at h; subst h
     simpa using hd
   · rename_i o tf cs h1 h2
     simp only [h1] at hd
     simp only [out, Option.some.injEq] at h; subst h
     simpa using hd
   · simp at h
 | indexAddr t x i =>
   simp only [aexec0] at h
   simp only [obD] at hd
   unfold aIndexAddr at h
   split at h
   · rename_i e te sz es k n h1 h2 h3
     simp only [h1, h2, h3, Bool.and_eq_true, decide_eq_true_eq, beq_iff_eq] at hd
     split at h
     · simp only [out, Option.some.injEq] at h; subst h; exact hd
     · simp at h
   · rename_i e te j m sz k n h1 h2 h3
     simp only [h1, h2, h3, Bool.and_eq_true, decide_eq_true_eq, beq_iff_eq] at hd
     simp only [out, Option.some.injEq] at h; subst h; exact ⟨hd.1.1, hd.1.2, hd.2⟩
   · rename_i h1 h2 h3
     simp [h1, h2, h3] at hd
   · rename_i j sz k off k2 n h1 h2 h3
     simp only [h1, h2, h3] at hd
     split at h
     · rename_i len te h4
       simp only [h4, Bool.and_eq_true, decide_eq_true_eq] at hd
       simp only [out, Option.some.injEq] at h; subst h; exact hd
     · simp at h
   · simp at h
 | index t x i =>
   simp only [aexec0] at h
   simp only [obD] at hd
   unfold aIndex at h
   split at h
   · rename_i s k n h1 h2 h3
     simp only [h3, decide_eq_true_eq] at hd
     split at h
     · simp only [out, Option.some.injEq] at h; subst h; exact hd
     · simp at h
   · simp at h
 | load t a =>
   simp only [aexec0] at h
   simp only [obD] at hd
   unfold aLoad at h
   split at h
   · rename_i ti cs h1 h2
     simp only [h1, h2] at hd
     exact obPart_ok hd trivial h
   · rename_i ti i sz k off h1 h2
     simp only [h1, h2] at hd
     split at h
     · rename_i e he
       simp only [he] at hd
       split at h
       · rename_i c hc
         simp only [hc, Bool.and_eq_true, beq_iff_eq] at hd
         exact obPart_ok hd.2 hd.1 h
       · simp at h
     · simp at h
   · simp at h
 | store t a x =>
   simp only [aexec0] at h
   simp only [obD] at hd
   unfold aStore at h
   split at h
   · rename_i ti i sz k off xs h1 h2 h3
     simp only [h1, h2, h3] at hd
     split at h
     · rename_i e he
       simp only [he] at hd
       split at h
       · rename_i c hc
         simp only [hc, Bool.and_eq_true, beq_iff_eq, decide_eq_true_eq] at hd
         simp only [Option.some.injEq] at h; subst h
         exact ⟨hd.1.1.1, hd.1.1.2, hd.1.2, hd.2⟩
       · simp at h
     · simp at h
   · simp at h
 | slice t x lo hi mx =>
   cases mx with
   | some m => simp [obD] at hd
   | none =>
     simp only [aexec0] at h
     simp only [obD] at hd
     unfold aSlice at h
     split at h
     · rename_i s h1 h2
       simp only [h1, h2] at hd
       split at h
       · rename_i l p q1 q2 h3 h4
         simp only [h3, h4, Bool.and_eq_true, decide_eq_true_eq] at hd
         simp only [out, Option.some.injEq] at h; subst h
         exact ⟨obBound_ok hd.1.1.1 h3, obBound_ok hd.1.1.2 h4, hd.1.2, hd.2⟩
       · simp at h
     all_goals (first | (rename_i h1 h2; simp [h1, h2] at hd; done) | (simp at h; done))
 | build t parts =>
   simp only [aexec0] at h
   simp only [obD] at hd
   split at h
   · rename_i ti ht
     simp only [ht, Bool.and_eq_true] at hd
     split at h
     · rename_i cs p hf
       simp only [out, Option.some.injEq] at h; subst h
       exact ⟨obFill_ok hd.1 trivial hf, hd.2⟩
     · simp at h
   · simp at h
 | buildSlice t len parts =>
   simp only [aexec0] at h
   simp only [obD] at hd
   split at h
   · rename_i e te es h1 h2
     simp only [h1, h2, Bool.and_eq_true, beq_iff_eq, decide_eq_true_eq, List.all_eq_true] at hd
     simp only [Option.some.injEq] at h; subst h
     exact ⟨hd.1.1.1, hd.1.1.2, hd.1.2, hd.2⟩
   · simp at h
 | call c =>
   simp only [aexec0] at h
   simp only [obD] at hd
   cases hcal : c.callee with
   | value f => simp [hcal] at hd
   | invoke rc m => simp [hcal] at hd
   | builtin b =>
     cases b <;> simp only [hcal, reduceCtorEq] at h hd
     case len =>
       split at h
       · split at h
         · rename_i r' hd' hl
           split at h
           · simp at h
           · simp only [Option.some.injEq] at h; subst h
             unfold aLen at hl
             split at hl <;> first | (simp only [out, Option.some.injEq] at hl; subst hl; trivial) | (simp at hl; done)
         · rename_i r' hd' hl
           split at h
           · simp only [Option.some.injEq] at h; subst h
             unfold aLen at hl
             split at hl <;> first | (simp only [out, Option.some.injEq] at hl; subst hl; trivial) | (simp at hl; done)
           · simp at h
         · simp at h
       · simp at h
     case min =>
       split at h
       · split at h
         · simp only [out, Option.some.injEq] at h; subst h; trivial
         · simp at h
       · simp at h
     case max =>
       split at h
       · split at h
         · simp only [out, Option.some.injEq] at h; subst h; trivial
         · simp at h
       · simp at h
     case append =>
       split at h
       · rename_i x y t u hx ht
         simp only [hx, ht] at hd
         have h' : aAppend T hp nb t (evA env x) (evA env y) = some r := by
           split at h <;> first | exact h | (simp at h; done)
         unfold aAppend at h'
         split at h'
         · simp at h'
         · rename_i e te he
           simp only [he] at hd
           split at h'
           · simp at h'
           · rename_i es rs p hs
             simp only [hs] at hd
             split at h'
             · rename_i hxx
               simp only [hxx, Bool.and_eq_true, decide_eq_true_eq] at hd
               simp only [Option.some.injEq] at h'; subst h'
               exact ⟨obSrc_ok hd.1.1.1 hs, hd.1.1.2, hd.1.2, hd.2⟩
             · rename_i i n sz hxx
               simp only [hxx] at hd
               split at h'
               · rename_i en hen
                 simp only [hen, Bool.and_eq_true, decide_eq_true_eq, beq_iff_eq] at hd
                 simp only [Option.some.injEq] at h'; subst h'
                 obtain ⟨⟨⟨⟨⟨⟨⟨⟨d1, d2⟩, d3⟩, d4⟩, d5⟩, d6⟩, d7⟩, d8⟩, d9⟩ := hd
                 exact ⟨obSrc_ok d1 hs, d2, d3, d4, d5, d6, d7, d8, d9⟩
               · simp at h'
             · rename_i hxx
               simp [hxx] at hd
             · simp at h'
       · simp at h
 | _ => simp [obD] at hd
end
noncomputable section
def fN {β : Type} (n : Nat) (k : Nat → β) : β := match n with
 | 0 => k 0
 | m + 1 => k (m + 1)
theorem fN_eq {β : Type} (n : Nat) (k : Nat → β) : fN n k = k n := by cases n <;> rfl
def fI {β : Type} (n : Int) (k : Int → β) : β := match n with
 | .ofNat m => fN m fun m => k (.ofNat m)
 | .negSucc m => fN m fun m => k (.negSucc m)
theorem fI_eq {β : Type} (n : Int) (k : Int → β) : fI n k = k n := by cases n <;> simp only [fI, fN_eq]
def fB {β : Type} : List UInt8 → (List UInt8 → β) → β
 | [], k => k []
 | c :: r, k => fN c.toNat fun _ => fB r fun r => k (c :: r)
theorem fB_eq {β : Type} : ∀ (l : List UInt8) (k : List UInt8 → β), fB l k = k l
 | [], k => rfl
 | c :: r, k => by simp only [fB, fN_eq]; rw [fB_eq r]
def fV {β : Type} (v : Value) (k : Value → β) : β := match v with
 | .int t n => fI n fun n => k (.int t n)
 | .bool true => k (.bool true)
 | .bool false => k (.bool false)
 | .string ⟨⟨l⟩⟩ => fB l fun l => k (.string ⟨⟨l⟩⟩)
 | v => k v
theorem fV_eq {β : Type} (v : Value) (k : Value → β) : fV v k = k v := by
 unfold fV
 split <;> simp only [fI_eq, fB_eq]
mutual
def fA {β : Type} : AV → (AV → β) → β
 | .val v, k => fV v fun v => k (.val v)
 | .agg cs, k => fL cs fun cs => k (.agg cs)
 | .tup cs, k => fL cs fun cs => k (.tup cs)
 | .osl i n sz, k => fN i fun i => fN n fun n => k (.osl i n sz)
 | .ptr i sz p off, k => fN i fun i => fN p fun p => fN off fun off => k (.ptr i sz p off)
 | a, k => k a
def fL {β : Type} : List AV → (List AV → β) → β
 | [], k => k []
 | c :: cs, k => fA c fun c => fL cs fun cs => k (c :: cs)
end
mutual
theorem fA_eq {β : Type} : ∀ (a : AV) (k : AV → β), fA a k = k a
 | .val v, k => by simp only [fA, fV_eq]
 | .agg cs, k => by simp only [fA]; rw [fL_eq cs]
 | .tup cs, k => by simp only [fA]; rw [fL_eq cs]
 | .osl i n sz, k => by simp only [fA, fN_eq]
 | .ptr i sz p off, k => by simp only [fA, fN_eq]
 | .any, k => by simp only [fA]
 | .sl sz es, k => by simp only [fA]
 | .rp cs, k => by simp only [fA]
 | .osv i lo n sz, k => by simp only [fA]
theorem fL_eq {β : Type} : ∀ (l : List AV) (k : List AV → β), fL l k = k l
 | [], k => by simp only [fL]
 | c :: cs, k => by simp only [fL]; rw [fA_eq c, fL_eq cs]
end
def fS {β : Type} (l : List AV) : (List AV → β) → β := List.rec (motive := fun _ => (List AV → β) → β) (fun k => k []) (fun c _ ih k => ih fun cs => k (c :: cs)) l
theorem fS_eq {β : Type} : ∀ (l : List AV) (k : List AV → β), fS l k = k l
 | [], k => rfl
 | c :: cs, k => by
   show fS cs (fun cs => k (c :: cs)) = _
   rw [fS_eq cs]
def dropF (n : Nat) : List AV → List AV := Nat.rec (motive := fun _ => List AV → List AV) (fun l => l) (fun _ ih l => List.casesOn (motive := fun _ => List AV) l [] (fun _ r => ih r)) n
theorem dropF_eq : ∀ (n : Nat) (l : List AV), dropF n l = l.drop n
 | 0, l => rfl
 | n + 1, [] => rfl
 | n + 1, c :: cs => by
   show dropF n cs = _
   rw [dropF_eq n cs]; rfl
/-- The n-th cell replaced. -/
def setF (x : AV) (n : Nat) : List AV → List AV := Nat.rec (motive := fun _ => List AV → List AV) (fun l => List.casesOn (motive := fun _ => List AV) l [x] (fun _ r => x :: r)) (fun _ ih l => List.casesOn (motive := fun _ => List AV) l [x] (fun c r => c :: ih r)) n
theorem setF_eq (x : AV) : ∀ (n : Nat) (l : List AV), setF x n l = splice l n [x]
 | 0, [] => rfl
 | 0, c :: cs => rfl
 | n + 1, [] => rfl
 | n + 1, c :: cs => by
   show c :: setF x n cs = _
   rw [setF_eq x n cs]
   have e : n + 1 + [x].length = (n + [x].length) + 1 := by omega
   rw [splice, splice, e, List.take_succ_cons, List.drop_succ_cons]; rfl
def fE {β : Type} : List (List AV) → (List (List AV) → β) → β
 | [], k => k []
 | c :: cs, k => fS c fun c => fE cs fun cs => k (c :: cs)
theorem fE_eq {β : Type} : ∀ (l : List (List AV)) (k : List (List AV) → β), fE l k = k l
 | [], k => rfl
 | c :: cs, k => by simp only [fE]; rw [fS_eq c, fE_eq cs]
def fH {β : Type} : List (Nat × Option Ent) → (List (Nat × Option Ent) → β) → β
 | [], k => k []
 | (i, none) :: r, k => fN i fun i => fH r fun r => k ((i, none) :: r)
 | (i, some e) :: r, k => fN i fun i => fE e.es fun es => fH r fun r => k ((i, some ⟨e.ty, e.sz, es⟩) :: r)
theorem fH_eq {β : Type} : ∀ (l : List (Nat × Option Ent)) (k : List (Nat × Option Ent) → β), fH l k = k l
 | [], k => rfl
 | (i, none) :: r, k => by simp only [fH, fN_eq]; rw [fH_eq r]
 | (i, some e) :: r, k => by simp only [fH, fN_eq, fE_eq]; rw [fH_eq r]
def ddE (m : Nat) : List (Nat × AV) → List (Nat × AV)
 | [] => []
 | (t, a) :: r => if m.testBit t then ddE m r else (t, a) :: ddE (m ||| 2 ^ t) r
theorem ddE_lk : ∀ (l : List (Nat × AV)) (m t : Nat), m.testBit t = false → lk (ddE m l) t = lk l t
 | [], m, t, h => rfl
 | (u, a) :: r, m, t, h => by
   simp only [ddE]
   split
   · rename_i hu
     rw [ddE_lk r m t h]
     simp only [lk]
     rw [if_neg]
     rintro rfl
     rw [h] at hu; simp at hu
   · simp only [lk]
     split
     · rfl
     · rename_i hne
       rw [ddE_lk r]
       simp only [Nat.testBit_or, h, Bool.false_or, Nat.testBit_two_pow]
       simpa using hne
def ddH (seen : List Nat) : List (Nat × Option Ent) → List (Nat × Option Ent)
 | [] => []
 | (i, e) :: r => if seen.contains i then ddH seen r else match e with
   | none => ddH (i :: seen) r
   | some e => (i, some e) :: ddH (i :: seen) r
theorem ddH_lk : ∀ (l : List (Nat × Option Ent)) (m : List Nat) (t : Nat), (t ∉ m → lkh (ddH m l) t = lkh l t) ∧ (t ∈ m → lkh (ddH m l) t = none)
 | [], m, t => ⟨fun _ => rfl, fun _ => rfl⟩
 | (u, a) :: r, m, t => by
   simp only [ddH]
   split
   · rename_i hu
     have hu' : u ∈ m := by simpa using hu
     refine ⟨fun h => ?_, fun h => (ddH_lk r m t).2 h⟩
     rw [(ddH_lk r m t).1 h]
     simp only [lkh]
     rw [if_neg]
     rintro rfl; exact h hu'
   · rename_i hu
     have hu' : u ∉ m := by simpa using hu
     cases a with
     | none =>
       refine ⟨fun h => ?_, fun h => (ddH_lk r _ t).2 (List.mem_cons_of_mem _ h)⟩
       by_cases e : u = t
       · subst e
         rw [(ddH_lk r _ u).2 (by simp)]; simp [lkh]
       · rw [(ddH_lk r _ t).1 (by simp; exact ⟨fun h' => e h'.symm, h⟩)]
         simp [lkh, e]
     | some a =>
       simp only [lkh]
       by_cases e : u = t
       · subst e
         refine ⟨fun _ => by simp, fun h => absurd h hu'⟩
       · refine ⟨fun h => ?_, fun h => ?_⟩
         · rw [if_neg e, if_neg e, (ddH_lk r _ t).1 (by simp; exact ⟨fun h' => e h'.symm, h⟩)]
         · rw [if_neg e, (ddH_lk r _ t).2 (List.mem_cons_of_mem _ h)]
def ddS (s : AS) : AS := ⟨ddE 0 s.env, ddH [] s.hp⟩
theorem ddS_st (s : AS) : (ddS s).st = s.st := by
 have h1 : lk (ddE 0 s.env) = lk s.env := by funext t; exact ddE_lk _ _ _ (by simp)
 have h2 : lkh (ddH [] s.hp) = lkh s.hp := by funext t; exact (ddH_lk _ _ _).1 (by simp)
 simp only [ddS, AS.st, h1, h2]
abbrev Caller := FuncId → List AV → List Ent → Option (AV × List (Option Ent))
def CallerOk (P : Program) (call : Caller) : Prop := ∀ g as hs r hs', call g as hs = some (r, hs') → ACall P g as (hs.map some) r hs'
def own1 : List AV → List Nat
 | [] => []
 | .osl i _ _ :: r => i :: own1 r
 | _ :: r => own1 r
def okArgs (i : Nat) (l : List AV) : Bool := l.all fun a => match a with
 | .osl j _ _ => j == i
 | a => idLt 0 a
def mkOrc (call : Caller) (g : FuncId) (args : List AV) (hp : Hp) : Option Orc := match own1 args with
 | [] => match idLtL 0 args with
   | true => match call g args [] with
     | some (r, hs') => match decide (hs'.length ≤ 8) with
       | true => some ⟨[], [], args, r, hs', [], none⟩
       | false => none
     | none => none
   | false => none
 | [i] => match hp i with
   | some e => match okArgs i args && idLtE 0 e.es && idLtE 1 e.es && idLtL 1 (renL (fun _ => 0) args) with
     | true => match call g (renL (fun _ => 0) args) [e] with
       | some (r, hs') => match decide (1 ≤ hs'.length) && decide (hs'.length ≤ 9) with
         | true => some ⟨[i], [e], renL (fun _ => 0) args, r, hs', [], none⟩
         | false => none
       | none => none
     | false => none
   | none => none
 | _ => none
theorem okArgs_ren {i : Nat} {ρ : Nat → Nat} (hρ : ρ 0 = i) : ∀ {l : List AV}, okArgs i l = true → renL ρ (renL (fun _ => 0) l) = l
 | [], _ => rfl
 | a :: r, h => by
   simp only [okArgs, List.all_cons, Bool.and_eq_true] at h
   have hr := okArgs_ren hρ (l := r) (by simpa [okArgs] using h.2)
   simp only [renL]
   rw [hr]
   have h1 := h.1
   split at h1
   · rename_i j n sz
     simp only [ren, hρ]
     simp only [beq_iff_eq] at h1
     rw [h1]
   · rw [ren_noid _ _ h1, ren_noid _ _ h1]
theorem mkOrc_ok {P : Program} {call : Caller} (hc : CallerOk P call) {g : FuncId} {args : List AV} {hp : Hp} {o : Orc} (h : mkOrc call g args hp = some o) : o.raw = none ∧ ∀ nb, (aCall P g args hp nb o).ob := by
 unfold mkOrc at h
 split at h
 · split at h
   · rename_i hid
     split at h
     · rename_i r hs' hcall
       split at h
       · rename_i hl
         simp only [Option.some.injEq] at h; subst h
         exact ⟨rfl, fun nb => pureOb (hc _ _ _ _ _ hcall) hid (of_decide_eq_true hl)⟩
       · simp at h
     · simp at h
   · simp at h
 · rename_i i _
   split at h
   · rename_i e he
     split at h
     · rename_i hk
       simp only [Bool.and_eq_true] at hk
       split at h
       · rename_i r hs' hcall
         split at h
         · rename_i hl
           simp only [Bool.and_eq_true, decide_eq_true_eq] at hl
           simp only [Option.some.injEq] at h; subst h
           exact ⟨rfl, fun nb => ownOb (hc _ _ _ _ _ hcall) he hk.1.1.2 hk.1.2 hk.2 hl.1 hl.2 (okArgs_ren rfl hk.1.1.1).symm⟩
         · simp at h
       · simp at h
     · simp at h
   · simp at h
 · simp at h
def xPick (env : Env) (c a b : Operand) : Option Out := match evA env c with
 | .val (.bool t) => out (if t then evA env a else evA env b)
 | _ => none
def xExt (env : Env) (x : Operand) (i : Nat) : Option Out := match evA env x with
 | .tup cs => match cs[i]? with
   | some c => out c
   | none => none
 | _ => none
def xBox (nb : Nat) (env : Env) (el : TypeId) (x : Operand) : Option Out := match acells (evA env x) with
 | some cs => some { v := .ptr nb cs.length 0 0, hw := [(nb, some ⟨el, cs.length, [cs]⟩)] }
 | none => none
def xAlloc (T : Tab) (nb : Nat) (el : TypeId) : Option Out := match T el with
 | some ti => some { v := .ptr nb ti.zero.length 0 0, hw := [(nb, some ⟨el, ti.zero.length, [ti.zero.map .val]⟩)] }
 | none => none
def xRest (P : Program) (T : Tab) (nb : Nat) (env : Env) (hp : Hp) (op : Op) : Option Out := aexec0 P T none nb env hp op
def xLen (T : Tab) (env : Env) (x : Operand) (t : TypeId) : Option Out := match descOf T t, aLen (evA env x) with
 | some (.slice _), some r => match evA env x with
   | .val (.string _) => none
   | _ => some r
 | some .string, some r => match evA env x with
   | .val (.string _) => some r
   | _ => none
 | _, _ => none
def xApp (T : Tab) (nb : Nat) (env : Env) (hp : Hp) (x y : Operand) (t u : TypeId) : Option Out := match descOf T u with
 | some (.slice _) => aAppend T hp nb t (evA env x) (evA env y)
 | some .string => aAppend T hp nb t (evA env x) (evA env y)
 | _ => none
def xLen' (T : Tab) (env : Env) (a : List Operand) (b : List TypeId) : Option Out := match a, b with
 | [x], [t] => xLen T env x t
 | _, _ => none
def xApp' (T : Tab) (nb : Nat) (env : Env) (hp : Hp) (a : List Operand) (b : List TypeId) : Option Out := match a, b with
 | [x, y], [t, u] => xApp T nb env hp x y t u
 | _, _ => none
def xCall (P : Program) (T : Tab) (nb : Nat) (env : Env) (hp : Hp) (c : Go.Call) : Option Out := match c.callee with
 | .builtin .len => xLen' T env c.args.toList c.argTypes.toList
 | .builtin .append => xApp' T nb env hp c.args.toList c.argTypes.toList
 | _ => xRest P T nb env hp (.call c)
def xBuild (T : Tab) (env : Env) (t : TypeId) (parts : List (Nat × Operand)) : Option Out := match T t with
 | some ti => match fillA T t env (ti.zero.map .val) True parts with
   | some (cs, p) => out (.agg cs) (p ∧ isStruct ti.desc = true)
   | none => none
 | none => none
def xBS (T : Tab) (nb : Nat) (env : Env) (t : TypeId) (len : Nat) (parts : List (Nat × Operand)) : Option Out := match elemOf T t, partCells env parts with
 | some (e, te), some es => some { v := .osl nb len te.size, hw := [(nb, some ⟨e, te.size, es⟩)], ob := allParts 0 parts = true ∧ es.length = len ∧ (∀ c ∈ es, c.length = te.size) ∧ len * te.size ≤ 2 ^ 24 }
 | _, _ => none
def xLd (T : Tab) (hp : Hp) (t : TypeId) (a : AV) : Option Out := match T t, a with
 | some ti, .rp cs => aPart ti cs True
 | some ti, .ptr i sz k off => match hp i with
   | some e => match e.es[k]? with
     | some c => aPart ti (dropF off c) (e.sz = sz) [i]
     | none => none
   | none => none
 | _, _ => none
theorem xLd_eq {T : Tab} {hp : Hp} {t : TypeId} {a : AV} : xLd T hp t a = aLoad T hp t a := by simp only [xLd, aLoad, dropF_eq]; rfl
def spl (c : List AV) (off : Nat) (xs : List AV) : List AV := match xs with
 | [x] => setF x off c
 | xs => splice c off xs
theorem spl_eq {c : List AV} {off : Nat} {xs : List AV} : spl c off xs = splice c off xs := by
 unfold spl
 split
 · rw [setF_eq]
 · rfl
def xSt (T : Tab) (hp : Hp) (t : TypeId) (a x : AV) : Option Out := match T t, a, acells x with
 | some ti, .ptr i sz k off, some xs => match hp i with
   | some e => match e.es[k]? with
     | some c => some { v := .any, hw := [(i, some { e with es := e.es.set k (spl c off xs) })], hr := [i], ob := e.sz = sz ∧ off + xs.length ≤ c.length ∧ xs.length = ti.size ∧ xs.all storable = true }
     | none => none
   | none => none
 | _, _, _ => none
theorem xSt_eq {T : Tab} {hp : Hp} {t : TypeId} {a x : AV} : xSt T hp t a x = aStore T hp t a x := by simp only [xSt, aStore, spl_eq]; rfl
def xex (P : Program) (T : Tab) (nb : Nat) (env : Env) (hp : Hp) (op : Op) : Option Out := match op with
 | .move x => out (evA env x)
 | .assign x => out (evA env x)
 | .pick c a b => xPick env c a b
 | .binOp op xt x y _ => aBin P T op xt (evA env x) (evA env y)
 | .unOp op _ x => aUn op (evA env x)
 | .convert s d x => aConv T hp nb s d (evA env x)
 | .extract x i => xExt env x i
 | .field t x f => aField T t (evA env x) f
 | .fieldAddr t x f => aFieldAddr T t (evA env x) f
 | .indexAddr t x i => aIndexAddr T t (evA env x) (evA env i)
 | .index t x i => aIndex T t (evA env x) (evA env i)
 | .load t a => xLd T hp t (evA env a)
 | .store t a x => xSt T hp t (evA env a) (evA env x)
 | .box el x => xBox nb env el x
 | .alloc el => xAlloc T nb el
 | .build t parts => xBuild T env t parts.toList
 | .buildSlice t len parts => xBS T nb env t len parts.toList
 | .call c => xCall P T nb env hp c
 | op => xRest P T nb env hp op
theorem xex_eq {P : Program} {T : Tab} {nb : Nat} {env : Env} {hp : Hp} {op : Op} : xex P T nb env hp op = aexec0 P T none nb env hp op := by
 cases op with
 | call c =>
   simp only [xex, xCall]
   split
   · rename_i hcal
     simp only [aexec0, hcal, xLen']
     cases c.args.toList with
     | nil => rfl
     | cons x r => cases r with
       | cons _ _ => rfl
       | nil => cases c.argTypes.toList with
         | nil => rfl
         | cons t r => cases r <;> rfl
   · rename_i hcal
     simp only [aexec0, hcal, xApp']
     cases c.args.toList with
     | nil => rfl
     | cons x r => cases r with
       | nil => rfl
       | cons y r => cases r with
         | cons _ _ => rfl
         | nil => cases c.argTypes.toList with
           | nil => rfl
           | cons t r => cases r with
             | nil => rfl
             | cons u r => cases r <;> rfl
   · rfl
 | load t a => simp only [xex, xLd_eq]; rfl
 | store t a x => simp only [xex, xSt_eq]; rfl
 | _ => rfl
def yBin (env : Env) (op : BinOp) (x y : Operand) : Bool := match evA env x, evA env y with
 | .val (.int k a), .val (.int k' b) => obInt op k k' b
 | .val (.string a), .val (.string b) => match op with
   | .add => decide ((((bl a).length + (bl b).length : Nat) : Int) < 2 ^ 63)
   | _ => true
 | .val (.bool _), .val (.bool _) => true
 | _, _ => false
def yRest (T : Tab) (nb : Nat) (env : Env) (hp : Hp) (op : Op) : Bool := obD T nb env hp op
def yIdx (T : Tab) (env : Env) (t : TypeId) (x i : Operand) : Bool := match elemOf T t, evA env x, evA env i with
 | some (_, te), .sl sz es, .val (.int _ n) => decide (0 ≤ n) && sz == te.size
 | some (_, te), .osl _ m sz, .val (.int _ n) => decide (0 ≤ n) && decide (n < m) && sz == te.size
 | none, .ptr _ _ _ _, .val (.int _ n) => match arrOf T t with
   | some (len, _) => decide (0 ≤ n) && decide (n < len)
   | none => false
 | _, _, _ => false
def yLd (T : Tab) (env : Env) (hp : Hp) (t : TypeId) (a : Operand) : Bool := match T t, evA env a with
 | some ti, .rp cs => obPart ti cs
 | some ti, .ptr i sz k off => match hp i with
   | some e => match e.es[k]? with
     | some c => e.sz == sz && obPart ti (c.drop off)
     | none => false
   | none => false
 | _, _ => false
def ySt (T : Tab) (env : Env) (hp : Hp) (t : TypeId) (a x : Operand) : Bool := match T t, evA env a, acells (evA env x) with
 | some ti, .ptr i sz k off, some xs => match hp i with
   | some e => match e.es[k]? with
     | some c => e.sz == sz && decide (off + xs.length ≤ c.length) && xs.length == ti.size && xs.all storable
     | none => false
   | none => false
 | _, _, _ => false
def yob (T : Tab) (nb : Nat) (env : Env) (hp : Hp) (op : Op) : Bool := match op with
 | .move _ => true
 | .assign _ => true
 | .pick _ _ _ => true
 | .extract _ _ => true
 | .box _ _ => true
 | .alloc _ => true
 | .unOp _ _ _ => true
 | .binOp op _ x y _ => yBin env op x y
 | .indexAddr t x i => yIdx T env t x i
 | .load t a => yLd T env hp t a
 | .store t a x => ySt T env hp t a x
 | op => yRest T nb env hp op
theorem yob_eq {T : Tab} {nb : Nat} {env : Env} {hp : Hp} {op : Op} : yob T nb env hp op = obD T nb env hp op := by
 cases op <;> rfl
def xA {β : Type} (a : AV) (k : AV → β) : β := match a with
 | .val v => fV v fun v => k (.val v)
 | a => fA a k
theorem xA_eq {β : Type} (a : AV) (k : AV → β) : xA a k = k a := by
 unfold xA
 split
 · rw [fV_eq]
 · rw [fA_eq]
/-- An array of zeros. -/
def rawO (T : Tab) (op : Op) : Option Out := match op with
 | .build t parts => match parts.toList, arrOf T t, T t with
   | [], some _, some ti => some { v := .agg (ti.zero.map .val) }
   | _, _, _ => none
 | _ => none
theorem rawO_ok {P : Program} {T : Tab} (hT : TabOk P T) {op : Op} {r : Out} {nb : Nat} {env : Env} {hp : Hp} (h : rawO T op = some r) : r.ob ∧ RawOk P nb env hp op r := by
 unfold rawO at h
 split at h
 · rename_i t parts
   split at h
   · rename_i x ti hps hx hti
     simp only [Option.some.injEq] at h; subst h
     refine ⟨trivial, ?_⟩
     intro env' hp' _ _ X w β a o ho hg hfresh henv
     obtain ⟨i, z, hi, hisz, hby, hz, hzc, hud, hzl, hflds⟩ := hT t ti hti
     unfold arrOf at hx
     split at hx
     · rename_i len e hd
       split at hx
       · rename_i te hte
         have hud' := tab_desc hT hd
         obtain ⟨j, z', hj, hjs, _⟩ := hT e te hte
         have hpe : parts = #[] := Array.ext' (by simpa using hps)
         refine ⟨.agg z.cells, w, β, ?_, Post.still hg rfl ?_⟩
         · simp only [execOp, ho, hpe]
           refine run_v ?_
           simp only [Instr.build, run_bind, run_zero hi hz, run_underlying hud', run_pure, Go.sizeOf, run_info hj]
           simp [Instr.fill, run_pure]
         · simp only [Rep]
           refine ⟨z.cells.toList, by simp, ?_⟩
           rw [hzc]
           exact repL_vals _
       · simp at hx
     · simp at hx
   · simp at h
 · simp at h
section
variable (P : Program) (T : Tab) (call : Caller)
def irun (n : Nat) (ops : Array Oper) : List Oper → Nat → AS → List Touch → Option (AS × List Touch)
 | [], _, s, ts => some (s, ts)
 | o :: l, i, s, ts => match aGuard ops (lk s.env) o with
   | some true => match oCal o with
     | some g => match mkOrc call g (oArgs o (lk s.env)) (lkh s.hp) with
       | some q => match aexec P T (some q) (n + 8 * i) (lk s.env) (lkh s.hp) o.op with
         | some r => xA r.v fun v => fH r.hw fun hw => irun n ops l (i + 1) ⟨putE o.dst v s.env, hw.reverse ++ s.hp⟩ (touch i r ts)
         | none => none
       | none => none
     | none => match rawO T o.op with
       | some r => xA r.v fun v => irun n ops l (i + 1) ⟨putE o.dst v s.env, r.hw.reverse ++ s.hp⟩ (touch i r ts)
       | none => match xex P T (n + 8 * i) (lk s.env) (lkh s.hp) o.op with
       | some r => match yob T (n + 8 * i) (lk s.env) (lkh s.hp) o.op with
         | true => xA r.v fun v => fH r.hw fun hw => irun n ops l (i + 1) ⟨putE o.dst v s.env, hw.reverse ++ s.hp⟩ (touch i r ts)
         | false => none
       | none => none
   | some false => irun n ops l (i + 1) ⟨putE o.dst (.val undef) s.env, s.hp⟩ ts
   | none => none
def icode (N : Nat) : Nat → Code → Nat → AS → Option (Exit × Nat × AS)
 | 0, _, _, _ => none
 | f + 1, c, n, s => match c with
   | .skip => some (.normal, n, s)
   | .exit id => some (.exit id, n, s)
   | .ret => some (.ret, n, s)
   | .seq a b => match icode N f a n s with
     | some (.normal, n', s') => icode N f b n' s'
     | r => r
   | .block id c => match icode N f c n s with
     | some (.exit id', n', s') => if id' = id then some (.normal, n', s') else some (.exit id', n', s')
     | r => r
   | .cond c a b => match evA (lk s.env) c with
     | .val (.bool true) => icode N f a n s
     | .val (.bool false) => icode N f b n s
     | _ => none
   | .region _ ops draw => match regOk N ops draw with
     | true => match irun P T call n ops ops.toList 0 s [] with
       | some (s', ts) => match !draw || touchesOk (masks ops.toList []) ts with
         | true => fN (n + 8 * ops.size) fun n' => some (.normal, n', s')
         | false => none
       | none => none
     | false => none
   | .loop c => match icode N f c n s with
     | some (.normal, n', s') => icode N f (.loop c) n' (ddS s')
     | r => r
   | _ => none
end
end
noncomputable section
section
variable {P : Program} {T : Tab} {call : Caller}
theorem irun_ok (hT : TabOk P T) (hc : CallerOk P call) {n : Nat} {ops : Array Oper} : ∀ (l : List Oper) (i : Nat) (s : AS) (ts : List Touch) (p : Prop) {s' : AS} {ts' : List Touch}, p → irun P T call n ops l i s ts = some (s', ts') →
   ∃ orc p', (∀ j, j < i → orc j = none) ∧ arun P T orc n ops l i s ts p = some (s', ts', p') ∧ p'
 | [], i, s, ts, p, s', ts', hp, h => by
   simp only [irun, Option.some.injEq, Prod.mk.injEq] at h
   obtain ⟨rfl, rfl⟩ := h
   exact ⟨fun _ => none, p, fun _ _ => rfl, rfl, hp⟩
 | o :: l, i, s, ts, p, s', ts', hp, h => by
   simp only [irun, xA_eq, fH_eq, xex_eq, yob_eq] at h
   have glue : ∀ (q : Option Orc) (r : Out) (hg : aGuard ops (lk s.env) o = some true) (hx : aexec P T q (n + 8 * i) (lk s.env) (lkh s.hp) o.op = some r) (hob : r.ob) (h : irun P T call n ops l (i + 1) ⟨putE o.dst r.v s.env, r.hw.reverse ++ s.hp⟩ (touch i r ts) = some (s', ts')),
       ∃ orc p', (∀ j, j < i → orc j = none) ∧ arun P T orc n ops (o :: l) i s ts p = some (s', ts', p') ∧ p' := by
     intro q r hg hx hob h
     obtain ⟨orc, p', h0, h1, h2⟩ := irun_ok hT hc l (i + 1) _ _ (p ∧ r.ob) ⟨hp, hob⟩ h
     refine ⟨fun j => if j = i then q else orc j, p', fun j hj => ?_, ?_, h2⟩
     · show (if j = i then q else orc j) = none
       rw [if_neg (by omega)]; exact h0 j (by omega)
     · rw [arun, hg]
       simp only [if_true, hx]
       rw [← h1]
       exact arun_congr _ _ _ _ _ (fun j hj _ => by show (if j = i then q else orc j) = orc j; rw [if_neg (by omega)])
   split at h
   · rename_i hg
     split at h
     · rename_i g hcal
       split at h
       · rename_i q hq
         split at h
         · rename_i r hr
           obtain ⟨hraw, hob⟩ := mkOrc_ok hc hq
           refine glue (some q) r hg hr ?_ h
           unfold oCal at hcal
           split at hcal
           · rename_i c hop
             split at hcal
             · rename_i g' hcl
               simp only [Option.some.injEq] at hcal; subst hcal
               simp only [aexec, rawOf, hraw, aexec0, hop, hcl, evA] at hr
               simp only [oArgs, hop] at hob
               have := hob (n + 8 * i)
               simp only [Option.some.injEq] at hr
               subst hr
               exact this
             · simp at hcal
           · simp at hcal
         · simp at h
       · simp at h
     · split at h
       · rename_i r hr
         obtain ⟨k1, k2⟩ := rawO_ok (P := P) (nb := n + 8 * i) (env := lk s.env) (hp := lkh s.hp) hT hr
         exact glue (some ⟨[], [], [], .any, [], [], some r⟩) { r with ob := r.ob ∧ RawOk P (n + 8 * i) (lk s.env) (lkh s.hp) o.op r } hg (by simp only [aexec, rawOf]) ⟨k1, k2⟩ (by
           have e : r.hw = [] := by
             unfold rawO at hr
             split at hr
             · split at hr
               · simp only [Option.some.injEq] at hr; subst hr; rfl
               · simp at hr
             · simp at hr
           exact h)
       split at h
       · rename_i r hr
         split at h
         · rename_i hob
           exact glue none r hg (by simpa only [aexec, rawOf] using hr) (obD_ok hob hr) h
         · simp at h
       · simp at h
   · rename_i hg
     obtain ⟨orc, p', h0, h1, h2⟩ := irun_ok hT hc l (i + 1) _ _ p hp h
     refine ⟨orc, p', fun j hj => h0 j (by omega), ?_, h2⟩
     rw [arun, hg]
     exact h1
   · simp at h
theorem AW_st {C : Ctx} {c : Code} {Q : Exit → Nat → AS → Prop} {n : Nat} {s s' : AS} (h : s.st = s'.st) (ha : AW P C c Q n s) : AW P C c Q n s' := fun a w hI => ha a w (by rw [h]; exact hI)
theorem icode_ok (hT : TabOk P T) (hm : P.follows .mixedOrders = true) (hc : CallerOk P call) {N : Nat} {C : Ctx} (hN : C.N = N) : ∀ (f : Nat) (c : Code) (n : Nat) (s : AS) (e : Exit) (n' : Nat) (s' : AS), icode P T call N f c n s = some (e, n', s') →
   ∀ Q : Exit → Nat → AS → Prop, Q e n' s' → AW P C c Q n s := by
 intro f
 induction f using Nat.strongRecOn with
 | _ f ih0 =>
 cases f with
 | zero => intro c n s e n' s' h; simp [icode] at h
 | succ f =>
   intro c n s e n' s' h Q hQ
   have ih := ih0 f (Nat.lt_succ_self f)
   cases c with
   | skip =>
     simp only [icode, Option.some.injEq, Prod.mk.injEq] at h
     obtain ⟨rfl, rfl, rfl⟩ := h; exact AW.skip hQ
   | exit id =>
     simp only [icode, Option.some.injEq, Prod.mk.injEq] at h
     obtain ⟨rfl, rfl, rfl⟩ := h; exact AW.exit hQ
   | ret =>
     simp only [icode, Option.some.injEq, Prod.mk.injEq] at h
     obtain ⟨rfl, rfl, rfl⟩ := h; exact AW.ret hQ
   | seq a b =>
     simp only [icode] at h
     refine AW.seq ?_
     split at h
     · rename_i n1 s1 h1
       exact ih _ _ _ _ _ _ h1 _ (show AW P C b Q n1 s1 from ih _ _ _ _ _ _ h _ hQ)
     · rename_i hne
       refine ih _ _ _ _ _ _ h _ ?_
       cases e with
       | normal => exact absurd h (hne n' s')
       | _ => exact hQ
   | block id c =>
     simp only [icode] at h
     refine AW.block ?_
     split at h
     · rename_i id' n1 s1 h1
       refine ih _ _ _ _ _ _ h1 _ ?_
       simp only [blockQ]
       split at h
       · rename_i he
         rw [if_pos he]
         simp only [Option.some.injEq, Prod.mk.injEq] at h
         obtain ⟨rfl, rfl, rfl⟩ := h; exact hQ
       · rename_i he
         rw [if_neg he]
         simp only [Option.some.injEq, Prod.mk.injEq] at h
         obtain ⟨rfl, rfl, rfl⟩ := h; exact hQ
     · rename_i hne
       refine ih _ _ _ _ _ _ h _ ?_
       cases e with
       | exit id' => exact absurd h (hne id' n' s')
       | _ => exact hQ
   | cond c a b =>
     simp only [icode] at h
     split at h
     · rename_i hcv; exact AW.cond hcv (ih _ _ _ _ _ _ h _ hQ)
     · rename_i hcv; exact AW.cond hcv (ih _ _ _ _ _ _ h _ hQ)
     · simp at h
   | region id ops draw =>
     simp only [icode, fN_eq] at h
     split at h
     · rename_i hok
       split at h
       · rename_i s1 ts hr
         split at h
         · rename_i ht
           simp only [Option.some.injEq, Prod.mk.injEq] at h
           obtain ⟨rfl, rfl, rfl⟩ := h
           obtain ⟨orc, p', _, h1, h2⟩ := irun_ok hT hc _ _ _ _ True trivial hr
           intro a w hI
           refine region_run hT hm h1 h2 (by rw [hN]; exact hok) (fun hd => by subst hd; simpa using ht) hI ?_
           intro a' w' hI'
           exact ⟨_, _, hQ, hI'⟩
         · simp at h
       · simp at h
     · simp at h
   | loop c =>
     let J : Nat → Nat → AS → Prop := fun m n s => ∃ s0 e n' s', s0.st = s.st ∧ icode P T call N m (.loop c) n s0 = some (e, n', s') ∧ Q e n' s' ∧ m ≤ f + 1
     refine AW.loop J (m := f + 1) ⟨s, e, n', s', rfl, h, hQ, Nat.le_refl _⟩ ?_
     rintro m n s ⟨s0, e, n', s', hst, h, hQ, hmf⟩
     refine AW_st hst ?_
     cases m with
     | zero => simp [icode] at h
     | succ m =>
       simp only [icode] at h
       have mono := ih0 m (by omega) c n s0
       split at h
       · rename_i n1 s1 h1
         exact mono _ _ _ h1 _ ⟨m, Nat.lt_succ_self m, ddS s1, e, n', s', ddS_st s1, h, hQ, by omega⟩
       · rename_i hne
         refine mono _ _ _ h _ ?_
         cases e with
         | normal => exact absurd h (hne n' s')
         | _ => exact hQ
   | _ => simp [icode] at h
end
end
end Go.Av
