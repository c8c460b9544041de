/-
  Part 18 of the proof that logtidelaw45.ConsoleAnswer returns true for every list of bytes and every text, and leaves both as they were.
-/
import Derived.Test.YtffchapiaampmaaGreatDoorA17
set_option linter.unusedSimpArgs false
set_option linter.unusedVariables false
namespace Go.Av
variable {P : Program}
theorem XP.ro2 {st : List Fr} {N n : Nat} {rv : List ResultVar} {s : AS} {Rg : AV → Prop} {i m sz T : Nat} {es : List (List AV)} {v : Value} {p : Prop} (hR : Rg (.tup [.sl sz es, .val v])) (hres : resList (tabOf P) s rv = some ([.osl i m sz, .val v], p) := by (try simp only [resList, go_sem, seval]); rfl) (he : lkh s.hp i = some ⟨T, sz, es⟩ := by rfl) (hp : p := by (repeat' (with_reducible refine And.intro ?_ ?_)) <;> trivial)
   (hm : es.length = m := by simp) (hid : idLtE 0 es = true := by simp) : XH P N 0 (RP Rg) rv (.c .ret) st n s := XP.ret [i] _ hR hres hp (by simp only [resOf, wk, wkL]; exact ⟨_, rfl, _, _, rfl, .inr (.inl ⟨i, m, _, rfl, by simp, he, hm, rfl, rfl, hid⟩), _, _, rfl, rfl, rfl⟩) rfl
theorem XP.rn2 {st : List Fr} {N n : Nat} {rv : List ResultVar} {s : AS} {Rg : AV → Prop} {sz : Nat} {v : Value} {p : Prop} (hR : Rg (.tup [.sl sz [], .val v])) (hres : resList (tabOf P) s rv = some ([.val (.slice none 0 0), .val v], p) := by (try simp only [resList, go_sem, seval]); rfl) (hp : p := by (repeat' (with_reducible refine And.intro ?_ ?_)) <;> trivial) : XH P N 0 (RP Rg) rv (.c .ret) st n s := XP.ret [] _ hR hres hp (by simp only [resOf, wk, wkL]; exact ⟨_, rfl, _, _, rfl, .inr (.inr ⟨rfl, trivial⟩), _, _, rfl, rfl, rfl⟩) rfl
/-- A state is given up for a weaker one, ahead of what follows. -/
theorem XW.wkr {N kk n : Nat} {R : Res → Prop} {rv : List ResultVar} {st : List Fr} {s : AS} (r : Nat) (n' : Nat) (s' : AS) (hw : Wk kk s n' s') {l : List Oper} {d : Bool} (h : XH P N kk R rv (.c (.region r l.toArray d)) st n' s') : XH P N kk R rv (.c (.region r l.toArray d)) st n s := EX.step (fun _ _ _ hkk h => AW.wk hkk _ _ (by exact hw) h) h
section
variable {X : Nat → Prop} {P : Program} {T : Tab} {w : World} {β : Gm} {hp : Hp} {nb : Nat} {env : Env}
def makes (op : Op) : Bool := match op with
 | .buildSlice _ _ _ => true
 | .call c => match c.callee with
   | .builtin .append => true
   | _ => false
 | _ => false
theorem exec_run (hT : TabOk P T) {o : Oper} {a : Act} {r : Out} (hmk : makes o.op = true) (h : aexec0 P T none nb env hp o.op = some r) (hob : r.ob) (hg : Good X w β hp)
   (hfresh : ∀ j, nb ≤ j → j < nb + 8 → β j = none) (henv : EnvOk w β (Own X β hp) env a.tmps) :
   ∃ v w' β', (execOp a.eval o).run P w = .ok (.value v) w' ∧ Post X w β hp nb r v w' β' := by
 have hn : β nb = none := hfresh nb (Nat.le_refl _) (by omega)
 have hev := fun x => evA_rep henv x
 cases hop : o.op with
 | buildSlice t len parts =>
   simp only [hop, aexec0] at h
   split at h
   · rename_i e te es he hpc
     simp only [Option.some.injEq] at h; subst h
     simp only at hob
     obtain ⟨o1, o2, o3, o4⟩ := hob
     obtain ⟨v, w', h1, h2⟩ := buildSlice_sound hT hg hn henv he o1 hpc o2 o3 o4
     exact ⟨v, w', _, by simp only [execOp, hop]; exact run_v h1, h2 _⟩
   · simp at h
 | call c =>
   simp only [hop, makes] at hmk
   split at hmk
   · rename_i hcal
     have arr2 : ∀ {α : Type} {xs : Array α} {x y : α}, xs.toList = [x, y] → xs = #[x, y] := fun h => Array.ext' (by simpa using h)
     simp only [hop, aexec0, hcal] at h
     split at h
     · rename_i x y t u hx ht
       have hrun : ∀ z w', (Builtin.append_ #[t, u] o.type #[a.eval x, a.eval y]).run P w = .ok z w' → (execOp a.eval o).run P w = .ok (.value z) w' := by
         intro z w' hz
         simp only [execOp, hop, resolve, hcal, run_bind, run_pure, invoke, builtin, arr2 hx, arr2 ht]
         simp only [List.map_toArray, List.map_cons, List.map_nil, hz]
       split at h
       · rename_i e hd
         obtain ⟨v, w', β', h1, h2⟩ := append_sound (ty := o.type) hT hg hn h hob (.inl ⟨e, hd⟩) (hev x) (hev y)
         exact ⟨v, w', β', hrun v w' h1, h2⟩
       · rename_i hd
         obtain ⟨v, w', β', h1, h2⟩ := append_sound (ty := o.type) hT hg hn h hob (.inr hd) (hev x) (hev y)
         exact ⟨v, w', β', hrun v w' h1, h2⟩
       · simp at h
     · simp at h
   · simp at hmk
 | _ => simp [hop, makes] at hmk
theorem setHp_snoc (hp : Hp) : ∀ (l : List (Nat × Option Ent)) (i : Nat) (e : Option Ent), setHp hp (l ++ [(i, e)]) = fun j => if j = i then e else setHp hp l j
 | [], i, e => rfl
 | (i', e') :: l, i, e => by simp only [List.cons_append, setHp]; exact setHp_snoc _ l i e
theorem setHp_not (hp : Hp) : ∀ (l : List (Nat × Option Ent)) (i : Nat), i ∉ l.map (·.1) → setHp hp l i = hp i
 | [], i, _ => rfl
 | (i', e') :: l, i, h => by
   simp only [List.map_cons, List.mem_cons, not_or] at h
   simp only [setHp]
   rw [setHp_not _ l i h.2]
   simp only [if_neg h.1]
theorem Post.settle {m sz : Nat} {e : Ent} {pre : List (Nat × Option Ent)} {hr : List Nat} {ob ob' : Prop} {v : Value} {w' : World} {β' : Gm} (hg : Good X w β hp) (hn : β nb = none)
   (h : Post X w β hp nb ⟨.osl nb m sz, pre ++ [(nb, some e)], hr, ob⟩ v w' β') (hpre : nb ∉ pre.map (·.1)) (hm : e.es.length = m) (hsz : e.sz = sz) (hid : idLtE 0 e.es = true) :
   Post X w β hp nb ⟨.sl sz e.es, pre, hr, ob'⟩ v w' β' := by
 have hs := setHp_snoc hp pre nb (some e)
 obtain ⟨h1, h2, h3, h4, h5, h6⟩ := h
 simp only [hs] at h1 h2 h3
 have hnone : setHp hp pre nb = none := by rw [setHp_not hp pre nb hpre]; exact hg.fresh hn
 have hsub : ∀ i e', setHp hp pre i = some e' → i ≠ nb ∧ (fun j => if j = nb then some e else setHp hp pre j) i = some e' := by
   intro i e' hi
   have : i ≠ nb := by rintro rfl; rw [hnone] at hi; simp at hi
   exact ⟨this, by simp only [if_neg this]; exact hi⟩
 have hO : ∀ b, Own X β' (setHp hp pre) b → Own X β' (fun j => if j = nb then some e else setHp hp pre j) b := by
   rintro b (hb | ⟨i, e', he, hb⟩)
   · exact .inl hb
   · exact .inr ⟨i, e', (hsub i e' he).2, hb⟩
 have hst : Stab w' w' β' β' (Own X β' (fun j => if j = nb then some e else setHp hp pre j)) (Own X β' (setHp hp pre)) := ⟨Nat.le_refl _, fun _ _ h => h, fun _ _ h => h, fun b _ h => ⟨rfl, fun h' => h (hO b h')⟩⟩
 have hnbE : (fun j => if j = nb then some e else setHp hp pre j) nb = some e := by simp
 refine ⟨?_, ?_, ?_, h4, h5, h6⟩
 · simp only [Rep] at h1 ⊢
   rcases h1 with ⟨h1, rfl, rfl⟩ | ⟨b, cap, T', m', h1, rfl, g2, g3, g4⟩
   · exact .inl ⟨rfl, List.eq_nil_of_length_eq_zero hm⟩
   · rcases h2.ent nb e hnbE with ⟨hb', _⟩ | ⟨b', c, fr, vs, rest, hb', hh', hfr, hc, hre⟩
     · rw [h1] at hb'; simp at hb'
     · obtain rfl : b = b' := by rw [h1] at hb'; simpa using hb'
       subst hm
       refine .inr ⟨b, 0, cap, vs, rfl, g2, getElem?_lt hh', ?_, cellsAt_block hh' hc, ?_⟩
       · rintro (hb | ⟨i, e', he, hb⟩)
         · exact h2.xdis nb e b hnbE h1 hb
         · exact (hsub i e' he).1 (h2.inj i nb e' e b (hsub i e' he).2 hnbE hb h1)
       · rw [← hsz]
         exact repE_noid hid (RepE.mono hst _ _ _ hre)
 · refine ⟨fun i j e1 e2 b g1 g2 => h2.inj i j e1 e2 b (hsub i e1 g1).2 (hsub j e2 g2).2, ?_, fun i e' b g1 => h2.xdis i e' b (hsub i e' g1).2, h2.xlt, h2.laid.1, fun b hb => ⟨(h2.laid.2 b hb).1, fun ho => (h2.laid.2 b hb).2 (hO b ho)⟩⟩
   intro i e' he
   rcases h2.ent i e' (hsub i e' he).2 with g | ⟨b, c, fr, vs, rest, g1, g2, g3, g4, g5⟩
   · exact .inl g
   · exact .inr ⟨b, c, fr, vs, rest, g1, g2, g3, g4, RepE.mono hst _ _ _ g5⟩
 · exact ⟨h3.os, h3.tape, h3.output, h3.size, h3.same, fun b hb => h3.own b (hO b hb), h3.shape⟩
theorem raw_settle (hT : TabOk P T) {op : Op} {m sz : Nat} {e : Ent} {pre : List (Nat × Option Ent)} {hr : List Nat} {ob ob' : Prop} (hmk : makes op = true)
   (h : aexec0 P T none nb env hp op = some ⟨.osl nb m sz, pre ++ [(nb, some e)], hr, ob⟩) (hob : ob) (hpre : nb ∉ pre.map (·.1)) (hm : e.es.length = m) (hsz : e.sz = sz) (hid : idLtE 0 e.es = true) :
   RawOk P nb env hp op ⟨.sl sz e.es, pre, hr, ob'⟩ := by
 intro env' hp' he hh X w β a o ho hg hfresh henv
 obtain ⟨r', h1, h2⟩ := aexec0_local h he hh
 subst ho
 obtain ⟨v, w', β', g1, g2⟩ := exec_run hT (a := a) hmk h1 (h2.ob hob) hg hfresh henv
 refine ⟨v, w', β', g1, ?_⟩
 have g3 : Post X w β hp' nb ⟨.osl nb m sz, pre ++ [(nb, some e)], hr, ob⟩ v w' β' := by
   have hv := h2.v
   have hw := h2.hw
   simp only at hv hw
   obtain ⟨k1, k2, k3, k4, k5, k6⟩ := g2
   rw [hw] at k1 k2 k3
   rw [hv] at k1
   exact ⟨k1, k2, k3, k4, k5, k6⟩
 exact g3.settle hg (hfresh nb (Nat.le_refl _) (by omega)) hpre hm hsz hid
end
section
variable {P : Program} {N kk n : Nat} {R : Res → Prop} {rv : List ResultVar} {st : List Fr} {s : AS} {ops : Array Oper} {s0 : AS} {G : Prop} {k : Nat} {ts : List Touch} {rem : List Oper}
theorem XO.stl {o : Oper} {pre : List (Nat × Option Ent)} {m sz : Nat} {e : Ent} {hr : List Nat} {ob : Prop} (hmk : makes o.op = true) (hgd : aGuard ops (lk s.env) o = some true)
   (hr0 : aexec0 P (tabOf P) none (n + 8 * k) (lk s.env) (lkh s.hp) o.op = some ⟨.osl (n + 8 * k) m sz, pre ++ [(n + 8 * k, some e)], hr, ob⟩) (hob : ob) (hpre : n + 8 * k ∉ pre.map (·.1))
   (hm : e.es.length = m) (hsz : e.sz = sz) (hid : idLtE 0 e.es = true) (h : XO P n ops s0 G (k + 1) rem ⟨putE o.dst (.sl sz e.es) s.env, pre.reverse ++ s.hp⟩ (touch k ⟨.sl sz e.es, pre, hr, True⟩ ts)) : XO P n ops s0 G k (o :: rem) s ts := by
 have q := raw_settle (ob' := True) (tabOf_ok P) hmk hr0 hob hpre hm hsz hid
 refine XO.runP (orc := fun _ => some ⟨[], [], [], .any, [], [], some ⟨.sl sz e.es, pre, hr, True⟩⟩) 1 (by simp) (rem' := rem) rfl (s' := ⟨putE o.dst (.sl sz e.es) s.env, pre.reverse ++ s.hp⟩) (ts' := touch k ⟨.sl sz e.es, pre, hr, True⟩ ts) (p := True ∧ True ∧ RawOk P (n + 8 * k) (lk s.env) (lkh s.hp) o.op ⟨.sl sz e.es, pre, hr, True⟩) ?_ ⟨trivial, trivial, q⟩ h
 simp only [List.take_succ_cons, List.take_zero, arun, hgd, aexec, rawOf]
 rfl
/-- A slice is built; it is settled at once. -/
theorem XO.sb {o : Oper} {m sz : Nat} {e : Ent} {hr : List Nat} {ob : Prop} (h : XO P n ops s0 G (k + 1) rem ⟨putE o.dst (.sl sz e.es) s.env, s.hp⟩ (touch k ⟨.sl sz e.es, [], hr, True⟩ ts))
   (hr0 : aexec0 P (tabOf P) none (n + 8 * k) (lk s.env) (lkh s.hp) o.op = some ⟨.osl (n + 8 * k) m sz, [(n + 8 * k, some e)], hr, ob⟩ := by (try simp only [go_sem, seval]); (iterate 3 (first | (simp only [hx]; try simp only [go_sem, seval]) | skip)); rfl)
   (hob : ob := by (repeat' (with_reducible refine And.intro ?_ ?_)) <;> first | with_reducible exact True.intro | omega | exact isByteE _ | with_reducible assumption | decide | (simp; done) | (simp; omega) | (simp [*]; done) | (simp [*]; omega))
   (hm : e.es.length = m := by first | rfl | (simp; done) | (simp; omega)) (hsz : e.sz = sz := by rfl) (hid : idLtE 0 e.es = true := by first | rfl | (simp; done) | simp [idLtE, idLtL, idLt]) (hmk : makes o.op = true := by rfl) (hgd : aGuard ops (lk s.env) o = some true := by rfl) : XO P n ops s0 G k (o :: rem) s ts :=
 XO.stl (pre := []) hmk hgd hr0 hob (by simp) hm hsz hid h
/-- An owned slice is appended to; what comes of it is settled at once. -/
theorem XO.sa {o : Oper} {m sz i : Nat} {e : Ent} {hr : List Nat} {ob : Prop} (h : XO P n ops s0 G (k + 1) rem ⟨putE o.dst (.sl sz e.es) s.env, (i, none) :: s.hp⟩ (touch k ⟨.sl sz e.es, [(i, none)], hr, True⟩ ts))
   (hr0 : aexec0 P (tabOf P) none (n + 8 * k) (lk s.env) (lkh s.hp) o.op = some ⟨.osl (n + 8 * k) m sz, [(i, none), (n + 8 * k, some e)], hr, ob⟩ := by (try simp only [go_sem, seval]); (iterate 3 (first | (simp only [hx]; try simp only [go_sem, seval]) | skip)); rfl)
   (hob : ob := by (repeat' (with_reducible refine And.intro ?_ ?_)) <;> first | with_reducible exact True.intro | omega | exact isByteE _ | with_reducible assumption | decide | (simp; done) | (simp; omega) | (simp [*]; done) | (simp [*]; omega))
   (hi : i < n + 8 * k := by omega) (hm : e.es.length = m := by first | rfl | (simp; done) | (simp; omega)) (hsz : e.sz = sz := by rfl) (hid : idLtE 0 e.es = true := by first | rfl | (simp; done) | simp [idLtE, idLtL, idLt]) (hmk : makes o.op = true := by rfl) (hgd : aGuard ops (lk s.env) o = some true := by rfl) : XO P n ops s0 G k (o :: rem) s ts :=
 XO.stl (pre := [(i, none)]) hmk hgd hr0 hob (by simp; omega) hm hsz hid h
end
/-- Where the region with this number stands in a piece of code. -/
def seekC (r : Nat) : Nat → Code → List Fr → Option (Code × List Fr)
 | 0, _, _ => none
 | f + 1, c, st => match c with
   | .seq a b => match seekC r f a (.k b :: st) with
     | some x => some x
     | none => seekC r f b st
   | .block id c => seekC r f c (.b id :: st)
   | .region id ops d => match Nat.decEq id r with
     | .isTrue _ => some (.region id ops d, st)
     | .isFalse _ => none
   | .cond _ a b => match seekC r f a st with
     | some x => some x
     | none => seekC r f b st
   | _ => none
def seekF (r : Nat) : List Fr → Option (Code × List Fr)
 | [] => none
 | .k c :: st => match seekC r 60 c st with
   | some x => some x
   | none => seekF r st
 | .b _ :: st => seekF r st
 | .l _ :: _ => none
section
variable {P : Program} {N kk : Nat} {R : Res → Prop} {rv : List ResultVar} {st st' : List Fr} {n : Nat} {s : AS}
theorem XW.join (r : Nat) {α : Type} (n' : Nat) (S : α → AS) (I : α → Prop) {h0 : Hd} {c' : Code} (hK : ∀ a, I a → XH P N kk R rv (.c c') st' n' (S a)) (h : (∀ a, I a → XH P N kk R rv (.c c') st' n' (S a)) → XH P N kk R rv h0 st n s) (hn : seekF r st = some (c', st') := by rfl) : XH P N kk R rv h0 st n s := h hK
end
end Go.Av
