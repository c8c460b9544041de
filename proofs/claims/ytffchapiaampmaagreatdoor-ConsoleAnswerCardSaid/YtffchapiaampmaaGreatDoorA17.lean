/-
  Part 17 of the proof that logtidelaw45.ConsoleAnswer returns true for every list of bytes and every text, and leaves both as they were.
-/
import Derived.Test.YtffchapiaampmaaGreatDoorA09
import Derived.Test.YtffchapiaampmaaGreatDoorA15
set_option linter.unusedSimpArgs false
set_option linter.unusedVariables false
namespace Go.Av
inductive Fr where
 | k (c : Code)
 | b (id : Nat)
 | l (Y : Res → Ctx → Nat → AS → Prop)
def FQ (P : Program) (rv : List ResultVar) (kk : Nat) (x : Res) (C : Ctx) : List Fr → Exit → Nat → AS → Prop
 | [] => retQ (tabOf P) rv x.1 x.2 kk
 | .k c :: st => thenQ (AW P C c (FQ P rv kk x C st)) (FQ P rv kk x C st)
 | .b id :: st => blockQ id (FQ P rv kk x C st)
 | .l Y :: st => thenQ (Y x C) (FQ P rv kk x C st)
section
variable {P : Program} {N kk : Nat} {R : Res → Prop} {rv : List ResultVar} {st : List Fr} {n : Nat} {s : AS}
def XW (P : Program) (N kk : Nat) (R : Res → Prop) (rv : List ResultVar) (c : Code) (st : List Fr) (n : Nat) (s : AS) : Prop := EX N kk R fun x C => AW P C c (FQ P rv kk x C st) n s
def XQ (P : Program) (N kk : Nat) (R : Res → Prop) (rv : List ResultVar) (e : Exit) (st : List Fr) (n : Nat) (s : AS) : Prop := EX N kk R fun x C => FQ P rv kk x C st e n s
theorem XW.seq {a b : Code} (h : XW P N kk R rv a (.k b :: st) n s) : XW P N kk R rv (.seq a b) st n s := EX.step (fun _ _ _ _ h => AW.seq h) h
theorem XW.block {id : Nat} {c : Code} (h : XW P N kk R rv c (.b id :: st) n s) : XW P N kk R rv (.block id c) st n s := EX.step (fun _ _ _ _ h => AW.block h) h
theorem XW.skip (h : XQ P N kk R rv .normal st n s) : XW P N kk R rv .skip st n s := EX.step (fun _ _ _ _ h => AW.skip h) h
theorem XW.exit {id : Nat} (h : XQ P N kk R rv (.exit id) st n s) : XW P N kk R rv (.exit id) st n s := EX.step (fun _ _ _ _ h => AW.exit h) h
theorem XQ.k {c : Code} (h : XW P N kk R rv c st n s) : XQ P N kk R rv .normal (.k c :: st) n s := h
theorem XQ.b {id : Nat} (h : XQ P N kk R rv .normal st n s) : XQ P N kk R rv .normal (.b id :: st) n s := h
theorem XQ.l {Y : Res → Ctx → Nat → AS → Prop} (h : EX N kk R fun x C => Y x C n s) : XQ P N kk R rv .normal (.l Y :: st) n s := h
theorem XQ.ek {id : Nat} {c : Code} (h : XQ P N kk R rv (.exit id) st n s) : XQ P N kk R rv (.exit id) (.k c :: st) n s := h
theorem XQ.el {id : Nat} {Y : Res → Ctx → Nat → AS → Prop} (h : XQ P N kk R rv (.exit id) st n s) : XQ P N kk R rv (.exit id) (.l Y :: st) n s := h
theorem XQ.eb {id : Nat} (h : XQ P N kk R rv .normal st n s) : XQ P N kk R rv (.exit id) (.b id :: st) n s := by
 refine EX.step (fun x C _ _ h => ?_) h
 simp only [FQ, blockQ, if_true]; exact h
theorem XQ.eo {id id' : Nat} (hn : id ≠ id') (h : XQ P N kk R rv (.exit id) st n s) : XQ P N kk R rv (.exit id) (.b id' :: st) n s := by
 refine EX.step (fun x C _ _ h => ?_) h
 simp only [FQ, blockQ, if_neg hn]; exact h
theorem FQ_ret {x : Res} {C : Ctx} : ∀ st : List Fr, FQ P rv kk x C st .ret n s = retQ (tabOf P) rv x.1 x.2 kk .ret n s
 | [] => rfl
 | .k c :: st => by simp only [FQ, thenQ]; exact FQ_ret st
 | .b id :: st => by simp only [FQ, blockQ]; exact FQ_ret st
 | .l Y :: st => by simp only [FQ, thenQ]; exact FQ_ret st
theorem XW.ret (r : AV) (hs' : List (Option Ent)) (hR : R (r, hs')) (h : retQ (tabOf P) rv r hs' kk .ret n s) : XW P N kk R rv .ret st n s :=
 ⟨(r, hs'), hR, fun C _ _ => AW.ret (by rw [FQ_ret]; exact h)⟩
theorem XQ.ret (r : AV) (hs' : List (Option Ent)) (hR : R (r, hs')) (h : retQ (tabOf P) rv r hs' kk .normal n s) : XQ P N kk R rv .normal [] n s :=
 ⟨(r, hs'), hR, fun C _ _ => h⟩
theorem XW.condT {c : Operand} {x y : Code} (hc : evA (lk s.env) c = .val (.bool true)) (h : XW P N kk R rv x st n s) : XW P N kk R rv (.cond c x y) st n s := EX.step (fun _ _ _ _ h => AW.condT hc h) h
theorem XW.condF {c : Operand} {x y : Code} (hc : evA (lk s.env) c = .val (.bool false)) (h : XW P N kk R rv y st n s) : XW P N kk R rv (.cond c x y) st n s := EX.step (fun _ _ _ _ h => AW.condF hc h) h
theorem XW.condB {c : Operand} {x y : Code} {t : Bool} (hc : evA (lk s.env) c = .val (.bool t)) (ht : t = true → XW P N kk R rv x st n s) (hf : t = false → XW P N kk R rv y st n s) : XW P N kk R rv (.cond c x y) st n s := by
 cases t
 · exact XW.condF hc (hf rfl)
 · exact XW.condT hc (ht rfl)
theorem XW.wk {c : Code} (n' : Nat) (s' : AS) (hw : Wk kk s n' s') (h : XW P N kk R rv c st n' s') : XW P N kk R rv c st n s := EX.wk n' s' hw h
theorem XW.loop {c : Code} {α : Type} (n0 : Nat) (S : α → AS) (I : α → Prop) (μ : α → Nat) (a0 : α) (h0 : I a0) (hw : Wk kk s n0 (S a0))
   (hr : ∀ a, I a → ∀ Y : Res → Ctx → Nat → AS → Prop, (∀ a', I a' → μ a' < μ a → ∀ n s, Wk kk s n0 (S a') → EX N kk R fun x C => Y x C n s) →
     XW P N kk R rv c (.l Y :: st) n0 (S a)) : XW P N kk R rv (.loop c) st n s := EX.loop n0 S I μ a0 h0 hw hr
theorem xacall {g : FuncId} {fn : Func} {c : Code} {as : List AV} {hs : List (Option Ent)} (N k : Nat) (hf : P.funcs[g]? = some fn) (hb : fn.body = some c) (hname : (fn.name == "runtime.NumGoroutine") = false) (hN : fn.ntmps = N) (has : as.length ≤ N) (hk : hs.length = k)
   {rv : List ResultVar} (hrv : fn.results = rv.toArray) (h : XW P N k R rv c [] k ⟨initE 0 as, initH 0 hs⟩) : ACallE P g as hs R := acallE N k hf hb hname hN has hk hrv h
/-- What comes next: a piece of code, the end of one, or a jump. -/
inductive Hd where
 | c (c : Code)
 | n
 | x (id : Nat)
def XH (P : Program) (N kk : Nat) (R : Res → Prop) (rv : List ResultVar) (h : Hd) (st : List Fr) (n : Nat) (s : AS) : Prop := match h with
 | .c c => XW P N kk R rv c st n s
 | .n => XQ P N kk R rv .normal st n s
 | .x id => XQ P N kk R rv (.exit id) st n s
def navF : Nat → Hd → List Fr → Hd × List Fr
 | f + 1, .c (.seq a b), st => navF f (.c a) (.k b :: st)
 | f + 1, .c (.block id c), st => navF f (.c c) (.b id :: st)
 | f + 1, .c .skip, st => navF f .n st
 | f + 1, .c (.exit id), st => navF f (.x id) st
 | f + 1, .n, .k c :: st => navF f (.c c) st
 | f + 1, .n, .b _ :: st => navF f .n st
 | f + 1, .x id, .k _ :: st => navF f (.x id) st
 | f + 1, .x id, .l _ :: st => navF f (.x id) st
 | f + 1, .x id, .b id' :: st => match Nat.decEq id id' with
   | .isTrue _ => navF f .n st
   | .isFalse _ => navF f (.x id) st
 | _, h, st => (h, st)
theorem navF_ok : ∀ {f : Nat} {h : Hd} {st : List Fr}, XH P N kk R rv (navF f h st).1 (navF f h st).2 n s → XH P N kk R rv h st n s := by
 intro f
 induction f with
 | zero => intro h st hh; simpa [navF] using hh
 | succ f ih =>
   intro h st hh
   cases h with
   | c c => cases c with
     | seq a b => exact XW.seq (ih (h := .c a) hh)
     | block id c => exact XW.block (ih (h := .c c) hh)
     | skip => exact XW.skip (ih (h := .n) hh)
     | exit id => exact XW.exit (ih (h := .x id) hh)
     | _ => exact hh
   | n => cases st with
     | nil => exact hh
     | cons fr st => cases fr with
       | k c => exact XQ.k (ih (h := .c c) hh)
       | b id => exact XQ.b (ih (h := .n) hh)
       | l Y => exact hh
   | x id => cases st with
     | nil => exact hh
     | cons fr st => cases fr with
       | k c => exact XQ.ek (ih (h := .x id) hh)
       | l Y => exact XQ.el (ih (h := .x id) hh)
       | b id' =>
         simp only [navF] at hh
         split at hh
         · rename_i he _
           subst he
           exact XQ.eb (ih (h := .n) hh)
         · rename_i hne _
           exact XQ.eo hne (ih (h := .x id) hh)
@[go_sem] theorem range0 : List.range 0 = [] := rfl
@[go_sem] theorem range1 : List.range 1 = [0] := rfl
@[go_sem] theorem range2 : List.range 2 = [0, 1] := rfl
@[go_sem] theorem range3 : List.range 3 = [0, 1, 2] := rfl
theorem isByteE (l : List UInt8) : ∀ c ∈ bytesE l, isByte c = true := by
 intro c hc
 simp only [bytesE, List.mem_map] at hc
 obtain ⟨b, _, rfl⟩ := hc
 have := b.toNat_lt
 simp only [byteE, isByte, decide_eq_true_eq]; omega
theorem arun_append {T : Tab} {orc : Nat → Option Orc} {ops : Array Oper} : ∀ (l l' : List Oper) (i : Nat) (s : AS) (ts : List Touch) (p : Prop) {s' : AS} {ts' : List Touch} {p' : Prop}, arun P T orc n ops l i s ts p = some (s', ts', p') →
   arun P T orc n ops (l ++ l') i s ts p = arun P T orc n ops l' (i + l.length) s' ts' p'
 | [], l', i, s, ts, p, s', ts', p', h => by
   simp only [arun, Option.some.injEq, Prod.mk.injEq] at h
   obtain ⟨rfl, rfl, rfl⟩ := h
   simp
 | o :: l, l', i, s, ts, p, s', ts', p', h => by
   rw [List.cons_append, arun]
   rw [arun] at h
   have e : i + (o :: l).length = i + 1 + l.length := by simp; omega
   rw [e]
   split at h
   · next hg =>
     split at h
     · next r hr =>
       try simp only [hg, hr]
       exact arun_append l l' _ _ _ _ h
     · simp at h
   · next hg =>
     try simp only [hg]
     exact arun_append l l' _ _ _ _ h
   · simp at h
theorem arun_congr {T : Tab} {orc orc' : Nat → Option Orc} {ops : Array Oper} : ∀ (l : List Oper) (i : Nat) (s : AS) (ts : List Touch) (p : Prop), (∀ j, i ≤ j → j < i + l.length → orc j = orc' j) → arun P T orc n ops l i s ts p = arun P T orc' n ops l i s ts p
 | [], i, s, ts, p, h => rfl
 | o :: l, i, s, ts, p, h => by
   have h1 : orc i = orc' i := h i (Nat.le_refl _) (by simp)
   have ih := fun s ts p => arun_congr (T := T) (ops := ops) (orc := orc) (orc' := orc') l (i + 1) s ts p (fun j hj hj' => h j (by omega) (by simp only [List.length_cons]; omega))
   rw [arun, arun, h1]
   simp only [ih]
theorem arun_true {T : Tab} {orc : Nat → Option Orc} {ops : Array Oper} : ∀ (l : List Oper) (i : Nat) (s : AS) (ts : List Touch) (p q : Prop) {s' : AS} {ts' : List Touch} {p' : Prop}, arun P T orc n ops l i s ts p = some (s', ts', p') → (p → q) →
   ∃ q', arun P T orc n ops l i s ts q = some (s', ts', q') ∧ (p' → q')
 | [], i, s, ts, p, q, s', ts', p', h, hq => by
   simp only [arun, Option.some.injEq, Prod.mk.injEq] at h
   obtain ⟨rfl, rfl, rfl⟩ := h
   exact ⟨q, rfl, hq⟩
 | o :: l, i, s, ts, p, q, s', ts', p', h, hq => by
   rw [arun] at h ⊢
   split at h
   · next hg =>
     split at h
     · next r hr =>
       try simp only [hg, hr]
       exact arun_true l _ _ _ _ _ h (fun ⟨a, b⟩ => ⟨hq a, b⟩)
     · simp at h
   · next hg =>
     try simp only [hg]
     exact arun_true l _ _ _ _ _ h hq
   · simp at h
/-- The first k operations of a region have been run. -/
def Pre (P : Program) (n : Nat) (ops : Array Oper) (s0 : AS) (k : Nat) (s : AS) (ts : List Touch) : Prop :=
 ∃ orc p s1, arun P (tabOf P) orc n ops (ops.toList.take k) 0 s0 [] True = some (s1, ts, p) ∧ p ∧ lk s1.env = lk s.env ∧ s1.hp = s.hp
theorem arun_lk {T : Tab} {orc : Nat → Option Orc} {ops : Array Oper} : ∀ (l : List Oper) (i : Nat) (s s1 : AS) (ts : List Touch) (p : Prop) {s' : AS} {ts' : List Touch} {p' : Prop}, lk s1.env = lk s.env → s1.hp = s.hp → arun P T orc n ops l i s ts p = some (s', ts', p') →
   ∃ s1', arun P T orc n ops l i s1 ts p = some (s1', ts', p') ∧ lk s1'.env = lk s'.env ∧ s1'.hp = s'.hp
 | [], i, s, s1, ts, p, s', ts', p', he, hh, h => by
   simp only [arun, Option.some.injEq, Prod.mk.injEq] at h
   obtain ⟨rfl, rfl, rfl⟩ := h
   exact ⟨s1, rfl, he, hh⟩
 | o :: l, i, s, s1, ts, p, s', ts', p', he, hh, h => by
   rw [arun] at h
   rw [arun, he, hh]
   split at h
   · next hg =>
     split at h
     · next r hr =>
       try simp only [hg, hr]
       exact arun_lk l _ ⟨putE o.dst r.v s.env, r.hw.reverse ++ s.hp⟩ ⟨putE o.dst r.v s1.env, r.hw.reverse ++ s.hp⟩ _ _ (by simp only [lk_put, he]) rfl h
     · simp at h
   · next hg =>
     try simp only [hg]
     exact arun_lk l _ ⟨putE o.dst (.val undef) s.env, s.hp⟩ ⟨putE o.dst (.val undef) s1.env, s.hp⟩ _ _ (by simp only [lk_put, he]) rfl h
   · simp at h
/-- From the k-th operation of a region on; rem: what is left of it. -/
def XO (P : Program) (n : Nat) (ops : Array Oper) (s0 : AS) (G : Prop) (k : Nat) (rem : List Oper) (s : AS) (ts : List Touch) : Prop := ops.toList.drop k = rem → Pre P n ops s0 k s ts → G
variable {ops : Array Oper} {s0 : AS} {G : Prop} {k : Nat} {ts : List Touch} {rem : List Oper}
/-- The region with this number. -/
theorem XW.rS (id : Nat) {draw : Bool} {l : List Oper} (h : XO P n l.toArray s (XH P N kk R rv (.c (.region id l.toArray draw)) st n s) 0 l s []) : XH P N kk R rv (.c (.region id l.toArray draw)) st n s :=
 h rfl ⟨noc, True, s, by simp [arun], trivial, rfl, rfl⟩
theorem XO.runP {orc : Nat → Option Orc} {rem' : List Oper} (m : Nat) (hm : m ≤ rem.length) (hrem : rem.drop m = rem') {s' : AS} {ts' : List Touch} {p : Prop} (hr : arun P (tabOf P) orc n ops (rem.take m) k s ts True = some (s', ts', p)) (hp : p) (h : XO P n ops s0 G (k + m) rem' s' ts') : XO P n ops s0 G k rem s ts := by
 rintro hd ⟨orc0, p0, s1, h0, hp0, hse, hsh⟩
 subst hrem
 obtain ⟨s1', hr, hse', hsh'⟩ := arun_lk _ _ _ s1 _ _ hse hsh hr
 have hkm : k + m ≤ ops.size ∨ m = 0 := by
   rw [← hd] at hm; simp at hm; omega
 refine h (by rw [← hd, List.drop_drop]) ?_
 rw [← hd] at hr
 have hlm : ((ops.toList.drop k).take m).length = m := by simp; omega
 let orc' : Nat → Option Orc := fun j => if j < k then orc0 j else orc j
 have e1 := arun_congr (P := P) (T := tabOf P) (n := n) (ops := ops) (orc := orc0) (orc' := orc') (ops.toList.take k) 0 s0 [] True (fun j _ hj => by simp only [orc']; rw [if_pos (by simp at hj; omega)])
 have e2 := arun_congr (P := P) (T := tabOf P) (n := n) (ops := ops) (orc := orc) (orc' := orc') ((ops.toList.drop k).take m) k s1 ts True (fun j hj _ => by simp only [orc']; rw [if_neg (by omega)])
 rw [e1] at h0
 rw [e2] at hr
 obtain ⟨q, hq1, hq2⟩ := arun_true _ _ _ _ True p0 hr (fun _ => hp0)
 refine ⟨orc', q, s1', ?_, hq2 hp, hse', hsh'⟩
 rcases hkm with hkm | hm0
 · have hlk : (ops.toList.take k).length = k := by simp; omega
   rw [List.take_add, arun_append _ _ _ _ _ _ h0, hlk, Nat.zero_add]
   exact hq1
 · subst hm0
   simp only [List.take_zero, arun, Option.some.injEq, Prod.mk.injEq] at hq1
   obtain ⟨rfl, rfl, rfl⟩ := hq1
   exact h0
/-- A slot's value, read otherwise. -/
theorem XO.slot (t : Nat) (a : AV) (ha : lk s.env t = a) (h : XO P n ops s0 G k rem ⟨(t, a) :: s.env, s.hp⟩ ts) : XO P n ops s0 G k rem s ts := by
 rintro hd ⟨orc0, p0, s1, h0, hp0, hse, hsh⟩
 refine h hd ⟨orc0, p0, s1, h0, hp0, hse.trans ?_, hsh⟩
 funext u
 simp only [lk]
 split
 · next hu => subst hu; exact ha
 · rfl
/-- The next m operations, no call among them. -/
theorem XO.r (m : Nat) {rem' : List Oper} {s' : AS} {ts' : List Touch} {p : Prop} (h : XO P n ops s0 G (k + m) rem' s' ts') (hr : arun P (tabOf P) noc n ops (rem.take m) k s ts True = some (s', ts', p) := by (try simp only [go_sem, seval]); (iterate 3 (first | (simp only [hx]; try simp only [go_sem, seval]) | skip); (first | (simp only [hx2]; try simp only [go_sem, seval]) | skip); (first | (simp only [hx3]; try simp only [go_sem, seval]) | skip); (try (simp (disch := omega) only [au]; try simp only [go_sem, seval]))); rfl) (hp : p := by (repeat' (with_reducible refine And.intro ?_ ?_)) <;> first | with_reducible exact True.intro | omega | exact isByteE _ | with_reducible assumption | decide | (simp; done) | (simp; omega) | (simp [*]; done) | (simp [*]; omega)) (hm : m ≤ rem.length := by decide) (hrem : rem.drop m = rem' := by (try simp only [List.drop_succ_cons, List.drop_zero, List.drop_nil]); rfl) : XO P n ops s0 G k rem s ts := XO.runP m hm hrem hr hp h
theorem XO.split (t : Nat) {b : Bool} (ht : b = true → XO P n ops s0 G k rem ⟨(t, .val (.bool true)) :: s.env, s.hp⟩ ts) (hf : b = false → XO P n ops s0 G k rem ⟨(t, .val (.bool false)) :: s.env, s.hp⟩ ts) (hb : lk s.env t = .val (.bool b) := by rfl) : XO P n ops s0 G k rem s ts := by
 cases b
 · exact XO.slot t _ hb (hf rfl)
 · exact XO.slot t _ hb (ht rfl)
theorem XO.kT (t : Nat) (h : XO P n ops s0 G k rem s ts) (hb : lk s.env t = .val (.bool true) := by rfl) : XO P n ops s0 G k rem s ts := h
theorem XO.kF (t : Nat) (h : XO P n ops s0 G k rem s ts) (hb : lk s.env t = .val (.bool false) := by rfl) : XO P n ops s0 G k rem s ts := h
theorem XO.done (keep : List Nat) {l : List Oper} {id : Nat} {draw : Bool} {n' : Nat} {s' : AS} {c' : Hd} {st' : List Fr} (h : XH P N kk R rv c' st' n' s')
   (hs : ((liveC (List.range kk) keep s).length, trimC (List.range kk) keep s) = (n', s') := by (try simp only [go_sem, seval]); rfl) (hn : navF 60 .n st = (c', st') := by rfl) (ht : (!draw || touchesOk (masks l []) ts) = true := by first | rfl | decide +kernel) (hok : regOk N l.toArray draw = true := by decide +kernel) (hk : l.length = k := by rfl) (hm : P.follows .mixedOrders = true := by exact mixed) :
   XO P n l.toArray s0 (XH P N kk R rv (.c (.region id l.toArray draw)) st n s0) k [] s ts := by
 rintro _ ⟨orc, p, s1, hr, hp, hse, hsh⟩
 have hst : s1.st = s.st := by simp only [AS.st, hse, hsh]
 have hall : l.toArray.toList.take k = l.toArray.toList := List.take_of_length_le (by simp; omega)
 rw [hall] at hr
 have hq : XH P N kk R rv .n st n' s' := navF_ok (by rw [hn]; exact h)
 simp only [Prod.mk.injEq] at hs
 obtain ⟨rfl, rfl⟩ := hs
 refine EX.step (fun x C hN hkk hq => ?_) (show XQ P N kk R rv .normal st _ _ from hq)
 intro a w hI
 refine region_run (tabOf_ok P) hm hr hp (hN ▸ hok) (fun hd => by subst hd; simpa using ht) hI ?_
 intro a' w' hI'
 rw [hst] at hI'
 exact ⟨_, _, hq, hI'.weak (hkk ▸ wk_trimC rfl)⟩
theorem XW.ra (id : Nat) (keep : List Nat) {l : List Oper} {draw : Bool} {n' : Nat} {s' s1 : AS} {c' : Hd} {st' : List Fr} {ts1 : List Touch} {p : Prop} (h : XH P N kk R rv c' st' n' s')
   (hr : arun P (tabOf P) noc n l.toArray l 0 s [] True = some (s1, ts1, p) := by (try simp only [go_sem, seval]); (iterate 3 (first | (simp only [hx]; try simp only [go_sem, seval]) | skip); (first | (simp only [hx2]; try simp only [go_sem, seval]) | skip); (first | (simp only [hx3]; try simp only [go_sem, seval]) | skip); (try (simp (disch := omega) only [au]; try simp only [go_sem, seval]))); rfl) (hp : p := by (repeat' (with_reducible refine And.intro ?_ ?_)) <;> first | with_reducible exact True.intro | omega | exact isByteE _ | with_reducible assumption | decide | (simp; done) | (simp; omega) | (simp [*]; done) | (simp [*]; omega))
   (hs : ((liveC (List.range kk) keep s1).length, trimC (List.range kk) keep s1) = (n', s') := by (try simp only [go_sem, seval]); rfl) (hn : navF 60 .n st = (c', st') := by rfl) (ht : (!draw || touchesOk (masks l []) ts1) = true := by first | rfl | decide +kernel) (hok : regOk N l.toArray draw = true := by decide +kernel) (hm : P.follows .mixedOrders = true := by exact mixed) :
   XH P N kk R rv (.c (.region id l.toArray draw)) st n s :=
 XW.rS id (XO.runP l.length (Nat.le_refl _) (by simp) (by rw [List.take_length]; exact hr) hp (XO.done keep h hs hn ht hok (by simp) hm))
theorem XW.cT (t : Nat) {a b : Code} {c' : Hd} {st' : List Fr} (h : XH P N kk R rv c' st' n s) (hc : lk s.env t = .val (.bool true) := by rfl) (hn : navF 60 (.c a) st = (c', st') := by rfl) : XH P N kk R rv (.c (.cond (.tmp t) a b)) st n s := XW.condT hc (navF_ok (h := .c a) (by rw [hn]; exact h))
theorem XW.cF (t : Nat) {a b : Code} {c' : Hd} {st' : List Fr} (h : XH P N kk R rv c' st' n s) (hc : lk s.env t = .val (.bool false) := by rfl) (hn : navF 60 (.c b) st = (c', st') := by rfl) : XH P N kk R rv (.c (.cond (.tmp t) a b)) st n s := XW.condF hc (navF_ok (h := .c b) (by rw [hn]; exact h))
theorem XW.cB (t : Nat) {a b : Code} {v : Bool} {c1 c2 : Hd} {st1 st2 : List Fr} (ht : v = true → XH P N kk R rv c1 st1 n s) (hf : v = false → XH P N kk R rv c2 st2 n s) (hc : lk s.env t = .val (.bool v) := by rfl) (hn1 : navF 60 (.c a) st = (c1, st1) := by rfl) (hn2 : navF 60 (.c b) st = (c2, st2) := by rfl) : XH P N kk R rv (.c (.cond (.tmp t) a b)) st n s :=
 XW.condB hc (fun e => navF_ok (h := .c a) (by rw [hn1]; exact ht e)) (fun e => navF_ok (h := .c b) (by rw [hn2]; exact hf e))
/-- A call of a function that takes nothing that is owned: what it returns is settled. -/
def PCall (P : Program) (g : FuncId) (as : List AV) (Rg : AV → Prop) : Prop := ∃ r, Rg r ∧ idLt 0 r = true ∧ ACall P g as [] r []
theorem PCall.of {g : FuncId} {as : List AV} {r : AV} (h : ACall P g as [] r []) (hi : idLt 0 r = true := by rfl) : PCall P g as (fun x => x = r) := ⟨r, rfl, hi, h⟩
def borT (k : Nat) (bor : List Nat) (ts : List Touch) : List Touch := match bor with
 | [] => ts
 | _ => (k, bor, []) :: ts
def oArgs (o : Oper) (env : Env) : List AV := match o.op with
 | .call c => c.args.toList.map (evA env)
 | _ => []
def oCal (o : Oper) : Option FuncId := match o.op with
 | .call c => match c.callee with
   | .value (.func g) => some g
   | _ => none
 | _ => none
theorem XO.pv (bor : List Nat) {o : Oper} {g : FuncId} {as : List AV} {Rg : AV → Prop} (hcal : oCal o = some g) (hgd : aGuard ops (lk s.env) o = some true) (q : PCall P g as Rg) (hv : viewsA (lkh s.hp) bor (oArgs o (lk s.env)) as) (hid : idLtL 0 as = true) (hb : borOb (lkh s.hp) [] bor)
   (hbr : bor = [] ∨ ∀ r, Rg r → noSl r = true) (h : ∀ r, Rg r → XO P n ops s0 G (k + 1) rem ⟨putE o.dst r s.env, s.hp⟩ (borT k bor ts)) : XO P n ops s0 G k (o :: rem) s ts := by
 obtain ⟨r, h1, h2, h3⟩ := q
 have hx : aexec P (tabOf P) (some ⟨[], [], as, r, [], bor, none⟩) (n + 8 * k) (lk s.env) (lkh s.hp) o.op = some (aCall P g (oArgs o (lk s.env)) (lkh s.hp) (n + 8 * k) ⟨[], [], as, r, [], bor, none⟩) := by
   unfold oCal at hcal
   split at hcal
   · rename_i c hop
     split at hcal
     · rename_i g' hcl
       simp only [Option.some.injEq] at hcal
       subst hcal
       simp only [aexec, rawOf, aexec0, hop, hcl, evA, oArgs]
     · simp at hcal
   · simp at hcal
 have hob : (aCall P g (oArgs o (lk s.env)) (lkh s.hp) (n + 8 * k) ⟨[], [], as, r, [], bor, none⟩).ob := by
   refine callOb_ob ⟨h3, ?_, by simp, trivial, by simp, by simp, ?_, hb, by simpa using hid⟩
   · rw [renL_noid _ _ hid]; exact hv
   · unfold borR
     split
     · trivial
     · rename_i hne
       rcases hbr with hb1 | hb1
       · exact absurd hb1 hne
       · exact ⟨hb1 r h1, fun e he => by simp at he⟩
 refine XO.runP (orc := fun _ => some ⟨[], [], as, r, [], bor, none⟩) 1 (by simp) (rem' := rem) rfl (s' := ⟨putE o.dst r s.env, s.hp⟩) (ts' := borT k bor ts) (p := True ∧ _) ?_ ⟨trivial, hob⟩ (h r h1)
 simp only [List.take_succ_cons, List.take_zero, arun, hgd, hx]
 have e1 : (aCall P g (oArgs o (lk s.env)) (lkh s.hp) (n + 8 * k) ⟨[], [], as, r, [], bor, none⟩).v = r := by rw [aCall_v]; exact ren_noid _ _ h2
 have e2 : (aCall P g (oArgs o (lk s.env)) (lkh s.hp) (n + 8 * k) ⟨[], [], as, r, [], bor, none⟩).hw = [] := rfl
 have e3 : (aCall P g (oArgs o (lk s.env)) (lkh s.hp) (n + 8 * k) ⟨[], [], as, r, [], bor, none⟩).hr = bor := by simp [aCall]
 rw [e1, e2]
 simp only [touch, e2, e3]
 cases bor <;> rfl
theorem XO.p {o : Oper} {g : FuncId} {Rg : AV → Prop} (q : PCall P g (oArgs o (lk s.env)) Rg) (h : ∀ r, Rg r → XO P n ops s0 G (k + 1) rem ⟨putE o.dst r s.env, s.hp⟩ ts) (hcal : oCal o = some g := by rfl) (hgd : aGuard ops (lk s.env) o = some true := by rfl) (hid : idLtL 0 (oArgs o (lk s.env)) = true := by rfl) : XO P n ops s0 G k (o :: rem) s ts :=
 XO.pv [] hcal hgd q (viewsA_self _ _) hid trivial (.inl rfl) h
/-- What a function returns that takes nothing owned. -/
def RP (Rg : AV → Prop) : Res → Prop := fun x => Rg x.1 ∧ idLt 0 x.1 = true ∧ x.2 = []
theorem PCall.go {g : FuncId} {as : List AV} {Rg : AV → Prop} (N : Nat) {fn : Func} {c : Code} (hf : P.funcs[g]? = some fn) (hb : fn.body = some c) (hname : (fn.name == "runtime.NumGoroutine") = false) (hN : fn.ntmps = N) (has : as.length ≤ N)
   {rv : List ResultVar} (hrv : fn.results = rv.toArray) {h' : Hd} {st' : List Fr} (h : XH P N 0 (RP Rg) rv h' st' 0 ⟨initE 0 as, []⟩) (hn : navF 60 (.c c) [] = (h', st') := by rfl) : PCall P g as Rg := by
 obtain ⟨⟨r, hs'⟩, ⟨h1, h2, h3⟩, h4⟩ := xacall (R := RP Rg) (hs := []) N 0 hf hb hname hN has rfl hrv (navF_ok (h := .c c) (by rw [hn]; exact h))
 simp only at h3
 subst h3
 exact ⟨r, h1, h2, h4⟩
theorem XP.ret {Rg : AV → Prop} (D : List Nat) (r : AV) (hR : Rg r) {l : List AV} {p : Prop} (hres : resList (tabOf P) s rv = some (l, p) := by (try simp only [resList, go_sem, seval]); rfl) (hp : p := by (repeat' (with_reducible refine And.intro ?_ ?_)) <;> first | with_reducible exact True.intro | omega | exact isByteE _ | with_reducible assumption | decide | (simp; done) | (simp; omega) | (simp [*]; done) | (simp [*]; omega))
   (hwk : wk (lkh s.hp) [] D (resOf l) r := by simp [resOf, lk, lkh, wk, wkL, wkE]) (hi : idLt 0 r = true := by first | rfl | simp [idLt, idLtL]) : XH P N 0 (RP Rg) rv (.c .ret) st n s :=
 XW.ret r [] ⟨hR, hi, rfl⟩ ⟨.inl rfl, l, p, [], D, hres, hp, ⟨by simp [srcIds], by simp [srcIds], by simp⟩, rfl, hwk, by simp [wkHp]⟩
theorem XP.end {Rg : AV → Prop} (D : List Nat) (r : AV) (hR : Rg r) {l : List AV} {p : Prop} (hres : resList (tabOf P) s rv = some (l, p) := by (try simp only [resList, go_sem, seval]); rfl) (hp : p := by (repeat' (with_reducible refine And.intro ?_ ?_)) <;> first | with_reducible exact True.intro | omega | exact isByteE _ | with_reducible assumption | decide | (simp; done) | (simp; omega) | (simp [*]; done) | (simp [*]; omega))
   (hwk : wk (lkh s.hp) [] D (resOf l) r := by simp [resOf, lk, lkh, wk, wkL, wkE]) (hi : idLt 0 r = true := by first | rfl | simp [idLt, idLtL]) : XH P N 0 (RP Rg) rv .n [] n s :=
 XQ.ret r [] ⟨hR, hi, rfl⟩ ⟨.inr rfl, l, p, [], D, hres, hp, ⟨by simp [srcIds], by simp [srcIds], by simp⟩, rfl, hwk, by simp [wkHp]⟩
theorem wk_same {hp : Hp} {a : AV} (h : idLt 0 a = true) : wk hp [] [] a a := by
 have := wkL_self (hp := hp) (ids := []) (D := []) [a] (by simp [idLtL, h])
 simpa using this
/-- A return of what has no ids. -/
theorem XP.rs {Rg : AV → Prop} {l : List AV} {p : Prop} {r : AV} (hR : Rg r) (hres : resList (tabOf P) s rv = some (l, p) := by (try simp only [resList, go_sem, seval]); rfl) (hr : resOf l = r := by rfl) (hp : p := by (repeat' (with_reducible refine And.intro ?_ ?_)) <;> first | with_reducible exact True.intro | omega | exact isByteE _ | with_reducible assumption | decide | (simp; done) | (simp; omega) | (simp [*]; done) | (simp [*]; omega))
   (hi : idLt 0 r = true := by first | rfl | simp [idLt, idLtL]) : XH P N 0 (RP Rg) rv (.c .ret) st n s := by
 subst hr
 exact XP.ret [] _ hR hres hp (wk_same hi) hi
theorem XP.es {Rg : AV → Prop} {l : List AV} {p : Prop} {r : AV} (hR : Rg r) (hres : resList (tabOf P) s rv = some (l, p) := by (try simp only [resList, go_sem, seval]); rfl) (hr : resOf l = r := by rfl) (hp : p := by (repeat' (with_reducible refine And.intro ?_ ?_)) <;> first | with_reducible exact True.intro | omega | exact isByteE _ | with_reducible assumption | decide | (simp; done) | (simp; omega) | (simp [*]; done) | (simp [*]; omega))
   (hi : idLt 0 r = true := by first | rfl | simp [idLt, idLtL]) : XH P N 0 (RP Rg) rv .n [] n s := by
 subst hr
 exact XP.end [] _ hR hres hp (wk_same hi) hi
theorem XW.at (id : Nat) {ops : Array Oper} {draw : Bool} (h : XH P N kk R rv (.c (.region id ops draw)) st n s) : XH P N kk R rv (.c (.region id ops draw)) st n s := h
theorem XW.atr (h : XH P N kk R rv (.c .ret) st n s) : XH P N kk R rv (.c .ret) st n s := h
theorem XW.lp {c : Code} {α : Type} {h' : (Res → Ctx → Nat → AS → Prop) → Hd} {st' : (Res → Ctx → Nat → AS → Prop) → List Fr} (n0 : Nat) (S : α → AS) (I : α → Prop) (μ : α → Nat) (a0 : α) (hw : Wk kk s n0 (S a0))
   (hr : ∀ a, I a → ∀ Y : Res → Ctx → Nat → AS → Prop, (∀ a', I a' → μ a' < μ a → ∀ n s, Wk kk s n0 (S a') → EX N kk R fun x C => Y x C n s) →
     XH P N kk R rv (h' Y) (st' Y) n0 (S a)) (h0 : I a0 := by first | assumption | omega | (simp; done) | ((repeat' apply And.intro) <;> first | assumption | omega | (simp; done) | (simp; omega))) (hn : (fun Y => navF 60 (.c c) (.l Y :: st)) = (fun Y => (h' Y, st' Y)) := by rfl) : XH P N kk R rv (.c (.loop c)) st n s :=
 XW.loop n0 S I μ a0 h0 hw (fun a hI Y hY => navF_ok (h := .c c) (by
   have := congrFun hn Y
   exact this ▸ (show XH P N kk R rv (h' Y, st' Y).1 (h' Y, st' Y).2 n0 (S a) from hr a hI Y hY)))
theorem XH.le {Y : Res → Ctx → Nat → AS → Prop} (h : EX N kk R fun x C => Y x C n s) : XH P N kk R rv .n (.l Y :: st) n s := XQ.l h
theorem getx {α : Type} (l : List α) (i : Nat) (h : i < l.length) : ∃ x, l[i]? = some x ∧ x ∈ l := ⟨l[i], List.getElem?_eq_getElem h, List.getElem_mem h⟩
theorem len0 {α : Type} {l : List α} (h : (((l.length : Nat) : Int) == 0) = false) : 0 < l.length := by
 have := beq_eq_false_iff_ne.1 h
 omega
theorem ltC {a b : Nat} (h : decide ((a : Int) < (b : Int)) = true) : a < b := by
 have := of_decide_eq_true h
 omega
theorem geC {a b : Nat} (h : decide ((a : Int) < (b : Int)) = false) : b ≤ a := by
 have := of_decide_eq_false h
 omega
theorem neC {a : Nat} {b : Int} (h : ((a : Int) != b) = false) : (a : Int) = b := by
 simpa using h
theorem eqC {a : Nat} {b : Int} (h : ((a : Int) == b) = true) : (a : Int) = b := by
 simpa using h
end
section
variable {P : Program} {N kk : Nat} {R : Res → Prop} {rv : List ResultVar} {st : List Fr} {n : Nat} {s : AS} {ops : Array Oper} {s0 : AS} {G : Prop} {k : Nat} {ts : List Touch} {rem : List Oper}
/-- A long region: what is left of it is written as one list. -/
theorem XW.rL (id : Nat) {draw : Bool} {l l' : List Oper} (h : XO P n l.toArray s (XH P N kk R rv (.c (.region id l.toArray draw)) st n s) 0 l' s []) (hl : l = l' := by (simp only [List.append_eq, List.cons_append, List.nil_append]; rfl)) : XH P N kk R rv (.c (.region id l.toArray draw)) st n s := by
 subst hl
 exact XW.rS id h
theorem XO.r0 (m : Nat) {rem' : List Oper} {s' : AS} {ts' : List Touch} {p : Prop} (h : XO P n ops s0 G (k + m) rem' s' ts') (hr : arun P (tabOf P) noc n ops (rem.take m) k s ts True = some (s', ts', p) := by (try simp only [go_sem, seval]); rfl) (hp : p := by (try simp only [go_sem, seval, and_true, true_and]); all_goals ((repeat' (with_reducible refine And.intro ?_ ?_)) <;> first | with_reducible exact True.intro | omega | exact isByteE _ | with_reducible assumption | decide | (simp; done) | (simp; omega) | (simp [*]; done) | (simp [*]; omega))) (hm : m ≤ rem.length := by decide) (hrem : rem.drop m = rem' := by (try simp only [List.drop_succ_cons, List.drop_zero, List.drop_nil]); rfl) : XO P n ops s0 G k rem s ts := XO.runP m hm hrem hr hp h
theorem XW.ra0 (id : Nat) (keep : List Nat) {l : List Oper} {draw : Bool} {n' : Nat} {s' s1 : AS} {c' : Hd} {st' : List Fr} {ts1 : List Touch} {p : Prop} (h : XH P N kk R rv c' st' n' s')
   (hr : arun P (tabOf P) noc n l.toArray l 0 s [] True = some (s1, ts1, p) := by (try simp only [go_sem, seval]); rfl) (hp : p := by (try simp only [go_sem, seval, and_true, true_and]); all_goals ((repeat' (with_reducible refine And.intro ?_ ?_)) <;> first | with_reducible exact True.intro | omega | exact isByteE _ | with_reducible assumption | decide | (simp; done) | (simp; omega) | (simp [*]; done) | (simp [*]; omega)))
   (hs : ((liveC (List.range kk) keep s1).length, trimC (List.range kk) keep s1) = (n', s') := by (try simp only [go_sem, seval]); rfl) (hn : navF 60 .n st = (c', st') := by rfl) (ht : (!draw || touchesOk (masks l []) ts1) = true := by first | rfl | decide +kernel) (hok : regOk N l.toArray draw = true := by decide +kernel) (hm : P.follows .mixedOrders = true := by exact mixed) :
   XH P N kk R rv (.c (.region id l.toArray draw)) st n s :=
 XW.rS id (XO.runP l.length (Nat.le_refl _) (by simp) (by rw [List.take_length]; exact hr) hp (XO.done keep h hs hn ht hok (by simp) hm))
theorem XO.r1 (m : Nat) {rem' : List Oper} {s' : AS} {ts' : List Touch} {p : Prop} (h : XO P n ops s0 G (k + m) rem' s' ts') (hr : arun P (tabOf P) noc n ops (rem.take m) k s ts True = some (s', ts', p) := by (try simp only [go_sem, seval]); (first | (simp only [hx]; try simp only [go_sem, seval]) | skip); (first | (simp only [hx2]; try simp only [go_sem, seval]) | skip); rfl) (hp : p := by (try simp only [go_sem, seval, and_true, true_and]); all_goals ((repeat' (with_reducible refine And.intro ?_ ?_)) <;> first | with_reducible exact True.intro | omega | exact isByteE _ | with_reducible assumption | decide | (simp; done) | (simp; omega) | (simp [*]; done) | (simp [*]; omega))) (hm : m ≤ rem.length := by decide) (hrem : rem.drop m = rem' := by (try simp only [List.drop_succ_cons, List.drop_zero, List.drop_nil]); rfl) : XO P n ops s0 G k rem s ts := XO.runP m hm hrem hr hp h
theorem XW.ra1 (id : Nat) (keep : List Nat) {l : List Oper} {draw : Bool} {n' : Nat} {s' s1 : AS} {c' : Hd} {st' : List Fr} {ts1 : List Touch} {p : Prop} (h : XH P N kk R rv c' st' n' s')
   (hr : arun P (tabOf P) noc n l.toArray l 0 s [] True = some (s1, ts1, p) := by (try simp only [go_sem, seval]); (first | (simp only [hx]; try simp only [go_sem, seval]) | skip); (first | (simp only [hx2]; try simp only [go_sem, seval]) | skip); rfl) (hp : p := by (try simp only [go_sem, seval, and_true, true_and]); all_goals ((repeat' (with_reducible refine And.intro ?_ ?_)) <;> first | with_reducible exact True.intro | omega | exact isByteE _ | with_reducible assumption | decide | (simp; done) | (simp; omega) | (simp [*]; done) | (simp [*]; omega)))
   (hs : ((liveC (List.range kk) keep s1).length, trimC (List.range kk) keep s1) = (n', s') := by (try simp only [go_sem, seval]); rfl) (hn : navF 60 .n st = (c', st') := by rfl) (ht : (!draw || touchesOk (masks l []) ts1) = true := by first | rfl | decide +kernel) (hok : regOk N l.toArray draw = true := by decide +kernel) (hm : P.follows .mixedOrders = true := by exact mixed) :
   XH P N kk R rv (.c (.region id l.toArray draw)) st n s :=
 XW.rS id (XO.runP l.length (Nat.le_refl _) (by simp) (by rw [List.take_length]; exact hr) hp (XO.done keep h hs hn ht hok (by simp) hm))
theorem XO.r2 (m : Nat) {rem' : List Oper} {s' : AS} {ts' : List Touch} {p : Prop} (h : XO P n ops s0 G (k + m) rem' s' ts') (hr : arun P (tabOf P) noc n ops (rem.take m) k s ts True = some (s', ts', p) := by (try simp only [go_sem, seval]); (try (simp (disch := omega) only [au]; try simp only [go_sem, seval])); rfl) (hp : p := by (try simp only [go_sem, seval, and_true, true_and]); all_goals ((repeat' (with_reducible refine And.intro ?_ ?_)) <;> first | with_reducible exact True.intro | omega | exact isByteE _ | with_reducible assumption | decide | (simp; done) | (simp; omega) | (simp [*]; done) | (simp [*]; omega))) (hm : m ≤ rem.length := by decide) (hrem : rem.drop m = rem' := by (try simp only [List.drop_succ_cons, List.drop_zero, List.drop_nil]); rfl) : XO P n ops s0 G k rem s ts := XO.runP m hm hrem hr hp h
theorem XW.ra2 (id : Nat) (keep : List Nat) {l : List Oper} {draw : Bool} {n' : Nat} {s' s1 : AS} {c' : Hd} {st' : List Fr} {ts1 : List Touch} {p : Prop} (h : XH P N kk R rv c' st' n' s')
   (hr : arun P (tabOf P) noc n l.toArray l 0 s [] True = some (s1, ts1, p) := by (try simp only [go_sem, seval]); (try (simp (disch := omega) only [au]; try simp only [go_sem, seval])); rfl) (hp : p := by (try simp only [go_sem, seval, and_true, true_and]); all_goals ((repeat' (with_reducible refine And.intro ?_ ?_)) <;> first | with_reducible exact True.intro | omega | exact isByteE _ | with_reducible assumption | decide | (simp; done) | (simp; omega) | (simp [*]; done) | (simp [*]; omega)))
   (hs : ((liveC (List.range kk) keep s1).length, trimC (List.range kk) keep s1) = (n', s') := by (try simp only [go_sem, seval]); rfl) (hn : navF 60 .n st = (c', st') := by rfl) (ht : (!draw || touchesOk (masks l []) ts1) = true := by first | rfl | decide +kernel) (hok : regOk N l.toArray draw = true := by decide +kernel) (hm : P.follows .mixedOrders = true := by exact mixed) :
   XH P N kk R rv (.c (.region id l.toArray draw)) st n s :=
 XW.rS id (XO.runP l.length (Nat.le_refl _) (by simp) (by rw [List.take_length]; exact hr) hp (XO.done keep h hs hn ht hok (by simp) hm))
theorem XO.r3 (m : Nat) {rem' : List Oper} {s' : AS} {ts' : List Touch} {p : Prop} (h : XO P n ops s0 G (k + m) rem' s' ts') (hr : arun P (tabOf P) noc n ops (rem.take m) k s ts True = some (s', ts', p) := by (try simp only [go_sem, seval]); (iterate 2 (first | (simp only [hx]; try simp only [go_sem, seval]) | skip); (first | (simp only [hx2]; try simp only [go_sem, seval]) | skip); (try (simp (disch := omega) only [au]; try simp only [go_sem, seval]))); rfl) (hp : p := by (try simp only [go_sem, seval, and_true, true_and]); all_goals ((repeat' (with_reducible refine And.intro ?_ ?_)) <;> first | with_reducible exact True.intro | omega | exact isByteE _ | with_reducible assumption | decide | (simp; done) | (simp; omega) | (simp [*]; done) | (simp [*]; omega))) (hm : m ≤ rem.length := by decide) (hrem : rem.drop m = rem' := by (try simp only [List.drop_succ_cons, List.drop_zero, List.drop_nil]); rfl) : XO P n ops s0 G k rem s ts := XO.runP m hm hrem hr hp h
theorem XW.ra3 (id : Nat) (keep : List Nat) {l : List Oper} {draw : Bool} {n' : Nat} {s' s1 : AS} {c' : Hd} {st' : List Fr} {ts1 : List Touch} {p : Prop} (h : XH P N kk R rv c' st' n' s')
   (hr : arun P (tabOf P) noc n l.toArray l 0 s [] True = some (s1, ts1, p) := by (try simp only [go_sem, seval]); (iterate 2 (first | (simp only [hx]; try simp only [go_sem, seval]) | skip); (first | (simp only [hx2]; try simp only [go_sem, seval]) | skip); (try (simp (disch := omega) only [au]; try simp only [go_sem, seval]))); rfl) (hp : p := by (try simp only [go_sem, seval, and_true, true_and]); all_goals ((repeat' (with_reducible refine And.intro ?_ ?_)) <;> first | with_reducible exact True.intro | omega | exact isByteE _ | with_reducible assumption | decide | (simp; done) | (simp; omega) | (simp [*]; done) | (simp [*]; omega)))
   (hs : ((liveC (List.range kk) keep s1).length, trimC (List.range kk) keep s1) = (n', s') := by (try simp only [go_sem, seval]); rfl) (hn : navF 60 .n st = (c', st') := by rfl) (ht : (!draw || touchesOk (masks l []) ts1) = true := by first | rfl | decide +kernel) (hok : regOk N l.toArray draw = true := by decide +kernel) (hm : P.follows .mixedOrders = true := by exact mixed) :
   XH P N kk R rv (.c (.region id l.toArray draw)) st n s :=
 XW.rS id (XO.runP l.length (Nat.le_refl _) (by simp) (by rw [List.take_length]; exact hr) hp (XO.done keep h hs hn ht hok (by simp) hm))
end
variable {P : Program}
/-- What is returned may be read as settled. -/
theorem ACall.settle {g : FuncId} {as : List AV} {hs' : List (Option Ent)} {r r' : AV} (D : List Nat) (h : ACall P g as [] r hs') (hw : wk (hpL hs') [] D r r') : ACall P g as [] r' [] := by
 refine ⟨h.1, ?_⟩
 intro X w β vs h1 h2 h3
 refine (h.2 X w β vs h1 h2 h3).mono ?_
 rintro e w' ⟨v, β', rfl, h4, h5, h6, h7, h8, h9⟩
 have hl0 : hpL [] = lkh [] := by funext j; simp [hpL, lkh]
 obtain ⟨hO, hrep, hgood⟩ := weak_core (hp' := hpL []) (l := []) (ids := []) (D := D) (k := 0) hl0 h5 ⟨by simp [srcIds], by simp [srcIds], by simp⟩ (fun i e' he => by simp [hpL] at he)
 refine ⟨v, gmOf β' [], rfl, hrep _ _ _ hw h4, hgood, ?_, h7, ?_, fun i _ => by simp [gmOf]⟩
 · exact h6.trans ⟨rfl, rfl, rfl, Nat.le_refl _, fun _ _ _ => rfl, fun b hb => .inl (hO b hb), fun _ _ h => h⟩
 · intro i p hp
   rw [h3 i (Nat.zero_le _)] at hp; simp at hp
theorem PCall.osl {g : FuncId} {as : List AV} {n sz T : Nat} {es : List (List AV)} (h : ACall P g as [] (.osl 0 n sz) [some ⟨T, sz, es⟩]) (hn : es.length = n) (hi : idLtE 0 es = true) : PCall P g as (fun x => x = .sl sz es) :=
 ⟨_, rfl, rfl, h.settle [0] (by simp only [wk]; exact .inr (.inl ⟨0, n, _, rfl, by simp, rfl, hn, rfl, rfl, hi⟩))⟩
theorem PCall.mk {g : FuncId} {as : List AV} {Rg : AV → Prop} (r : AV) (h1 : Rg r) (h2 : idLt 0 r = true) (h3 : ACall P g as [] r []) : PCall P g as Rg := ⟨r, h1, h2, h3⟩
theorem PCall.imp {g : FuncId} {as : List AV} {R R' : AV → Prop} (h : PCall P g as R) (hi : ∀ r, R r → R' r) : PCall P g as R' := by
 obtain ⟨r, h1, h2, h3⟩ := h
 exact ⟨r, hi r h1, h2, h3⟩
theorem gt0 {α : Type} {l : List α} (h : decide (((l.length : Nat) : Int) > 0) = true) : 0 < l.length := by
 have := of_decide_eq_true h
 omega
/-- A return of an owned slice, settled. -/
theorem XP.ro {st : List Fr} {N n : Nat} {rv : List ResultVar} {s : AS} {Rg : AV → Prop} {i m sz T : Nat} {es : List (List AV)} {p : Prop} (hR : Rg (.sl sz es)) (hres : resList (tabOf P) s rv = some ([.osl i m sz], p) := by (try simp only [resList, go_sem, seval]); rfl) (he : lkh s.hp i = some ⟨T, sz, es⟩ := by rfl) (hp : p := by trivial)
   (hm : es.length = m := by simp) (hid : idLtE 0 es = true := by simp) : XH P N 0 (RP Rg) rv (.c .ret) st n s := XP.ret [i] _ hR hres hp (by simp only [resOf, wk]; exact .inr (.inl ⟨i, m, _, rfl, by simp, he, hm, rfl, rfl, hid⟩)) rfl
end Go.Av
