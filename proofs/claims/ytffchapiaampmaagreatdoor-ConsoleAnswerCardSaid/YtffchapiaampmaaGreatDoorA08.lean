/-
  Part 8 of the proof that logtidelaw45.ConsoleAnswer returns true for every list of bytes and every text, and leaves both as they were.
-/
import Derived.Test.YtffchapiaampmaaGreatDoorA07
import Derived.LoopN
set_option linter.unusedSimpArgs false
set_option linter.unusedVariables false
namespace Go.Av
section
variable {P : Program} {C : Ctx} {Q : Exit → Nat → AS → Prop} {n : Nat} {s : AS}
def RegK (P : Program) (orc : Nat → Option Orc) (n : Nat) (ops : Array Oper) (keep : List Nat) (K : Nat → AS → Prop) (s : AS) : Prop :=
 match arun P (tabOf P) orc n ops ops.toList 0 s [] True with
 | some (s', _, p) => p ∧ K (n + 8 * ops.size) (trim keep s')
 | none => False
def RegD (P : Program) (orc : Nat → Option Orc) (n : Nat) (ops : Array Oper) (keep : List Nat) (tok : List Touch → Prop) (K : Nat → AS → Prop) (s : AS) : Prop :=
 match arun P (tabOf P) orc n ops ops.toList 0 s [] True with
 | some (s', ts, p) => tok ts ∧ p ∧ K (n + 8 * ops.size) (trim keep s')
 | none => False
/-- A region in the order of its text, then the rest. -/
theorem AW.rt (hm : P.follows .mixedOrders = true) {N : Nat} (hN : C.N = N) (orc : Nat → Option Orc) (keep : List Nat) {id : Nat} {ops : Array Oper} {y : Code} (hok : regOk N ops false = true)
   (h : ∀ K : Nat → AS → Prop, (∀ n s, AW P C y Q n s → K n s) → RegK P orc n ops keep K s) : AW P C (.seq (.region id ops false) y) Q n s := by
 refine AW.seq (AW.reg hm hN orc keep hok ?_)
 have := h (fun n s => AW P C y Q n s) (fun _ _ h => h)
 unfold RegK at this
 unfold RegVC
 split at this
 · rename_i s' ts p hrun; rw [hrun]; exact ⟨rfl, this.1, this.2⟩
 · exact this.elim
theorem AW.rd (hm : P.follows .mixedOrders = true) {N : Nat} (hN : C.N = N) (orc : Nat → Option Orc) (keep : List Nat) {id : Nat} {ops : Array Oper} {y : Code} (hok : regOk N ops true = true)
   (h : ∀ (K : Nat → AS → Prop) (tok : List Touch → Prop), (∀ ts, touchesOk (masks ops.toList []) ts = true → tok ts) → (∀ n s, AW P C y Q n s → K n s) → RegD P orc n ops keep tok K s) : AW P C (.seq (.region id ops true) y) Q n s := by
 refine AW.seq (AW.reg hm hN orc keep hok ?_)
 have := h (fun n s => AW P C y Q n s) (fun ts => touchesOk (masks ops.toList []) ts = true) (fun _ h => h) (fun _ _ h => h)
 unfold RegD at this
 unfold RegVC
 split at this
 · rename_i s' ts p hrun; rw [hrun]; exact ⟨by simpa using this.1, this.2.1, this.2.2⟩
 · exact this.elim
/-- A region at the end of a piece of code. -/
theorem AW.rtE (hm : P.follows .mixedOrders = true) {N : Nat} (hN : C.N = N) (orc : Nat → Option Orc) (keep : List Nat) {id : Nat} {ops : Array Oper} (hok : regOk N ops false = true)
   (h : ∀ K : Nat → AS → Prop, (∀ n s, Q .normal n s → K n s) → RegK P orc n ops keep K s) : AW P C (.region id ops false) Q n s := by
 refine AW.reg hm hN orc keep hok ?_
 have := h (fun n s => Q .normal n s) (fun _ _ h => h)
 unfold RegK at this
 unfold RegVC
 split at this
 · rename_i s' ts p hrun; rw [hrun]; exact ⟨rfl, this.1, this.2⟩
 · exact this.elim
theorem AW.rdE (hm : P.follows .mixedOrders = true) {N : Nat} (hN : C.N = N) (orc : Nat → Option Orc) (keep : List Nat) {id : Nat} {ops : Array Oper} (hok : regOk N ops true = true)
   (h : ∀ (K : Nat → AS → Prop) (tok : List Touch → Prop), (∀ ts, touchesOk (masks ops.toList []) ts = true → tok ts) → (∀ n s, Q .normal n s → K n s) → RegD P orc n ops keep tok K s) : AW P C (.region id ops true) Q n s := by
 refine AW.reg hm hN orc keep hok ?_
 have := h (fun n s => Q .normal n s) (fun ts => touchesOk (masks ops.toList []) ts = true) (fun _ h => h) (fun _ _ h => h)
 unfold RegD at this
 unfold RegVC
 split at this
 · rename_i s' ts p hrun; rw [hrun]; exact ⟨by simpa using this.1, this.2.1, this.2.2⟩
 · exact this.elim
theorem AW.condB {c : Operand} {x y : Code} {t : Bool} (hc : evA (lk s.env) c = .val (.bool t)) (ht : t = true → AW P C x Q n s) (hf : t = false → AW P C y Q n s) : AW P C (.cond c x y) Q n s := by
 refine AW.cond hc ?_
 cases t
 · exact hf rfl
 · exact ht rfl
theorem AW.condT {c : Operand} {x y : Code} (hc : evA (lk s.env) c = .val (.bool true)) (h : AW P C x Q n s) : AW P C (.cond c x y) Q n s := AW.cond hc h
theorem AW.condF {c : Operand} {x y : Code} (hc : evA (lk s.env) c = .val (.bool false)) (h : AW P C y Q n s) : AW P C (.cond c x y) Q n s := AW.cond hc h
/-- The state may be read otherwise. -/
def Wk (k : Nat) (s : AS) (n' : Nat) (s' : AS) : Prop := ∃ ids D, IdsOk ids D k s'.hp ∧ ids.length ≤ n' ∧ wkEnv (lkh s.hp) ids D s.env s'.env ∧ wkHp (lkh s.hp) ids D s'.hp
theorem InvC.weak {a : Act} {w : World} {n' : Nat} {s' : AS} (hI : InvC C n s.st a w) (h : Wk C.k s n' s') : InvC C n' s'.st a w := by
 obtain ⟨ids, D, hi, hn, he, hh⟩ := h
 obtain ⟨β, hS, hnn⟩ := hI
 obtain ⟨hO, hrep, hgood⟩ := weak_core (hp' := lkh s'.hp) rfl hS.good hi (wkHp_lk hh)
 refine ⟨gmOf β ids, ⟨hgood, fun t => hrep _ _ _ (wkEnv_lk he t) (hS.env t), hS.size, hS.defers, ?_, hS.keepX, gm_ext hi hS.ext⟩, fun j hj => ?_⟩
 · exact hS.frm.trans ⟨rfl, rfl, rfl, Nat.le_refl _, fun _ _ _ => rfl, fun b hb => .inl (hO b hb), fun _ _ h => h⟩
 · simp only [gmOf]
   rw [List.getElem?_eq_none (by omega)]
theorem AW.wk {c : Code} {k : Nat} (hk : C.k = k) (n' : Nat) (s' : AS) (hw : Wk k s n' s') (h : AW P C c Q n' s') : AW P C c Q n s := fun a w hI => h a w (hI.weak (hk ▸ hw))
/-- A loop whose state at the head is S a. -/
theorem AW.loopF {c : Code} {α : Type} {k : Nat} (hk : C.k = k) (n0 : Nat) (S : α → AS) (I : α → Prop) (μ : α → Nat) (a0 : α) (h0 : I a0) (hw : Wk k s n0 (S a0))
   (hr : ∀ a, I a → AW P C c (thenQ (fun _ s' => ∃ a', I a' ∧ μ a' < μ a ∧ Wk k s' n0 (S a')) Q) n0 (S a)) : AW P C (.loop c) Q n s := by
 subst hk
 refine AW.wk rfl n0 (S a0) hw ?_
 refine AW.loop (fun m n s => n = n0 ∧ ∃ a, I a ∧ μ a = m ∧ s = S a) (m := μ a0) ⟨rfl, a0, h0, rfl, rfl⟩ ?_
 rintro m n s ⟨rfl, a, hI, rfl, rfl⟩
 intro act w hInv
 refine wp_mono (hr a hI act w hInv) ?_
 rintro e a' w' ⟨n', s', hq, hI'⟩
 cases e with
 | normal =>
   obtain ⟨b, hb, hlt, hwk⟩ := hq
   exact ⟨n, S b, ⟨_, hlt, rfl, b, hb, rfl, rfl⟩, hI'.weak hwk⟩
 | exit id => exact ⟨n', s', hq, hI'⟩
 | goto l => exact ⟨n', s', hq, hI'⟩
 | ret => exact ⟨n', s', hq, hI'⟩
 | panic c => exact ⟨n', s', hq, hI'⟩
 | outgrown => exact ⟨n', s', hq, hI'⟩
theorem acall {g : FuncId} {fn : Func} {c : Code} {as : List AV} {hs hs' : List (Option Ent)} {r : AV} (N k : Nat) (hf : P.funcs[g]? = some fn) (hb : fn.body = some c) (hname : (fn.name == "runtime.NumGoroutine") = false) (hN : fn.ntmps = N) (has : as.length ≤ N) (hk : hs.length = k)
   {rv : List ResultVar} (hrv : fn.results = rv.toArray) (h : ∀ C : Ctx, C.N = N → C.k = k → AW P C c (retQ (tabOf P) rv r hs' k) k ⟨initE 0 as, initH 0 hs⟩) : ACall P g as hs r hs' := by
 subst hk
 exact acall_intro (tabOf_ok P) hf hb hname hN has hrv h
end
section
variable {P : Program} {C : Ctx} {Q : Exit → Nat → AS → Prop} {n : Nat} {s : AS} {K : Nat → AS → Prop}
theorem qThen {id : Nat} (h : Q (.exit id) n s) : thenQ K Q (.exit id) n s := h
theorem qHere {id : Nat} (h : Q .normal n s) : blockQ id Q (.exit id) n s := by simp only [blockQ, if_true]; exact h
theorem qOut {id id' : Nat} (hne : id' ≠ id) (h : Q (.exit id') n s) : blockQ id Q (.exit id') n s := by simp only [blockQ, if_neg hne]; exact h
theorem qNext (h : K n s) : thenQ K Q .normal n s := h
theorem qBlock {id : Nat} (h : Q .normal n s) : blockQ id Q .normal n s := h
theorem qThenR (h : Q .ret n s) : thenQ K Q .ret n s := h
theorem qBlockR {id : Nat} (h : Q .ret n s) : blockQ id Q .ret n s := h
end
theorem bytesE_len (l : List UInt8) : (bytesE l).length = l.length := by simp [bytesE]
theorem bytesE_getE (l : List UInt8) (i : Nat) : (bytesE l)[i]? = (l[i]?).map byteE := by simp [bytesE]
theorem bytesE_snoc (l : List UInt8) (b : UInt8) : bytesE l ++ [byteE b] = bytesE (l ++ [b]) := by simp [bytesE]
theorem bytesE_app (l m : List UInt8) : bytesE l ++ bytesE m = bytesE (l ++ m) := by simp [bytesE]
@[simp] theorem bytesE_id (k : Nat) (l : List UInt8) : idLtE k (bytesE l) = true := by
 simp only [idLtE, bytesE, List.all_map, List.all_eq_true]
 intro x _
 rfl
@[simp] theorem bytesE_st (l : List UInt8) : (bytesE l).all (fun c => c.all storable) = true := by
 simp only [bytesE, List.all_map, List.all_eq_true]
 intro x _
 rfl
@[simp] theorem u8_cast (a b : UInt8) : ((a.toNat : Int) = (b.toNat : Int)) ↔ a = b := by
 rw [Int.ofNat_inj, UInt8.toNat_inj]
theorem wrap64 {n : Int} (h : -9223372036854775808 ≤ n ∧ n < 9223372036854775808) : IntKind.i64.wrap n = n := by
 have e1 : ((2 : Int) ^ IntKind.i64.bits) = 18446744073709551616 := by decide
 have e2 : ((2 : Int) ^ (IntKind.i64.bits - 1)) = 9223372036854775808 := by decide
 have e3 : IntKind.i64.signed = true := rfl
 unfold IntKind.wrap
 simp only [e1, e2, e3, Bool.true_and, ge_iff_le, decide_eq_true_eq]
 split <;> omega
attribute [go_sem] valsOf eqV RegK RegD arun aGuard aexec aexec0 rawOf aMkIface aAssert concD evA out lk lkh putE touch trim keepE keepH reach addNew idsTop idsL aBin pint pstr aUn aConv acells storable splice aPart aLoad aStore aFieldAddr aField aIndexAddr aIndex aBound aSlice srcOf aAppend aLen aMin2 aMax2 partCells fillA allParts initE initH arrOf str TI.isAgg aggD
theorem beqT (b : Bool) : (b == true) = b := by cases b <;> rfl
theorem beqF (b : Bool) : (b == false) = !b := by cases b <;> rfl
attribute [go_sem] undef beqT beqF byteE bytesE_len Int.natCast_nonneg Int.toNat_natCast bytesE_getE bl_mk beq_self_eq_true Bool.and_true Bool.true_and List.all_cons List.all_nil
attribute [go_sem] List.reverse_nil List.reverse_cons List.nil_append List.cons_append List.mem_cons List.not_mem_nil List.size_toArray List.length_cons List.length_nil true_and and_true or_false false_or and_self Option.map_some Option.map_none Option.bind_some Option.bind_none List.getElem?_toArray List.getElem?_cons_zero List.getElem?_cons_succ List.map_cons List.map_nil List.take_zero List.take_succ_cons List.drop_zero List.drop_succ_cons List.set_cons_zero List.set_cons_succ
def hwOf (ρ : Nat → Nat) : Nat → List (Option Ent) → List (Nat × Option Ent)
 | _, [] => []
 | i, e :: r => (ρ i, e.map (renEnt ρ)) :: hwOf ρ (i + 1) r
def viewsA (hp : Hp) (bor : List Nat) : List AV → List AV → Prop
 | [], [] => True
 | c :: cs, a :: as => viewA hp bor c a ∧ viewsA hp bor cs as
 | _, _ => False
def entsOb (hp : Hp) (ρ : Nat → Nat) (k : Nat) : List Nat → List Ent → Prop
 | [], [] => True
 | i :: is, e :: es => hp i = some (renEnt ρ e) ∧ idLtE k e.es = true ∧ entsOb hp ρ k is es
 | _, _ => False
def borOb (hp : Hp) (ids : List Nat) : List Nat → Prop
 | [] => True
 | i :: r => i ∉ ids ∧ (∀ e, hp i = some e → idLtE 0 e.es = true) ∧ borOb hp ids r
def borR (bor : List Nat) (r : AV) (hs' : List (Option Ent)) : Prop :=
 match bor with
 | [] => True
 | _ => noSl r = true ∧ ∀ e, some e ∈ hs' → noSlE e.es = true
def callOb (P : Program) (g : FuncId) (args : List AV) (hp : Hp) (ρ : Nat → Nat) (o : Orc) : Prop :=
 ACall P g o.as (o.hs.map some) o.r o.hs' ∧ viewsA hp o.bor args (renL ρ o.as) ∧ o.ids.Nodup ∧ entsOb hp ρ o.ids.length o.ids o.hs ∧ o.hs.length ≤ o.hs'.length ∧ o.hs'.length ≤ o.hs.length + 8 ∧
   borR o.bor o.r o.hs' ∧ borOb hp o.ids o.bor ∧ idLtL o.ids.length o.as = true
theorem hwOf_eq (ρ : Nat → Nat) : ∀ (hs : List (Option Ent)) (i : Nat), hwOf ρ i hs = (List.range' i hs.length).map fun j => (ρ j, ((hs[j - i]?).join).map (renEnt ρ))
 | [], i => by simp [hwOf]
 | e :: r, i => by
   simp only [hwOf, List.length_cons, List.range'_succ, List.map_cons, Nat.sub_self, List.getElem?_cons_zero, Option.join_some]
   congr 1
   rw [hwOf_eq ρ r (i + 1)]
   apply List.map_congr_left
   intro j hj
   simp only [List.mem_range'_1] at hj
   rw [show j - i = (j - (i + 1)) + 1 by omega]
   simp
theorem viewsA_get {hp : Hp} {bor : List Nat} : ∀ {cs as : List AV}, viewsA hp bor cs as → cs.length = as.length ∧ ∀ (j : Nat) (c a : AV), cs[j]? = some c → as[j]? = some a → viewA hp bor c a
 | [], [], _ => ⟨rfl, fun j c a h => by simp at h⟩
 | c :: cs, a :: as, h => by
   obtain ⟨h1, h2⟩ := viewsA_get h.2
   refine ⟨by simp [h1], fun j c' a' hc ha => ?_⟩
   cases j with
   | zero => simp at hc ha; subst hc ha; exact h.1
   | succ j => exact h2 j c' a' (by simpa using hc) (by simpa using ha)
 | [], _ :: _, h => h.elim
 | _ :: _, [], h => h.elim
theorem entsOb_get {hp : Hp} {ρ : Nat → Nat} {k : Nat} : ∀ {is : List Nat} {es : List Ent}, entsOb hp ρ k is es → is.length = es.length ∧ (∀ i, i < is.length → hp (is.getD i 0) = (es[i]?).map (renEnt ρ)) ∧ ∀ e ∈ es, idLtE k e.es = true
 | [], [], _ => ⟨rfl, fun i h => by simp at h, fun e h => by simp at h⟩
 | i :: is, e :: es, h => by
   obtain ⟨h1, h2, h3⟩ := h
   obtain ⟨g1, g2, g3⟩ := entsOb_get h3
   refine ⟨by simp [g1], fun j hj => ?_, fun e' he' => ?_⟩
   · cases j with
     | zero => simpa using h1
     | succ j => simpa using g2 j (by simpa using hj)
   · rcases List.mem_cons.1 he' with rfl | he'
     · exact h2
     · exact g3 e' he'
 | [], _ :: _, h => h.elim
 | _ :: _, [], h => h.elim
theorem renL_get {ρ : Nat → Nat} : ∀ {as : List AV} {j : Nat} {a : AV}, as[j]? = some a → (renL ρ as)[j]? = some (ren ρ a)
 | [], j, a, h => by simp at h
 | c :: cs, 0, a, h => by simp at h; subst h; simp [renL]
 | c :: cs, j + 1, a, h => by simp only [renL]; simpa using renL_get (ρ := ρ) (by simpa using h)
theorem borOb_get {hp : Hp} {ids : List Nat} : ∀ {bor : List Nat}, borOb hp ids bor → ∀ i ∈ bor, i ∉ ids ∧ ∀ e, hp i = some e → idLtE 0 e.es = true
 | [], _, i, h => by simp at h
 | j :: r, h, i, hi => by
   rcases List.mem_cons.1 hi with rfl | hi
   · exact ⟨h.1, h.2.1⟩
   · exact borOb_get h.2.2 i hi
theorem callOb_ob {P : Program} {g : FuncId} {args : List AV} {hp : Hp} {nb : Nat} {o : Orc} (h : callOb P g args hp (o.ρ nb) o) : (aCall P g args hp nb o).ob := by
 obtain ⟨h1, h2, h3, h4, h5, h6, h7, h8, h9⟩ := h
 obtain ⟨g1, g2, g3⟩ := entsOb_get h4
 obtain ⟨v1, v2⟩ := viewsA_get h2
 refine ⟨h1, h3, g1, g2, h5, h6, by rw [v1, renL_length], fun j c a hc ha => v2 j c _ hc (renL_get ha), fun hb => ?_, borOb_get h8, h9, g3⟩
 unfold borR at h7
 split at h7
 · rename_i hbe; exact absurd hbe hb
 · exact h7
/-- The run with calls' conditions in the form that evaluates. -/
def aCall' (P : Program) (g : FuncId) (args : List AV) (hp : Hp) (nb : Nat) (o : Orc) : Out :=
 { v := ren (o.ρ nb) o.r, hw := hwOf (o.ρ nb) 0 o.hs', hr := o.ids ++ o.bor, ob := callOb P g args hp (o.ρ nb) o }
theorem aCall_eq {P : Program} {g : FuncId} {args : List AV} {hp : Hp} {nb : Nat} {o : Orc} : OutLe (aCall' P g args hp nb o) (aCall P g args hp nb o) := by
 refine ⟨rfl, ?_, callOb_ob⟩
 simp only [aCall, aCall']
 rw [hwOf_eq, List.range_eq_range']
 rfl
section
variable {P : Program} {g : FuncId} {args : List AV} {hp : Hp} {nb : Nat} {o : Orc}
@[go_sem] theorem aCall_v : (aCall P g args hp nb o).v = ren (o.ρ nb) o.r := rfl
@[go_sem] theorem aCall_hw : (aCall P g args hp nb o).hw = hwOf (o.ρ nb) 0 o.hs' := by
 simp only [aCall]; rw [hwOf_eq, List.range_eq_range']; rfl
@[go_sem] theorem aCall_hr : (aCall P g args hp nb o).hr = o.ids ++ o.bor := rfl
attribute [go_sem] ren renL renEnt hwOf List.append_nil
mutual
theorem ren_noid (ρ : Nat → Nat) : ∀ a, idLt 0 a = true → ren ρ a = a
 | .any, _ => rfl
 | .val u, _ => rfl
 | .agg cs, h => by simp only [ren]; rw [renL_noid ρ cs (by simpa [idLt] using h)]
 | .tup cs, h => by simp only [ren]; rw [renL_noid ρ cs (by simpa [idLt] using h)]
 | .sl sz es, _ => rfl
 | .rp cs, _ => rfl
 | .osl i n sz, h => by simp [idLt] at h
 | .ptr i sz k off, h => by simp [idLt] at h
 | .osv i lo n sz, h => by simp [idLt] at h
theorem renL_noid (ρ : Nat → Nat) : ∀ a, idLtL 0 a = true → renL ρ a = a
 | [], _ => rfl
 | c :: cs, h => by
   simp only [idLtL, Bool.and_eq_true] at h
   simp only [renL, ren_noid ρ c h.1, renL_noid ρ cs h.2]
end
theorem renE_noid (ρ : Nat → Nat) {es : List (List AV)} (h : idLtE 0 es = true) : es.map (renL ρ) = es := by
 simp only [idLtE, List.all_eq_true] at h
 exact (List.map_congr_left (fun c hc => renL_noid ρ c (h c hc))).trans (List.map_id es)
theorem viewsA_self (bor : List Nat) : ∀ as, viewsA hp bor as as
 | [] => trivial
 | a :: as => ⟨.inl (.inl rfl), viewsA_self bor as⟩
/-- A call that takes nothing that is owned. -/
theorem pureOb {as : List AV} {r : AV} {hs' : List (Option Ent)} (h : ACall P g as [] r hs') (hid : idLtL 0 as = true) (hl : hs'.length ≤ 8) : (aCall P g as hp nb { as := as, r := r, hs' := hs' }).ob :=
 callOb_ob ⟨h, by rw [renL_noid _ _ hid]; exact viewsA_self _ _, by simp, trivial, by simp, by simpa using hl, trivial, trivial, by simpa using hid⟩
/-- A call that takes one owned thing. -/
theorem ownOb {as : List AV} {r : AV} {hs' : List (Option Ent)} {i : Nat} {e : Ent} (h : ACall P g as [some e] r hs') (he : hp i = some e) (hid : idLtE 0 e.es = true) (hid1 : idLtE 1 e.es = true) (ha : idLtL 1 as = true) (hl : 1 ≤ hs'.length) (hl8 : hs'.length ≤ 9)
   (hargs : args = renL ((⟨[i], [e], as, r, hs', [], none⟩ : Orc).ρ nb) as) : (aCall P g args hp nb { ids := [i], hs := [e], as := as, r := r, hs' := hs' }).ob := by
 refine callOb_ob ⟨h, by rw [hargs]; exact viewsA_self _ _, by simp, ⟨?_, hid1, trivial⟩, hl, by simpa using hl8, trivial, trivial, ha⟩
 rw [he, renEnt, renE_noid _ hid]
end
/-- Oracles: what a call returns. -/
def pc (xs : List AV) (r : AV) (hs' : List (Option Ent)) : Option Orc := some ⟨[], [], xs, r, hs', [], none⟩
def oc (i : Nat) (e : Ent) (xs : List AV) (r : AV) (hs' : List (Option Ent)) : Option Orc := some ⟨[i], [e], xs, r, hs', [], none⟩
def onc (k : Nat) (o : Option Orc) (rest : Nat → Option Orc) : Nat → Option Orc := fun i => if i = k then o else rest i
def noc : Nat → Option Orc := fun _ => none
attribute [go_sem] pc oc onc noc
def idxIn : List Nat → Nat → Option Nat
 | [], _ => none
 | x :: r, i => if x = i then some 0 else (idxIn r i).map (· + 1)
mutual
def renC (L : List Nat) : AV → AV
 | .any => .any
 | .val v => .val v
 | .agg cs => .agg (renCL L cs)
 | .tup cs => .tup (renCL L cs)
 | .sl sz es => .sl sz es
 | .rp cs => .rp cs
 | .osl i n sz => match idxIn L i with
   | some j => .osl j n sz
   | none => .any
 | .ptr i sz k off => match idxIn L i with
   | some j => .ptr j sz k off
   | none => .any
 | .osv _ _ _ _ => .any
def renCL (L : List Nat) : List AV → List AV
 | [] => []
 | c :: cs => renC L c :: renCL L cs
end
def renCE (L : List Nat) (es : List (List AV)) : List (List AV) := es.map (renCL L)
def addEnd (l : List Nat) : List Nat → List Nat
 | [] => l
 | x :: r => if x ∈ l then addEnd l r else addEnd (l ++ [x]) r
def reachC (hp : List (Nat × Option Ent)) : List (Nat × AV) → List Nat → List Nat
 | [], acc => acc
 | (_, a) :: r, acc => reachC hp r (addEnd acc (idsTop hp a))
def envC (L : List Nat) : List (Nat × AV) → List (Nat × AV)
 | [] => []
 | (t, a) :: r => (t, renC L a) :: envC L r
def entC (L : List Nat) : Option Ent → Option Ent
 | some e => some ⟨e.ty, e.sz, renCE L e.es⟩
 | none => none
def hpC (hp : List (Nat × Option Ent)) (L : List Nat) : Nat → List Nat → List (Nat × Option Ent)
 | _, [] => []
 | p, j :: r => (p, entC L (lkh hp j)) :: hpC hp L (p + 1) r
def liveC (ks keep : List Nat) (s : AS) : List Nat := reachC s.hp (keepE s.env keep) ks
def trimC (ks keep : List Nat) (s : AS) : AS := ⟨envC (liveC ks keep s) (keepE s.env keep), hpC s.hp (liveC ks keep s) 0 (liveC ks keep s)⟩
theorem idxIn_get : ∀ {L : List Nat} {i j : Nat}, idxIn L i = some j → L[j]? = some i
 | [], i, j, h => by simp [idxIn] at h
 | x :: r, i, j, h => by
   simp only [idxIn] at h
   split at h
   · rename_i he; simp at h; subst h; simp [he]
   · cases hx : idxIn r i with
     | none => rw [hx] at h; simp at h
     | some j' => rw [hx] at h; simp at h; subst h; simpa using idxIn_get hx
mutual
theorem wk_renC {hp : Hp} {L : List Nat} : ∀ a, wk hp (L.map some) [] a (renC L a)
 | .any => by simp [renC, wk]
 | .val v => by simp [renC, wk]
 | .agg cs => by simp only [renC, wk]; exact ⟨cs, rfl, wkL_renC cs⟩
 | .tup cs => by simp only [renC, wk]; exact ⟨cs, rfl, wkL_renC cs⟩
 | .sl sz es => by simp [renC, wk]
 | .rp cs => by simp [renC, wk]
 | .osl i n sz => by
   simp only [renC]
   split
   · rename_i j hj; simp only [wk]; exact .inl ⟨i, by simp [idxIn_get hj], rfl⟩
   · simp [wk]
 | .ptr i sz k off => by
   simp only [renC]
   split
   · rename_i j hj; simp only [wk]; exact ⟨i, by simp [idxIn_get hj], rfl⟩
   · simp [wk]
 | .osv i lo n sz => by simp [renC, wk]
theorem wkL_renC {hp : Hp} {L : List Nat} : ∀ a, wkL hp (L.map some) [] a (renCL L a)
 | [] => by simp [renCL, wkL]
 | c :: cs => by simp only [renCL, wkL]; exact ⟨c, cs, rfl, wk_renC c, wkL_renC cs⟩
end
theorem wkE_renC {hp : Hp} {L : List Nat} : ∀ es, wkE hp (L.map some) [] es (renCE L es)
 | [] => by simp [renCE, wkE]
 | c :: cs => by
   have := wkE_renC (hp := hp) (L := L) cs
   simp only [renCE, List.map_cons, wkE] at this ⊢
   exact ⟨c, cs, rfl, wkL_renC c, this⟩
theorem wkEnv_envC {hp : Hp} {L : List Nat} {env : List (Nat × AV)} : ∀ (l : List (Nat × AV)), (∀ t a, (t, a) ∈ l → a = lk env t) → wkEnv hp (L.map some) [] env (envC L l)
 | [], _ => trivial
 | (t, a) :: r, h => by
   refine ⟨?_, wkEnv_envC r (fun t a hm => h t a (by simp [hm]))⟩
   rw [← h t a (by simp)]
   exact wk_renC a
theorem keepE_mem {env : List (Nat × AV)} : ∀ {l : List Nat} {t : Nat} {a : AV}, (t, a) ∈ keepE env l → a = lk env t
 | [], t, a, h => by simp [keepE] at h
 | u :: r, t, a, h => by
   simp only [keepE, List.mem_cons, Prod.mk.injEq] at h
   rcases h with ⟨rfl, rfl⟩ | h
   · rfl
   · exact keepE_mem h
theorem hpC_wk {hp : List (Nat × Option Ent)} {L : List Nat} : ∀ (r : List Nat) (p : Nat), (∀ q, r[q]? = L[p + q]?) → wkHp (lkh hp) (L.map some) [] (hpC hp L p r)
 | [], _, _ => trivial
 | j :: r, p, h => by
   have h0 : L[p]? = some j := by simpa using (h 0).symm
   have hr := hpC_wk (hp := hp) (L := L) r (p + 1) (fun q => by have := h (q + 1); rw [show p + 1 + q = p + (q + 1) by omega, ← this]; simp)
   simp only [hpC]
   cases he : lkh hp j with
   | none => exact hr
   | some e => exact ⟨.inl ⟨j, e, by simp [h0], he, rfl, rfl, .inr (wkE_renC e.es)⟩, hr⟩
theorem hpC_src {hp : List (Nat × Option Ent)} {L : List Nat} : ∀ (r : List Nat) (p : Nat), (∀ q, r[q]? = L[p + q]?) → ∀ j ∈ srcIds (L.map some) (hpC hp L p r), j ∈ r
 | [], _, _, j, hj => by simp [hpC, srcIds] at hj
 | i :: r, p, h, j, hj => by
   have h0 : L[p]? = some i := by simpa using (h 0).symm
   have hr := hpC_src (hp := hp) (L := L) r (p + 1) (fun q => by have := h (q + 1); rw [show p + 1 + q = p + (q + 1) by omega, ← this]; simp)
   simp only [hpC] at hj
   cases he : lkh hp i with
   | none => rw [he] at hj; simp only [entC, srcIds] at hj; exact List.mem_cons_of_mem _ (hr j hj)
   | some e =>
     rw [he] at hj
     simp only [entC, srcIds, List.getElem?_map, h0, Option.map_some, List.mem_cons] at hj
     rcases hj with rfl | hj
     · simp
     · exact List.mem_cons_of_mem _ (hr j hj)
theorem hpC_nd {hp : List (Nat × Option Ent)} {L : List Nat} : ∀ (r : List Nat) (p : Nat), (∀ q, r[q]? = L[p + q]?) → r.Nodup → (srcIds (L.map some) (hpC hp L p r)).Nodup
 | [], _, _, _ => by simp [hpC, srcIds]
 | i :: r, p, h, hnd => by
   have h0 : L[p]? = some i := by simpa using (h 0).symm
   have h' : ∀ q, r[q]? = L[p + 1 + q]? := fun q => by have := h (q + 1); rw [show p + 1 + q = p + (q + 1) by omega, ← this]; simp
   have hr := hpC_nd (hp := hp) (L := L) r (p + 1) h' (List.nodup_cons.1 hnd).2
   simp only [hpC]
   cases he : lkh hp i with
   | none => simpa only [entC, srcIds] using hr
   | some e =>
     simp only [entC, srcIds, List.getElem?_map, h0, Option.map_some]
     exact List.nodup_cons.2 ⟨fun hm => (List.nodup_cons.1 hnd).1 (hpC_src r (p + 1) h' i hm), hr⟩
theorem addEnd_ok : ∀ (xs l : List Nat), l.Nodup → (addEnd l xs).Nodup ∧ ∃ r, addEnd l xs = l ++ r
 | [], l, h => ⟨h, [], by simp [addEnd]⟩
 | x :: xs, l, h => by
   simp only [addEnd]
   split
   · exact addEnd_ok xs l h
   · rename_i hx
     obtain ⟨h1, r, h2⟩ := addEnd_ok xs (l ++ [x]) (by
       rw [List.nodup_append]
       refine ⟨h, by simp, ?_⟩
       intro a ha b hb
       simp at hb
       subst hb
       exact fun e => hx (e ▸ ha))
     exact ⟨h1, x :: r, by rw [h2]; simp⟩
theorem reachC_ok {hp : List (Nat × Option Ent)} : ∀ (env : List (Nat × AV)) (l : List Nat), l.Nodup → (reachC hp env l).Nodup ∧ ∃ r, reachC hp env l = l ++ r
 | [], l, h => ⟨h, [], by simp [reachC]⟩
 | (t, a) :: env, l, h => by
   simp only [reachC]
   obtain ⟨h1, r, h2⟩ := addEnd_ok (idsTop hp a) l h
   obtain ⟨h3, r', h4⟩ := reachC_ok env _ h1
   exact ⟨h3, r ++ r', by rw [h4, h2]; simp⟩
section
variable {P : Program} {C : Ctx} {Q : Exit → Nat → AS → Prop} {n : Nat} {s : AS}
theorem wk_trimC {k : Nat} {ks keep : List Nat} (hks : ks = List.range k) : Wk k s (liveC ks keep s).length (trimC ks keep s) := by
 obtain ⟨hnd, r, hr⟩ := reachC_ok (hp := s.hp) (keepE s.env keep) ks (by rw [hks]; exact List.nodup_range)
 refine ⟨(liveC ks keep s).map some, [], ⟨hpC_nd _ 0 (by simp) hnd, by simp, ?_⟩, by simp, wkEnv_envC _ (fun t a h => keepE_mem h), hpC_wk _ 0 (by simp)⟩
 have : liveC ks keep s = List.range k ++ r := by rw [← hks]; exact hr
 rw [this, List.map_append, List.take_left' (by simp)]
def RegC (P : Program) (orc : Nat → Option Orc) (ks : List Nat) (n : Nat) (ops : Array Oper) (keep : List Nat) (K : Nat → AS → Prop) (s : AS) : Prop :=
 match arun P (tabOf P) orc n ops ops.toList 0 s [] True with
 | some (s', _, p) => p ∧ K (liveC ks keep s').length (trimC ks keep s')
 | none => False
def RegCD (P : Program) (orc : Nat → Option Orc) (ks : List Nat) (n : Nat) (ops : Array Oper) (keep : List Nat) (tok : List Touch → Prop) (K : Nat → AS → Prop) (s : AS) : Prop :=
 match arun P (tabOf P) orc n ops ops.toList 0 s [] True with
 | some (s', ts, p) => tok ts ∧ p ∧ K (liveC ks keep s').length (trimC ks keep s')
 | none => False
theorem AW.rc (hm : P.follows .mixedOrders = true) {N k : Nat} (hN : C.N = N) (hk : C.k = k) (orc : Nat → Option Orc) (ks keep : List Nat) (hks : ks = List.range k) {id : Nat} {ops : Array Oper} (hok : regOk N ops false = true)
   (h : ∀ K : Nat → AS → Prop, (∀ n s, Q .normal n s → K n s) → RegC P orc ks n ops keep K s) : AW P C (.region id ops false) Q n s := by
 have hh := h (fun n s => Q .normal n s) (fun _ _ h => h)
 unfold RegC at hh
 split at hh
 · rename_i s' ts p hrun
   intro a w hI
   refine region_run (tabOf_ok P) hm hrun hh.1 (hN ▸ hok) (fun h => by simp at h) hI ?_
   intro a' w' hI'
   exact ⟨_, _, hh.2, hI'.weak (hk ▸ wk_trimC (hk ▸ hks))⟩
 · exact hh.elim
theorem AW.rcd (hm : P.follows .mixedOrders = true) {N k : Nat} (hN : C.N = N) (hk : C.k = k) (orc : Nat → Option Orc) (ks keep : List Nat) (hks : ks = List.range k) {id : Nat} {ops : Array Oper} (hok : regOk N ops true = true)
   (h : ∀ (K : Nat → AS → Prop) (tok : List Touch → Prop), (∀ ts, touchesOk (masks ops.toList []) ts = true → tok ts) → (∀ n s, Q .normal n s → K n s) → RegCD P orc ks n ops keep tok K s) : AW P C (.region id ops true) Q n s := by
 have hh := h (fun n s => Q .normal n s) (fun ts => touchesOk (masks ops.toList []) ts = true) (fun _ h => h) (fun _ _ h => h)
 unfold RegCD at hh
 split at hh
 · rename_i s' ts p hrun
   intro a w hI
   refine region_run (tabOf_ok P) hm hrun hh.2.1 (hN ▸ hok) (fun _ => hh.1) hI ?_
   intro a' w' hI'
   exact ⟨_, _, hh.2.2, hI'.weak (hk ▸ wk_trimC (hk ▸ hks))⟩
 · exact hh.elim
end
/-- A call that reads owned slices as settled ones. -/
def bc (bor : List Nat) (xs : List AV) (r : AV) (hs' : List (Option Ent)) : Option Orc := some ⟨[], [], xs, r, hs', bor, none⟩
attribute [go_sem] bc
theorem borrowOb {P : Program} {g : FuncId} {args xs : List AV} {hp : Hp} {nb : Nat} {r : AV} {hs' : List (Option Ent)} {bor : List Nat} (h : ACall P g xs [] r hs') (hid : idLtL 0 xs = true) (hl : hs'.length ≤ 8) (hv : viewsA hp bor args xs)
   (hr : noSl r = true) (hh : ∀ e, some e ∈ hs' → noSlE e.es = true) (hb : borOb hp [] bor) : (aCall P g args hp nb ⟨[], [], xs, r, hs', bor, none⟩).ob :=
 callOb_ob ⟨h, by rw [renL_noid _ _ hid]; exact hv, by simp, trivial, by simp, by simpa using hl, by unfold borR; split <;> first | trivial | exact ⟨hr, hh⟩, hb, by simpa using hid⟩
theorem viewO {hp : Hp} {bor : List Nat} {i n sz : Nat} {e : Ent} {es : List (List AV)} (hi : i ∈ bor) (he : hp i = some e) (hes : e.es = es) (hn : es.length = n) (hsz : e.sz = sz) : viewA hp bor (.osl i n sz) (.sl sz es) :=
 .inl (.inr (.inl ⟨i, n, sz, e, rfl, hi, he, by rw [hes]; exact hn, hsz, by rw [hes]⟩))
theorem viewN {hp : Hp} {bor : List Nat} {sz : Nat} : viewA hp bor (.val (.slice none 0 0)) (.sl sz []) := .inl (.inr (.inr ⟨rfl, sz, rfl⟩))
theorem viewR {hp : Hp} {bor : List Nat} {a : AV} : viewA hp bor a a := .inl (.inl rfl)
@[simp] theorem bytesE_ns (l : List UInt8) : noSlE (bytesE l) = true := by
 simp only [noSlE, bytesE, List.all_map, List.all_eq_true]
 intro x _
 rfl
theorem renC_bytesE (L : List Nat) (l : List UInt8) : renCE L (bytesE l) = bytesE l := by
 simp only [renCE, bytesE, List.map_map]
 apply List.map_congr_left
 intro x _
 rfl
theorem renCE_app (L : List Nat) (a b : List (List AV)) : renCE L (a ++ b) = renCE L a ++ renCE L b := by simp [renCE]
theorem renCE_cons (L : List Nat) (c : List AV) (b : List (List AV)) : renCE L (c :: b) = renCL L c :: renCE L b := rfl
theorem renCE_nil (L : List Nat) : renCE L [] = [] := rfl
theorem ρ_eq (o : Orc) (nb i : Nat) : o.ρ nb i = match o.ids[i]? with
   | some j => j
   | none => nb + (i - o.ids.length) := by
 unfold Orc.ρ
 by_cases h : i < o.ids.length
 · rw [if_pos h, List.getElem?_eq_getElem h, getD_get h]
 · rw [if_neg h, List.getElem?_eq_none (by omega)]
theorem renE_bytesE (ρ : Nat → Nat) (l : List UInt8) : (bytesE l).map (renL ρ) = bytesE l := renE_noid ρ (bytesE_id 0 l)
attribute [go_sem] ρ_eq renE_bytesE List.getElem?_nil
attribute [go_sem] RegC RegCD liveC trimC reachC addEnd envC hpC entC renC renCL idxIn renC_bytesE renCE_app renCE_cons renCE_nil
variable {P : Program} {C : Ctx} {Q : Exit → Nat → AS → Prop} {n : Nat} {s : AS}
theorem AW.join {c y : Code} {k : Nat} (hk : C.k = k) (n' : Nat) (s' : AS) (h : AW P C c (thenQ (fun _ t => Wk k t n' s') Q) n s) (hy : AW P C y Q n' s') : AW P C c (thenQ (AW P C y Q) Q) n s :=
 AW.mono h (by intro e n s hq; cases e <;> first | exact AW.wk hk n' s' hq hy | exact hq)
theorem AW.joinF {c y : Code} {α : Type} {k : Nat} (hk : C.k = k) (n' : Nat) (S : α → AS) (I : α → Prop) (h : AW P C c (thenQ (fun _ t => ∃ a, I a ∧ Wk k t n' (S a)) Q) n s) (hy : ∀ a, I a → AW P C y Q n' (S a)) : AW P C c (thenQ (AW P C y Q) Q) n s :=
 AW.mono h (by
   intro e n s hq
   cases e
   case normal =>
     obtain ⟨a, h1, h2⟩ := hq
     exact AW.wk hk n' (S a) h2 (hy a h1)
   all_goals exact hq)
abbrev Res := AV × List (Option Ent)
def EX (N k : Nat) (R : Res → Prop) (A : Res → Ctx → Prop) : Prop := ∃ x, R x ∧ ∀ C : Ctx, C.N = N → C.k = k → A x C
section
variable {P : Program} {N k : Nat} {R : Res → Prop} {A B : Res → Ctx → Prop}
theorem EX.step (h : ∀ x C, C.N = N → C.k = k → B x C → A x C) (hb : EX N k R B) : EX N k R A := by
 obtain ⟨x, h1, h2⟩ := hb
 exact ⟨x, h1, fun C hN hk => h x C hN hk (h2 C hN hk)⟩
theorem EX.wk {c : Code} {Q : Res → Ctx → Exit → Nat → AS → Prop} {n : Nat} {s : AS} (n' : Nat) (s' : AS) (hw : Wk k s n' s') (h : EX N k R fun x C => AW P C c (Q x C) n' s') : EX N k R fun x C => AW P C c (Q x C) n s :=
 EX.step (fun x C hN hk h => AW.wk hk n' s' hw h) h
/-- At most m rounds. -/
def AWn (P : Program) (C : Ctx) (c : Code) (Q : Exit → Nat → AS → Prop) (m n : Nat) (s : AS) : Prop :=
 ∀ a w, InvC C n s.st a w → Code.rounds P c (fun e a' w' => ∃ n' s', Q e n' s' ∧ InvC C n' s'.st a' w') m a w
theorem rounds_up {c : Code} {Q : Exit → Act → World → Prop} : ∀ (m : Nat) (a : Act) (w : World), Code.rounds P c Q m a w → Code.rounds P c Q (m + 1) a w
 | 0, _, _, h => h.elim
 | m + 1, a, w, h => by
   refine wp_mono h ?_
   intro e a' w' hq
   cases e
   case normal => exact rounds_up m a' w' hq
   all_goals exact hq
theorem AWn.up {C : Ctx} {c : Code} {Q : Exit → Nat → AS → Prop} {m n : Nat} {s : AS} (h : AWn P C c Q m n s) : ∀ {m'}, m ≤ m' → AWn P C c Q m' n s := by
 intro m' hm
 induction hm with
 | refl => exact h
 | step _ ih => exact fun a w hI => rounds_up _ a w (ih a w hI)
theorem AWn.succ {C : Ctx} {c : Code} {Q : Exit → Nat → AS → Prop} {m n : Nat} {s : AS} (h : AW P C c (thenQ (AWn P C c Q m) Q) n s) : AWn P C c Q (m + 1) n s := by
 intro a w hI
 refine wp_mono (h a w hI) ?_
 rintro e a' w' ⟨n', s', hq, hI'⟩
 cases e
 case normal => exact hq a' w' hI'
 all_goals exact ⟨n', s', hq, hI'⟩
theorem AWn.weak {C : Ctx} {c : Code} {Q : Exit → Nat → AS → Prop} {m n : Nat} {s : AS} {n' : Nat} {s' : AS} (hk : C.k = k) (hw : Wk k s n' s') (h : AWn P C c Q m n' s') : AWn P C c Q m n s :=
 fun a w hI => h a w (hI.weak (hk ▸ hw))
theorem EX.loop {c : Code} {Q : Res → Ctx → Exit → Nat → AS → Prop} {n : Nat} {s : AS} {α : Type} (n0 : Nat) (S : α → AS) (I : α → Prop) (μ : α → Nat) (a0 : α) (h0 : I a0) (hw : Wk k s n0 (S a0))
   (hr : ∀ a, I a → ∀ Y : Res → Ctx → Nat → AS → Prop, (∀ a', I a' → μ a' < μ a → ∀ n s, Wk k s n0 (S a') → EX N k R fun x C => Y x C n s) →
     EX N k R fun x C => AW P C c (thenQ (Y x C) (Q x C)) n0 (S a)) : EX N k R fun x C => AW P C (.loop c) (Q x C) n s := by
 have key : ∀ m a, μ a = m → I a → EX N k R fun x C => AWn P C c (Q x C) (m + 1) n0 (S a) := by
   intro m
   induction m using Nat.strongRecOn with
   | _ m ih =>
     intro a hm hI
     refine EX.step (fun x C hN hk h => AWn.succ h) (hr a hI (fun x C => AWn P C c (Q x C) m) ?_)
     intro a' hI' hlt n s hw
     exact EX.step (fun x C hN hk h => AWn.weak hk hw (AWn.up h (by omega))) (ih (μ a') (by omega) a' rfl hI')
 exact EX.step (fun x C hN hk h => fun a w hI => wp_loop_rounds _ (AWn.weak hk hw h a w hI)) (key _ a0 rfl h0)
def ACallE (P : Program) (g : FuncId) (as : List AV) (hs : List (Option Ent)) (R : Res → Prop) : Prop := ∃ x : Res, R x ∧ ACall P g as hs x.1 x.2
theorem acallE {g : FuncId} {fn : Func} {c : Code} {as : List AV} {hs : List (Option Ent)} (N k : Nat) (hf : P.funcs[g]? = some fn) (hb : fn.body = some c) (hname : (fn.name == "runtime.NumGoroutine") = false) (hN : fn.ntmps = N) (has : as.length ≤ N) (hk : hs.length = k)
   {rv : List ResultVar} (hrv : fn.results = rv.toArray) (h : EX N k R fun x C => AW P C c (retQ (tabOf P) rv x.1 x.2 k) k ⟨initE 0 as, initH 0 hs⟩) : ACallE P g as hs R := by
 obtain ⟨x, h1, h2⟩ := h
 exact ⟨x, h1, acall N k hf hb hname hN has hk hrv h2⟩
theorem EX.ret {Q : Res → Ctx → Exit → Nat → AS → Prop} {n : Nat} {s : AS} (r : AV) (hs' : List (Option Ent)) (hR : R (r, hs')) (h : ∀ C : Ctx, C.N = N → C.k = k → AW P C .ret (Q (r, hs') C) n s) : EX N k R fun x C => AW P C .ret (Q x C) n s :=
 ⟨(r, hs'), hR, h⟩
end
theorem wrapU64 {n : Int} (h : 0 ≤ n ∧ n < 18446744073709551616) : IntKind.u64.wrap n = n := by
 show Int.emod _ _ = _
 exact Int.emod_eq_of_lt h.1 h.2
theorem wrapU32 {n : Int} (h : 0 ≤ n ∧ n < 4294967296) : IntKind.u32.wrap n = n := by
 show Int.emod _ _ = _
 exact Int.emod_eq_of_lt h.1 h.2
theorem wrapU8 {n : Int} (h : 0 ≤ n ∧ n < 256) : IntKind.u8.wrap n = n := by
 show Int.emod _ _ = _
 exact Int.emod_eq_of_lt h.1 h.2
theorem dLtT {a b : Int} (h : a < b) : decide (a < b) = true := by simp [h]
theorem dLtF {a b : Int} (h : b ≤ a) : decide (a < b) = false := by simp; omega
theorem dLeT {a b : Int} (h : a ≤ b) : decide (a ≤ b) = true := by simp [h]
theorem dLeF {a b : Int} (h : b < a) : decide (a ≤ b) = false := by simp; omega
theorem dGtT {a b : Int} (h : a > b) : decide (a > b) = true := by simp; omega
theorem dGtF {a b : Int} (h : a ≤ b) : decide (a > b) = false := by simp; omega
theorem dGeT {a b : Int} (h : a ≥ b) : decide (a ≥ b) = true := by simp; omega
theorem dGeF {a b : Int} (h : a < b) : decide (a ≥ b) = false := by simp; omega
theorem iEqT {a b : Int} (h : a = b) : (a == b) = true := by simp [h]
theorem iEqF {a b : Int} (h : a ≠ b) : (a == b) = false := by simp [h]
theorem iNeT {a b : Int} (h : a ≠ b) : (a != b) = true := by simp [bne, h]
theorem iNeF {a b : Int} (h : a = b) : (a != b) = false := by simp [h]
attribute [go_sem] Nat.lt_add_one Nat.zero_lt_succ ne_eq not_false_eq_true decide_true decide_false Bool.not_true Bool.not_false Bool.false_eq_true
/-- All of them (for simp with omega). -/
theorem au : (∀ n : Int, (-9223372036854775808 ≤ n ∧ n < 9223372036854775808) → IntKind.i64.wrap n = n) ∧ (∀ n : Int, (0 ≤ n ∧ n < 18446744073709551616) → IntKind.u64.wrap n = n) ∧
   (∀ n : Int, (0 ≤ n ∧ n < 4294967296) → IntKind.u32.wrap n = n) ∧ (∀ n : Int, (0 ≤ n ∧ n < 256) → IntKind.u8.wrap n = n) ∧
   (∀ a b : Int, a < b → decide (a < b) = true) ∧ (∀ a b : Int, b ≤ a → decide (a < b) = false) ∧ (∀ a b : Int, a ≤ b → decide (a ≤ b) = true) ∧ (∀ a b : Int, b < a → decide (a ≤ b) = false) ∧
   (∀ a b : Int, a > b → decide (a > b) = true) ∧ (∀ a b : Int, a ≤ b → decide (a > b) = false) ∧ (∀ a b : Int, a ≥ b → decide (a ≥ b) = true) ∧ (∀ a b : Int, a < b → decide (a ≥ b) = false) ∧
   (∀ a b : Int, a = b → (a == b) = true) ∧ (∀ a b : Int, a ≠ b → (a == b) = false) ∧ (∀ a b : Int, a ≠ b → (a != b) = true) ∧ (∀ a b : Int, a = b → (a != b) = false) :=
 ⟨fun _ h => wrap64 h, fun _ h => wrapU64 h, fun _ h => wrapU32 h, fun _ h => wrapU8 h, fun _ _ h => dLtT h, fun _ _ h => dLtF h, fun _ _ h => dLeT h, fun _ _ h => dLeF h, fun _ _ h => dGtT h, fun _ _ h => dGtF h,
   fun _ _ h => dGeT h, fun _ _ h => dGeF h, fun _ _ h => iEqT h, fun _ _ h => iEqF h, fun _ _ h => iNeT h, fun _ _ h => iNeF h⟩
/-- Oracles out of a contract. -/
def pcq {P : Program} {g : FuncId} {as : List AV} {r : AV} {hs' : List (Option Ent)} (_ : ACall P g as [] r hs') : Option Orc := some ⟨[], [], as, r, hs', [], none⟩
def ocq (i : Nat) {P : Program} {g : FuncId} {as : List AV} {e : Ent} {r : AV} {hs' : List (Option Ent)} (_ : ACall P g as [some e] r hs') : Option Orc := some ⟨[i], [e], as, r, hs', [], none⟩
def bcq (bor : List Nat) {P : Program} {g : FuncId} {as : List AV} {r : AV} {hs' : List (Option Ent)} (_ : ACall P g as [] r hs') : Option Orc := some ⟨[], [], as, r, hs', bor, none⟩
attribute [go_sem] pcq ocq bcq
@[simp] theorem idLtE_cons (k : Nat) (c : List AV) (r : List (List AV)) : idLtE k (c :: r) = (idLtL k c && idLtE k r) := rfl
@[simp] theorem idLtE_nil (k : Nat) : idLtE k [] = true := rfl
@[simp] theorem idLtE_app (k : Nat) (a b : List (List AV)) : idLtE k (a ++ b) = (idLtE k a && idLtE k b) := by simp [idLtE]
theorem view1O {hp : Hp} {bor : List Nat} {i n sz : Nat} {e : Ent} {es : List (List AV)} (hi : i ∈ bor) (he : hp i = some e) (hes : e.es = es) (hn : es.length = n) (hsz : e.sz = sz) : view1 hp bor (.osl i n sz) (.sl sz es) :=
 .inr (.inl ⟨i, n, sz, e, rfl, hi, he, by rw [hes]; exact hn, hsz, by rw [hes]⟩)
theorem view1N {hp : Hp} {bor : List Nat} {sz : Nat} : view1 hp bor (.val (.slice none 0 0)) (.sl sz []) := .inr (.inr ⟨rfl, sz, rfl⟩)
theorem view1R {hp : Hp} {bor : List Nat} {a : AV} : view1 hp bor a a := .inl rfl
theorem viewAgg {hp : Hp} {bor : List Nat} {cs as : List AV} (h : viewL hp bor cs as) : viewA hp bor (.agg cs) (.agg as) := .inr ⟨cs, as, rfl, rfl, h⟩
theorem dq (p : Prop) [Decidable p] : (p ∧ decide p = true) ∨ (¬ p ∧ decide p = false) := by by_cases h : p <;> simp [h]
theorem dqE {α : Type} [BEq α] [LawfulBEq α] [DecidableEq α] (a b : α) : (a = b ∧ (a == b) = true ∧ (a != b) = false) ∨ (a ≠ b ∧ (a == b) = false ∧ (a != b) = true) := by by_cases h : a = b <;> simp [h]
theorem dqB (b : Bool) : b = true ∨ b = false := by cases b <;> simp
theorem ownBorOb {P : Program} {g : FuncId} {args : List AV} {hp : Hp} {nb : Nat} {as as' : List AV} {r : AV} {hs' : List (Option Ent)} {i : Nat} {e : Ent} {bor : List Nat} (h : ACall P g as [some e] r hs') (he : hp i = some e) (hid : idLtE 0 e.es = true) (hid1 : idLtE 1 e.es = true) (ha : idLtL 1 as = true) (hl : 1 ≤ hs'.length) (hl8 : hs'.length ≤ 9)
   (hr : renL ((⟨[i], [e], as, r, hs', bor, none⟩ : Orc).ρ nb) as = as') (hv : viewsA hp bor args as') (hn : noSl r = true) (hh : ∀ e, some e ∈ hs' → noSlE e.es = true) (hb : borOb hp [i] bor) : (aCall P g args hp nb ⟨[i], [e], as, r, hs', bor, none⟩).ob := by
 refine callOb_ob ⟨h, by rw [hr]; exact hv, by simp, ⟨?_, hid1, trivial⟩, hl, by simpa using hl8, by unfold borR; split <;> first | trivial | exact ⟨hn, hh⟩, hb, ha⟩
 rw [he, renEnt, renE_noid _ hid]
def obcq (i : Nat) (bor : List Nat) {P : Program} {g : FuncId} {as : List AV} {e : Ent} {r : AV} {hs' : List (Option Ent)} (_ : ACall P g as [some e] r hs') : Option Orc := some ⟨[i], [e], as, r, hs', bor, none⟩
attribute [go_sem] obcq
theorem obG {P : Program} (g : FuncId) {args : List AV} {hp : Hp} {nb : Nat} {o : Orc} (h : (aCall P g args hp nb o).ob) : (aCall P g args hp nb o).ob := h
section
variable {P : Program} {C : Ctx} {Q : Exit → Nat → AS → Prop} {K : Nat → AS → Prop} {n : Nat} {s : AS}
theorem s1 {x y : Code} (h : AW P C x (thenQ (AW P C y Q) Q) n s) : AW P C (.seq x y) Q n s := AW.seq h
theorem s2 {id : Nat} {c : Code} (h : AW P C c (blockQ id Q) n s) : AW P C (.block id c) Q n s := AW.block h
theorem s3 {id : Nat} (h : Q .normal n s) : blockQ id Q .normal n s := h
theorem s4 (h : K n s) : thenQ K Q .normal n s := h
theorem s5 {id : Nat} (h : Q (.exit id) n s) : thenQ K Q (.exit id) n s := h
theorem s6 {id : Nat} (h : Q .normal n s) : blockQ id Q (.exit id) n s := qHere h
theorem s7 {id id' : Nat} (h : Q (.exit id') n s) (hne : id' ≠ id := by decide) : blockQ id Q (.exit id') n s := qOut hne h
theorem s8 (h : Q .normal n s) : AW P C .skip Q n s := AW.skip h
theorem s9 {id : Nat} (h : Q (.exit id) n s) : AW P C (.exit id) Q n s := AW.exit h
theorem rg (hm : P.follows .mixedOrders = true) {N k : Nat} (hN : C.N = N) (hk : C.k = k) (orc : Nat → Option Orc) (ks keep : List Nat) {id : Nat} {ops : Array Oper}
   (h : ∀ K : Nat → AS → Prop, (∀ n s, Q .normal n s → K n s) → RegC P orc ks n ops keep K s) (hks : ks = List.range k := by rfl) (hok : regOk N ops false = true := by decide +kernel) : AW P C (.region id ops false) Q n s := AW.rc hm hN hk orc ks keep hks hok h
theorem rgd (hm : P.follows .mixedOrders = true) {N k : Nat} (hN : C.N = N) (hk : C.k = k) (orc : Nat → Option Orc) (ks keep : List Nat) {id : Nat} {ops : Array Oper}
   (h : ∀ (K : Nat → AS → Prop) (tok : List Touch → Prop), (∀ ts, touchesOk (masks ops.toList []) ts = true → tok ts) → (∀ n s, Q .normal n s → K n s) → RegCD P orc ks n ops keep tok K s) (hks : ks = List.range k := by rfl) (hok : regOk N ops true = true := by decide +kernel) : AW P C (.region id ops true) Q n s := AW.rcd hm hN hk orc ks keep hks hok h
theorem mkWk {k n' : Nat} {s' : AS} (ids : List (Option Nat)) (D : List Nat) (he : wkEnv (lkh s.hp) ids D s.env s'.env) (hh : wkHp (lkh s.hp) ids D s'.hp) (hi : IdsOk ids D k s'.hp := by exact ⟨by simp [srcIds], by simp [srcIds], by first | (simp; done) | rfl⟩) (hl : ids.length ≤ n' := by simp) : Wk k s n' s' := ⟨ids, D, hi, hl, he, hh⟩
theorem mkRet {T : Tab} {rv : List ResultVar} {r : AV} {hs' : List (Option Ent)} {k : Nat} {l : List AV} {p : Prop} (ids : List (Option Nat)) (D : List Nat) (h1 : resList T s rv = some (l, p)) (hr : wk (lkh s.hp) ids D (resOf l) r) (hh : wkHp (lkh s.hp) ids D (hs'.zipIdx.map fun x => (x.2, x.1)))
   (h2 : p := by simp) (hi : IdsOk ids D k (hs'.zipIdx.map fun x => (x.2, x.1)) := by exact ⟨by simp [srcIds], by simp [srcIds], by simp⟩) (hl : ids.length = hs'.length := by simp) : retQ T rv r hs' k .ret 0 s := ⟨.inl rfl, l, p, ids, D, h1, h2, hi, hl, hr, hh⟩
theorem lpF {c : Code} {α : Type} {k : Nat} (hk : C.k = k) (n0 : Nat) (S : α → AS) (I : α → Prop) (μ : α → Nat) (a0 : α) (hw : Wk k s n0 (S a0))
   (hr : ∀ a, I a → AW P C c (thenQ (fun _ s' => ∃ a', I a' ∧ μ a' < μ a ∧ Wk k s' n0 (S a')) Q) n0 (S a))
   (h0 : I a0 := by first | assumption | omega | (simp; done) | ((repeat' apply And.intro) <;> first | assumption | omega | (simp; done) | (simp; omega))) : AW P C (.loop c) Q n s := AW.loopF hk n0 S I μ a0 h0 hw hr
end
theorem lpX {P : Program} {N k : Nat} {R : Res → Prop} {c : Code} {Q : Res → Ctx → Exit → Nat → AS → Prop} {n : Nat} {s : AS} {α : Type} (n0 : Nat) (S : α → AS) (I : α → Prop) (μ : α → Nat) (a0 : α) (hw : Wk k s n0 (S a0))
   (hr : ∀ a, I a → ∀ Y : Res → Ctx → Nat → AS → Prop, (∀ a', I a' → μ a' < μ a → ∀ n s, Wk k s n0 (S a') → EX N k R fun x C => Y x C n s) →
     EX N k R fun x C => AW P C c (thenQ (Y x C) (Q x C)) n0 (S a))
   (h0 : I a0 := by first | assumption | omega | (simp; done) | ((repeat' apply And.intro) <;> first | assumption | omega | (simp; done) | (simp; omega))) : EX N k R fun x C => AW P C (.loop c) (Q x C) n s := EX.loop n0 S I μ a0 h0 hw hr
theorem eE {α : Type} {I J W : α → Prop} (a : α) (w : W a) (hI : I a := by first | assumption | omega | (simp; done) | ((repeat' apply And.intro) <;> first | assumption | omega | (simp; done) | (simp; omega))) (hJ : J a := by first | omega | (simp; done) | (simp; omega)) : ∃ a, I a ∧ J a ∧ W a := ⟨a, hI, hJ, w⟩
theorem eY {α : Type} {I J : α → Prop} {W : α → Nat → AS → Prop} {G : Nat → AS → Prop} (hY : ∀ a, I a → J a → ∀ n s, W a n s → G n s) (a : α) {n : Nat} {s : AS} (w : W a n s) (hI : I a := by first | assumption | omega | (simp; done) | ((repeat' apply And.intro) <;> first | assumption | omega | (simp; done) | (simp; omega))) (hJ : J a := by first | omega | (simp; done) | (simp; omega)) : G n s := hY a hI hJ n s w
section
variable {P : Program} {g : FuncId} {args : List AV} {hp : Hp} {nb : Nat}
theorem pureA {as : List AV} {r : AV} {hs' : List (Option Ent)} (h : ACall P g as [] r hs') (hid : idLtL 0 as = true := by rfl) (hl : hs'.length ≤ 8 := by first | rfl | decide | simp) : (aCall P g as hp nb { as := as, r := r, hs' := hs' }).ob := pureOb h hid hl
theorem ownA {as : List AV} {r : AV} {hs' : List (Option Ent)} {i : Nat} {e : Ent} (h : ACall P g as [some e] r hs') (he : hp i = some e := by rfl) (hid : idLtE 0 e.es = true := by first | rfl | decide | simp) (hid1 : idLtE 1 e.es = true := by first | rfl | decide | simp) (ha : idLtL 1 as = true := by rfl) (hl : 1 ≤ hs'.length := by simp) (hl8 : hs'.length ≤ 9 := by simp)
   (hargs : args = renL ((⟨[i], [e], as, r, hs', [], none⟩ : Orc).ρ nb) as := by rfl) : (aCall P g args hp nb { ids := [i], hs := [e], as := as, r := r, hs' := hs' }).ob := ownOb h he hid hid1 ha hl hl8 hargs
theorem borA {xs : List AV} {r : AV} {hs' : List (Option Ent)} {bor : List Nat} (h : ACall P g xs [] r hs') (hid : idLtL 0 xs = true := by rfl) (hl : hs'.length ≤ 8 := by simp)
   (hv : viewsA hp bor args xs := by repeat first | exact trivial | refine ⟨by first | exact viewR | exact viewN | exact viewO (by simp) rfl rfl (by simp [go_sem]) rfl | (refine viewAgg ?_; repeat first | exact trivial | refine ⟨by first | exact view1R | exact view1N | exact view1O (by simp) rfl rfl (by simp [go_sem]) rfl, ?_⟩), ?_⟩)
   (hr : noSl r = true := by rfl) (hh : ∀ e, some e ∈ hs' → noSlE e.es = true := by simp) (hb : borOb hp [] bor := by simp [borOb, idLtL, idLt]) : (aCall P g args hp nb ⟨[], [], xs, r, hs', bor, none⟩).ob := borrowOb h hid hl hv hr hh hb
theorem oboA {as as' : List AV} {r : AV} {hs' : List (Option Ent)} {i : Nat} {e : Ent} {bor : List Nat} (h : ACall P g as [some e] r hs') (he : hp i = some e := by rfl) (hid : idLtE 0 e.es = true := by simp) (hid1 : idLtE 1 e.es = true := by simp) (ha : idLtL 1 as = true := by rfl) (hl : 1 ≤ hs'.length := by simp) (hl8 : hs'.length ≤ 9 := by simp)
   (hr : renL ((⟨[i], [e], as, r, hs', bor, none⟩ : Orc).ρ nb) as = as' := by rfl)
   (hv : viewsA hp bor args as' := by repeat first | exact trivial | refine ⟨by first | exact viewR | exact viewN | exact viewO (by simp) rfl rfl (by simp [go_sem]) rfl | (refine viewAgg ?_; repeat first | exact trivial | refine ⟨by first | exact view1R | exact view1N | exact view1O (by simp) rfl rfl (by simp [go_sem]) rfl, ?_⟩), ?_⟩)
   (hn : noSl r = true := by rfl) (hh : ∀ e, some e ∈ hs' → noSlE e.es = true := by simp) (hb : borOb hp [i] bor := by simp [borOb, idLtL, idLt]) : (aCall P g args hp nb ⟨[i], [e], as, r, hs', bor, none⟩).ob := ownBorOb h he hid hid1 ha hl hl8 hr hv hn hh hb
end
/-- Numbers of blocks that differ. -/
class NeC (a b : Nat) : Prop where
 ne : a ≠ b
instance : NeC 0 1 := ⟨by decide⟩
instance : NeC 0 2 := ⟨by decide⟩
instance : NeC 0 3 := ⟨by decide⟩
instance : NeC 0 4 := ⟨by decide⟩
instance : NeC 0 5 := ⟨by decide⟩
instance : NeC 0 6 := ⟨by decide⟩
instance : NeC 0 7 := ⟨by decide⟩
instance : NeC 1 0 := ⟨by decide⟩
instance : NeC 1 2 := ⟨by decide⟩
instance : NeC 1 3 := ⟨by decide⟩
instance : NeC 1 4 := ⟨by decide⟩
instance : NeC 1 5 := ⟨by decide⟩
instance : NeC 1 6 := ⟨by decide⟩
instance : NeC 1 7 := ⟨by decide⟩
instance : NeC 2 0 := ⟨by decide⟩
instance : NeC 2 1 := ⟨by decide⟩
instance : NeC 2 3 := ⟨by decide⟩
instance : NeC 2 4 := ⟨by decide⟩
instance : NeC 2 5 := ⟨by decide⟩
instance : NeC 2 6 := ⟨by decide⟩
instance : NeC 2 7 := ⟨by decide⟩
instance : NeC 3 0 := ⟨by decide⟩
instance : NeC 3 1 := ⟨by decide⟩
instance : NeC 3 2 := ⟨by decide⟩
instance : NeC 3 4 := ⟨by decide⟩
instance : NeC 3 5 := ⟨by decide⟩
instance : NeC 3 6 := ⟨by decide⟩
instance : NeC 3 7 := ⟨by decide⟩
instance : NeC 4 0 := ⟨by decide⟩
instance : NeC 4 1 := ⟨by decide⟩
instance : NeC 4 2 := ⟨by decide⟩
instance : NeC 4 3 := ⟨by decide⟩
instance : NeC 4 5 := ⟨by decide⟩
instance : NeC 4 6 := ⟨by decide⟩
instance : NeC 4 7 := ⟨by decide⟩
instance : NeC 5 0 := ⟨by decide⟩
instance : NeC 5 1 := ⟨by decide⟩
instance : NeC 5 2 := ⟨by decide⟩
instance : NeC 5 3 := ⟨by decide⟩
instance : NeC 5 4 := ⟨by decide⟩
instance : NeC 5 6 := ⟨by decide⟩
instance : NeC 5 7 := ⟨by decide⟩
instance : NeC 6 0 := ⟨by decide⟩
instance : NeC 6 1 := ⟨by decide⟩
instance : NeC 6 2 := ⟨by decide⟩
instance : NeC 6 3 := ⟨by decide⟩
instance : NeC 6 4 := ⟨by decide⟩
instance : NeC 6 5 := ⟨by decide⟩
instance : NeC 6 7 := ⟨by decide⟩
instance : NeC 7 0 := ⟨by decide⟩
instance : NeC 7 1 := ⟨by decide⟩
instance : NeC 7 2 := ⟨by decide⟩
instance : NeC 7 3 := ⟨by decide⟩
instance : NeC 7 4 := ⟨by decide⟩
instance : NeC 7 5 := ⟨by decide⟩
instance : NeC 7 6 := ⟨by decide⟩
/-- What a goal of the control is, further on. -/
class Nx (G : Prop) (G' : outParam Prop) : Prop where
 h : G' → G
theorem nx {G G' : Prop} [i : Nx G G'] (h : G') : G := i.h h
section
variable {P : Program} {C : Ctx} {Q : Exit → Nat → AS → Prop} {K : Nat → AS → Prop} {n : Nat} {s : AS} {G : Prop}
instance {x y : Code} [i : Nx (AW P C x (thenQ (AW P C y Q) Q) n s) G] : Nx (AW P C (.seq x y) Q n s) G := ⟨fun h => s1 (i.h h)⟩
instance {id : Nat} {c : Code} [i : Nx (AW P C c (blockQ id Q) n s) G] : Nx (AW P C (.block id c) Q n s) G := ⟨fun h => s2 (i.h h)⟩
instance {id : Nat} [i : Nx (Q .normal n s) G] : Nx (blockQ id Q .normal n s) G := ⟨fun h => s3 (i.h h)⟩
instance [i : Nx (K n s) G] : Nx (thenQ K Q .normal n s) G := ⟨fun h => s4 (i.h h)⟩
instance [i : Nx (Q .normal n s) G] : Nx (AW P C .skip Q n s) G := ⟨fun h => s8 (i.h h)⟩
instance {id : Nat} [i : Nx (Q (.exit id) n s) G] : Nx (AW P C (.exit id) Q n s) G := ⟨fun h => s9 (i.h h)⟩
instance {id : Nat} [i : Nx (Q (.exit id) n s) G] : Nx (thenQ K Q (.exit id) n s) G := ⟨fun h => s5 (i.h h)⟩
instance {id : Nat} [i : Nx (Q .normal n s) G] : Nx (blockQ id Q (.exit id) n s) G := ⟨fun h => s6 (i.h h)⟩
instance {id id' : Nat} [h : NeC id' id] [i : Nx (Q (.exit id') n s) G] : Nx (blockQ id Q (.exit id') n s) G := ⟨fun hh => qOut h.ne (i.h hh)⟩
instance (priority := low) {G : Prop} : Nx G G := ⟨fun h => h⟩
end
attribute [go_sem] Nat.lt_add_one Nat.zero_lt_succ ne_eq not_false_eq_true decide_true decide_false Bool.not_true Bool.not_false Bool.false_eq_true
theorem cT {P : Program} {C : Ctx} {Q : Exit → Nat → AS → Prop} {n : Nat} {s : AS} {c : Operand} {x y : Code} (h : AW P C x Q n s) (hc : evA (lk s.env) c = .val (.bool true) := by rfl) : AW P C (.cond c x y) Q n s := AW.cond hc h
theorem cF {P : Program} {C : Ctx} {Q : Exit → Nat → AS → Prop} {n : Nat} {s : AS} {c : Operand} {x y : Code} (h : AW P C y Q n s) (hc : evA (lk s.env) c = .val (.bool false) := by rfl) : AW P C (.cond c x y) Q n s := AW.cond hc h
theorem obK {A B : Prop} (h : B) (ob : A := by (try clear hqX); (repeat' (with_reducible refine And.intro ?_ ?_)) <;> first | with_reducible exact True.intro | omega | exact isByte_bytesE _ | exact pureA (by assumption) | exact ownA (by assumption) | exact borA (by assumption) | exact oboA (by assumption) | with_reducible assumption | decide | (simp; done) | (simp; omega)) : A ∧ B := ⟨ob, h⟩
end Go.Av
