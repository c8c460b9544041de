/-
  Part 2 of the proof that logtidelaw45.ConsoleAnswer returns true for every list of bytes and every text, and leaves both as they were.
-/
import Derived.Test.YtffchapiaampmaaGreatDoorA01
import Derived.Laws.Strings
set_option linter.unusedSimpArgs false
set_option linter.unusedVariables false
namespace Go.Av
theorem Post.still {X : Nat → Prop} {w : World} {β : Gm} {hp : Hp} {nb : Nat} {r : Out} {v : Value} (hg : Good X w β hp) (hw : r.hw = []) (hr : Rep w β (Own X β hp) r.v v) : Post X w β hp nb r v w β :=
 ⟨by rw [hw]; exact hr, by rw [hw]; exact hg, by rw [hw]; exact Frm.refl _ _, GmExt.refl _, fun _ _ => rfl, fun i h => .inl h⟩
theorem repL_vals {w : World} {β : Gm} {O : Nat → Prop} : ∀ (l : List Value), RepL w β O (l.map .val) l
 | [] => by simp [RepL]
 | v :: l => by simp only [List.map_cons, RepL]; exact ⟨v, l, rfl, by simp [Rep], repL_vals l⟩
def EnvOk (w : World) (β : Gm) (O : Nat → Prop) (env : Env) (tmps : Array Value) : Prop := ∀ t, Rep w β O (env t) (tmps.getD t undef)
theorem evA_rep {w : World} {β : Gm} {O : Nat → Prop} {env : Env} {a : Act} (h : EnvOk w β O env a.tmps) (x : Operand) : Rep w β O (evA env x) (a.eval x) := by
 cases x with
 | tmp t => exact h t
 | const v => cases v <;> simp [evA, Act.eval, Rep]; exact ⟨_, rfl, repL_vals _⟩
 | global g => simp [evA, Rep]
 | func f => simp [evA, Act.eval, Rep]
section pure
variable {X : Nat → Prop} {P : Program} {T : Tab} {w : World} {β : Gm} {hp : Hp} {nb : Nat} {O : Nat → Prop}
theorem bytes_toList (s : ByteArray) : s.toList = bl s := ByteArray.toList_eq s
theorem bytes_append (a b : ByteArray) : a ++ b = ⟨(bl a ++ bl b).toArray⟩ := by
 apply ByteArray.ext; simp [bl]
theorem tab {t : TypeId} {ti : TI} (hT : TabOk P T) (h : T t = some ti) : ∃ i z, P.info? t = some i ∧ i.size = ti.size ∧ i.bytes = ti.bytes ∧ i.zero = some z ∧ z.cells.toList = ti.zero ∧ P.underlying t = some ti.desc ∧ ti.zero.length = ti.size := by
 obtain ⟨i, z, h1, h2, h3, h4, h5, h6, h7, _⟩ := hT t ti h
 exact ⟨i, z, h1, h2, h3, h4, h5, h6, h7⟩
theorem tab_desc {t : TypeId} {d : TypeDesc} (hT : TabOk P T) (h : descOf T t = some d) : P.underlying t = some d := by
 unfold descOf at h
 split at h
 · rename_i ti hti
   obtain ⟨i, z, _, _, _, _, _, h6, _, _⟩ := hT t ti hti
   rw [h6, ← h]
 · simp at h
theorem run_equal_bool {t : TypeId} {a b : Bool} (hu : P.underlying t = some .bool) : (Op.equal t (.bool a) (.bool b)).run P w = .ok (a == b) w := by
 show (Op.equalIn (9999 + 1) t _ _).run P w = _
 rw [Op.equalIn, run_bind, run_underlying hu]; rfl
theorem valsOf_rep : ∀ {xs : List AV} {us vs : List Value}, valsOf xs = some us → RepL w β O xs vs → vs = us
 | [], us, vs, h, hr => by simp only [RepL] at hr; simp [valsOf] at h; rw [hr, h]
 | .val v :: r, us, vs, h, hr => by
   simp only [RepL, Rep] at hr
   obtain ⟨u, s, rfl, rfl, h3⟩ := hr
   simp only [valsOf] at h
   split at h
   · rename_i l hl
     rw [valsOf_rep hl h3]; simpa using h
   · simp at h
 | .any :: _, _, _, h, _ => by simp [valsOf] at h
 | .agg _ :: _, _, _, h, _ => by simp [valsOf] at h
 | .tup _ :: _, _, _, h, _ => by simp [valsOf] at h
 | .sl _ _ :: _, _, _, h, _ => by simp [valsOf] at h
 | .rp _ :: _, _, _, h, _ => by simp [valsOf] at h
 | .osl _ _ _ :: _, _, _, h, _ => by simp [valsOf] at h
 | .ptr _ _ _ _ :: _, _, _, h, _ => by simp [valsOf] at h
theorem bin_sound (hT : TabOk P T) {op : BinOp} {xt : TypeId} {x y : AV} {u v : Value} {r : Out} {X Y : Operand} (h : aBin P T op xt x y = some r) (hob : r.ob)
   (hx : Rep w β O x u) (hy : Rep w β O y v) : ∃ z, (do eqGuard op xt X Y u v; binOp op xt u v : Sem Value).run P w = .ok z w ∧ Rep w β O r.v z ∧ r.hw = [] := by
 unfold aBin at h
 split at h
 · rename_i k a k' b
   simp only [Rep] at hx hy
   subst hx hy
   simp only [out, Option.some.injEq] at h
   subst h
   refine ⟨(pint op k k' a b).1, ?_, by simp [Rep], rfl⟩
   simp only at hob
   cases op <;> simp only [pint] at hob ⊢ <;> (try (first | (obtain ⟨rfl, h0⟩ := hob) | subst hob)) <;>
     simp_all [eqGuard, binOp, run_bind, run_pure, Op.intArith, Op.intDiv, Op.intBits, Op.shift, Op.intCmp, bitsOf, Int.not_lt]
   all_goals (intro h1; omega)
 · rename_i a b
   simp only [Rep] at hx hy
   subst hx hy
   split at h
   · rename_i z p hz
     simp only [out, Option.some.injEq] at h
     subst h
     refine ⟨z, ?_, by simp [Rep], rfl⟩
     simp only at hob
     have hsz : ∀ s : ByteArray, s.size = (bl s).length := fun s => by simp [bl]
     cases op <;> simp only [pstr, Option.some.injEq, Prod.mk.injEq, reduceCtorEq] at hz <;> (try (obtain ⟨rfl, rfl⟩ := hz)) <;>
       simp only [eqGuard, binOp, run_bind, run_pure, Op.stringOp, bytes_toList, bytes_append, hsz]
     all_goals (try (simp [run_pure, run_bind]; done))
     have hm : IntKind.i64.max = 2 ^ 63 - 1 := by decide
     have hn : ¬ ((((bl a).length + (bl b).length : Nat) : Int) > IntKind.i64.max) := by rw [hm]; omega
     simp only [hn, if_false, run_pure, Bool.not_false, if_true, Bool.false_eq_true]
   · simp at h
 · rename_i a b
   simp only [Rep] at hx hy
   subst hx hy
   split at h
   · rename_i hd
     have hu := tab_desc hT hd
     cases op <;> simp only [out, Option.some.injEq, reduceCtorEq] at h <;> subst h <;>
       exact ⟨_, by simp only [eqGuard, binOp, run_bind, run_pure, run_equal_bool hu]; rfl, by simp [Rep], rfl⟩
   · simp at h
 · rename_i xs ys
   simp only [Rep] at hx hy
   obtain ⟨us', rfl, hx⟩ := hx
   obtain ⟨vs', rfl, hy⟩ := hy
   split at h
   · rename_i us vs hu hv
     have e1 := valsOf_rep hu hx
     have e2 := valsOf_rep hv hy
     subst e1 e2
     cases op <;> simp only [out, Option.some.injEq, reduceCtorEq] at h <;> subst h <;>
       exact ⟨_, by simp only [eqGuard, binOp, Bool.not_true, Bool.false_eq_true, if_false, run_bind, run_program, hob.1, Bool.not_false, if_true, run_pure, hob.2 w]; rfl, by simp [Rep], rfl⟩
   · simp at h
 · simp at h
theorem un_sound {op : UnOp} {x : AV} {u : Value} {r : Out} (h : aUn op x = some r) (hx : Rep w β O x u) :
   ∃ z, (Op.unary op u).run P w = .ok z w ∧ Rep w β O r.v z ∧ r.hw = [] := by
 unfold aUn at h
 split at h
 · rename_i b
   simp only [Rep] at hx
   subst hx
   cases op <;> simp only [out, Option.some.injEq, reduceCtorEq] at h <;> subst h <;> exact ⟨_, by simp [Op.unary, run_pure]; rfl, by simp [Rep], rfl⟩
 · rename_i k n
   simp only [Rep] at hx
   subst hx
   cases op <;> simp only [out, Option.some.injEq, reduceCtorEq] at h <;> subst h <;>
     exact ⟨_, by simp only [Op.unary, run_pure, Op.intArith, Op.intBits, bitsOf]; rfl, by first | (simp only [Rep]; done) | (simp only [Rep]; rfl), rfl⟩
 · simp at h
theorem add_none (b off i : Nat) : (⟨b, off, none⟩ : Addr).add i = ⟨b, off + i, none⟩ := by
 unfold Addr.add; split
 · rename_i h; subst h; rfl
 · rfl
theorem run_load {b off : Nat} {v : Value} (h : w.cell? ⟨b, off, none⟩ = some v) : (load ⟨b, off, none⟩).run P w = .ok v w := by
 simp [load, Sem.run, h]
theorem run_loadFrom {b off : Nat} : ∀ (vs : List Value) (i : Nat) (acc : Array Value), (∀ (j : Nat) v, vs[j]? = some v → w.cell? ⟨b, off + (i + j), none⟩ = some v) →
   (loadCellsFrom ⟨b, off, none⟩ i vs.length acc).run P w = .ok (acc ++ vs.toArray) w
 | [], i, acc, h => by simp [loadCellsFrom, run_pure]
 | v :: vs, i, acc, h => by
   have h0 : w.cell? ⟨b, off + i, none⟩ = some v := by simpa using h 0 v rfl
   simp only [List.length_cons, loadCellsFrom, run_bind, add_none, run_load h0]
   rw [run_loadFrom vs (i + 1) (acc.push v) (fun j u hu => by
     have := h (j + 1) u (by simpa using hu)
     rw [show i + 1 + j = i + (j + 1) from by omega]; exact this)]
   simp
theorem run_loadCells {b off : Nat} {vs : List Value} {n : Nat} (h : cellsAt w b off vs) (hn : n = vs.length) : (loadCells ⟨b, off, none⟩ n).run P w = .ok vs.toArray w := by
 subst hn
 rw [loadCells, run_loadFrom vs 0 #[] (fun j v hv => by simpa using h j v hv)]; simp
theorem bytes_size (s : ByteArray) : s.size = (bl s).length := by simp [bl]
theorem bytes_get (s : ByteArray) (i : Nat) : s[i]? = (bl s)[i]? := by
 simp only [bl, Array.getElem?_toList]
 by_cases h : i < s.size
 · rw [getElem?_pos s i h, getElem?_pos s.data i (by simpa using h)]; rfl
 · rw [getElem?_neg s i h, getElem?_neg s.data i (by simpa using h)]
theorem index_sound (hT : TabOk P T) {t : TypeId} {x i : AV} {u v : Value} {r : Out} (h : aIndex T t x i = some r) (hob : r.ob)
   (hx : Rep w β O x u) (hi : Rep w β O i v) : ∃ z, (Instr.index t u v).run P w = .ok z w ∧ Rep w β O r.v z ∧ r.hw = [] := by
 unfold aIndex at h
 split at h
 · rename_i s k n hd
   simp only [Rep] at hx hi
   subst hx hi
   split at h
   · rename_i b hb
     simp only [out, Option.some.injEq] at h
     subst h
     refine ⟨.int .u8 b.toNat, ?_, by simp only [Rep], rfl⟩
     simp only at hob
     simp only [Instr.index, run_bind, asIntOf, run_pure, run_underlying (tab_desc hT hd), hob, if_true, bytes_get, hb]
   · simp at h
 · simp at h
theorem len_sound (hT : TabOk P T) {x : AV} {u : Value} {r : Out} (h : aLen x = some r) (hx : Rep w β O x u) {t ty : TypeId}
   (hd : (∃ e, descOf T t = some (.slice e)) ∧ (∀ s, x ≠ .val (.string s)) ∨ descOf T t = some .string ∧ ∃ s, x = .val (.string s)) : ∃ z, (Builtin.len_ #[t] ty #[u]).run P w = .ok z w ∧ Rep w β O r.v z ∧ r.hw = [] := by
 rcases hd with ⟨⟨e, hd⟩, hn⟩ | ⟨hd, s, rfl⟩
 · have hu := tab_desc hT hd
   unfold aLen at h
   split at h
   · rename_i sz es
     simp only [out, Option.some.injEq] at h
     subst h
     simp only [Rep] at hx
     rcases hx with ⟨rfl, rfl⟩ | ⟨b, off, cap, vs, rfl, _⟩
     · exact ⟨goInt 0, by simp [Builtin.len_, run_bind, run_underlying hu, run_pure], by simp [Rep, goInt], rfl⟩
     · exact ⟨goInt es.length, by simp [Builtin.len_, run_bind, run_underlying hu, run_pure], by simp [Rep, goInt], rfl⟩
   · rename_i i n sz
     simp only [out, Option.some.injEq] at h
     subst h
     simp only [Rep] at hx
     rcases hx with ⟨_, rfl, rfl⟩ | ⟨b, cap, T, m, _, rfl, _⟩
     · exact ⟨goInt 0, by simp [Builtin.len_, run_bind, run_underlying hu, run_pure], by simp [Rep, goInt], rfl⟩
     · exact ⟨goInt n, by simp [Builtin.len_, run_bind, run_underlying hu, run_pure], by simp [Rep, goInt], rfl⟩
   · rename_i i lo n sz
     simp only [out, Option.some.injEq] at h
     subst h
     simp only [Rep] at hx
     rcases hx with ⟨_, rfl, rfl⟩ | ⟨b, off, cap, T, m, _, rfl, _⟩
     · exact ⟨goInt 0, by simp [Builtin.len_, run_bind, run_underlying hu, run_pure], by simp [Rep, goInt], rfl⟩
     · exact ⟨goInt n, by simp [Builtin.len_, run_bind, run_underlying hu, run_pure], by simp [Rep, goInt], rfl⟩
   · rename_i s
     exact absurd rfl (hn s)
   · simp only [out, Option.some.injEq] at h
     subst h
     simp only [Rep] at hx
     subst hx
     exact ⟨goInt 0, by simp [Builtin.len_, run_bind, run_underlying hu, run_pure], by simp [Rep, goInt], rfl⟩
   · simp at h
 · have hu := tab_desc hT hd
   simp only [aLen, out, Option.some.injEq] at h
   subst h
   simp only [Rep] at hx
   subst hx
   exact ⟨goInt s.size, by simp [Builtin.len_, run_bind, run_underlying hu, run_pure], by simp [Rep, goInt, bytes_size], rfl⟩
theorem part_sound (hT : TabOk P T) {ft : TypeId} {tf : TI} (hf : T ft = some tf) {cs : List AV} {p : Prop} {hr : List Nat} {r : Out} (h : aPart tf cs p hr = some r) (hob : r.ob)
   {vs : List Value} (hv : RepL w β O cs vs) : p ∧ r.hw = [] ∧ ∃ z, Rep w β O r.v z ∧
     (tf.isAgg = true → z = .agg (vs.take tf.size).toArray ∧ tf.size ≤ vs.length) ∧ (tf.isAgg = false → ∃ rest, vs = z :: rest) := by
 unfold aPart at h
 split at h
 · rename_i ha
   simp only [Option.some.injEq] at h
   subst h
   simp only at hob
   have hl := hv.length
   have hsp : cs = cs.take tf.size ++ cs.drop tf.size := (List.take_append_drop _ _).symm
   rw [hsp] at hv
   obtain ⟨v1, v2, rfl, h1, h2⟩ := hv.split
   have hl1 : v1.length = tf.size := by rw [← h1.length]; simp; omega
   refine ⟨hob.1, rfl, .agg v1.toArray, by simp only [Rep]; exact ⟨v1, rfl, h1⟩, fun _ => ⟨by rw [← hl1]; simp, by simp; omega⟩, fun hn => by simp [ha] at hn⟩
 · rename_i ha
   split at h
   · rename_i c rest
     simp only [Option.some.injEq] at h
     subst h
     simp only [RepL] at hv
     obtain ⟨v, r', rfl, h1, h2⟩ := hv
     exact ⟨hob, rfl, v, h1, fun hn => absurd hn ha, fun _ => ⟨r', rfl⟩⟩
   · simp at h
theorem fieldOf_spec (hT : TabOk P T) {t : TypeId} {f o : Nat} {tf : TI} (h : fieldOf T t f = some (o, tf)) :
   ∃ fs fd, P.underlying t = some (.struct fs) ∧ fs[f]? = some fd ∧ fd.offset = o ∧ T fd.type = some tf := by
 unfold fieldOf at h
 split at h
 · rename_i fs hd
   split at h
   · rename_i fd hfd
     split at h
     · rename_i tf' htf
       simp only [Option.some.injEq, Prod.mk.injEq] at h
       obtain ⟨rfl, rfl⟩ := h
       exact ⟨fs, fd, tab_desc hT hd, hfd, rfl, htf⟩
     · simp at h
   · simp at h
 · simp at h
theorem elemOf_spec (hT : TabOk P T) {t e : TypeId} {te : TI} (h : elemOf T t = some (e, te)) : P.underlying t = some (.slice e) ∧ T e = some te := by
 unfold elemOf at h
 split at h
 · rename_i e' hd
   split at h
   · rename_i te' hte
     simp only [Option.some.injEq, Prod.mk.injEq] at h
     obtain ⟨rfl, rfl⟩ := h
     exact ⟨tab_desc hT hd, hte⟩
   · simp at h
 · simp at h
theorem run_part {ft : TypeId} {d : TypeDesc} {i : TypeInfo} (hu : P.underlying ft = some d) (hi : P.info? ft = some i) {xs : Array Value} {off : Nat} :
   (part ft xs off).run P w = if aggD d then .ok (.agg (xs.extract off (off + i.size))) w
     else match xs[off]? with
       | some v => .ok v w
       | none => (part ft xs off).run P w := by
 by_cases ha : aggD d = true
 · rw [if_pos ha]
   unfold part
   simp only [run_bind, run_isAgg hu]
   cases d <;> simp only [aggD, run_bind, run_size hi, run_pure, if_true, if_false, Bool.false_eq_true] at ha ⊢
 · rw [if_neg ha]
   cases hx : xs[off]? with
   | none => rfl
   | some v =>
     unfold part
     simp only [run_bind, run_isAgg hu]
     cases d <;> simp only [aggD, run_bind, run_size hi, run_pure, if_true, if_false, Bool.false_eq_true, hx, not_true_eq_false] at ha ⊢
theorem RepL.drop {cs : List AV} {vs : List Value} (h : RepL w β O cs vs) (o : Nat) : RepL w β O (cs.drop o) (vs.drop o) := by
 rw [← List.take_append_drop o cs] at h
 obtain ⟨v1, v2, rfl, h1, h2⟩ := h.split
 by_cases ho : o ≤ cs.length
 · have hl : v1.length = o := by rw [← h1.length]; simp; omega
   rw [← hl] at h2 ⊢
   simpa using h2
 · have e1 : cs.drop o = [] := List.drop_eq_nil_of_le (by omega)
   have hl := h1.length
   rw [e1] at h2 ⊢
   simp only [RepL] at h2 ⊢
   subst h2
   simp at hl ⊢
   omega
theorem field_sound (hT : TabOk P T) {t : TypeId} {f : Nat} {x : AV} {u : Value} {r : Out} (h : aField T t x f = some r) (hob : r.ob)
   (hx : Rep w β O x u) : ∃ z, (Instr.field t u f).run P w = .ok z w ∧ Rep w β O r.v z ∧ r.hw = [] := by
 unfold aField at h
 split at h
 · rename_i o tf cs hf
   obtain ⟨fs, fd, hu, hfd, ho, htf⟩ := fieldOf_spec hT hf
   obtain ⟨i, z0, hi, hsz, _, _, _, hud, _⟩ := tab hT htf
   simp only [Rep] at hx
   obtain ⟨vs, rfl, hl⟩ := hx
   obtain ⟨_, hw, z, hz, h1, h2⟩ := part_sound hT htf h hob (hl.drop o)
   refine ⟨z, ?_, hz, hw⟩
   simp only [Instr.field, run_bind, run_underlying hu, hfd, asAgg, run_pure, ho]
   rw [run_part hud hi]
   by_cases ha : tf.isAgg = true
   · obtain ⟨rfl, hle⟩ := h1 ha
     have e : aggD tf.desc = true := ha
     rw [if_pos e, hsz]
     simp at hle
     congr 2
     apply Array.ext'
     simp [List.take_drop, Nat.add_comm]
   · obtain ⟨rest, hr⟩ := h2 (by simpa using ha)
     have e : ¬ aggD tf.desc = true := ha
     rw [if_neg e]
     have : vs[o]? = some z := by
       have : (vs.drop o)[0]? = some z := by rw [hr]; rfl
       simpa using this
     simp [this]
 · simp at h
theorem cellsAt.drop {b off : Nat} {vs : List Value} (h : cellsAt w b off vs) (o : Nat) : cellsAt w b (off + o) (vs.drop o) := by
 intro j v hv
 have := h (o + j) v (by simpa using hv)
 rw [Nat.add_assoc]; exact this
theorem run_fieldPlace {a : Addr} {fd : Field} {i : TypeInfo} (hi : P.info? fd.type = some i) (hn : i.size ≠ 0) : (fieldPlace a fd).run P w = .ok (a.add fd.offset) w := by
 simp [fieldPlace, run_bind, run_size hi, hn, run_pure]
theorem fieldAddr_sound (hT : TabOk P T) {t : TypeId} {f : Nat} {x : AV} {u : Value} {r : Out} (h : aFieldAddr T t x f = some r) (hob : r.ob)
   (hx : Rep w β O x u) : ∃ z, (Instr.fieldAt t u f).run P w = .ok z w ∧ Rep w β O r.v z ∧ r.hw = [] := by
 unfold aFieldAddr at h
 split at h
 · rename_i o tf i sz k off hf
   obtain ⟨fs, fd, hu, hfd, rfl, htf⟩ := fieldOf_spec hT hf
   obtain ⟨ti, z0, hi, hsz, _, _, _, hud, _⟩ := tab hT htf
   simp only [Rep] at hx
   obtain ⟨b, hb, rfl⟩ := hx
   simp only [out, Option.some.injEq] at h
   subst h
   refine ⟨.pointer (some ⟨b, k * sz + (off + fd.offset), none⟩), ?_, by simp only [Rep]; exact ⟨b, hb, rfl⟩, rfl⟩
   simp only [Instr.fieldAt, run_bind, run_underlying hu, hfd, Instr.sureAddr, run_pure, run_fieldPlace hi (by rw [hsz]; exact hob), add_none, Nat.add_assoc]
 · rename_i o tf cs hf
   obtain ⟨fs, fd, hu, hfd, rfl, htf⟩ := fieldOf_spec hT hf
   obtain ⟨ti, z0, hi, hsz, _, _, _, hud, _⟩ := tab hT htf
   simp only [Rep] at hx
   obtain ⟨b, off, vs, rfl, h1, h2, h3, h4⟩ := hx
   simp only [out, Option.some.injEq] at h
   subst h
   refine ⟨.pointer (some ⟨b, off + fd.offset, none⟩), ?_, by simp only [Rep]; exact ⟨b, _, _, rfl, h1, h2, h3.drop _, h4.drop _⟩, rfl⟩
   simp only [Instr.fieldAt, run_bind, run_underlying hu, hfd, Instr.sureAddr, run_pure, run_fieldPlace hi (by rw [hsz]; exact hob), add_none, Nat.add_assoc]
 · simp at h
theorem cellsAt.mid {b off : Nat} {v1 u v2 : List Value} (h : cellsAt w b off (v1 ++ u ++ v2)) : cellsAt w b (off + v1.length) u := by
 intro j v hv
 have := h (v1.length + j) v (by
   rw [List.append_assoc, List.getElem?_append_right (by omega)]
   simp
   rw [List.getElem?_append_left]
   · exact hv
   · rcases Nat.lt_or_ge j u.length with h | h
     · exact h
     · rw [List.getElem?_eq_none h] at hv; cases hv)
 rw [Nat.add_assoc]; exact this
theorem indexAddr_sound (hT : TabOk P T) {t : TypeId} {x i : AV} {u v : Value} {r : Out} (h : aIndexAddr T t x i = some r) (hob : r.ob)
   (hx : Rep w β O x u) (hi : Rep w β O i v) : ∃ z, (Instr.indexAt t u v).run P w = .ok z w ∧ Rep w β O r.v z ∧ r.hw = [] := by
 unfold aIndexAddr at h
 split at h
 · rename_i e te sz es k n he
   obtain ⟨hu, hte⟩ := elemOf_spec hT he
   obtain ⟨ti, z0, hti, hsz, _, _, _, hud, _⟩ := tab hT hte
   simp only [Rep] at hi
   subst hi
   split at h
   · rename_i c hc
     simp only [out, Option.some.injEq] at h
     subst h
     simp only at hob
     obtain ⟨h0, hs⟩ := hob
     simp only [Rep] at hx
     have hlt : n.toNat < es.length := by
       rcases Nat.lt_or_ge n.toNat es.length with h | h
       · exact h
       · simp [List.getElem?_eq_none h] at hc
     rcases hx with ⟨rfl, rfl⟩ | ⟨b, off, cap, vs, rfl, h1, h2, h3, h4, h5⟩
     · simp at hlt
     · obtain ⟨v1, cu, v2, rfl, hv1, hcu, _, _⟩ := h5.at _ c hc
       refine ⟨.pointer (some ⟨b, off + n.toNat * ti.size, none⟩), ?_, ?_, rfl⟩
       · simp only [Instr.indexAt, run_bind, asIntOf, run_pure, run_underlying hu]
         have hin : 0 ≤ n ∧ n < (es.length : Int) := ⟨h0, by omega⟩
         simp only [hin, and_self, if_true, run_bind, run_size hti, run_pure, add_none]
       · simp only [Rep]
         refine ⟨b, _, cu, rfl, h2, h3, ?_, hcu⟩
         have := h4.mid
         rw [hv1, hs, ← hsz] at this
         exact this
   · simp at h
 · rename_i e te j m sz k n he
   obtain ⟨hu, hte⟩ := elemOf_spec hT he
   obtain ⟨ti, z0, hti, hsz, _, _, _, hud, _⟩ := tab hT hte
   simp only [Rep] at hi hx
   subst hi
   simp only [out, Option.some.injEq] at h
   subst h
   simp only at hob
   obtain ⟨h0, h1, hs⟩ := hob
   rcases hx with ⟨_, rfl, rfl⟩ | ⟨b, cap, T', m', hb, rfl, h2, h3, h4⟩
   · omega
   · refine ⟨.pointer (some ⟨b, n.toNat * sz + 0, none⟩), ?_, by simp only [Rep]; exact ⟨b, hb, rfl⟩, rfl⟩
     simp only [Instr.indexAt, run_bind, asIntOf, run_pure, run_underlying hu]
     have hin : 0 ≤ n ∧ n < (m : Int) := ⟨h0, h1⟩
     simp only [hin, and_self, if_true, run_bind, run_size hti, run_pure, add_none, hs, hsz]
     simp
 · rename_i e te j lo m sz k n he
   obtain ⟨hu, hte⟩ := elemOf_spec hT he
   obtain ⟨ti, z0, hti, hsz, _, _, _, hud, _⟩ := tab hT hte
   simp only [Rep] at hi hx
   subst hi
   simp only [out, Option.some.injEq] at h
   subst h
   simp only at hob
   obtain ⟨h0, h1, hs⟩ := hob
   rcases hx with ⟨_, rfl, rfl⟩ | ⟨b, off, cap, T', m', hb, rfl, h2, h5, h3, h4⟩
   · omega
   · have ho : off = lo * sz := by
       rcases h5 with h | ⟨h, _⟩
       · exact h
       · omega
     refine ⟨.pointer (some ⟨b, (lo + n.toNat) * sz + 0, none⟩), ?_, by simp only [Rep]; exact ⟨b, hb, rfl⟩, rfl⟩
     simp only [Instr.indexAt, run_bind, asIntOf, run_pure, run_underlying hu]
     have hin : 0 ≤ n ∧ n < (m : Int) := ⟨h0, h1⟩
     simp only [hin, and_self, if_true, run_bind, run_size hti, run_pure, add_none, hs, hsz]
     simp [ho, hs, Nat.add_mul]
 · rename_i i sz k off kk n he
   split at h
   · rename_i len te harr
     have : ∃ e, P.underlying t = some (.array len e) ∧ T e = some te := by
       unfold arrOf at harr
       split at harr
       · rename_i len' e hd
         split at harr
         · rename_i te' hte
           simp only [Option.some.injEq, Prod.mk.injEq] at harr
           obtain ⟨rfl, rfl⟩ := harr
           exact ⟨e, tab_desc hT hd, hte⟩
         · simp at harr
       · simp at harr
     obtain ⟨e, hu, hte⟩ := this
     obtain ⟨ti, z0, hti, hsz, _, _, _, hud, _⟩ := tab hT hte
     simp only [Rep] at hi hx
     subst hi
     simp only [out, Option.some.injEq] at h
     subst h
     simp only at hob
     obtain ⟨h0, h1⟩ := hob
     obtain ⟨b, hb, rfl⟩ := hx
     refine ⟨.pointer (some ⟨b, k * sz + (off + n.toNat * te.size), none⟩), ?_, by simp only [Rep]; exact ⟨b, hb, rfl⟩, rfl⟩
     simp only [Instr.indexAt, run_bind, asIntOf, run_pure, run_underlying hu, Instr.sureAddr]
     have hin : 0 ≤ n ∧ n < (len : Int) := ⟨h0, h1⟩
     simp only [hin, and_self, if_true, run_bind, run_size hti, run_pure, add_none, hsz, Nat.add_assoc]
   · simp at h
 · simp at h
theorem cell_block {b : Nat} {c : Array Value} {ty : TypeId} {fr : Nat × Nat} (h : w.heap[b]? = some (.cells c ty fr)) (o : Nat) : w.cell? ⟨b, o, none⟩ = c[o]? := by
 simp [World.cell?, h]
theorem cellsAt_block {b : Nat} {c : Array Value} {ty : TypeId} {fr : Nat × Nat} (h : w.heap[b]? = some (.cells c ty fr)) {vs rest : List Value} (hc : c.toList = vs ++ rest) : cellsAt w b 0 vs := by
 intro j v hv
 rw [cell_block h, Nat.zero_add, ← Array.getElem?_toList, hc, List.getElem?_append_left]
 · exact hv
 · rcases Nat.lt_or_ge j vs.length with h | h
   · exact h
   · rw [List.getElem?_eq_none h] at hv; cases hv
theorem cellsAt.take {b off : Nat} {vs : List Value} (h : cellsAt w b off vs) (n : Nat) : cellsAt w b off (vs.take n) := by
 intro j v hv
 refine h j v ?_
 by_cases hj : j < n
 · rwa [List.getElem?_take_of_lt hj] at hv
 · rw [List.getElem?_eq_none (by simp; omega)] at hv; cases hv
theorem run_loadVar {t : TypeId} {ti : TI} (hT : TabOk P T) (ht : T t = some ti) {b off : Nat} {vs : List Value} {z : Value} (hc : cellsAt w b off vs)
   (h1 : ti.isAgg = true → z = .agg (vs.take ti.size).toArray ∧ ti.size ≤ vs.length) (h2 : ti.isAgg = false → ∃ rest, vs = z :: rest) :
   (loadVar t ⟨b, off, none⟩).run P w = .ok z w := by
 obtain ⟨i, z0, hi, hsz, _, _, _, hud, _⟩ := tab hT ht
 unfold loadVar
 simp only [run_bind, run_isAgg hud]
 by_cases ha : ti.isAgg = true
 · obtain ⟨rfl, hle⟩ := h1 ha
   have e : aggD ti.desc = true := ha
   simp only [e, if_true, run_bind, run_size hi, hsz]
   rw [run_loadCells (hc.take ti.size) (by simp; omega)]
   rfl
 · obtain ⟨rest, rfl⟩ := h2 (by simpa using ha)
   have e : aggD ti.desc = false := by simpa [TI.isAgg] using ha
   simp only [e, if_false, Bool.false_eq_true]
   have := hc 0 z rfl
   exact run_load (by simpa using this)
theorem Good.elem {i : Nat} {e : Ent} (hg : Good X w β hp) (hi : hp i = some e) {k : Nat} {c : List AV} (hk : e.es[k]? = some c) :
   ∃ b cs fr v1 u v2 rest, β i = some (some b) ∧ w.heap[b]? = some (.cells cs e.ty fr) ∧ (∀ o, o < cs.size → fr.1 = fr.2 ∨ o < fr.1) ∧ cs.toList = v1 ++ u ++ v2 ++ rest ∧ v1.length = k * e.sz ∧
     RepL w β (Own X β hp) c u ∧ RepE w β (Own X β hp) e.sz (e.es.take k) v1 ∧ RepE w β (Own X β hp) e.sz (e.es.drop (k + 1)) v2 ∧ c.length = e.sz := by
 rcases hg.ent i e hi with ⟨_, h⟩ | ⟨b, cs, fr, vs, rest, h1, h2, h3, h4, h5⟩
 · rw [h] at hk; simp at hk
 · obtain ⟨v1, u, v2, rfl, ha, hb, hc, hd⟩ := h5.at k c hk
   exact ⟨b, cs, fr, v1, u, v2, rest, h1, h2, h3, h4, ha, hb, hc, hd, h5.mem c (List.mem_of_getElem? hk)⟩
theorem load_sound (hT : TabOk P T) (hg : Good X w β hp) {t : TypeId} {x : AV} {u : Value} {r : Out} (h : aLoad T hp t x = some r) (hob : r.ob)
   (hx : Rep w β (Own X β hp) x u) : ∃ z, (Instr.loadAt t u).run P w = .ok z w ∧ Rep w β (Own X β hp) r.v z ∧ r.hw = [] := by
 unfold aLoad at h
 split at h
 · rename_i ti cs ht
   simp only [Rep] at hx
   obtain ⟨b, off, vs, rfl, h1, h2, h3, h4⟩ := hx
   obtain ⟨_, hw, z, hz, ha, hb⟩ := part_sound hT ht h hob h4
   refine ⟨z, ?_, hz.up, hw⟩
   simp only [Instr.loadAt, run_bind, Instr.sureAddr, run_pure]
   exact run_loadVar hT ht h3 ha hb
 · rename_i ti i sz k off ht
   simp only [Rep] at hx
   obtain ⟨b, hb, rfl⟩ := hx
   split at h
   · rename_i e he
     split at h
     · rename_i c hc
       obtain ⟨b', cs, fr, v1, cu, v2, rest, hb', hheap, _, hcs, hv1, hcu, _, _, _⟩ := hg.elem he hc
       obtain rfl : b = b' := by rw [hb] at hb'; simpa using hb'
       obtain ⟨hsz, hw, z, hz, ha, hb2⟩ := part_sound hT ht h hob (hcu.drop off)
       refine ⟨z, ?_, hz, hw⟩
       simp only [Instr.loadAt, run_bind, Instr.sureAddr, run_pure]
       have hca : cellsAt w b 0 (v1 ++ cu ++ v2) := cellsAt_block hheap hcs
       have := (hca.mid).drop off
       rw [hv1, hsz, Nat.zero_add] at this
       exact run_loadVar hT ht this ha hb2
     · simp at h
   · simp at h
 · simp at h
theorem bound_sound {env : Env} {a : Act} (henv : EnvOk w β O env a.tmps) {d l y : Nat} {p : Prop} {lo : Option Operand} (h : aBound env d lo = some (l, p)) (hp : p) (hle : l ≤ y) (code : BoundsCode) :
   (match (lo.map a.eval : Option Value) with | some v => Instr.sliceBound v y code | none => (pure d : Sem Nat)).run P w = .ok l w := by
 cases lo with
 | none =>
   simp only [aBound, Option.some.injEq, Prod.mk.injEq] at h
   obtain ⟨rfl, _⟩ := h
   rfl
 | some x =>
   simp only [aBound] at h
   split at h
   · rename_i k n hx
     simp only [Option.some.injEq, Prod.mk.injEq] at h
     obtain ⟨rfl, rfl⟩ := h
     have hr := evA_rep henv x
     rw [hx] at hr
     simp only [Rep] at hr
     have hin : 0 ≤ n ∧ n ≤ (y : Int) := ⟨hp, by omega⟩
     simp [hr, Instr.sliceBound, run_bind, asIntOf, run_pure, hin]
   · simp at h
end pure
section pure
variable {X : Nat → Prop} {P : Program} {T : Tab} {w : World} {β : Gm} {hp : Hp} {nb : Nat} {O : Nat → Prop}
theorem run_bounds {env : Env} {a : Act} (henv : EnvOk w β O env a.tmps) {len cap l h : Nat} {p q : Prop} {lo hi : Option Operand} (isS : Bool)
   (h1 : aBound env 0 lo = some (l, p)) (h2 : aBound env len hi = some (h, q)) (hp : p) (hq : q) (hl : l ≤ h) (hh : h ≤ cap) :
   (Instr.sliceBounds isS len cap (lo.map a.eval) (hi.map a.eval) none).run P w = .ok (l, h, cap) w := by
 unfold Instr.sliceBounds
 simp only [run_bind, run_pure]
 have e2 := bound_sound (P := P) henv h2 hq hh (if isS then .sliceAcap else .sliceAlen)
 have e1 := bound_sound (P := P) henv h1 hp hl .sliceB
 cases hi with
 | none =>
   simp only [Option.map_none] at e2 ⊢
   have : len = h := by simpa [aBound] using (show _ from by simp only [aBound, Option.some.injEq, Prod.mk.injEq] at h2; exact h2.1)
   subst this
   cases lo with
   | none => simp only [Option.map_none] at e1 ⊢; simp only [run_pure] at e1; simp at e1; subst e1; rfl
   | some x => simp only [Option.map_some] at e1 ⊢; simp only [Option.isSome_none, Bool.false_eq_true, if_false, run_bind, run_pure, e1]
 | some y =>
   simp only [Option.map_some] at e2 ⊢
   cases lo with
   | none => simp only [Option.map_none] at e1 ⊢; simp only [run_pure] at e1; simp at e1; subst e1; simp only [run_bind, run_pure, e2]
   | some x => simp only [Option.map_some] at e1 ⊢; simp only [Option.isSome_none, Bool.false_eq_true, if_false, run_bind, run_pure, e1, e2]
theorem bytes_extract (s : ByteArray) (l h : Nat) : s.extract l h = ⟨(((bl s).take h).drop l).toArray⟩ := by
 apply ByteArray.ext
 apply Array.ext'
 simp [bl, ByteArray.data_extract, List.extract, List.drop_take]
theorem RepE.cut {sz : Nat} {es : List (List AV)} {vs : List Value} (h : RepE w β O sz es vs) {l k : Nat} (hl : l ≤ k) (hk : k ≤ es.length) :
   ∃ v1 u v2, vs = v1 ++ u ++ v2 ∧ v1.length = l * sz ∧ RepE w β O sz ((es.take k).drop l) u := by
 have e : es = es.take l ++ ((es.take k).drop l ++ es.drop k) := by
   rw [← List.append_assoc]
   have : es.take l = (es.take k).take l := by rw [List.take_take, Nat.min_eq_left hl]
   rw [this, List.take_append_drop, List.take_append_drop]
 rw [e] at h
 obtain ⟨v1, r, rfl, h1, h2⟩ := h.split
 obtain ⟨u, v2, rfl, h3, h4⟩ := h2.split
 refine ⟨v1, u, v2, by simp, ?_, h3⟩
 rw [h1.length, List.length_take, Nat.min_eq_left (by omega)]
theorem slice_sound (hT : TabOk P T) {env : Env} {a : Act} (henv : EnvOk w β O env a.tmps) {t : TypeId} {x : AV} {u : Value} {r : Out} {lo hi : Option Operand} (h : aSlice T t x env lo hi = some r) (hob : r.ob)
   (hx : Rep w β O x u) : ∃ z, (Instr.sliceAt t u (lo.map a.eval) (hi.map a.eval) none).run P w = .ok z w ∧ Rep w β O r.v z ∧ r.hw = [] := by
 unfold aSlice at h
 split at h
 · rename_i s hd
   simp only [Rep] at hx
   subst hx
   split at h
   · rename_i l p hh q h1 h2
     simp only [out, Option.some.injEq] at h
     subst h
     simp only at hob
     obtain ⟨hp', hq, hl, hlen⟩ := hob
     refine ⟨.string (s.extract l hh), ?_, by simp only [Rep, bytes_extract], rfl⟩
     have hb := run_bounds (P := P) henv (cap := s.size) false h1 h2 hp' hq hl (by rw [bytes_size]; exact hlen)
     rw [← bytes_size] at hb
     simp only [Instr.sliceAt, run_bind, run_underlying (tab_desc hT hd), Instr.slice, Option.isSome_none, Bool.false_eq_true, if_false, run_pure, hb]
   · simp at h
 · rename_i e sz es hd
   split at h
   · rename_i l p hh q te h1 h2 hte
     obtain ⟨ti, z0, hti, hsz, _, _, _, hud, _⟩ := tab hT hte
     simp only [out, Option.some.injEq] at h
     subst h
     simp only at hob
     obtain ⟨hp', hq, hl, hlen, hs⟩ := hob
     have hu := tab_desc hT hd
     simp only [Rep] at hx
     rcases hx with ⟨rfl, rfl⟩ | ⟨b, off, cap, vs, rfl, g1, g2, g3, g4, g5⟩
     · have hb := run_bounds (P := P) henv (cap := 0) true h1 h2 hp' hq hl (by simpa using hlen)
       simp only [List.length_nil] at hb hlen
       refine ⟨.slice none 0 0, ?_, by simp [Rep], rfl⟩
       simp only [Instr.sliceAt, run_bind, run_underlying hu, Instr.slice, hb, run_size hti, run_pure]
       have : l = 0 := by omega
       have : hh = 0 := by omega
       subst_vars; rfl
     · have hb := run_bounds (P := P) henv (cap := cap) true h1 h2 hp' hq hl (by omega)
       obtain ⟨v1, cu, v2, rfl, hv1, hcu⟩ := g5.cut hl hlen
       refine ⟨.slice (if cap = l then some ⟨b, off, none⟩ else some ⟨b, off + l * sz, none⟩) (hh - l) (cap - l), ?_, ?_, rfl⟩
       · simp only [Instr.sliceAt, run_bind, run_underlying hu, Instr.slice, hb, run_size hti, run_pure, Option.map_some, add_none]
         rw [hsz, hs]
       · simp only [Rep]
         right
         have hlen2 : ((es.take hh).drop l).length = hh - l := by simp; omega
         by_cases hc : cap = l
         · rw [if_pos hc]
           have : ((es.take hh).drop l) = [] := List.eq_nil_of_length_eq_zero (by omega)
           refine ⟨b, off, cap - l, [], by rw [hlen2], by omega, g2, g3, by intro j v hv; simp at hv, by rw [this]; simp [RepE]⟩
         · rw [if_neg hc]
           refine ⟨b, off + l * sz, cap - l, cu, by rw [hlen2], by omega, g2, g3, ?_, hcu⟩
           have := g4.mid
           rw [hv1] at this; exact this
   · simp at h
 · rename_i e hd
   simp only [Rep] at hx
   subst hx
   split at h
   · rename_i l p hh q te h1 h2 hte
     obtain ⟨ti, z0, hti, hsz, _, _, _, hud, _⟩ := tab hT hte
     simp only [out, Option.some.injEq] at h
     subst h
     simp only at hob
     obtain ⟨hp', hq, rfl, rfl⟩ := hob
     have hu := tab_desc hT hd
     have hb := run_bounds (P := P) henv (cap := 0) true h1 h2 hp' hq (Nat.le_refl _) (Nat.le_refl _)
     refine ⟨.slice none 0 0, ?_, by simp [Rep], rfl⟩
     simp only [Instr.sliceAt, run_bind, run_underlying hu, Instr.slice, hb, run_size hti, run_pure]
     rfl
   · simp at h
 · rename_i e i n sz hd
   split at h
   · rename_i l p hh q te h1 h2 hte
     obtain ⟨ti, z0, hti, hsz, _, _, _, hud, _⟩ := tab hT hte
     simp only [out, Option.some.injEq] at h
     subst h
     simp only at hob
     obtain ⟨hp', hq, hl, hlen, hs⟩ := hob
     have hu := tab_desc hT hd
     simp only [Rep] at hx
     rcases hx with ⟨hbi, rfl, rfl⟩ | ⟨b, cap, T', m, hbi, rfl, g1, g2, g3⟩
     · have hb := run_bounds (P := P) henv (cap := 0) true h1 h2 hp' hq hl hlen
       refine ⟨.slice none 0 0, ?_, by simp only [Rep]; exact .inl ⟨hbi, by simp, by omega⟩, rfl⟩
       simp only [Instr.sliceAt, run_bind, run_underlying hu, Instr.slice, hb, run_size hti, run_pure]
       have : l = 0 := by omega
       have : hh = 0 := by omega
       subst_vars; rfl
     · have hb := run_bounds (P := P) henv (cap := cap) true h1 h2 hp' hq hl (by omega)
       refine ⟨.slice (if cap = l then some ⟨b, 0, none⟩ else some ⟨b, 0 + l * sz, none⟩) (hh - l) (cap - l), ?_, ?_, rfl⟩
       · simp only [Instr.sliceAt, run_bind, run_underlying hu, Instr.slice, hb, run_size hti, run_pure, Option.map_some, add_none]
         rw [hsz, hs]
       · simp only [Rep]
         right
         by_cases hc : cap = l
         · rw [if_pos hc]
           exact ⟨b, 0, cap - l, T', m, hbi, by simp, by omega, .inr ⟨by omega, by omega, by simp⟩, g2, by rw [hc]; simp⟩
         · rw [if_neg hc]
           refine ⟨b, 0 + l * sz, cap - l, T', m, hbi, by simp, by omega, .inl (by omega), g2, ?_⟩
           have : l * sz + (cap - l) * sz = cap * sz := by rw [← Nat.add_mul]; congr 1; omega
           omega
   · simp at h
 · simp at h
/-- The bytes of cells that hold bytes. -/
theorem run_bytes {f : Value → ByteArray → Sem (ForInStep ByteArray)} (hf : ∀ n r, f (.int .u8 n) r = pure (.yield (r.push (UInt8.ofNat n.toNat)))) :
   ∀ (es : List (List AV)) (vs : List Value) (s : ByteArray), RepE w β O 1 es vs → (∀ c ∈ es, isByte c = true) → (forIn vs s f).run P w = .ok ⟨((bl s) ++ eBytes es).toArray⟩ w
 | [], vs, s, h, hb => by
   simp only [RepE] at h; subst h
   simp [run_pure, eBytes, bl]
 | c :: cs, vs, s, h, hb => by
   simp only [RepE] at h
   obtain ⟨u, r, rfl, h1, h2, h3⟩ := h
   have hc := hb c (by simp)
   unfold isByte at hc
   split at hc
   · rename_i n
     simp only [RepL, Rep] at h2
     obtain ⟨v, r', rfl, rfl, rfl⟩ := h2
     have ih := run_bytes hf cs r (s.push (UInt8.ofNat n.toNat)) h3 (fun c hc => hb c (by simp [hc]))
     simp only [List.cons_append, List.nil_append, List.forIn_cons, run_bind, run_pure, hf]
     rw [ih]
     simp [bl, eBytes, byteOf1]
   · simp at hc
theorem repE_bytes {sz : Nat} : ∀ {es : List (List AV)} {vs : List Value}, RepE w β O sz es vs → (∀ c ∈ es, isByte c = true) → RepE w β O 1 es vs
 | [], vs, h, _ => by simpa [RepE] using h
 | c :: cs, vs, h, hb => by
   simp only [RepE] at h ⊢
   obtain ⟨u, r, rfl, h1, h2, h3⟩ := h
   refine ⟨u, r, rfl, ?_, h2, repE_bytes h3 (fun c hc => hb c (by simp [hc]))⟩
   have hc := hb c (by simp)
   unfold isByte at hc
   split at hc
   · rfl
   · simp at hc
end pure
section mem
variable {X : Nat → Prop} {P : Program} {T : Tab} {w w' : World} {β β' : Gm} {hp hp' : Hp} {nb : Nat}
theorem getElem?_lt {α : Type} {a : Array α} {i : Nat} {x : α} (h : a[i]? = some x) : i < a.size := by
 rcases Nat.lt_or_ge i a.size with h' | h'
 · exact h'
 · simp [Array.getElem?_eq_none h'] at h
theorem shape_lt {b : Nat} {s : TypeId × Nat} (h : w.shape? b = some s) : b < w.heap.size := by
 unfold World.shape? at h
 split at h
 · rename_i hb; exact getElem?_lt hb
 · simp at h
theorem shape_of_heap {b : Nat} (h : w'.heap[b]? = w.heap[b]?) : w'.shape? b = w.shape? b := by simp [World.shape?, h]
theorem Good.lt (hg : Good X w β hp) {i : Nat} {e : Ent} {b : Nat} (hi : hp i = some e) (hb : β i = some (some b)) : b < w.heap.size := by
 rcases hg.ent i e hi with ⟨h, _⟩ | ⟨b', c, fr, vs, rest, h1, h2, _⟩
 · rw [hb] at h; simp at h
 · rw [hb] at h1; simp at h1; subst h1; exact getElem?_lt h2
theorem Good.some (hg : Good X w β hp) {i : Nat} {e : Ent} (hi : hp i = some e) : β i ≠ none := by
 rcases hg.ent i e hi with ⟨h, _⟩ | ⟨b', c, fr, vs, rest, h1, h2, _⟩
 · rw [h]; simp
 · rw [h1]; simp
theorem Good.fresh (hg : Good X w β hp) {i : Nat} (h : β i = none) : hp i = none := by
 cases hi : hp i with
 | none => rfl
 | some e => exact absurd h (hg.some hi)
theorem Own.lt (hg : Good X w β hp) {b : Nat} (h : Own X β hp b) : b < w.heap.size := by
 rcases h with hX | ⟨i, e, hi, hb⟩
 · exact hg.xlt b hX
 · exact hg.lt hi hb
theorem EntOk.mono {O O' : Nat → Prop} (h : Stab w w' β β' O O') {i : Nat} {e : Ent} (he : EntOk w β O (β i) e) (hk : ∀ b, β i = some (some b) → w'.heap[b]? = w.heap[b]?) : EntOk w' β' O' (β' i) e := by
 rcases he with ⟨h1, h2⟩ | ⟨b, c, fr, vs, rest, h1, h2, h3, h4, h5⟩
 · exact .inl ⟨h.gm _ _ h1, h2⟩
 · exact .inr ⟨b, c, fr, vs, rest, h.gm _ _ h1, by rw [hk b h1]; exact h2, h3, h4, RepE.mono h _ _ _ h5⟩
theorem good_of (hg : Good X w β hp) (hf : Frm w (Own X β hp) w' (Own X β' hp')) (hx : GmExt β β')
   (hinj : ∀ i j e e' b, hp' i = some e → hp' j = some e' → β' i = some (some b) → β' j = some (some b) → i = j)
   (h : ∀ j e, hp' j = some e → EntOk w' β' (Own X β' hp') (β' j) e ∨ (hp j = some e ∧ ∀ b, β j = some (some b) → w'.heap[b]? = w.heap[b]?))
   (hxd : ∀ j e b, hp' j = some e → β' j = some (some b) → ¬ X b) : Good X w' β' hp' := by
 refine ⟨hinj, fun j e hj => ?_, hxd, fun b hb => Nat.lt_of_lt_of_le (hg.xlt b hb) hf.size, hf.laid hg.laid⟩
 rcases h j e hj with h | ⟨h1, h2⟩
 · exact h
 · exact (hg.ent j e h1).mono (hf.stab hx) h2
/-- The ghost map with one more block. -/
def gmSet (β : Gm) (i : Nat) (p : Option Nat) : Gm := fun j => if j = i then some p else β j
theorem gmSet_ext {i : Nat} {p : Option Nat} (h : β i = none) : GmExt β (gmSet β i p) := by
 intro j q hj
 unfold gmSet
 split
 · rename_i e; subst e; rw [h] at hj; cases hj
 · exact hj
theorem gmSet_new {i : Nat} {p : Option Nat} (hi : nb ≤ i) (hi' : i < nb + 8) : ∀ j, gmSet β i p j ≠ none → β j ≠ none ∨ (nb ≤ j ∧ j < nb + 8) := by
 intro j hj
 unfold gmSet at hj
 split at hj
 · rename_i e; subst e; exact .inr ⟨hi, hi'⟩
 · exact .inl hj
@[simp] theorem gmSet_same {i : Nat} {p : Option Nat} : gmSet β i p i = some p := by simp [gmSet]
theorem gmSet_ne {i j : Nat} {p : Option Nat} (h : j ≠ i) : gmSet β i p j = β j := by simp [gmSet, h]
def hpSet (hp : Hp) (i : Nat) (e : Option Ent) : Hp := fun j => if j = i then e else hp j
@[simp] theorem setHp_nil : setHp hp [] = hp := rfl
theorem setHp_cons {i : Nat} {e : Option Ent} {r : List (Nat × Option Ent)} : setHp hp ((i, e) :: r) = setHp (hpSet hp i e) r := rfl
@[simp] theorem hpSet_same {i : Nat} {e : Option Ent} : hpSet hp i e i = e := by simp [hpSet]
theorem hpSet_ne {i j : Nat} {e : Option Ent} (h : j ≠ i) : hpSet hp i e j = hp j := by simp [hpSet, h]
theorem frm_push (hg : Good X w β hp) (o : Obj) {O' : Nat → Prop} (hO : ∀ b, O' b → Own X β hp b ∨ b = w.heap.size) {w' : World} (hh : w'.heap = w.heap.push o) (h1 : w'.os = w.os) (h2 : w'.tape = w.tape) (h3 : w'.output = w.output) :
   Frm w (Own X β hp) w' O' := by
 have key : ∀ b, b < w.heap.size → w'.heap[b]? = w.heap[b]? := fun b hb => by rw [hh, Array.getElem?_push, if_neg (by omega)]
 refine ⟨h1, h2, h3, by rw [hh]; simp, fun b hb _ => key b hb, fun b hb => ?_, fun b s hs => by rw [shape_of_heap (key b (shape_lt hs))]; exact hs⟩
 rcases hO b hb with h | h
 · exact .inl h
 · exact .inr (by omega)
/-- A new block under a new id. -/
theorem post_alloc (hg : Good X w β hp) (hn : β nb = none) {e : Ent} {c : Array Value} {fr : Nat × Nat} {vs rest : List Value} {r : Out} {v : Value} (hw : r.hw = [(nb, some e)])
   (hfr : ∀ o, o < c.size → fr.1 = fr.2 ∨ o < fr.1) (hc : c.toList = vs ++ rest) (hv : RepE w β (Own X β hp) e.sz e.es vs)
   {w' : World} (hh : w'.heap = w.heap.push (.cells c e.ty fr)) (h1 : w'.os = w.os) (h2 : w'.tape = w.tape) (h3 : w'.output = w.output)
   (hrep : ∀ O', w'.shape? w.heap.size = some (e.ty, c.size) → Rep w' (gmSet β nb (some w.heap.size)) O' r.v v) : Post X w β hp nb r v w' (gmSet β nb (some w.heap.size)) := by
 have hnone : hp nb = none := hg.fresh hn
 have hhp : setHp hp r.hw = hpSet hp nb (some e) := by rw [hw]; rfl
 have hO : ∀ b, Own X (gmSet β nb (some w.heap.size)) (hpSet hp nb (some e)) b → Own X β hp b ∨ b = w.heap.size := by
   rintro b (hX | ⟨i, e', hi, hb⟩)
   · exact .inl (.inl hX)
   by_cases h : i = nb
   · subst h; simp at hb; exact .inr hb.symm
   · rw [hpSet_ne h] at hi; rw [gmSet_ne h] at hb; exact .inl (.inr ⟨i, e', hi, hb⟩)
 have hf := frm_push (O' := Own X (gmSet β nb (some w.heap.size)) (hpSet hp nb (some e))) hg (.cells c e.ty fr) hO hh h1 h2 h3
 have hx : GmExt β (gmSet β nb (some w.heap.size)) := gmSet_ext hn
 have hnew : w'.heap[w.heap.size]? = some (.cells c e.ty fr) := by rw [hh]; simp
 have hgood : Good X w' (gmSet β nb (some w.heap.size)) (hpSet hp nb (some e)) := by
   refine good_of hg hf hx ?_ ?_ ?_
   · intro i j e1 e2 b hi hj hbi hbj
     by_cases h : i = nb
     · by_cases h' : j = nb
       · rw [h, h']
       · subst h
         rw [hpSet_ne h'] at hj; rw [gmSet_ne h'] at hbj; simp at hbi
         have := hg.lt hj hbj; omega
     · by_cases h' : j = nb
       · subst h'
         rw [hpSet_ne h] at hi; rw [gmSet_ne h] at hbi; simp at hbj
         have := hg.lt hi hbi; omega
       · rw [hpSet_ne h] at hi; rw [gmSet_ne h] at hbi; rw [hpSet_ne h'] at hj; rw [gmSet_ne h'] at hbj
         exact hg.inj i j _ _ b hi hj hbi hbj
   · intro j e1 hj
     by_cases h : j = nb
     · subst h
       simp at hj
       subst hj
       left
       refine .inr ⟨w.heap.size, c, fr, vs, rest, by simp, hnew, hfr, hc, RepE.mono (hf.stab hx) _ _ _ hv⟩
     · rw [hpSet_ne h] at hj
       refine .inr ⟨hj, fun b hb => ?_⟩
       have := hg.lt hj hb
       rw [hh, Array.getElem?_push, if_neg (by omega)]
   · intro j e1 b hj hb hX
     by_cases h : j = nb
     · subst h; simp at hb; have := hg.xlt b hX; omega
     · rw [hpSet_ne h] at hj; rw [gmSet_ne h] at hb; exact hg.xdis j e1 b hj hb hX
 have hkx : ∀ b, X b → w'.heap[b]? = w.heap[b]? := fun b hb => by
   have := hg.xlt b hb
   rw [hh, Array.getElem?_push, if_neg (by omega)]
 exact ⟨by rw [hhp]; exact hrep _ (by simp [World.shape?, hnew]), by rw [hhp]; exact hgood, by rw [hhp]; exact hf, hx, hkx, gmSet_new (Nat.le_refl _) (by omega)⟩
theorem acells_spec {O : Nat → Prop} {a : AV} {cs : List AV} {v : Value} (h : acells a = some cs) (hr : Rep w β O a v) : RepL w β O cs v.cells.toList := by
 unfold acells at h
 split at h <;> simp only [Option.some.injEq, reduceCtorEq] at h
 · subst h
   simp only [Rep] at hr
   obtain ⟨vs, rfl, hl⟩ := hr
   simpa [Value.cells] using hl
 · subst h
   rename_i h1 h2 h3 h4 h5
   simp only [RepL]
   refine ⟨v, [], ?_, hr, rfl⟩
   cases a with
   | any => exact absurd rfl h1
   | val u =>
     simp only [Rep] at hr; subst hr
     cases v <;> first | rfl | exact absurd rfl (h3 _)
   | agg cs => exact absurd rfl (h5 _)
   | tup cs => exact absurd rfl (h2 _)
   | sl sz es => simp only [Rep] at hr; rcases hr with ⟨rfl, _⟩ | ⟨b, off, cap, vs, rfl, _⟩ <;> rfl
   | rp cs => simp only [Rep] at hr; obtain ⟨b, off, vs, rfl, _⟩ := hr; rfl
   | osl i n sz => simp only [Rep] at hr; rcases hr with ⟨_, rfl, _⟩ | ⟨b, cap, T, m, _, rfl, _⟩ <;> rfl
   | ptr i sz k off => simp only [Rep] at hr; obtain ⟨b, _, rfl⟩ := hr; rfl
   | osv i lo n sz => simp only [Rep] at hr; rcases hr with ⟨_, rfl, _⟩ | ⟨b, off, cap, T, m, _, rfl, _⟩ <;> rfl
theorem run_newVar {t : TypeId} {v : Value} : (newVar t v).run P w = .ok ⟨w.heap.size, 0, none⟩ { w with heap := w.heap.push (.cells v.cells t) } := by
 simp [newVar, newRow, newObj, run_bind, run_pure, Sem.run]
theorem box_sound (hg : Good X w β hp) (hn : β nb = none) {el : TypeId} {x : AV} {u : Value} {cs : List AV} (h : acells x = some cs) (hx : Rep w β (Own X β hp) x u) :
   ∃ v w', (Instr.box el u).run P w = .ok v w' ∧ Post X w β hp nb { v := .ptr nb cs.length 0 0, hw := [(nb, some ⟨el, cs.length, [cs]⟩)] } v w' (gmSet β nb (some w.heap.size)) := by
 have hc := acells_spec h hx
 refine ⟨.pointer (some ⟨w.heap.size, 0, none⟩), _, by simp only [Instr.box, run_bind, run_newVar, run_pure]; rfl, ?_⟩
 refine post_alloc hg hn (c := u.cells) (fr := (0, 0)) (vs := u.cells.toList) (rest := []) rfl (by intro o _; exact .inl rfl) (by simp) ?_ rfl rfl rfl rfl ?_
 · simp only [RepE]; exact ⟨_, [], by simp, trivial, hc, rfl⟩
 · intro O' _
   simp only [Rep]; exact ⟨_, gmSet_same, by simp⟩
theorem alloc_sound (hT : TabOk P T) (hg : Good X w β hp) (hn : β nb = none) {el : TypeId} {ti : TI} (h : T el = some ti) :
   ∃ v w', (Instr.alloc el true (.tuple #[])).run P w = .ok v w' ∧ Post X w β hp nb { v := .ptr nb ti.zero.length 0 0, hw := [(nb, some ⟨el, ti.zero.length, [ti.zero.map .val]⟩)] } v w' (gmSet β nb (some w.heap.size)) := by
 obtain ⟨i, z, hi, hsz, _, hz, hzc, hud, _⟩ := tab hT h
 refine ⟨.pointer (some ⟨w.heap.size, 0, none⟩), _, by simp only [Instr.alloc, run_bind, run_zero hi hz, run_newVar, run_pure]; rfl, ?_⟩
 refine post_alloc hg hn (c := z.cells) (fr := (0, 0)) (vs := ti.zero) (rest := []) rfl (by intro o _; exact .inl rfl) (by simp [hzc]) ?_ rfl rfl rfl rfl ?_
 · simp only [RepE]; exact ⟨_, [], by simp, by simp, repL_vals _, rfl⟩
 · intro O' _
   simp only [Rep]; exact ⟨_, gmSet_same, by simp⟩
def setBlk (w : World) (b : Nat) (o : Obj) : World := { w with heap := w.heap.setIfInBounds b o }
theorem setBlk_heap {b j : Nat} {o : Obj} (hb : b < w.heap.size) : (setBlk w b o).heap[j]? = if j = b then some o else w.heap[j]? := by
 simp only [setBlk, Array.getElem?_setIfInBounds]
 by_cases h : b = j
 · subst h; simp [hb]
 · rw [if_neg h, if_neg (fun h' => h h'.symm)]
theorem setCell_eq {b off : Nat} {v : Value} {c : Array Value} {ty : TypeId} {fr : Nat × Nat} (h : w.heap[b]? = some (.cells c ty fr)) :
   w.setCell ⟨b, off, none⟩ v = setBlk w b (.cells (c.setIfInBounds off v) ty fr) := by
 simp only [World.setCell, setBlk]
 congr 1
 apply Array.ext_getElem?
 intro j
 simp only [Array.getElem?_modify, Array.getElem?_setIfInBounds]
 by_cases hj : b = j
 · subst hj; simp only [h, getElem?_lt h, if_true, Option.map_some]; simp
 · simp [hj]
def putL (c : Array Value) (off : Nat) : List Value → Array Value
 | [] => c
 | v :: vs => putL (c.setIfInBounds off v) (off + 1) vs
theorem putL_size : ∀ (vs : List Value) (c : Array Value) (off : Nat), (putL c off vs).size = c.size
 | [], c, off => rfl
 | v :: vs, c, off => by rw [putL, putL_size vs]; simp
theorem putL_list : ∀ (vs : List Value) (c : Array Value) (off : Nat), off + vs.length ≤ c.size → (putL c off vs).toList = c.toList.take off ++ (vs ++ c.toList.drop (off + vs.length))
 | [], c, off, h => by simp [putL]
 | v :: vs, c, off, h => by
   simp only [List.length_cons] at h
   rw [putL, putL_list vs _ _ (by simp; omega)]
   have hl : off < c.toList.length := by simp; omega
   simp only [Array.toList_setIfInBounds, List.length_cons, List.set_eq_take_append_cons_drop, if_pos hl]
   have hA : (c.toList.take off).length = off := by simp at hl ⊢; omega
   generalize hP : c.toList.take off = A at hA
   have h1 : (A ++ v :: c.toList.drop (off + 1)).take (off + 1) = A ++ [v] := by
     rw [List.take_append, hA, List.take_of_length_le (by omega)]; simp
   have h2 : (A ++ v :: c.toList.drop (off + 1)).drop (off + 1 + vs.length) = c.toList.drop (off + (vs.length + 1)) := by
     rw [List.drop_append, hA, List.drop_of_length_le (by omega), show off + 1 + vs.length - off = vs.length + 1 by omega]
     simp only [List.drop_succ_cons, List.drop_drop, List.nil_append]
     congr 1; omega
   rw [h1, h2]; simp
def plainV : Value → Bool
 | .agg _ => false
 | .tuple _ => false
 | _ => true
theorem run_store {b off : Nat} {v : Value} {c : Array Value} {ty : TypeId} {fr : Nat × Nat} (h : w.heap[b]? = some (.cells c ty fr)) (ho : off < c.size) (hfr : ¬ (fr.1 ≤ off ∧ off < fr.2)) (hv : plainV v = true) :
   (store ⟨b, off, none⟩ v).run P w = .ok () (setBlk w b (.cells (c.setIfInBounds off v) ty fr)) := by
 have hcell : w.cell? ⟨b, off, none⟩ = some c[off] := by rw [cell_block h]; simp [ho]
 have hf : w.frozen? ⟨b, off, none⟩ = false := by
   simp only [World.frozen?, h]
   simp only [Bool.and_eq_false_iff, decide_eq_false_iff_not]
   by_cases h1 : fr.1 ≤ off
   · exact .inr (fun h2 => hfr ⟨h1, h2⟩)
   · exact .inl h1
 cases v <;> first | (simp [plainV] at hv; done) | (simp only [store, Sem.run, hcell, hf, setCell_eq h, Bool.false_eq_true, if_false])
theorem run_storeCells {b off : Nat} {ty : TypeId} {fr : Nat × Nat} : ∀ (vs : List Value) (i : Nat) (w : World) (c : Array Value), w.heap[b]? = some (.cells c ty fr) → off + i + vs.length ≤ c.size →
   (∀ o, o < c.size → fr.1 = fr.2 ∨ o < fr.1) → (∀ v ∈ vs, plainV v = true) →
   (storeCells ⟨b, off, none⟩ vs i).run P w = .ok () (setBlk w b (.cells (putL c (off + i) vs) ty fr))
 | [], i, w, c, h, hl, hfr, hv => by
   simp only [storeCells, run_pure, putL]
   congr 1
   cases w
   simp only [setBlk]
   congr 1
   apply Array.ext_getElem?
   intro j
   simp only [Array.getElem?_setIfInBounds]
   by_cases hj : b = j
   · subst hj; simp only [if_true]; rw [if_pos (getElem?_lt h)]; exact h
   · simp [hj]
 | v :: vs, i, w, c, h, hl, hfr, hv => by
   simp only [List.length_cons] at hl
   simp only [storeCells, run_bind, add_none]
   rw [run_store h (by omega) (by have := hfr _ (show off + i < c.size by omega); omega) (hv v (by simp))]
   simp only
   have hb := getElem?_lt h
   rw [run_storeCells (ty := ty) (fr := fr) vs (i + 1) _ (c.setIfInBounds (off + i) v) (by rw [setBlk_heap hb]; simp) (by simp; omega) (by simpa using hfr) (fun u hu => hv u (by simp [hu]))]
   simp only [putL, Nat.add_assoc]
   congr 1
   simp [setBlk]
theorem RepL.splice {O : Nat → Prop} {c xs : List AV} {u ys : List Value} {off : Nat} (h : RepL w β O c u) (hx : RepL w β O xs ys) (hl : off + xs.length ≤ c.length) :
   RepL w β O (splice c off xs) (u.take off ++ (ys ++ u.drop (off + ys.length))) := by
 unfold Av.splice
 have h1 : RepL w β O (c.take off) (u.take off) := by
   have := h
   rw [← List.take_append_drop off c] at this
   obtain ⟨v1, v2, rfl, g1, g2⟩ := this.split
   have : v1.length = off := by rw [← g1.length]; simp; omega
   rw [← this]; simpa [this] using g1
 rw [← hx.length]
 exact h1.append (hx.append (h.drop _))
theorem storable_plain {O : Nat → Prop} {a : AV} {v : Value} (h : storable a = true) (hr : Rep w β O a v) : plainV v = true := by
 cases a with
 | any => simp [storable] at h
 | val u => simp only [Rep] at hr; subst hr; cases v <;> first | rfl | simp [storable] at h
 | agg cs => simp [storable] at h
 | tup cs => simp [storable] at h
 | sl sz es => simp only [Rep] at hr; rcases hr with ⟨rfl, _⟩ | ⟨b, off, cap, vs, rfl, _⟩ <;> rfl
 | rp cs => simp only [Rep] at hr; obtain ⟨b, off, vs, rfl, _⟩ := hr; rfl
 | osl i n sz => simp only [Rep] at hr; rcases hr with ⟨_, rfl, _⟩ | ⟨b, cap, T, m, _, rfl, _⟩ <;> rfl
 | ptr i sz k off => simp only [Rep] at hr; obtain ⟨b, _, rfl⟩ := hr; rfl
 | osv i lo n sz => simp only [Rep] at hr; rcases hr with ⟨_, rfl, _⟩ | ⟨b, off, cap, T, m, _, rfl, _⟩ <;> rfl
theorem storables_plain {O : Nat → Prop} : ∀ {xs : List AV} {vs : List Value}, xs.all storable = true → RepL w β O xs vs → ∀ v ∈ vs, plainV v = true
 | [], vs, h, hr, v, hv => by simp only [RepL] at hr; subst hr; simp at hv
 | a :: xs, vs, h, hr, v, hv => by
   simp only [RepL] at hr
   obtain ⟨u, r, rfl, h1, h2⟩ := hr
   simp only [List.all_cons, Bool.and_eq_true] at h
   rcases List.mem_cons.1 hv with rfl | hv
   · exact storable_plain h.1 h1
   · exact storables_plain h.2 h2 v hv
theorem set_split {α : Type} (l : List α) (k : Nat) (x : α) (h : k < l.length) : l.set k x = l.take k ++ x :: l.drop (k + 1) := by
 rw [List.set_eq_take_append_cons_drop, if_pos h]
end mem
end Go.Av
