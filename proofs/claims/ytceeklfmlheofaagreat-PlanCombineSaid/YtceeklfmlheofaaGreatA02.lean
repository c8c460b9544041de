/-
  Part 2 of the proof that logtidelaw41.PlanCombine returns true for every list of bytes and leaves its argument as it was; no condition.
-/
import Derived.Test.YtceeklfmlheofaaGreatA01
set_option linter.unusedSimpArgs false
set_option linter.unusedVariables false
namespace Go.Av
section pure
variable {X : Nat → Prop} {P : Program} {T : Tab} {w : World} {β : Gm} {hp : Hp} {nb : Nat} {O : Nat → Prop}
theorem run_bounds {env : Env} {a : Act} (henv : EnvOk w β O env a.tmps) {len cap l h : Nat} {p q : Prop} {lo hi : Option Operand} (isS : Bool)
   (h1 : aBound env 0 lo = some (l, p)) (h2 : aBound env len hi = some (h, q)) (hp : p) (hq : q) (hl : l ≤ h) (hh : h ≤ cap) :
   (Instr.sliceBounds isS len cap (lo.map a.eval) (hi.map a.eval) none).run P w = .ok (l, h, cap) w := by
 unfold Instr.sliceBounds
 simp only [run_bind, run_pure]
 have e2 := bound_sound (P := P) henv h2 hq hh (if isS then .sliceAcap else .sliceAlen)
 have e1 := bound_sound (P := P) henv h1 hp hl .sliceB
 cases hi with
 | none =>
   simp only [Option.map_none] at e2 ⊢
   have : len = h := by simpa [aBound] using (show _ from by simp only [aBound, Option.some.injEq, Prod.mk.injEq] at h2; exact h2.1)
   subst this
   cases lo with
   | none => simp only [Option.map_none] at e1 ⊢; simp only [run_pure] at e1; simp at e1; subst e1; rfl
   | some x => simp only [Option.map_some] at e1 ⊢; simp only [Option.isSome_none, Bool.false_eq_true, if_false, run_bind, run_pure, e1]
 | some y =>
   simp only [Option.map_some] at e2 ⊢
   cases lo with
   | none => simp only [Option.map_none] at e1 ⊢; simp only [run_pure] at e1; simp at e1; subst e1; simp only [run_bind, run_pure, e2]
   | some x => simp only [Option.map_some] at e1 ⊢; simp only [Option.isSome_none, Bool.false_eq_true, if_false, run_bind, run_pure, e1, e2]
theorem bytes_extract (s : ByteArray) (l h : Nat) : s.extract l h = ⟨(((bl s).take h).drop l).toArray⟩ := by
 apply ByteArray.ext
 apply Array.ext'
 simp [bl, ByteArray.data_extract, List.extract, List.drop_take]
theorem RepE.cut {sz : Nat} {es : List (List AV)} {vs : List Value} (h : RepE w β O sz es vs) {l k : Nat} (hl : l ≤ k) (hk : k ≤ es.length) :
   ∃ v1 u v2, vs = v1 ++ u ++ v2 ∧ v1.length = l * sz ∧ RepE w β O sz ((es.take k).drop l) u := by
 have e : es = es.take l ++ ((es.take k).drop l ++ es.drop k) := by
   rw [← List.append_assoc]
   have : es.take l = (es.take k).take l := by rw [List.take_take, Nat.min_eq_left hl]
   rw [this, List.take_append_drop, List.take_append_drop]
 rw [e] at h
 obtain ⟨v1, r, rfl, h1, h2⟩ := h.split
 obtain ⟨u, v2, rfl, h3, h4⟩ := h2.split
 refine ⟨v1, u, v2, by simp, ?_, h3⟩
 rw [h1.length, List.length_take, Nat.min_eq_left (by omega)]
theorem slice_sound (hT : TabOk P T) {env : Env} {a : Act} (henv : EnvOk w β O env a.tmps) {t : TypeId} {x : AV} {u : Value} {r : Out} {lo hi : Option Operand} (h : aSlice T t x env lo hi = some r) (hob : r.ob)
   (hx : Rep w β O x u) : ∃ z, (Instr.sliceAt t u (lo.map a.eval) (hi.map a.eval) none).run P w = .ok z w ∧ Rep w β O r.v z ∧ r.hw = [] := by
 unfold aSlice at h
 split at h
 · rename_i s hd
   simp only [Rep] at hx
   subst hx
   split at h
   · rename_i l p hh q h1 h2
     simp only [out, Option.some.injEq] at h
     subst h
     simp only at hob
     obtain ⟨hp', hq, hl, hlen⟩ := hob
     refine ⟨.string (s.extract l hh), ?_, by simp only [Rep, bytes_extract], rfl⟩
     have hb := run_bounds (P := P) henv (cap := s.size) false h1 h2 hp' hq hl (by rw [bytes_size]; exact hlen)
     rw [← bytes_size] at hb
     simp only [Instr.sliceAt, run_bind, run_underlying (tab_desc hT hd), Instr.slice, Option.isSome_none, Bool.false_eq_true, if_false, run_pure, hb]
   · simp at h
 · rename_i e sz es hd
   split at h
   · rename_i l p hh q te h1 h2 hte
     obtain ⟨ti, z0, hti, hsz, _, _, _, hud, _⟩ := tab hT hte
     simp only [out, Option.some.injEq] at h
     subst h
     simp only at hob
     obtain ⟨hp', hq, hl, hlen, hs⟩ := hob
     have hu := tab_desc hT hd
     simp only [Rep] at hx
     rcases hx with ⟨rfl, rfl⟩ | ⟨b, off, cap, vs, rfl, g1, g2, g3, g4, g5⟩
     · have hb := run_bounds (P := P) henv (cap := 0) true h1 h2 hp' hq hl (by simpa using hlen)
       simp only [List.length_nil] at hb hlen
       refine ⟨.slice none 0 0, ?_, by simp [Rep], rfl⟩
       simp only [Instr.sliceAt, run_bind, run_underlying hu, Instr.slice, hb, run_size hti, run_pure]
       have : l = 0 := by omega
       have : hh = 0 := by omega
       subst_vars; rfl
     · have hb := run_bounds (P := P) henv (cap := cap) true h1 h2 hp' hq hl (by omega)
       obtain ⟨v1, cu, v2, rfl, hv1, hcu⟩ := g5.cut hl hlen
       refine ⟨.slice (if cap = l then some ⟨b, off, none⟩ else some ⟨b, off + l * sz, none⟩) (hh - l) (cap - l), ?_, ?_, rfl⟩
       · simp only [Instr.sliceAt, run_bind, run_underlying hu, Instr.slice, hb, run_size hti, run_pure, Option.map_some, add_none]
         rw [hsz, hs]
       · simp only [Rep]
         right
         have hlen2 : ((es.take hh).drop l).length = hh - l := by simp; omega
         by_cases hc : cap = l
         · rw [if_pos hc]
           have : ((es.take hh).drop l) = [] := List.eq_nil_of_length_eq_zero (by omega)
           refine ⟨b, off, cap - l, [], by rw [hlen2], by omega, g2, g3, by intro j v hv; simp at hv, by rw [this]; simp [RepE]⟩
         · rw [if_neg hc]
           refine ⟨b, off + l * sz, cap - l, cu, by rw [hlen2], by omega, g2, g3, ?_, hcu⟩
           have := g4.mid
           rw [hv1] at this; exact this
   · simp at h
 · rename_i e hd
   simp only [Rep] at hx
   subst hx
   split at h
   · rename_i l p hh q te h1 h2 hte
     obtain ⟨ti, z0, hti, hsz, _, _, _, hud, _⟩ := tab hT hte
     simp only [out, Option.some.injEq] at h
     subst h
     simp only at hob
     obtain ⟨hp', hq, rfl, rfl⟩ := hob
     have hu := tab_desc hT hd
     have hb := run_bounds (P := P) henv (cap := 0) true h1 h2 hp' hq (Nat.le_refl _) (Nat.le_refl _)
     refine ⟨.slice none 0 0, ?_, by simp [Rep], rfl⟩
     simp only [Instr.sliceAt, run_bind, run_underlying hu, Instr.slice, hb, run_size hti, run_pure]
     rfl
   · simp at h
 · simp at h
/-- The bytes of cells that hold bytes. -/
theorem run_bytes {f : Value → ByteArray → Sem (ForInStep ByteArray)} (hf : ∀ n r, f (.int .u8 n) r = pure (.yield (r.push (UInt8.ofNat n.toNat)))) :
   ∀ (es : List (List AV)) (vs : List Value) (s : ByteArray), RepE w β O 1 es vs → (∀ c ∈ es, isByte c = true) → (forIn vs s f).run P w = .ok ⟨((bl s) ++ eBytes es).toArray⟩ w
 | [], vs, s, h, hb => by
   simp only [RepE] at h; subst h
   simp [run_pure, eBytes, bl]
 | c :: cs, vs, s, h, hb => by
   simp only [RepE] at h
   obtain ⟨u, r, rfl, h1, h2, h3⟩ := h
   have hc := hb c (by simp)
   unfold isByte at hc
   split at hc
   · rename_i n
     simp only [RepL, Rep] at h2
     obtain ⟨v, r', rfl, rfl, rfl⟩ := h2
     have ih := run_bytes hf cs r (s.push (UInt8.ofNat n.toNat)) h3 (fun c hc => hb c (by simp [hc]))
     simp only [List.cons_append, List.nil_append, List.forIn_cons, run_bind, run_pure, hf]
     rw [ih]
     simp [bl, eBytes, byteOf1]
   · simp at hc
theorem repE_bytes {sz : Nat} : ∀ {es : List (List AV)} {vs : List Value}, RepE w β O sz es vs → (∀ c ∈ es, isByte c = true) → RepE w β O 1 es vs
 | [], vs, h, _ => by simpa [RepE] using h
 | c :: cs, vs, h, hb => by
   simp only [RepE] at h ⊢
   obtain ⟨u, r, rfl, h1, h2, h3⟩ := h
   refine ⟨u, r, rfl, ?_, h2, repE_bytes h3 (fun c hc => hb c (by simp [hc]))⟩
   have hc := hb c (by simp)
   unfold isByte at hc
   split at hc
   · rfl
   · simp at hc
end pure
section mem
variable {X : Nat → Prop} {P : Program} {T : Tab} {w w' : World} {β β' : Gm} {hp hp' : Hp} {nb : Nat}
theorem getElem?_lt {α : Type} {a : Array α} {i : Nat} {x : α} (h : a[i]? = some x) : i < a.size := by
 rcases Nat.lt_or_ge i a.size with h' | h'
 · exact h'
 · simp [Array.getElem?_eq_none h'] at h
theorem shape_lt {b : Nat} {s : TypeId × Nat} (h : w.shape? b = some s) : b < w.heap.size := by
 unfold World.shape? at h
 split at h
 · rename_i hb; exact getElem?_lt hb
 · simp at h
theorem shape_of_heap {b : Nat} (h : w'.heap[b]? = w.heap[b]?) : w'.shape? b = w.shape? b := by simp [World.shape?, h]
theorem Good.lt (hg : Good X w β hp) {i : Nat} {e : Ent} {b : Nat} (hi : hp i = some e) (hb : β i = some (some b)) : b < w.heap.size := by
 rcases hg.ent i e hi with ⟨h, _⟩ | ⟨b', c, fr, vs, rest, h1, h2, _⟩
 · rw [hb] at h; simp at h
 · rw [hb] at h1; simp at h1; subst h1; exact getElem?_lt h2
theorem Good.some (hg : Good X w β hp) {i : Nat} {e : Ent} (hi : hp i = some e) : β i ≠ none := by
 rcases hg.ent i e hi with ⟨h, _⟩ | ⟨b', c, fr, vs, rest, h1, h2, _⟩
 · rw [h]; simp
 · rw [h1]; simp
theorem Good.fresh (hg : Good X w β hp) {i : Nat} (h : β i = none) : hp i = none := by
 cases hi : hp i with
 | none => rfl
 | some e => exact absurd h (hg.some hi)
theorem Own.lt (hg : Good X w β hp) {b : Nat} (h : Own X β hp b) : b < w.heap.size := by
 rcases h with hX | ⟨i, e, hi, hb⟩
 · exact hg.xlt b hX
 · exact hg.lt hi hb
theorem EntOk.mono {O O' : Nat → Prop} (h : Stab w w' β β' O O') {i : Nat} {e : Ent} (he : EntOk w β O (β i) e) (hk : ∀ b, β i = some (some b) → w'.heap[b]? = w.heap[b]?) : EntOk w' β' O' (β' i) e := by
 rcases he with ⟨h1, h2⟩ | ⟨b, c, fr, vs, rest, h1, h2, h3, h4, h5⟩
 · exact .inl ⟨h.gm _ _ h1, h2⟩
 · exact .inr ⟨b, c, fr, vs, rest, h.gm _ _ h1, by rw [hk b h1]; exact h2, h3, h4, RepE.mono h _ _ _ h5⟩
theorem good_of (hg : Good X w β hp) (hf : Frm w (Own X β hp) w' (Own X β' hp')) (hx : GmExt β β')
   (hinj : ∀ i j e e' b, hp' i = some e → hp' j = some e' → β' i = some (some b) → β' j = some (some b) → i = j)
   (h : ∀ j e, hp' j = some e → EntOk w' β' (Own X β' hp') (β' j) e ∨ (hp j = some e ∧ ∀ b, β j = some (some b) → w'.heap[b]? = w.heap[b]?))
   (hxd : ∀ j e b, hp' j = some e → β' j = some (some b) → ¬ X b) : Good X w' β' hp' := by
 refine ⟨hinj, fun j e hj => ?_, hxd, fun b hb => Nat.lt_of_lt_of_le (hg.xlt b hb) hf.size⟩
 rcases h j e hj with h | ⟨h1, h2⟩
 · exact h
 · exact (hg.ent j e h1).mono (hf.stab hx) h2
/-- The ghost map with one more block. -/
def gmSet (β : Gm) (i : Nat) (p : Option Nat) : Gm := fun j => if j = i then some p else β j
theorem gmSet_ext {i : Nat} {p : Option Nat} (h : β i = none) : GmExt β (gmSet β i p) := by
 intro j q hj
 unfold gmSet
 split
 · rename_i e; subst e; rw [h] at hj; cases hj
 · exact hj
theorem gmSet_new {i : Nat} {p : Option Nat} (hi : nb ≤ i) (hi' : i < nb + 8) : ∀ j, gmSet β i p j ≠ none → β j ≠ none ∨ (nb ≤ j ∧ j < nb + 8) := by
 intro j hj
 unfold gmSet at hj
 split at hj
 · rename_i e; subst e; exact .inr ⟨hi, hi'⟩
 · exact .inl hj
@[simp] theorem gmSet_same {i : Nat} {p : Option Nat} : gmSet β i p i = some p := by simp [gmSet]
theorem gmSet_ne {i j : Nat} {p : Option Nat} (h : j ≠ i) : gmSet β i p j = β j := by simp [gmSet, h]
def hpSet (hp : Hp) (i : Nat) (e : Option Ent) : Hp := fun j => if j = i then e else hp j
@[simp] theorem setHp_nil : setHp hp [] = hp := rfl
theorem setHp_cons {i : Nat} {e : Option Ent} {r : List (Nat × Option Ent)} : setHp hp ((i, e) :: r) = setHp (hpSet hp i e) r := rfl
@[simp] theorem hpSet_same {i : Nat} {e : Option Ent} : hpSet hp i e i = e := by simp [hpSet]
theorem hpSet_ne {i j : Nat} {e : Option Ent} (h : j ≠ i) : hpSet hp i e j = hp j := by simp [hpSet, h]
theorem frm_push (hg : Good X w β hp) (o : Obj) {O' : Nat → Prop} (hO : ∀ b, O' b → Own X β hp b ∨ b = w.heap.size) {w' : World} (hh : w'.heap = w.heap.push o) (h1 : w'.os = w.os) (h2 : w'.tape = w.tape) (h3 : w'.output = w.output) :
   Frm w (Own X β hp) w' O' := by
 have key : ∀ b, b < w.heap.size → w'.heap[b]? = w.heap[b]? := fun b hb => by rw [hh, Array.getElem?_push, if_neg (by omega)]
 refine ⟨h1, h2, h3, by rw [hh]; simp, fun b hb _ => key b hb, fun b hb => ?_, fun b s hs => by rw [shape_of_heap (key b (shape_lt hs))]; exact hs⟩
 rcases hO b hb with h | h
 · exact .inl h
 · exact .inr (by omega)
/-- A new block under a new id. -/
theorem post_alloc (hg : Good X w β hp) (hn : β nb = none) {e : Ent} {c : Array Value} {fr : Nat × Nat} {vs rest : List Value} {r : Out} {v : Value} (hw : r.hw = [(nb, some e)])
   (hfr : ∀ o, o < c.size → fr.1 = fr.2 ∨ o < fr.1) (hc : c.toList = vs ++ rest) (hv : RepE w β (Own X β hp) e.sz e.es vs)
   {w' : World} (hh : w'.heap = w.heap.push (.cells c e.ty fr)) (h1 : w'.os = w.os) (h2 : w'.tape = w.tape) (h3 : w'.output = w.output)
   (hrep : ∀ O', w'.shape? w.heap.size = some (e.ty, c.size) → Rep w' (gmSet β nb (some w.heap.size)) O' r.v v) : Post X w β hp nb r v w' (gmSet β nb (some w.heap.size)) := by
 have hnone : hp nb = none := hg.fresh hn
 have hhp : setHp hp r.hw = hpSet hp nb (some e) := by rw [hw]; rfl
 have hO : ∀ b, Own X (gmSet β nb (some w.heap.size)) (hpSet hp nb (some e)) b → Own X β hp b ∨ b = w.heap.size := by
   rintro b (hX | ⟨i, e', hi, hb⟩)
   · exact .inl (.inl hX)
   by_cases h : i = nb
   · subst h; simp at hb; exact .inr hb.symm
   · rw [hpSet_ne h] at hi; rw [gmSet_ne h] at hb; exact .inl (.inr ⟨i, e', hi, hb⟩)
 have hf := frm_push (O' := Own X (gmSet β nb (some w.heap.size)) (hpSet hp nb (some e))) hg (.cells c e.ty fr) hO hh h1 h2 h3
 have hx : GmExt β (gmSet β nb (some w.heap.size)) := gmSet_ext hn
 have hnew : w'.heap[w.heap.size]? = some (.cells c e.ty fr) := by rw [hh]; simp
 have hgood : Good X w' (gmSet β nb (some w.heap.size)) (hpSet hp nb (some e)) := by
   refine good_of hg hf hx ?_ ?_ ?_
   · intro i j e1 e2 b hi hj hbi hbj
     by_cases h : i = nb
     · by_cases h' : j = nb
       · rw [h, h']
       · subst h
         rw [hpSet_ne h'] at hj; rw [gmSet_ne h'] at hbj; simp at hbi
         have := hg.lt hj hbj; omega
     · by_cases h' : j = nb
       · subst h'
         rw [hpSet_ne h] at hi; rw [gmSet_ne h] at hbi; simp at hbj
         have := hg.lt hi hbi; omega
       · rw [hpSet_ne h] at hi; rw [gmSet_ne h] at hbi; rw [hpSet_ne h'] at hj; rw [gmSet_ne h'] at hbj
         exact hg.inj i j _ _ b hi hj hbi hbj
   · intro j e1 hj
     by_cases h : j = nb
     · subst h
       simp at hj
       subst hj
       left
       refine .inr ⟨w.heap.size, c, fr, vs, rest, by simp, hnew, hfr, hc, RepE.mono (hf.stab hx) _ _ _ hv⟩
     · rw [hpSet_ne h] at hj
       refine .inr ⟨hj, fun b hb => ?_⟩
       have := hg.lt hj hb
       rw [hh, Array.getElem?_push, if_neg (by omega)]
   · intro j e1 b hj hb hX
     by_cases h : j = nb
     · subst h; simp at hb; have := hg.xlt b hX; omega
     · rw [hpSet_ne h] at hj; rw [gmSet_ne h] at hb; exact hg.xdis j e1 b hj hb hX
 have hkx : ∀ b, X b → w'.heap[b]? = w.heap[b]? := fun b hb => by
   have := hg.xlt b hb
   rw [hh, Array.getElem?_push, if_neg (by omega)]
 exact ⟨by rw [hhp]; exact hrep _ (by simp [World.shape?, hnew]), by rw [hhp]; exact hgood, by rw [hhp]; exact hf, hx, hkx, gmSet_new (Nat.le_refl _) (by omega)⟩
theorem acells_spec {O : Nat → Prop} {a : AV} {cs : List AV} {v : Value} (h : acells a = some cs) (hr : Rep w β O a v) : RepL w β O cs v.cells.toList := by
 unfold acells at h
 split at h <;> simp only [Option.some.injEq, reduceCtorEq] at h
 · subst h
   simp only [Rep] at hr
   obtain ⟨vs, rfl, hl⟩ := hr
   simpa [Value.cells] using hl
 · subst h
   rename_i h1 h2 h3 h4 h5
   simp only [RepL]
   refine ⟨v, [], ?_, hr, rfl⟩
   cases a with
   | any => exact absurd rfl h1
   | val u =>
     simp only [Rep] at hr; subst hr
     cases v <;> first | rfl | exact absurd rfl (h3 _)
   | agg cs => exact absurd rfl (h5 _)
   | tup cs => exact absurd rfl (h2 _)
   | sl sz es => simp only [Rep] at hr; rcases hr with ⟨rfl, _⟩ | ⟨b, off, cap, vs, rfl, _⟩ <;> rfl
   | rp cs => simp only [Rep] at hr; obtain ⟨b, off, vs, rfl, _⟩ := hr; rfl
   | osl i n sz => simp only [Rep] at hr; rcases hr with ⟨_, rfl, _⟩ | ⟨b, cap, T, m, _, rfl, _⟩ <;> rfl
   | ptr i sz k off => simp only [Rep] at hr; obtain ⟨b, _, rfl⟩ := hr; rfl
theorem run_newVar {t : TypeId} {v : Value} : (newVar t v).run P w = .ok ⟨w.heap.size, 0, none⟩ { w with heap := w.heap.push (.cells v.cells t) } := by
 simp [newVar, newRow, newObj, run_bind, run_pure, Sem.run]
theorem box_sound (hg : Good X w β hp) (hn : β nb = none) {el : TypeId} {x : AV} {u : Value} {cs : List AV} (h : acells x = some cs) (hx : Rep w β (Own X β hp) x u) :
   ∃ v w', (Instr.box el u).run P w = .ok v w' ∧ Post X w β hp nb { v := .ptr nb cs.length 0 0, hw := [(nb, some ⟨el, cs.length, [cs]⟩)] } v w' (gmSet β nb (some w.heap.size)) := by
 have hc := acells_spec h hx
 refine ⟨.pointer (some ⟨w.heap.size, 0, none⟩), _, by simp only [Instr.box, run_bind, run_newVar, run_pure]; rfl, ?_⟩
 refine post_alloc hg hn (c := u.cells) (fr := (0, 0)) (vs := u.cells.toList) (rest := []) rfl (by intro o _; exact .inl rfl) (by simp) ?_ rfl rfl rfl rfl ?_
 · simp only [RepE]; exact ⟨_, [], by simp, trivial, hc, rfl⟩
 · intro O' _
   simp only [Rep]; exact ⟨_, gmSet_same, by simp⟩
theorem alloc_sound (hT : TabOk P T) (hg : Good X w β hp) (hn : β nb = none) {el : TypeId} {ti : TI} (h : T el = some ti) :
   ∃ v w', (Instr.alloc el true (.tuple #[])).run P w = .ok v w' ∧ Post X w β hp nb { v := .ptr nb ti.zero.length 0 0, hw := [(nb, some ⟨el, ti.zero.length, [ti.zero.map .val]⟩)] } v w' (gmSet β nb (some w.heap.size)) := by
 obtain ⟨i, z, hi, hsz, _, hz, hzc, hud, _⟩ := tab hT h
 refine ⟨.pointer (some ⟨w.heap.size, 0, none⟩), _, by simp only [Instr.alloc, run_bind, run_zero hi hz, run_newVar, run_pure]; rfl, ?_⟩
 refine post_alloc hg hn (c := z.cells) (fr := (0, 0)) (vs := ti.zero) (rest := []) rfl (by intro o _; exact .inl rfl) (by simp [hzc]) ?_ rfl rfl rfl rfl ?_
 · simp only [RepE]; exact ⟨_, [], by simp, by simp, repL_vals _, rfl⟩
 · intro O' _
   simp only [Rep]; exact ⟨_, gmSet_same, by simp⟩
def setBlk (w : World) (b : Nat) (o : Obj) : World := { w with heap := w.heap.setIfInBounds b o }
theorem setBlk_heap {b j : Nat} {o : Obj} (hb : b < w.heap.size) : (setBlk w b o).heap[j]? = if j = b then some o else w.heap[j]? := by
 simp only [setBlk, Array.getElem?_setIfInBounds]
 by_cases h : b = j
 · subst h; simp [hb]
 · rw [if_neg h, if_neg (fun h' => h h'.symm)]
theorem setCell_eq {b off : Nat} {v : Value} {c : Array Value} {ty : TypeId} {fr : Nat × Nat} (h : w.heap[b]? = some (.cells c ty fr)) :
   w.setCell ⟨b, off, none⟩ v = setBlk w b (.cells (c.setIfInBounds off v) ty fr) := by
 simp only [World.setCell, setBlk]
 congr 1
 apply Array.ext_getElem?
 intro j
 simp only [Array.getElem?_modify, Array.getElem?_setIfInBounds]
 by_cases hj : b = j
 · subst hj; simp only [h, getElem?_lt h, if_true, Option.map_some]; simp
 · simp [hj]
def putL (c : Array Value) (off : Nat) : List Value → Array Value
 | [] => c
 | v :: vs => putL (c.setIfInBounds off v) (off + 1) vs
theorem putL_size : ∀ (vs : List Value) (c : Array Value) (off : Nat), (putL c off vs).size = c.size
 | [], c, off => rfl
 | v :: vs, c, off => by rw [putL, putL_size vs]; simp
theorem putL_list : ∀ (vs : List Value) (c : Array Value) (off : Nat), off + vs.length ≤ c.size → (putL c off vs).toList = c.toList.take off ++ (vs ++ c.toList.drop (off + vs.length))
 | [], c, off, h => by simp [putL]
 | v :: vs, c, off, h => by
   simp only [List.length_cons] at h
   rw [putL, putL_list vs _ _ (by simp; omega)]
   have hl : off < c.toList.length := by simp; omega
   simp only [Array.toList_setIfInBounds, List.length_cons, List.set_eq_take_append_cons_drop, if_pos hl]
   have hA : (c.toList.take off).length = off := by simp at hl ⊢; omega
   generalize hP : c.toList.take off = A at hA
   have h1 : (A ++ v :: c.toList.drop (off + 1)).take (off + 1) = A ++ [v] := by
     rw [List.take_append, hA, List.take_of_length_le (by omega)]; simp
   have h2 : (A ++ v :: c.toList.drop (off + 1)).drop (off + 1 + vs.length) = c.toList.drop (off + (vs.length + 1)) := by
     rw [List.drop_append, hA, List.drop_of_length_le (by omega), show off + 1 + vs.length - off = vs.length + 1 by omega]
     simp only [List.drop_succ_cons, List.drop_drop, List.nil_append]
     congr 1; omega
   rw [h1, h2]; simp
def plainV : Value → Bool
 | .agg _ => false
 | .tuple _ => false
 | _ => true
theorem run_store {b off : Nat} {v : Value} {c : Array Value} {ty : TypeId} {fr : Nat × Nat} (h : w.heap[b]? = some (.cells c ty fr)) (ho : off < c.size) (hfr : ¬ (fr.1 ≤ off ∧ off < fr.2)) (hv : plainV v = true) :
   (store ⟨b, off, none⟩ v).run P w = .ok () (setBlk w b (.cells (c.setIfInBounds off v) ty fr)) := by
 have hcell : w.cell? ⟨b, off, none⟩ = some c[off] := by rw [cell_block h]; simp [ho]
 have hf : w.frozen? ⟨b, off, none⟩ = false := by
   simp only [World.frozen?, h]
   simp only [Bool.and_eq_false_iff, decide_eq_false_iff_not]
   by_cases h1 : fr.1 ≤ off
   · exact .inr (fun h2 => hfr ⟨h1, h2⟩)
   · exact .inl h1
 cases v <;> first | (simp [plainV] at hv; done) | (simp only [store, Sem.run, hcell, hf, setCell_eq h, Bool.false_eq_true, if_false])
theorem run_storeCells {b off : Nat} {ty : TypeId} {fr : Nat × Nat} : ∀ (vs : List Value) (i : Nat) (w : World) (c : Array Value), w.heap[b]? = some (.cells c ty fr) → off + i + vs.length ≤ c.size →
   (∀ o, o < c.size → fr.1 = fr.2 ∨ o < fr.1) → (∀ v ∈ vs, plainV v = true) →
   (storeCells ⟨b, off, none⟩ vs i).run P w = .ok () (setBlk w b (.cells (putL c (off + i) vs) ty fr))
 | [], i, w, c, h, hl, hfr, hv => by
   simp only [storeCells, run_pure, putL]
   congr 1
   cases w
   simp only [setBlk]
   congr 1
   apply Array.ext_getElem?
   intro j
   simp only [Array.getElem?_setIfInBounds]
   by_cases hj : b = j
   · subst hj; simp only [if_true]; rw [if_pos (getElem?_lt h)]; exact h
   · simp [hj]
 | v :: vs, i, w, c, h, hl, hfr, hv => by
   simp only [List.length_cons] at hl
   simp only [storeCells, run_bind, add_none]
   rw [run_store h (by omega) (by have := hfr _ (show off + i < c.size by omega); omega) (hv v (by simp))]
   simp only
   have hb := getElem?_lt h
   rw [run_storeCells (ty := ty) (fr := fr) vs (i + 1) _ (c.setIfInBounds (off + i) v) (by rw [setBlk_heap hb]; simp) (by simp; omega) (by simpa using hfr) (fun u hu => hv u (by simp [hu]))]
   simp only [putL, Nat.add_assoc]
   congr 1
   simp [setBlk]
theorem RepL.splice {O : Nat → Prop} {c xs : List AV} {u ys : List Value} {off : Nat} (h : RepL w β O c u) (hx : RepL w β O xs ys) (hl : off + xs.length ≤ c.length) :
   RepL w β O (splice c off xs) (u.take off ++ (ys ++ u.drop (off + ys.length))) := by
 unfold Av.splice
 have h1 : RepL w β O (c.take off) (u.take off) := by
   have := h
   rw [← List.take_append_drop off c] at this
   obtain ⟨v1, v2, rfl, g1, g2⟩ := this.split
   have : v1.length = off := by rw [← g1.length]; simp; omega
   rw [← this]; simpa [this] using g1
 rw [← hx.length]
 exact h1.append (hx.append (h.drop _))
theorem storable_plain {O : Nat → Prop} {a : AV} {v : Value} (h : storable a = true) (hr : Rep w β O a v) : plainV v = true := by
 cases a with
 | any => simp [storable] at h
 | val u => simp only [Rep] at hr; subst hr; cases v <;> first | rfl | simp [storable] at h
 | agg cs => simp [storable] at h
 | tup cs => simp [storable] at h
 | sl sz es => simp only [Rep] at hr; rcases hr with ⟨rfl, _⟩ | ⟨b, off, cap, vs, rfl, _⟩ <;> rfl
 | rp cs => simp only [Rep] at hr; obtain ⟨b, off, vs, rfl, _⟩ := hr; rfl
 | osl i n sz => simp only [Rep] at hr; rcases hr with ⟨_, rfl, _⟩ | ⟨b, cap, T, m, _, rfl, _⟩ <;> rfl
 | ptr i sz k off => simp only [Rep] at hr; obtain ⟨b, _, rfl⟩ := hr; rfl
theorem storables_plain {O : Nat → Prop} : ∀ {xs : List AV} {vs : List Value}, xs.all storable = true → RepL w β O xs vs → ∀ v ∈ vs, plainV v = true
 | [], vs, h, hr, v, hv => by simp only [RepL] at hr; subst hr; simp at hv
 | a :: xs, vs, h, hr, v, hv => by
   simp only [RepL] at hr
   obtain ⟨u, r, rfl, h1, h2⟩ := hr
   simp only [List.all_cons, Bool.and_eq_true] at h
   rcases List.mem_cons.1 hv with rfl | hv
   · exact storable_plain h.1 h1
   · exact storables_plain h.2 h2 v hv
theorem set_split {α : Type} (l : List α) (k : Nat) (x : α) (h : k < l.length) : l.set k x = l.take k ++ x :: l.drop (k + 1) := by
 rw [List.set_eq_take_append_cons_drop, if_pos h]
end mem
section mem
variable {X : Nat → Prop} {P : Program} {T : Tab} {w w' : World} {β β' : Gm} {hp hp' : Hp} {nb : Nat}
theorem own_iff_set {i : Nat} {e e' : Ent} (hi : hp i = some e) (b : Nat) : Own X β (hpSet hp i (some e')) b ↔ Own X β hp b := by
 constructor
 · rintro (hX | ⟨j, f, hj, hb⟩)
   · exact .inl hX
   by_cases h : j = i
   · subst h; exact .inr ⟨j, e, hi, hb⟩
   · rw [hpSet_ne h] at hj; exact .inr ⟨j, f, hj, hb⟩
 · rintro (hX | ⟨j, f, hj, hb⟩)
   · exact .inl hX
   by_cases h : j = i
   · subst h; exact .inr ⟨j, e', by simp, hb⟩
   · exact .inr ⟨j, f, by rw [hpSet_ne h]; exact hj, hb⟩
theorem shape_setBlk {b : Nat} {c c' : Array Value} {ty : TypeId} {fr fr' : Nat × Nat} (h : w.heap[b]? = some (.cells c ty fr)) (hs : c'.size = c.size) (j : Nat) : (setBlk w b (.cells c' ty fr')).shape? j = w.shape? j := by
 simp only [World.shape?, setBlk_heap (getElem?_lt h)]
 by_cases hj : j = b
 · subst hj; simp [h, hs]
 · simp [hj]
/-- One owned block's cells are written anew. -/
theorem post_writeF (hg : Good X w β hp) {i b : Nat} {e e' : Ent} {c c' : Array Value} {fr fr' : Nat × Nat} {vs rest : List Value} {r : Out} {v : Value}
   (hi : hp i = some e) (hb : β i = some (some b)) (hh : w.heap[b]? = some (.cells c e.ty fr)) (hfr : ∀ o, o < c.size → fr'.1 = fr'.2 ∨ o < fr'.1) (hty : e'.ty = e.ty)
   (hs : c'.size = c.size) (hc : c'.toList = vs ++ rest) (hv : RepE w β (Own X β hp) e'.sz e'.es vs) (hw : r.hw = [(i, some e')])
   (hrep : ∀ O', Rep (setBlk w b (.cells c' e.ty fr')) β O' r.v v) : Post X w β hp nb r v (setBlk w b (.cells c' e.ty fr')) β := by
 have hhp : setHp hp r.hw = hpSet hp i (some e') := by rw [hw]; rfl
 have hlt := getElem?_lt hh
 have hOo : Own X β hp b := .inr ⟨i, e, hi, hb⟩
 have hnX : ¬ X b := hg.xdis i e b hi hb
 have hf : Frm w (Own X β hp) (setBlk w b (.cells c' e.ty fr')) (Own X β (hpSet hp i (some e'))) := by
   refine ⟨rfl, rfl, rfl, by simp [setBlk], fun j hj hO => ?_, fun j hj => .inl ((own_iff_set hi j).1 hj), fun j s hj => by rw [shape_setBlk hh hs]; exact hj⟩
   rw [setBlk_heap hlt, if_neg (fun (he : j = b) => hO (he ▸ hOo))]
 have hx := GmExt.refl β
 refine ⟨by rw [hhp]; exact hrep _, ?_, by rw [hhp]; exact hf, hx, fun j hj => by rw [setBlk_heap hlt, if_neg (fun (he : j = b) => hnX (he ▸ hj))], fun j hj => .inl hj⟩
 rw [hhp]
 refine good_of hg hf hx ?_ ?_ ?_
 · intro j k f g d hj hk hbj hbk
   have h1 : ∃ f', hp j = some f' := by
     by_cases h : j = i
     · exact ⟨e, h ▸ hi⟩
     · rw [hpSet_ne h] at hj; exact ⟨f, hj⟩
   have h2 : ∃ g', hp k = some g' := by
     by_cases h : k = i
     · exact ⟨e, h ▸ hi⟩
     · rw [hpSet_ne h] at hk; exact ⟨g, hk⟩
   obtain ⟨f', h1⟩ := h1
   obtain ⟨g', h2⟩ := h2
   exact hg.inj j k f' g' d h1 h2 hbj hbk
 · intro j f hj
   by_cases h : j = i
   · subst h
     simp at hj
     subst hj
     left
     exact .inr ⟨b, c', fr', vs, rest, hb, by rw [setBlk_heap hlt, hty]; simp, by rw [hs]; exact hfr, hc, RepE.mono (hf.stab hx) _ _ _ hv⟩
   · rw [hpSet_ne h] at hj
     refine .inr ⟨hj, fun d hd => ?_⟩
     rw [setBlk_heap hlt, if_neg]
     intro he
     subst he
     exact h (hg.inj j i f e d hj hi hd hb)
 · intro j f d hj hd
   by_cases h : j = i
   · subst h; exact hg.xdis j e d hi hd
   · rw [hpSet_ne h] at hj; exact hg.xdis j f d hj hd
theorem post_write (hg : Good X w β hp) {i b : Nat} {e e' : Ent} {c c' : Array Value} {fr : Nat × Nat} {vs rest : List Value} {r : Out} {v : Value}
   (hi : hp i = some e) (hb : β i = some (some b)) (hh : w.heap[b]? = some (.cells c e.ty fr)) (hfr : ∀ o, o < c.size → fr.1 = fr.2 ∨ o < fr.1) (hty : e'.ty = e.ty)
   (hs : c'.size = c.size) (hc : c'.toList = vs ++ rest) (hv : RepE w β (Own X β hp) e'.sz e'.es vs) (hw : r.hw = [(i, some e')])
   (hrep : ∀ w' O', Rep w' β O' r.v v) : Post X w β hp nb r v (setBlk w b (.cells c' e.ty fr)) β :=
 post_writeF hg hi hb hh hfr hty hs hc hv hw (fun O' => hrep _ O')
theorem store_sound (hT : TabOk P T) (hg : Good X w β hp) {t : TypeId} {x y : AV} {u v : Value} {r : Out} (h : aStore T hp t x y = some r) (hob : r.ob)
   (hx : Rep w β (Own X β hp) x u) (hy : Rep w β (Own X β hp) y v) : ∃ w', (Instr.storeAt t u v).run P w = .ok () w' ∧ Post X w β hp nb r undef w' β := by
 unfold aStore at h
 split at h
 · rename_i ti i sz k off xs ht hxs
   split at h
   · rename_i e he
     split at h
     · rename_i c hc
       simp only [Option.some.injEq] at h
       subst h
       simp only at hob
       obtain ⟨hsz, hle, hlen, hall⟩ := hob
       obtain ⟨tinfo, z0, hti, htsz, _, _, _, hud, _⟩ := tab hT ht
       simp only [Rep] at hx
       obtain ⟨b, hb, rfl⟩ := hx
       have hys := acells_spec hxs hy
       obtain ⟨b', cs, fr, v1, cu, v2, rest, hb', hheap, hfr, hcs, hv1, hcu, ht1, ht2, hcl⟩ := hg.elem he hc
       obtain rfl : b = b' := by rw [hb] at hb'; simpa using hb'
       have hcul : cu.length = e.sz := by rw [← hcu.length]; exact hcl
       have hyl : v.cells.toList.length = xs.length := hys.length.symm
       have hsize : cs.size = v1.length + cu.length + v2.length + rest.length := by rw [← Array.length_toList, hcs]; simp; omega
       have hroom : k * sz + off + 0 + v.cells.toList.length ≤ cs.size := by rw [hyl, hsize, hv1, hsz]; omega
       have hput := run_storeCells (P := P) (b := b) (off := k * sz + off) v.cells.toList 0 w cs hheap hroom hfr (storables_plain hall hys)
       refine ⟨setBlk w b (.cells (putL cs (k * sz + off + 0) v.cells.toList) e.ty fr), ?_, post_write (e' := { e with es := e.es.set k (splice c off xs) }) (vs := v1 ++ (cu.take off ++ (v.cells.toList ++ cu.drop (off + v.cells.toList.length))) ++ v2) (rest := rest) hg he hb hheap hfr rfl (putL_size _ _ _) ?_ ?_ rfl (fun _ _ => by simp [Rep])⟩
       · simp only [Instr.storeAt, run_bind, Instr.sureAddr, run_pure, storeVar, run_size hti]
         rw [if_neg]
         · simpa using hput
         · rw [htsz, ← hlen, ← hyl]; simp
       · rw [putL_list _ _ _ (by omega), hcs]
         have e1 : k * sz + off + 0 = v1.length + off := by rw [hv1, hsz]; omega
         rw [e1]
         simp only [List.append_assoc]
         rw [List.take_length_add_append]
         have e2 : v1.length + off + v.cells.toList.length = v1.length + (off + v.cells.toList.length) := by omega
         rw [e2, List.drop_length_add_append]
         rw [List.take_append_of_le_length (by omega), List.drop_append_of_le_length (by omega)]
         simp
       · have hk : k < e.es.length := by
           rcases Nat.lt_or_ge k e.es.length with h | h
           · exact h
           · simp [List.getElem?_eq_none h] at hc
         rw [set_split _ _ _ hk]
         have hs1 : RepE w β (Own X β hp) e.sz (splice c off xs :: e.es.drop (k + 1)) ((cu.take off ++ (v.cells.toList ++ cu.drop (off + v.cells.toList.length))) ++ v2) := by
           simp only [RepE]
           refine ⟨_, _, rfl, ?_, hcu.splice hys hle, ht2⟩
           simp only [splice, List.length_append, List.length_take, List.length_drop]
           omega
         have := ht1.append hs1
         simpa [List.append_assoc] using this
     · simp at h
   · simp at h
 · simp at h
/-- The zero cells of n elements. -/
theorem zeros_rep {O : Nat → Prop} {z : List Value} {sz : Nat} (hz : z.length = sz) : ∀ n, RepE w β O sz (List.replicate n (z.map .val)) (List.replicate n z).flatten
 | 0 => by simp [RepE]
 | n + 1 => by
   simp only [List.replicate_succ, RepE, List.flatten_cons]
   exact ⟨z, _, rfl, by simpa using hz, repL_vals z, zeros_rep hz n⟩
theorem zeros_cells (z : Array Value) (hz : 0 < z.size) (n : Nat) : ((Array.range (n * z.size)).map (fun i => z[i % z.size]!)).toList = (List.replicate n z.toList).flatten := by
 apply List.ext_getElem
 · simp
 · intro j h1 h2
   simp at h1
   have hm : j % z.size < z.size := Nat.mod_lt _ hz
   have : ∀ (n : Nat) (j : Nat) (h : j < (List.replicate n z.toList).flatten.length), (List.replicate n z.toList).flatten[j] = z[j % z.size]! := by
     intro n
     induction n with
     | zero => intro j h; simp at h
     | succ n ih =>
       intro j h
       have hlen : (List.replicate n z.toList).flatten.length = n * z.size := by simp
       simp only [List.replicate_succ, List.flatten_cons, List.getElem_append]
       split
       · rename_i hlt
         simp at hlt
         rw [Nat.mod_eq_of_lt hlt]
         simp [hlt]
       · rename_i hge
         simp at hge
         rw [ih]
         congr 1
         simp only [Array.length_toList]
         rw [← Nat.mod_eq_sub_mod hge]
   rw [this]
   simp
theorem makeSlice_sound (hT : TabOk P T) (hg : Good X w β hp) (hn : β nb = none) {t e : TypeId} {te : TI} (he : elemOf T t = some (e, te)) {n : Int} (h0 : 0 ≤ n) (hb : te.bytes * n ≤ 2 ^ 47) (h63 : n < 2 ^ 63) (hsz : 0 < te.size) :
   ∃ v w', (Instr.makeSlice t (.int .i64 n) (.int .i64 n)).run P w = .ok v w' ∧
     ∀ ob, Post X w β hp nb { v := .osl nb n.toNat te.size, hw := [(nb, some ⟨e, te.size, List.replicate n.toNat (te.zero.map .val)⟩)], ob := ob } v w' (gmSet β nb (some w.heap.size)) := by
 obtain ⟨hu, hte⟩ := elemOf_spec hT he
 obtain ⟨i, z, hi, hisz, hby, hz, hzc, hud, hzl⟩ := tab hT hte
 have hwr : IntKind.i64.wrap n = n := by
   unfold IntKind.wrap
   simp only [IntKind.bits, IntKind.signed]
   have : n % (2 ^ 64 : Int) = n := Int.emod_eq_of_lt h0 (by omega)
   simp only [this]
   rw [if_neg]
   simp; omega
 have hzsz : z.cells.size = te.size := by rw [← Array.length_toList, hzc, hzl]
 have hrow : ((Array.range (n.toNat * te.size)).map (fun j => z.cells[j % z.cells.size]!)).toList = (List.replicate n.toNat te.zero).flatten := by
   rw [← hzc, ← zeros_cells z.cells (by omega) n.toNat, hzsz]
 refine ⟨.slice (some ⟨w.heap.size, 0, none⟩) n.toNat n.toNat, { w with heap := w.heap.push (.cells ((Array.range (n.toNat * te.size)).map (fun j => z.cells[j % z.cells.size]!)) e) }, ?_, fun ob => ?_⟩
 · have hl : ¬ ((i.bytes : Int) * n > 2 ^ 48) := by rw [hby]; omega
   have hl2 : ¬ (n < 0) := by omega
   simp only [Instr.makeSlice, run_bind, run_underlying hu, asInt, asIntOf, run_pure, run_info hi, hwr, run_size hi, run_zero hi hz, hisz]
   simp only [hl, hl2, decide_false, Bool.or_false, Bool.false_eq_true, if_false, or_false, gt_iff_lt, Int.lt_irrefl, run_bind, run_pure, askRoom]
   have hroom : (if n.toNat * i.bytes > roomBytes then mark Mark.noRoom else pure ()).run P w = .ok () w := by
     split <;> rfl
   rw [hroom]
   simp only [run_bind, run_size hi, hisz]
   by_cases hz0 : n.toNat * te.size = 0
   · simp only [hz0, if_true, run_pure, newRow, newObj, run_bind]
     have : n.toNat = 0 := by
       rcases Nat.mul_eq_zero.1 hz0 with h | h
       · exact h
       · omega
     have er : ∀ f : Nat → Value, Array.map f (Array.range 0) = #[] := fun f => by apply Array.ext'; simp
     simp [Sem.run, pure, this, er]
   · simp only [hz0, if_false, run_bind, run_zero hi hz, run_pure, newRow, newObj]
     rfl
 · refine post_alloc hg hn (fr := (0, 0)) (c := (Array.range (n.toNat * te.size)).map (fun j => z.cells[j % z.cells.size]!)) (vs := (List.replicate n.toNat te.zero).flatten) (rest := []) rfl (by intro o _; exact .inl rfl) (by rw [hrow]; simp) (zeros_rep hzl _) rfl rfl rfl rfl ?_
   intro O' hs
   simp only [Rep]
   refine .inr ⟨w.heap.size, n.toNat, _, _, gmSet_same, rfl, Nat.le_refl _, hs, ?_⟩
   simp
theorem fold_put : ∀ (l : List Value) (off k : Nat) (cells : Array Value), (l.zipIdx k).foldl (fun cs (x : Value × Nat) => cs.setIfInBounds (off + x.2) x.1) cells = putL cells (off + k) l
 | [], off, k, cells => by simp [putL]
 | v :: l, off, k, cells => by
   simp only [List.zipIdx_cons, List.foldl_cons, putL]
   rw [fold_put l off (k + 1)]
   rfl
theorem fold_put' (v : Value) (off : Nat) (cells : Array Value) : v.cells.zipIdx.foldl (fun cs (x : Value × Nat) => cs.setIfInBounds (off + x.2) x.1) cells = putL cells off v.cells.toList := by
 rw [← Array.foldl_toList, Array.toList_zipIdx, fold_put]; rfl
/-- What a slice literal's parts come to. -/
theorem fill_parts {env : Env} {a : Act} {O : Nat → Prop} (henv : EnvOk w β O env a.tmps) {sz : Nat} : ∀ (ps : List (Nat × Operand)) (n : Nat) (es : List (List AV)) (pre post : List Value), allParts n ps = true → partCells env ps = some es → (∀ c ∈ es, c.length = sz) →
   pre.length = n * sz → post.length = ps.length * sz →
   ∃ vs, Instr.fill (fun i => some (i * sz, sz)) (pre ++ post).toArray (ps.map fun (i, x) => (i, a.eval x)) = some (pre ++ vs).toArray ∧ RepE w β O sz es vs
 | [], n, es, pre, post, h1, h2, h3, h4, h5 => by
   simp only [partCells, Option.some.injEq] at h2
   subst h2
   simp at h5
   subst h5
   exact ⟨[], by simp [Instr.fill], by simp [RepE]⟩
 | (i, x) :: ps, n, es, pre, post, h1, h2, h3, h4, h5 => by
   simp only [allParts, Bool.and_eq_true, beq_iff_eq] at h1
   obtain ⟨rfl, h1⟩ := h1
   simp only [partCells] at h2
   split at h2
   · rename_i c cs hc hcs
     simp only [Option.some.injEq] at h2
     subst h2
     have hr := acells_spec hc (evA_rep henv x)
     have hcl : c.length = sz := h3 c (by simp)
     have hvl : (a.eval x).cells.toList.length = sz := by rw [← hr.length]; exact hcl
     simp only [List.length_cons, Nat.succ_mul] at h5
     have hpost : post = post.take sz ++ post.drop sz := (List.take_append_drop _ _).symm
     obtain ⟨vs, hv1, hv2⟩ := fill_parts henv ps (i + 1) cs (pre ++ (a.eval x).cells.toList) (post.drop sz) h1 hcs (fun c hc => h3 c (by simp [hc])) (by simp only [List.length_append, hvl, h4, Nat.succ_mul]) (by simp; omega)
     refine ⟨(a.eval x).cells.toList ++ vs, ?_, ?_⟩
     · simp only [List.map_cons, Instr.fill]
       have hsz : (a.eval x).cells.size = sz := by simpa using hvl
       have hcond : ¬ ((decide ((a.eval x).cells.size ≠ sz) || decide (i * sz + (a.eval x).cells.size > (pre ++ post).toArray.size)) = true) := by
         simp [hsz, h4]; omega
       rw [if_neg hcond]
       rw [← List.append_assoc, ← hv1]
       congr 1
       refine (fold_put' _ _ _).trans ?_
       apply Array.ext'
       rw [putL_list _ _ _ (by simp [h4] at hvl ⊢; omega)]
       have hvl' : (a.eval x).cells.toList.length = sz := hvl
       simp only [hvl']
       rw [← h4, List.take_left', List.drop_append, List.drop_of_length_le (by omega)]
       · simp
       · rfl
     · simp only [RepE]
       exact ⟨_, _, rfl, hcl, hr, hv2⟩
   · simp at h2
end mem
section mem
variable {X : Nat → Prop} {P : Program} {T : Tab} {w w' : World} {β β' : Gm} {hp hp' : Hp} {nb : Nat}
theorem buildSlice_sound (hT : TabOk P T) (hg : Good X w β hp) (hn : β nb = none) {env : Env} {a : Act} (henv : EnvOk w β (Own X β hp) env a.tmps) {t e : TypeId} {te : TI} (he : elemOf T t = some (e, te)) {len : Nat} {parts : Array (Nat × Operand)} {es : List (List AV)}
   (h1 : allParts 0 parts.toList = true) (h2 : partCells env parts.toList = some es) (h3 : es.length = len) (h4 : ∀ c ∈ es, c.length = te.size) (h5 : len * te.size ≤ 2 ^ 24) :
   ∃ v w', (Instr.buildSlice t len (parts.map fun (i, x) => (i, a.eval x))).run P w = .ok v w' ∧
     ∀ ob, Post X w β hp nb { v := .osl nb len te.size, hw := [(nb, some ⟨e, te.size, es⟩)], ob := ob } v w' (gmSet β nb (some w.heap.size)) := by
 obtain ⟨hu, hte⟩ := elemOf_spec hT he
 obtain ⟨i, z, hi, hisz, hby, hz, hzc, hud, hzl⟩ := tab hT hte
 have hpl : ∀ (ps : List (Nat × Operand)) (es : List (List AV)), partCells env ps = some es → es.length = ps.length := by
   intro ps
   induction ps with
   | nil => intro es h; simp [partCells] at h; subst h; rfl
   | cons p ps ih =>
     intro es h
     simp only [partCells] at h
     split at h
     · rename_i c cs hc hcs
       simp at h; subst h
       simp [ih cs hcs]
     · simp at h
 have hlen : parts.toList.length = len := by rw [← h3, hpl _ _ h2]
 have key : ∀ zero : Array Value, ∃ vs, Instr.fill (fun i => some (i * te.size, te.size)) ((Array.range (len * te.size)).map (fun j => zero[j % zero.size]!)) (parts.toList.map fun (i, x) => (i, a.eval x)) = some vs.toArray ∧ RepE w β (Own X β hp) te.size es vs := by
   intro zero
   obtain ⟨vs, hv1, hv2⟩ := fill_parts henv (sz := te.size) parts.toList 0 es [] ((Array.range (len * te.size)).map (fun j => zero[j % zero.size]!)).toList h1 h2 h4 (by simp) (by simp [hlen])
   refine ⟨vs, ?_, hv2⟩
   rw [List.nil_append, List.nil_append, Array.toArray_toList] at hv1
   exact hv1
 have hmap : (parts.map fun (i, x) => (i, a.eval x)).toList = parts.toList.map fun (i, x) => (i, a.eval x) := by simp
 have fin : ∀ vs : List Value, RepE w β (Own X β hp) te.size es vs → ∀ ob, Post X w β hp nb { v := .osl nb len te.size, hw := [(nb, some ⟨e, te.size, es⟩)], ob := ob } (.slice (some ⟨w.heap.size, 0, none⟩) len len) { w with heap := w.heap.push (.cells vs.toArray e) } (gmSet β nb (some w.heap.size)) := by
   intro vs hv ob
   refine post_alloc hg hn (fr := (0, 0)) (c := vs.toArray) (vs := vs) (rest := []) rfl (by intro o _; exact .inl rfl) (by simp) hv rfl rfl rfl rfl ?_
   intro O' hs
   simp only [Rep]
   refine .inr ⟨w.heap.size, len, _, _, gmSet_same, rfl, Nat.le_refl _, hs, ?_⟩
   simp [hv.length, h3]
 by_cases h0 : len * te.size = 0
 · obtain ⟨vs, hv1, hv2⟩ := key #[]
   refine ⟨_, { w with heap := w.heap.push (.cells vs.toArray e) }, ?_, fin vs hv2⟩
   simp only [Instr.buildSlice, run_bind, run_underlying hu, run_size hi, hisz]
   rw [if_neg (by omega)]
   simp only [run_bind, run_pure, h0, if_true, hmap]
   rw [h0] at hv1
   simp only [hv1, newRow, newObj, run_bind, run_pure]
   rfl
 · obtain ⟨vs, hv1, hv2⟩ := key z.cells
   refine ⟨_, { w with heap := w.heap.push (.cells vs.toArray e) }, ?_, fin vs hv2⟩
   simp only [Instr.buildSlice, run_bind, run_underlying hu, run_size hi, hisz]
   rw [if_neg (by omega)]
   simp only [run_bind, run_pure, h0, if_false, run_zero hi hz, hmap]
   simp only [hv1, newRow, newObj, run_bind, run_pure]
   rfl
theorem fillA_ob {env : Env} {t : TypeId} : ∀ (ps : List (Nat × Operand)) (cells cs : List AV) (ob p : Prop), fillA T t env cells ob ps = some (cs, p) → p → ob
 | [], cells, cs, ob, p, h, hp => by
   simp only [fillA, Option.some.injEq, Prod.mk.injEq] at h
   rw [h.2]; exact hp
 | (f, x) :: ps, cells, cs, ob, p, h, hp => by
   simp only [fillA] at h
   split at h
   · exact (fillA_ob ps _ _ _ _ h hp).1
   · simp at h
theorem fill_struct (hT : TabOk P T) {env : Env} {a : Act} {O : Nat → Prop} (henv : EnvOk w β O env a.tmps) {t : TypeId} {fs : Array Field} (hd : P.underlying t = some (.struct fs)) {sizes : Nat → Option (Nat × Nat)}
   (hs : ∀ f fd tf, fs[f]? = some fd → T fd.type = some tf → sizes f = some (fd.offset, tf.size)) : ∀ (ps : List (Nat × Operand)) (cells cs : List AV) (vals : List Value) (ob p : Prop), fillA T t env cells ob ps = some (cs, p) → p →
   RepL w β O cells vals → ∃ vs, Instr.fill sizes vals.toArray (ps.map fun (i, x) => (i, a.eval x)) = some vs.toArray ∧ RepL w β O cs vs
 | [], cells, cs, vals, ob, p, h, hp, hr => by
   simp only [fillA, Option.some.injEq, Prod.mk.injEq] at h
   obtain ⟨rfl, _⟩ := h
   exact ⟨vals, rfl, hr⟩
 | (f, x) :: ps, cells, cs, vals, ob, p, h, hp, hr => by
   simp only [fillA] at h
   split at h
   · rename_i o tf xs hf hxs
     obtain ⟨fs', fd, hu, hfd, rfl, htf⟩ := fieldOf_spec hT hf
     obtain rfl : fs = fs' := by rw [hd] at hu; simpa using hu
     obtain ⟨_, hlen, hle⟩ := fillA_ob ps _ _ _ _ h hp
     have hx := acells_spec hxs (evA_rep henv x)
     have hxl := hx.length
     have hcl := hr.length
     have hr' := hr.splice hx hle
     obtain ⟨vs, h1, h2⟩ := fill_struct hT henv hd hs ps _ _ _ _ _ h hp hr'
     refine ⟨vs, ?_, h2⟩
     simp only [List.map_cons, Instr.fill, hs f fd tf hfd htf]
     have hc : ¬ ((decide ((a.eval x).cells.size ≠ tf.size) || decide (fd.offset + (a.eval x).cells.size > vals.toArray.size)) = true) := by
       have : (a.eval x).cells.size = xs.length := by rw [hxl]; simp
       simp [this, hlen]; omega
     rw [if_neg hc, ← h1]
     congr 1
     refine (fold_put' _ _ _).trans ?_
     apply Array.ext'
     rw [putL_list _ _ _ (by simp at hxl ⊢; omega)]
   · simp at h
theorem run_sizes {fs : List Field} : (∀ f ∈ fs, ∃ j, P.info? f.type = some j) → (fs.mapM (fun f => do pure (f.offset, ← Go.sizeOf f.type)) : Sem (List (Nat × Nat))).run P w = .ok (fs.map fun f => (f.offset, P.cellsOf f.type)) w := by
 induction fs with
 | nil => intro _; rfl
 | cons f fs ih =>
   intro h
   obtain ⟨j, hj⟩ := h f (by simp)
   have hc : P.cellsOf f.type = j.size := by simp [Program.cellsOf, hj]
   simp only [List.mapM_cons, run_bind, run_size hj, run_pure, ih (fun g hg => h g (by simp [hg])), List.map_cons, hc]
theorem build_sound (hT : TabOk P T) {env : Env} {a : Act} {O : Nat → Prop} (henv : EnvOk w β O env a.tmps) {t : TypeId} {ti : TI} (ht : T t = some ti) {parts : Array (Nat × Operand)} {cs : List AV} {p : Prop}
   (h : fillA T t env (ti.zero.map .val) True parts.toList = some (cs, p)) (hp : p) (hagg : ∃ fs, ti.desc = .struct fs) :
   ∃ z, (Instr.build t (parts.map fun (i, x) => (i, a.eval x))).run P w = .ok z w ∧ Rep w β O (.agg cs) z := by
 obtain ⟨i, z, hi, hisz, hby, hz, hzc, hud, hzl, hflds⟩ := hT t ti ht
 obtain ⟨fs, hfs⟩ := hagg
 rw [hfs] at hud
 have hs : ∀ (f : Nat) (fd : Field) (tf : TI), fs[f]? = some fd → T fd.type = some tf → ((fs.map fun f => (f.offset, P.cellsOf f.type))[f]?) = some (fd.offset, tf.size) := by
   intro f fd tf h1 h2
   obtain ⟨j, z', hj, hjs, _⟩ := tab hT h2
   simp [h1, Program.cellsOf, hj, hjs]
 obtain ⟨vs, h1, h2⟩ := fill_struct hT henv hud hs parts.toList _ _ _ _ _ h hp (repL_vals (w := w) (β := β) (O := O) ti.zero)
 refine ⟨.agg vs.toArray, ?_, by simp only [Rep]; exact ⟨vs, rfl, h2⟩⟩
 have hm : (fs.mapM (fun f => do pure (f.offset, ← Go.sizeOf f.type)) : Sem (Array (Nat × Nat))).run P w = .ok (fs.map fun f => (f.offset, P.cellsOf f.type)) w := by
   have := run_sizes (P := P) (w := w) (fs := fs.toList) (hflds fs hfs)
   rw [Array.mapM_eq_mapM_toList]
   have e : ∀ (m : Sem (List (Nat × Nat))), (Functor.map List.toArray m).run P w = (m >>= fun a => pure a.toArray).run P w := fun m => rfl
   rw [e, run_bind, this]
   simp [run_pure]
   apply Array.ext'; simp
 have hmap : (parts.map fun (i, x) => (i, a.eval x)).toList = parts.toList.map fun (i, x) => (i, a.eval x) := by simp
 have hzz : z.cells = ti.zero.toArray := by rw [← hzc]
 simp only [Instr.build, run_bind, run_zero hi hz, run_underlying hud, run_pure, hm, hmap, hzz, h1]
structure Stp (X : Nat → Prop) (w : World) (β : Gm) (hp : Hp) (nb : Nat) (w' : World) (β' : Gm) (hp' : Hp) : Prop where
 good : Good X w' β' hp'
 frm : Frm w (Own X β hp) w' (Own X β' hp')
 ext : GmExt β β'
 keepX : ∀ b, X b → w'.heap[b]? = w.heap[b]?
 new : ∀ i, β' i ≠ none → β i ≠ none ∨ (nb ≤ i ∧ i < nb + 8)
theorem Stp.trans {w1 w2 w3 : World} {β1 β2 β3 : Gm} {hp1 hp2 hp3 : Hp} (h : Stp X w1 β1 hp1 nb w2 β2 hp2) (k : Stp X w2 β2 hp2 nb w3 β3 hp3) : Stp X w1 β1 hp1 nb w3 β3 hp3 := by
 refine ⟨k.good, h.frm.trans k.frm, h.ext.trans k.ext, fun b hb => (k.keepX b hb).trans (h.keepX b hb), fun i hi => ?_⟩
 rcases k.new i hi with h1 | h1
 · exact h.new i h1
 · exact .inr h1
theorem Post.stp {r : Out} {v : Value} (h : Post X w β hp nb r v w' β') : Stp X w β hp nb w' β' (setHp hp r.hw) := ⟨h.good, h.frm, h.ext, h.keepX, h.new⟩
theorem Stp.post {r : Out} {v : Value} (h : Stp X w β hp nb w' β' (setHp hp r.hw)) (hr : Rep w' β' (Own X β' (setHp hp r.hw)) r.v v) : Post X w β hp nb r v w' β' := ⟨hr, h.good, h.frm, h.ext, h.keepX, h.new⟩
/-- An entry may be forgotten. -/
theorem stp_drop (hg : Good X w β hp) (i : Nat) : Stp X w β hp nb w β (hpSet hp i none) := by
 have hO : ∀ b, Own X β (hpSet hp i none) b → Own X β hp b := by
   rintro b (hX | ⟨j, e, hj, hb⟩)
   · exact .inl hX
   by_cases h : j = i
   · subst h; simp at hj
   · rw [hpSet_ne h] at hj; exact .inr ⟨j, e, hj, hb⟩
 have hf : Frm w (Own X β hp) w (Own X β (hpSet hp i none)) := ⟨rfl, rfl, rfl, Nat.le_refl _, fun _ _ _ => rfl, fun b hb => .inl (hO b hb), fun _ _ h => h⟩
 have hlive : ∀ j e, hpSet hp i none j = some e → hp j = some e := by
   intro j e hj
   by_cases h : j = i
   · subst h; simp at hj
   · rwa [hpSet_ne h] at hj
 refine ⟨good_of hg hf (GmExt.refl _) (fun j k e f b hj hk => hg.inj j k e f b (hlive j e hj) (hlive k f hk)) (fun j e hj => .inr ⟨hlive j e hj, fun _ _ => rfl⟩) (fun j e b hj hb => hg.xdis j e b (hlive j e hj) hb), hf, GmExt.refl _, fun _ _ => rfl, fun _ h => .inl h⟩
/-- An entry may be called by a new id. -/
theorem stp_rename (hg : Good X w β hp) {i : Nat} {e : Ent} (hi : hp i = some e) (hn : β nb = none) {p : Option Nat} (hp' : β i = some p) : Stp X w β hp nb w (gmSet β nb p) (hpSet (hpSet hp i none) nb (some e)) := by
 have hne : i ≠ nb := fun h => by rw [h] at hp'; rw [hn] at hp'; cases hp'
 have hO : ∀ b, Own X (gmSet β nb p) (hpSet (hpSet hp i none) nb (some e)) b ↔ Own X β hp b := by
   intro b
   constructor
   · rintro (hX | ⟨j, f, hj, hb⟩)
     · exact .inl hX
     by_cases h : j = nb
     · subst h; simp at hb; exact .inr ⟨i, e, hi, by rw [hp', hb]⟩
     · rw [hpSet_ne h] at hj; rw [gmSet_ne h] at hb
       by_cases h' : j = i
       · subst h'; simp at hj
       · rw [hpSet_ne h'] at hj; exact .inr ⟨j, f, hj, hb⟩
   · rintro (hX | ⟨j, f, hj, hb⟩)
     · exact .inl hX
     by_cases h' : j = i
     · subst h'; exact .inr ⟨nb, e, by simp, by rw [gmSet_same, ← hp', hb]⟩
     · have h : j ≠ nb := fun h => by rw [h] at hb; rw [hn] at hb; cases hb
       exact .inr ⟨j, f, by rw [hpSet_ne h, hpSet_ne h']; exact hj, by rw [gmSet_ne h]; exact hb⟩
 have hf : Frm w (Own X β hp) w (Own X (gmSet β nb p) (hpSet (hpSet hp i none) nb (some e))) := ⟨rfl, rfl, rfl, Nat.le_refl _, fun _ _ _ => rfl, fun b hb => .inl ((hO b).1 hb), fun _ _ h => h⟩
 have hx : GmExt β (gmSet β nb p) := gmSet_ext hn
 -- the old id of a live one
 have back : ∀ j f, hpSet (hpSet hp i none) nb (some e) j = some f → ∃ j', hp j' = some f ∧ gmSet β nb p j = β j' ∧ (j = nb ∧ j' = i ∨ j = j' ∧ j ≠ i ∧ j ≠ nb) := by
   intro j f hj
   by_cases h : j = nb
   · subst h; simp at hj; subst hj; exact ⟨i, hi, by simp [hp'], .inl ⟨rfl, rfl⟩⟩
   · rw [hpSet_ne h] at hj
     by_cases h' : j = i
     · subst h'; simp at hj
     · rw [hpSet_ne h'] at hj; exact ⟨j, hj, gmSet_ne h, .inr ⟨rfl, h', h⟩⟩
 refine ⟨good_of hg hf hx ?_ ?_ ?_, hf, hx, fun _ _ => rfl, gmSet_new (Nat.le_refl _) (by omega)⟩
 · intro j k f g b hj hk hbj hbk
   obtain ⟨j', h1, h2, h3⟩ := back j f hj
   obtain ⟨k', h4, h5, h6⟩ := back k g hk
   rw [h2] at hbj; rw [h5] at hbk
   have := hg.inj j' k' f g b h1 h4 hbj hbk
   rcases h3 with ⟨a, b⟩ | ⟨a, b, c⟩ <;> rcases h6 with ⟨d, e'⟩ | ⟨d, e', f'⟩ <;> omega
 · intro j f hj
   obtain ⟨j', h1, h2, h3⟩ := back j f hj
   left
   have := (hg.ent j' f h1)
   rw [h2]
   rcases this with ⟨g1, g2⟩ | ⟨b, c, fr, vs, rest, g1, g2, g3, g4, g5⟩
   · exact .inl ⟨g1, g2⟩
   · exact .inr ⟨b, c, fr, vs, rest, g1, g2, g3, g4, RepE.mono (hf.stab hx) _ _ _ g5⟩
 · intro j f b hj hb
   obtain ⟨j', h1, h2, h3⟩ := back j f hj
   rw [h2] at hb
   exact hg.xdis j' f b h1 hb
/-- A nil slice under a new id. -/
theorem stp_nil (hg : Good X w β hp) (hn : β nb = none) (e : Ent) (he : e.es = []) : Stp X w β hp nb w (gmSet β nb none) (hpSet hp nb (some e)) := by
 have hnone := hg.fresh hn
 have hO : ∀ b, Own X (gmSet β nb none) (hpSet hp nb (some e)) b → Own X β hp b := by
   rintro b (hX | ⟨j, f, hj, hb⟩)
   · exact .inl hX
   by_cases h : j = nb
   · subst h; simp at hb
   · rw [hpSet_ne h] at hj; rw [gmSet_ne h] at hb; exact .inr ⟨j, f, hj, hb⟩
 have hf : Frm w (Own X β hp) w (Own X (gmSet β nb none) (hpSet hp nb (some e))) := ⟨rfl, rfl, rfl, Nat.le_refl _, fun _ _ _ => rfl, fun b hb => .inl (hO b hb), fun _ _ h => h⟩
 have hx : GmExt β (gmSet β nb none) := gmSet_ext hn
 refine ⟨good_of hg hf hx ?_ ?_ ?_, hf, hx, fun _ _ => rfl, gmSet_new (Nat.le_refl _) (by omega)⟩
 · intro j k f g b hj hk hbj hbk
   by_cases h : j = nb
   · subst h; simp at hbj
   · by_cases h' : k = nb
     · subst h'; simp at hbk
     · rw [hpSet_ne h] at hj; rw [gmSet_ne h] at hbj; rw [hpSet_ne h'] at hk; rw [gmSet_ne h'] at hbk
       exact hg.inj j k f g b hj hk hbj hbk
 · intro j f hj
   by_cases h : j = nb
   · subst h; simp at hj; subst hj; exact .inl (.inl ⟨gmSet_same, he⟩)
   · rw [hpSet_ne h] at hj; exact .inr ⟨hj, fun _ _ => rfl⟩
 · intro j f b hj hb
   by_cases h : j = nb
   · subst h; simp at hb
   · rw [hpSet_ne h] at hj; rw [gmSet_ne h] at hb; exact hg.xdis j f b hj hb
end mem
end Go.Av
