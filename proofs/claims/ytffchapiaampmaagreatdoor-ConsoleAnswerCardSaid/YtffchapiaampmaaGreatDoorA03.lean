/-
  Part 3 of the proof that logtidelaw45.ConsoleAnswer returns true for every list of bytes and every text, and leaves both as they were.
-/
import Derived.Test.YtffchapiaampmaaGreatDoorA02
set_option linter.unusedSimpArgs false
set_option linter.unusedVariables false
namespace Go.Av
section mem
variable {X : Nat → Prop} {P : Program} {T : Tab} {w w' : World} {β β' : Gm} {hp hp' : Hp} {nb : Nat}
theorem own_iff_set {i : Nat} {e e' : Ent} (hi : hp i = some e) (b : Nat) : Own X β (hpSet hp i (some e')) b ↔ Own X β hp b := by
 constructor
 · rintro (hX | ⟨j, f, hj, hb⟩)
   · exact .inl hX
   by_cases h : j = i
   · subst h; exact .inr ⟨j, e, hi, hb⟩
   · rw [hpSet_ne h] at hj; exact .inr ⟨j, f, hj, hb⟩
 · rintro (hX | ⟨j, f, hj, hb⟩)
   · exact .inl hX
   by_cases h : j = i
   · subst h; exact .inr ⟨j, e', by simp, hb⟩
   · exact .inr ⟨j, f, by rw [hpSet_ne h]; exact hj, hb⟩
theorem shape_setBlk {b : Nat} {c c' : Array Value} {ty : TypeId} {fr fr' : Nat × Nat} (h : w.heap[b]? = some (.cells c ty fr)) (hs : c'.size = c.size) (j : Nat) : (setBlk w b (.cells c' ty fr')).shape? j = w.shape? j := by
 simp only [World.shape?, setBlk_heap (getElem?_lt h)]
 by_cases hj : j = b
 · subst hj; simp [h, hs]
 · simp [hj]
/-- One owned block's cells are written anew. -/
theorem post_writeF (hg : Good X w β hp) {i b : Nat} {e e' : Ent} {c c' : Array Value} {fr fr' : Nat × Nat} {vs rest : List Value} {r : Out} {v : Value}
   (hi : hp i = some e) (hb : β i = some (some b)) (hh : w.heap[b]? = some (.cells c e.ty fr)) (hfr : ∀ o, o < c.size → fr'.1 = fr'.2 ∨ o < fr'.1) (hty : e'.ty = e.ty)
   (hs : c'.size = c.size) (hc : c'.toList = vs ++ rest) (hv : RepE w β (Own X β hp) e'.sz e'.es vs) (hw : r.hw = [(i, some e')])
   (hrep : ∀ O', Rep (setBlk w b (.cells c' e.ty fr')) β O' r.v v) : Post X w β hp nb r v (setBlk w b (.cells c' e.ty fr')) β := by
 have hhp : setHp hp r.hw = hpSet hp i (some e') := by rw [hw]; rfl
 have hlt := getElem?_lt hh
 have hOo : Own X β hp b := .inr ⟨i, e, hi, hb⟩
 have hnX : ¬ X b := hg.xdis i e b hi hb
 have hf : Frm w (Own X β hp) (setBlk w b (.cells c' e.ty fr')) (Own X β (hpSet hp i (some e'))) := by
   refine ⟨rfl, rfl, rfl, by simp [setBlk], fun j hj hO => ?_, fun j hj => .inl ((own_iff_set hi j).1 hj), fun j s hj => by rw [shape_setBlk hh hs]; exact hj⟩
   rw [setBlk_heap hlt, if_neg (fun (he : j = b) => hO (he ▸ hOo))]
 have hx := GmExt.refl β
 refine ⟨by rw [hhp]; exact hrep _, ?_, by rw [hhp]; exact hf, hx, fun j hj => by rw [setBlk_heap hlt, if_neg (fun (he : j = b) => hnX (he ▸ hj))], fun j hj => .inl hj⟩
 rw [hhp]
 refine good_of hg hf hx ?_ ?_ ?_
 · intro j k f g d hj hk hbj hbk
   have h1 : ∃ f', hp j = some f' := by
     by_cases h : j = i
     · exact ⟨e, h ▸ hi⟩
     · rw [hpSet_ne h] at hj; exact ⟨f, hj⟩
   have h2 : ∃ g', hp k = some g' := by
     by_cases h : k = i
     · exact ⟨e, h ▸ hi⟩
     · rw [hpSet_ne h] at hk; exact ⟨g, hk⟩
   obtain ⟨f', h1⟩ := h1
   obtain ⟨g', h2⟩ := h2
   exact hg.inj j k f' g' d h1 h2 hbj hbk
 · intro j f hj
   by_cases h : j = i
   · subst h
     simp at hj
     subst hj
     left
     exact .inr ⟨b, c', fr', vs, rest, hb, by rw [setBlk_heap hlt, hty]; simp, by rw [hs]; exact hfr, hc, RepE.mono (hf.stab hx) _ _ _ hv⟩
   · rw [hpSet_ne h] at hj
     refine .inr ⟨hj, fun d hd => ?_⟩
     rw [setBlk_heap hlt, if_neg]
     intro he
     subst he
     exact h (hg.inj j i f e d hj hi hd hb)
 · intro j f d hj hd
   by_cases h : j = i
   · subst h; exact hg.xdis j e d hi hd
   · rw [hpSet_ne h] at hj; exact hg.xdis j f d hj hd
theorem post_write (hg : Good X w β hp) {i b : Nat} {e e' : Ent} {c c' : Array Value} {fr : Nat × Nat} {vs rest : List Value} {r : Out} {v : Value}
   (hi : hp i = some e) (hb : β i = some (some b)) (hh : w.heap[b]? = some (.cells c e.ty fr)) (hfr : ∀ o, o < c.size → fr.1 = fr.2 ∨ o < fr.1) (hty : e'.ty = e.ty)
   (hs : c'.size = c.size) (hc : c'.toList = vs ++ rest) (hv : RepE w β (Own X β hp) e'.sz e'.es vs) (hw : r.hw = [(i, some e')])
   (hrep : ∀ w' O', Rep w' β O' r.v v) : Post X w β hp nb r v (setBlk w b (.cells c' e.ty fr)) β :=
 post_writeF hg hi hb hh hfr hty hs hc hv hw (fun O' => hrep _ O')
theorem store_sound (hT : TabOk P T) (hg : Good X w β hp) {t : TypeId} {x y : AV} {u v : Value} {r : Out} (h : aStore T hp t x y = some r) (hob : r.ob)
   (hx : Rep w β (Own X β hp) x u) (hy : Rep w β (Own X β hp) y v) : ∃ w', (Instr.storeAt t u v).run P w = .ok () w' ∧ Post X w β hp nb r undef w' β := by
 unfold aStore at h
 split at h
 · rename_i ti i sz k off xs ht hxs
   split at h
   · rename_i e he
     split at h
     · rename_i c hc
       simp only [Option.some.injEq] at h
       subst h
       simp only at hob
       obtain ⟨hsz, hle, hlen, hall⟩ := hob
       obtain ⟨tinfo, z0, hti, htsz, _, _, _, hud, _⟩ := tab hT ht
       simp only [Rep] at hx
       obtain ⟨b, hb, rfl⟩ := hx
       have hys := acells_spec hxs hy
       obtain ⟨b', cs, fr, v1, cu, v2, rest, hb', hheap, hfr, hcs, hv1, hcu, ht1, ht2, hcl⟩ := hg.elem he hc
       obtain rfl : b = b' := by rw [hb] at hb'; simpa using hb'
       have hcul : cu.length = e.sz := by rw [← hcu.length]; exact hcl
       have hyl : v.cells.toList.length = xs.length := hys.length.symm
       have hsize : cs.size = v1.length + cu.length + v2.length + rest.length := by rw [← Array.length_toList, hcs]; simp; omega
       have hroom : k * sz + off + 0 + v.cells.toList.length ≤ cs.size := by rw [hyl, hsize, hv1, hsz]; omega
       have hput := run_storeCells (P := P) (b := b) (off := k * sz + off) v.cells.toList 0 w cs hheap hroom hfr (storables_plain hall hys)
       refine ⟨setBlk w b (.cells (putL cs (k * sz + off + 0) v.cells.toList) e.ty fr), ?_, post_write (e' := { e with es := e.es.set k (splice c off xs) }) (vs := v1 ++ (cu.take off ++ (v.cells.toList ++ cu.drop (off + v.cells.toList.length))) ++ v2) (rest := rest) hg he hb hheap hfr rfl (putL_size _ _ _) ?_ ?_ rfl (fun _ _ => by simp [Rep])⟩
       · simp only [Instr.storeAt, run_bind, Instr.sureAddr, run_pure, storeVar, run_size hti]
         rw [if_neg]
         · simpa using hput
         · rw [htsz, ← hlen, ← hyl]; simp
       · rw [putL_list _ _ _ (by omega), hcs]
         have e1 : k * sz + off + 0 = v1.length + off := by rw [hv1, hsz]; omega
         rw [e1]
         simp only [List.append_assoc]
         rw [List.take_length_add_append]
         have e2 : v1.length + off + v.cells.toList.length = v1.length + (off + v.cells.toList.length) := by omega
         rw [e2, List.drop_length_add_append]
         rw [List.take_append_of_le_length (by omega), List.drop_append_of_le_length (by omega)]
         simp
       · have hk : k < e.es.length := by
           rcases Nat.lt_or_ge k e.es.length with h | h
           · exact h
           · simp [List.getElem?_eq_none h] at hc
         rw [set_split _ _ _ hk]
         have hs1 : RepE w β (Own X β hp) e.sz (splice c off xs :: e.es.drop (k + 1)) ((cu.take off ++ (v.cells.toList ++ cu.drop (off + v.cells.toList.length))) ++ v2) := by
           simp only [RepE]
           refine ⟨_, _, rfl, ?_, hcu.splice hys hle, ht2⟩
           simp only [splice, List.length_append, List.length_take, List.length_drop]
           omega
         have := ht1.append hs1
         simpa [List.append_assoc] using this
     · simp at h
   · simp at h
 · simp at h
/-- The zero cells of n elements. -/
theorem zeros_rep {O : Nat → Prop} {z : List Value} {sz : Nat} (hz : z.length = sz) : ∀ n, RepE w β O sz (List.replicate n (z.map .val)) (List.replicate n z).flatten
 | 0 => by simp [RepE]
 | n + 1 => by
   simp only [List.replicate_succ, RepE, List.flatten_cons]
   exact ⟨z, _, rfl, by simpa using hz, repL_vals z, zeros_rep hz n⟩
theorem zeros_cells (z : Array Value) (hz : 0 < z.size) (n : Nat) : ((Array.range (n * z.size)).map (fun i => z[i % z.size]!)).toList = (List.replicate n z.toList).flatten := by
 apply List.ext_getElem
 · simp
 · intro j h1 h2
   simp at h1
   have hm : j % z.size < z.size := Nat.mod_lt _ hz
   have : ∀ (n : Nat) (j : Nat) (h : j < (List.replicate n z.toList).flatten.length), (List.replicate n z.toList).flatten[j] = z[j % z.size]! := by
     intro n
     induction n with
     | zero => intro j h; simp at h
     | succ n ih =>
       intro j h
       have hlen : (List.replicate n z.toList).flatten.length = n * z.size := by simp
       simp only [List.replicate_succ, List.flatten_cons, List.getElem_append]
       split
       · rename_i hlt
         simp at hlt
         rw [Nat.mod_eq_of_lt hlt]
         simp [hlt]
       · rename_i hge
         simp at hge
         rw [ih]
         congr 1
         simp only [Array.length_toList]
         rw [← Nat.mod_eq_sub_mod hge]
   rw [this]
   simp
theorem makeSlice_sound (hT : TabOk P T) (hg : Good X w β hp) (hn : β nb = none) {t e : TypeId} {te : TI} (he : elemOf T t = some (e, te)) {n : Int} (h0 : 0 ≤ n) (hb : te.bytes * n ≤ 2 ^ 47) (h63 : n < 2 ^ 63) (hsz : 0 < te.size) :
   ∃ v w', (Instr.makeSlice t (.int .i64 n) (.int .i64 n)).run P w = .ok v w' ∧
     ∀ ob, Post X w β hp nb { v := .osl nb n.toNat te.size, hw := [(nb, some ⟨e, te.size, List.replicate n.toNat (te.zero.map .val)⟩)], ob := ob } v w' (gmSet β nb (some w.heap.size)) := by
 obtain ⟨hu, hte⟩ := elemOf_spec hT he
 obtain ⟨i, z, hi, hisz, hby, hz, hzc, hud, hzl⟩ := tab hT hte
 have hwr : IntKind.i64.wrap n = n := by
   unfold IntKind.wrap
   simp only [IntKind.bits, IntKind.signed]
   have : n % (2 ^ 64 : Int) = n := Int.emod_eq_of_lt h0 (by omega)
   simp only [this]
   rw [if_neg]
   simp; omega
 have hzsz : z.cells.size = te.size := by rw [← Array.length_toList, hzc, hzl]
 have hrow : ((Array.range (n.toNat * te.size)).map (fun j => z.cells[j % z.cells.size]!)).toList = (List.replicate n.toNat te.zero).flatten := by
   rw [← hzc, ← zeros_cells z.cells (by omega) n.toNat, hzsz]
 refine ⟨.slice (some ⟨w.heap.size, 0, none⟩) n.toNat n.toNat, { w with heap := w.heap.push (.cells ((Array.range (n.toNat * te.size)).map (fun j => z.cells[j % z.cells.size]!)) e) }, ?_, fun ob => ?_⟩
 · have hl : ¬ ((i.bytes : Int) * n > 2 ^ 48) := by rw [hby]; omega
   have hl2 : ¬ (n < 0) := by omega
   simp only [Instr.makeSlice, run_bind, run_underlying hu, asInt, asIntOf, run_pure, run_info hi, hwr, run_size hi, run_zero hi hz, hisz]
   simp only [hl, hl2, decide_false, Bool.or_false, Bool.false_eq_true, if_false, or_false, gt_iff_lt, Int.lt_irrefl, run_bind, run_pure, askRoom]
   have hroom : (if n.toNat * i.bytes > roomBytes then mark Mark.noRoom else pure ()).run P w = .ok () w := by
     split <;> rfl
   rw [hroom]
   simp only [run_bind, run_size hi, hisz]
   by_cases hz0 : n.toNat * te.size = 0
   · simp only [hz0, if_true, run_pure, newRow, newObj, run_bind]
     have : n.toNat = 0 := by
       rcases Nat.mul_eq_zero.1 hz0 with h | h
       · exact h
       · omega
     have er : ∀ f : Nat → Value, Array.map f (Array.range 0) = #[] := fun f => by apply Array.ext'; simp
     simp [Sem.run, pure, this, er]
   · simp only [hz0, if_false, run_bind, run_zero hi hz, run_pure, newRow, newObj]
     rfl
 · refine post_alloc hg hn (fr := (0, 0)) (c := (Array.range (n.toNat * te.size)).map (fun j => z.cells[j % z.cells.size]!)) (vs := (List.replicate n.toNat te.zero).flatten) (rest := []) rfl (by intro o _; exact .inl rfl) (by rw [hrow]; simp) (zeros_rep hzl _) rfl rfl rfl rfl ?_
   intro O' hs
   simp only [Rep]
   refine .inr ⟨w.heap.size, n.toNat, _, _, gmSet_same, rfl, Nat.le_refl _, hs, ?_⟩
   simp
theorem fold_put : ∀ (l : List Value) (off k : Nat) (cells : Array Value), (l.zipIdx k).foldl (fun cs (x : Value × Nat) => cs.setIfInBounds (off + x.2) x.1) cells = putL cells (off + k) l
 | [], off, k, cells => by simp [putL]
 | v :: l, off, k, cells => by
   simp only [List.zipIdx_cons, List.foldl_cons, putL]
   rw [fold_put l off (k + 1)]
   rfl
theorem fold_put' (v : Value) (off : Nat) (cells : Array Value) : v.cells.zipIdx.foldl (fun cs (x : Value × Nat) => cs.setIfInBounds (off + x.2) x.1) cells = putL cells off v.cells.toList := by
 rw [← Array.foldl_toList, Array.toList_zipIdx, fold_put]; rfl
/-- What a slice literal's parts come to. -/
theorem fill_parts {env : Env} {a : Act} {O : Nat → Prop} (henv : EnvOk w β O env a.tmps) {sz : Nat} : ∀ (ps : List (Nat × Operand)) (n : Nat) (es : List (List AV)) (pre post : List Value), allParts n ps = true → partCells env ps = some es → (∀ c ∈ es, c.length = sz) →
   pre.length = n * sz → post.length = ps.length * sz →
   ∃ vs, Instr.fill (fun i => some (i * sz, sz)) (pre ++ post).toArray (ps.map fun (i, x) => (i, a.eval x)) = some (pre ++ vs).toArray ∧ RepE w β O sz es vs
 | [], n, es, pre, post, h1, h2, h3, h4, h5 => by
   simp only [partCells, Option.some.injEq] at h2
   subst h2
   simp at h5
   subst h5
   exact ⟨[], by simp [Instr.fill], by simp [RepE]⟩
 | (i, x) :: ps, n, es, pre, post, h1, h2, h3, h4, h5 => by
   simp only [allParts, Bool.and_eq_true, beq_iff_eq] at h1
   obtain ⟨rfl, h1⟩ := h1
   simp only [partCells] at h2
   split at h2
   · rename_i c cs hc hcs
     simp only [Option.some.injEq] at h2
     subst h2
     have hr := acells_spec hc (evA_rep henv x)
     have hcl : c.length = sz := h3 c (by simp)
     have hvl : (a.eval x).cells.toList.length = sz := by rw [← hr.length]; exact hcl
     simp only [List.length_cons, Nat.succ_mul] at h5
     have hpost : post = post.take sz ++ post.drop sz := (List.take_append_drop _ _).symm
     obtain ⟨vs, hv1, hv2⟩ := fill_parts henv ps (i + 1) cs (pre ++ (a.eval x).cells.toList) (post.drop sz) h1 hcs (fun c hc => h3 c (by simp [hc])) (by simp only [List.length_append, hvl, h4, Nat.succ_mul]) (by simp; omega)
     refine ⟨(a.eval x).cells.toList ++ vs, ?_, ?_⟩
     · simp only [List.map_cons, Instr.fill]
       have hsz : (a.eval x).cells.size = sz := by simpa using hvl
       have hcond : ¬ ((decide ((a.eval x).cells.size ≠ sz) || decide (i * sz + (a.eval x).cells.size > (pre ++ post).toArray.size)) = true) := by
         simp [hsz, h4]; omega
       rw [if_neg hcond]
       rw [← List.append_assoc, ← hv1]
       congr 1
       refine (fold_put' _ _ _).trans ?_
       apply Array.ext'
       rw [putL_list _ _ _ (by simp [h4] at hvl ⊢; omega)]
       have hvl' : (a.eval x).cells.toList.length = sz := hvl
       simp only [hvl']
       rw [← h4, List.take_left', List.drop_append, List.drop_of_length_le (by omega)]
       · simp
       · rfl
     · simp only [RepE]
       exact ⟨_, _, rfl, hcl, hr, hv2⟩
   · simp at h2
end mem
section mem
variable {X : Nat → Prop} {P : Program} {T : Tab} {w w' : World} {β β' : Gm} {hp hp' : Hp} {nb : Nat}
theorem buildSlice_sound (hT : TabOk P T) (hg : Good X w β hp) (hn : β nb = none) {env : Env} {a : Act} (henv : EnvOk w β (Own X β hp) env a.tmps) {t e : TypeId} {te : TI} (he : elemOf T t = some (e, te)) {len : Nat} {parts : Array (Nat × Operand)} {es : List (List AV)}
   (h1 : allParts 0 parts.toList = true) (h2 : partCells env parts.toList = some es) (h3 : es.length = len) (h4 : ∀ c ∈ es, c.length = te.size) (h5 : len * te.size ≤ 2 ^ 24) :
   ∃ v w', (Instr.buildSlice t len (parts.map fun (i, x) => (i, a.eval x))).run P w = .ok v w' ∧
     ∀ ob, Post X w β hp nb { v := .osl nb len te.size, hw := [(nb, some ⟨e, te.size, es⟩)], ob := ob } v w' (gmSet β nb (some w.heap.size)) := by
 obtain ⟨hu, hte⟩ := elemOf_spec hT he
 obtain ⟨i, z, hi, hisz, hby, hz, hzc, hud, hzl⟩ := tab hT hte
 have hpl : ∀ (ps : List (Nat × Operand)) (es : List (List AV)), partCells env ps = some es → es.length = ps.length := by
   intro ps
   induction ps with
   | nil => intro es h; simp [partCells] at h; subst h; rfl
   | cons p ps ih =>
     intro es h
     simp only [partCells] at h
     split at h
     · rename_i c cs hc hcs
       simp at h; subst h
       simp [ih cs hcs]
     · simp at h
 have hlen : parts.toList.length = len := by rw [← h3, hpl _ _ h2]
 have key : ∀ zero : Array Value, ∃ vs, Instr.fill (fun i => some (i * te.size, te.size)) ((Array.range (len * te.size)).map (fun j => zero[j % zero.size]!)) (parts.toList.map fun (i, x) => (i, a.eval x)) = some vs.toArray ∧ RepE w β (Own X β hp) te.size es vs := by
   intro zero
   obtain ⟨vs, hv1, hv2⟩ := fill_parts henv (sz := te.size) parts.toList 0 es [] ((Array.range (len * te.size)).map (fun j => zero[j % zero.size]!)).toList h1 h2 h4 (by simp) (by simp [hlen])
   refine ⟨vs, ?_, hv2⟩
   rw [List.nil_append, List.nil_append, Array.toArray_toList] at hv1
   exact hv1
 have hmap : (parts.map fun (i, x) => (i, a.eval x)).toList = parts.toList.map fun (i, x) => (i, a.eval x) := by simp
 have fin : ∀ vs : List Value, RepE w β (Own X β hp) te.size es vs → ∀ ob, Post X w β hp nb { v := .osl nb len te.size, hw := [(nb, some ⟨e, te.size, es⟩)], ob := ob } (.slice (some ⟨w.heap.size, 0, none⟩) len len) { w with heap := w.heap.push (.cells vs.toArray e) } (gmSet β nb (some w.heap.size)) := by
   intro vs hv ob
   refine post_alloc hg hn (fr := (0, 0)) (c := vs.toArray) (vs := vs) (rest := []) rfl (by intro o _; exact .inl rfl) (by simp) hv rfl rfl rfl rfl ?_
   intro O' hs
   simp only [Rep]
   refine .inr ⟨w.heap.size, len, _, _, gmSet_same, rfl, Nat.le_refl _, hs, ?_⟩
   simp [hv.length, h3]
 by_cases h0 : len * te.size = 0
 · obtain ⟨vs, hv1, hv2⟩ := key #[]
   refine ⟨_, { w with heap := w.heap.push (.cells vs.toArray e) }, ?_, fin vs hv2⟩
   simp only [Instr.buildSlice, run_bind, run_underlying hu, run_size hi, hisz]
   rw [if_neg (by omega)]
   simp only [run_bind, run_pure, h0, if_true, hmap]
   rw [h0] at hv1
   simp only [hv1, newRow, newObj, run_bind, run_pure]
   rfl
 · obtain ⟨vs, hv1, hv2⟩ := key z.cells
   refine ⟨_, { w with heap := w.heap.push (.cells vs.toArray e) }, ?_, fin vs hv2⟩
   simp only [Instr.buildSlice, run_bind, run_underlying hu, run_size hi, hisz]
   rw [if_neg (by omega)]
   simp only [run_bind, run_pure, h0, if_false, run_zero hi hz, hmap]
   simp only [hv1, newRow, newObj, run_bind, run_pure]
   rfl
theorem fillA_ob {env : Env} {t : TypeId} : ∀ (ps : List (Nat × Operand)) (cells cs : List AV) (ob p : Prop), fillA T t env cells ob ps = some (cs, p) → p → ob
 | [], cells, cs, ob, p, h, hp => by
   simp only [fillA, Option.some.injEq, Prod.mk.injEq] at h
   rw [h.2]; exact hp
 | (f, x) :: ps, cells, cs, ob, p, h, hp => by
   simp only [fillA] at h
   split at h
   · exact (fillA_ob ps _ _ _ _ h hp).1
   · simp at h
theorem fill_struct (hT : TabOk P T) {env : Env} {a : Act} {O : Nat → Prop} (henv : EnvOk w β O env a.tmps) {t : TypeId} {fs : Array Field} (hd : P.underlying t = some (.struct fs)) {sizes : Nat → Option (Nat × Nat)}
   (hs : ∀ f fd tf, fs[f]? = some fd → T fd.type = some tf → sizes f = some (fd.offset, tf.size)) : ∀ (ps : List (Nat × Operand)) (cells cs : List AV) (vals : List Value) (ob p : Prop), fillA T t env cells ob ps = some (cs, p) → p →
   RepL w β O cells vals → ∃ vs, Instr.fill sizes vals.toArray (ps.map fun (i, x) => (i, a.eval x)) = some vs.toArray ∧ RepL w β O cs vs
 | [], cells, cs, vals, ob, p, h, hp, hr => by
   simp only [fillA, Option.some.injEq, Prod.mk.injEq] at h
   obtain ⟨rfl, _⟩ := h
   exact ⟨vals, rfl, hr⟩
 | (f, x) :: ps, cells, cs, vals, ob, p, h, hp, hr => by
   simp only [fillA] at h
   split at h
   · rename_i o tf xs hf hxs
     obtain ⟨fs', fd, hu, hfd, rfl, htf⟩ := fieldOf_spec hT hf
     obtain rfl : fs = fs' := by rw [hd] at hu; simpa using hu
     obtain ⟨_, hlen, hle⟩ := fillA_ob ps _ _ _ _ h hp
     have hx := acells_spec hxs (evA_rep henv x)
     have hxl := hx.length
     have hcl := hr.length
     have hr' := hr.splice hx hle
     obtain ⟨vs, h1, h2⟩ := fill_struct hT henv hd hs ps _ _ _ _ _ h hp hr'
     refine ⟨vs, ?_, h2⟩
     simp only [List.map_cons, Instr.fill, hs f fd tf hfd htf]
     have hc : ¬ ((decide ((a.eval x).cells.size ≠ tf.size) || decide (fd.offset + (a.eval x).cells.size > vals.toArray.size)) = true) := by
       have : (a.eval x).cells.size = xs.length := by rw [hxl]; simp
       simp [this, hlen]; omega
     rw [if_neg hc, ← h1]
     congr 1
     refine (fold_put' _ _ _).trans ?_
     apply Array.ext'
     rw [putL_list _ _ _ (by simp at hxl ⊢; omega)]
   · simp at h
theorem run_sizes {fs : List Field} : (∀ f ∈ fs, ∃ j, P.info? f.type = some j) → (fs.mapM (fun f => do pure (f.offset, ← Go.sizeOf f.type)) : Sem (List (Nat × Nat))).run P w = .ok (fs.map fun f => (f.offset, P.cellsOf f.type)) w := by
 induction fs with
 | nil => intro _; rfl
 | cons f fs ih =>
   intro h
   obtain ⟨j, hj⟩ := h f (by simp)
   have hc : P.cellsOf f.type = j.size := by simp [Program.cellsOf, hj]
   simp only [List.mapM_cons, run_bind, run_size hj, run_pure, ih (fun g hg => h g (by simp [hg])), List.map_cons, hc]
theorem build_sound (hT : TabOk P T) {env : Env} {a : Act} {O : Nat → Prop} (henv : EnvOk w β O env a.tmps) {t : TypeId} {ti : TI} (ht : T t = some ti) {parts : Array (Nat × Operand)} {cs : List AV} {p : Prop}
   (h : fillA T t env (ti.zero.map .val) True parts.toList = some (cs, p)) (hp : p) (hagg : ∃ fs, ti.desc = .struct fs) :
   ∃ z, (Instr.build t (parts.map fun (i, x) => (i, a.eval x))).run P w = .ok z w ∧ Rep w β O (.agg cs) z := by
 obtain ⟨i, z, hi, hisz, hby, hz, hzc, hud, hzl, hflds⟩ := hT t ti ht
 obtain ⟨fs, hfs⟩ := hagg
 rw [hfs] at hud
 have hs : ∀ (f : Nat) (fd : Field) (tf : TI), fs[f]? = some fd → T fd.type = some tf → ((fs.map fun f => (f.offset, P.cellsOf f.type))[f]?) = some (fd.offset, tf.size) := by
   intro f fd tf h1 h2
   obtain ⟨j, z', hj, hjs, _⟩ := tab hT h2
   simp [h1, Program.cellsOf, hj, hjs]
 obtain ⟨vs, h1, h2⟩ := fill_struct hT henv hud hs parts.toList _ _ _ _ _ h hp (repL_vals (w := w) (β := β) (O := O) ti.zero)
 refine ⟨.agg vs.toArray, ?_, by simp only [Rep]; exact ⟨vs, rfl, h2⟩⟩
 have hm : (fs.mapM (fun f => do pure (f.offset, ← Go.sizeOf f.type)) : Sem (Array (Nat × Nat))).run P w = .ok (fs.map fun f => (f.offset, P.cellsOf f.type)) w := by
   have := run_sizes (P := P) (w := w) (fs := fs.toList) (hflds fs hfs)
   rw [Array.mapM_eq_mapM_toList]
   have e : ∀ (m : Sem (List (Nat × Nat))), (Functor.map List.toArray m).run P w = (m >>= fun a => pure a.toArray).run P w := fun m => rfl
   rw [e, run_bind, this]
   simp [run_pure]
   apply Array.ext'; simp
 have hmap : (parts.map fun (i, x) => (i, a.eval x)).toList = parts.toList.map fun (i, x) => (i, a.eval x) := by simp
 have hzz : z.cells = ti.zero.toArray := by rw [← hzc]
 simp only [Instr.build, run_bind, run_zero hi hz, run_underlying hud, run_pure, hm, hmap, hzz, h1]
structure Stp (X : Nat → Prop) (w : World) (β : Gm) (hp : Hp) (nb : Nat) (w' : World) (β' : Gm) (hp' : Hp) : Prop where
 good : Good X w' β' hp'
 frm : Frm w (Own X β hp) w' (Own X β' hp')
 ext : GmExt β β'
 keepX : ∀ b, X b → w'.heap[b]? = w.heap[b]?
 new : ∀ i, β' i ≠ none → β i ≠ none ∨ (nb ≤ i ∧ i < nb + 8)
theorem Stp.trans {w1 w2 w3 : World} {β1 β2 β3 : Gm} {hp1 hp2 hp3 : Hp} (h : Stp X w1 β1 hp1 nb w2 β2 hp2) (k : Stp X w2 β2 hp2 nb w3 β3 hp3) : Stp X w1 β1 hp1 nb w3 β3 hp3 := by
 refine ⟨k.good, h.frm.trans k.frm, h.ext.trans k.ext, fun b hb => (k.keepX b hb).trans (h.keepX b hb), fun i hi => ?_⟩
 rcases k.new i hi with h1 | h1
 · exact h.new i h1
 · exact .inr h1
theorem Post.stp {r : Out} {v : Value} (h : Post X w β hp nb r v w' β') : Stp X w β hp nb w' β' (setHp hp r.hw) := ⟨h.good, h.frm, h.ext, h.keepX, h.new⟩
theorem Stp.post {r : Out} {v : Value} (h : Stp X w β hp nb w' β' (setHp hp r.hw)) (hr : Rep w' β' (Own X β' (setHp hp r.hw)) r.v v) : Post X w β hp nb r v w' β' := ⟨hr, h.good, h.frm, h.ext, h.keepX, h.new⟩
/-- An entry may be forgotten. -/
theorem stp_drop (hg : Good X w β hp) (i : Nat) : Stp X w β hp nb w β (hpSet hp i none) := by
 have hO : ∀ b, Own X β (hpSet hp i none) b → Own X β hp b := by
   rintro b (hX | ⟨j, e, hj, hb⟩)
   · exact .inl hX
   by_cases h : j = i
   · subst h; simp at hj
   · rw [hpSet_ne h] at hj; exact .inr ⟨j, e, hj, hb⟩
 have hf : Frm w (Own X β hp) w (Own X β (hpSet hp i none)) := ⟨rfl, rfl, rfl, Nat.le_refl _, fun _ _ _ => rfl, fun b hb => .inl (hO b hb), fun _ _ h => h⟩
 have hlive : ∀ j e, hpSet hp i none j = some e → hp j = some e := by
   intro j e hj
   by_cases h : j = i
   · subst h; simp at hj
   · rwa [hpSet_ne h] at hj
 refine ⟨good_of hg hf (GmExt.refl _) (fun j k e f b hj hk => hg.inj j k e f b (hlive j e hj) (hlive k f hk)) (fun j e hj => .inr ⟨hlive j e hj, fun _ _ => rfl⟩) (fun j e b hj hb => hg.xdis j e b (hlive j e hj) hb), hf, GmExt.refl _, fun _ _ => rfl, fun _ h => .inl h⟩
/-- An entry may be called by a new id. -/
theorem stp_rename (hg : Good X w β hp) {i : Nat} {e : Ent} (hi : hp i = some e) (hn : β nb = none) {p : Option Nat} (hp' : β i = some p) : Stp X w β hp nb w (gmSet β nb p) (hpSet (hpSet hp i none) nb (some e)) := by
 have hne : i ≠ nb := fun h => by rw [h] at hp'; rw [hn] at hp'; cases hp'
 have hO : ∀ b, Own X (gmSet β nb p) (hpSet (hpSet hp i none) nb (some e)) b ↔ Own X β hp b := by
   intro b
   constructor
   · rintro (hX | ⟨j, f, hj, hb⟩)
     · exact .inl hX
     by_cases h : j = nb
     · subst h; simp at hb; exact .inr ⟨i, e, hi, by rw [hp', hb]⟩
     · rw [hpSet_ne h] at hj; rw [gmSet_ne h] at hb
       by_cases h' : j = i
       · subst h'; simp at hj
       · rw [hpSet_ne h'] at hj; exact .inr ⟨j, f, hj, hb⟩
   · rintro (hX | ⟨j, f, hj, hb⟩)
     · exact .inl hX
     by_cases h' : j = i
     · subst h'; exact .inr ⟨nb, e, by simp, by rw [gmSet_same, ← hp', hb]⟩
     · have h : j ≠ nb := fun h => by rw [h] at hb; rw [hn] at hb; cases hb
       exact .inr ⟨j, f, by rw [hpSet_ne h, hpSet_ne h']; exact hj, by rw [gmSet_ne h]; exact hb⟩
 have hf : Frm w (Own X β hp) w (Own X (gmSet β nb p) (hpSet (hpSet hp i none) nb (some e))) := ⟨rfl, rfl, rfl, Nat.le_refl _, fun _ _ _ => rfl, fun b hb => .inl ((hO b).1 hb), fun _ _ h => h⟩
 have hx : GmExt β (gmSet β nb p) := gmSet_ext hn
 have back : ∀ j f, hpSet (hpSet hp i none) nb (some e) j = some f → ∃ j', hp j' = some f ∧ gmSet β nb p j = β j' ∧ (j = nb ∧ j' = i ∨ j = j' ∧ j ≠ i ∧ j ≠ nb) := by
   intro j f hj
   by_cases h : j = nb
   · subst h; simp at hj; subst hj; exact ⟨i, hi, by simp [hp'], .inl ⟨rfl, rfl⟩⟩
   · rw [hpSet_ne h] at hj
     by_cases h' : j = i
     · subst h'; simp at hj
     · rw [hpSet_ne h'] at hj; exact ⟨j, hj, gmSet_ne h, .inr ⟨rfl, h', h⟩⟩
 refine ⟨good_of hg hf hx ?_ ?_ ?_, hf, hx, fun _ _ => rfl, gmSet_new (Nat.le_refl _) (by omega)⟩
 · intro j k f g b hj hk hbj hbk
   obtain ⟨j', h1, h2, h3⟩ := back j f hj
   obtain ⟨k', h4, h5, h6⟩ := back k g hk
   rw [h2] at hbj; rw [h5] at hbk
   have := hg.inj j' k' f g b h1 h4 hbj hbk
   rcases h3 with ⟨a, b⟩ | ⟨a, b, c⟩ <;> rcases h6 with ⟨d, e'⟩ | ⟨d, e', f'⟩ <;> omega
 · intro j f hj
   obtain ⟨j', h1, h2, h3⟩ := back j f hj
   left
   have := (hg.ent j' f h1)
   rw [h2]
   rcases this with ⟨g1, g2⟩ | ⟨b, c, fr, vs, rest, g1, g2, g3, g4, g5⟩
   · exact .inl ⟨g1, g2⟩
   · exact .inr ⟨b, c, fr, vs, rest, g1, g2, g3, g4, RepE.mono (hf.stab hx) _ _ _ g5⟩
 · intro j f b hj hb
   obtain ⟨j', h1, h2, h3⟩ := back j f hj
   rw [h2] at hb
   exact hg.xdis j' f b h1 hb
/-- A nil slice under a new id. -/
theorem stp_nil (hg : Good X w β hp) (hn : β nb = none) (e : Ent) (he : e.es = []) : Stp X w β hp nb w (gmSet β nb none) (hpSet hp nb (some e)) := by
 have hnone := hg.fresh hn
 have hO : ∀ b, Own X (gmSet β nb none) (hpSet hp nb (some e)) b → Own X β hp b := by
   rintro b (hX | ⟨j, f, hj, hb⟩)
   · exact .inl hX
   by_cases h : j = nb
   · subst h; simp at hb
   · rw [hpSet_ne h] at hj; rw [gmSet_ne h] at hb; exact .inr ⟨j, f, hj, hb⟩
 have hf : Frm w (Own X β hp) w (Own X (gmSet β nb none) (hpSet hp nb (some e))) := ⟨rfl, rfl, rfl, Nat.le_refl _, fun _ _ _ => rfl, fun b hb => .inl (hO b hb), fun _ _ h => h⟩
 have hx : GmExt β (gmSet β nb none) := gmSet_ext hn
 refine ⟨good_of hg hf hx ?_ ?_ ?_, hf, hx, fun _ _ => rfl, gmSet_new (Nat.le_refl _) (by omega)⟩
 · intro j k f g b hj hk hbj hbk
   by_cases h : j = nb
   · subst h; simp at hbj
   · by_cases h' : k = nb
     · subst h'; simp at hbk
     · rw [hpSet_ne h] at hj; rw [gmSet_ne h] at hbj; rw [hpSet_ne h'] at hk; rw [gmSet_ne h'] at hbk
       exact hg.inj j k f g b hj hk hbj hbk
 · intro j f hj
   by_cases h : j = nb
   · subst h; simp at hj; subst hj; exact .inl (.inl ⟨gmSet_same, he⟩)
   · rw [hpSet_ne h] at hj; exact .inr ⟨hj, fun _ _ => rfl⟩
 · intro j f b hj hb
   by_cases h : j = nb
   · subst h; simp at hb
   · rw [hpSet_ne h] at hj; rw [gmSet_ne h] at hb; exact hg.xdis j f b hj hb
end mem
end Go.Av
