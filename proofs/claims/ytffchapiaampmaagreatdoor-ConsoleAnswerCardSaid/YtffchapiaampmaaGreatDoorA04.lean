/-
  Part 4 of the proof that logtidelaw45.ConsoleAnswer returns true for every list of bytes and every text, and leaves both as they were.
-/
import Derived.Test.YtffchapiaampmaaGreatDoorA03
set_option linter.unusedSimpArgs false
set_option linter.unusedVariables false
namespace Go.Av
section mem
variable {X : Nat → Prop} {P : Program} {T : Tab} {w w' : World} {β β' : Gm} {hp hp' : Hp} {nb : Nat}
theorem bytes_rep {O : Nat → Prop} : ∀ (l : List UInt8), RepE w β O 1 (bytesE l) (l.map fun b => .int .u8 b.toNat)
 | [] => by simp [bytesE, RepE]
 | b :: l => by
   simp only [bytesE, List.map_cons, RepE]
   refine ⟨[.int .u8 b.toNat], _, rfl, rfl, ?_, bytes_rep l⟩
   simp only [byteE, RepL]
   exact ⟨_, [], rfl, by simp [Rep], rfl⟩
theorem src_sound (hg : Good X w β hp) {sz : Nat} {y : AV} {v : Value} {es : List (List AV)} {rs : List Nat} {p : Prop} (h : srcOf hp sz y = some (es, rs, p)) (hpp : p) (hy : Rep w β (Own X β hp) y v) :
   ∃ vs, RepE w β (Own X β hp) sz es vs ∧ (∀ w1 : World, (Builtin.lenOf v).run P w1 = .ok es.length w1) ∧ (∀ w1 : World, w1.heap = w.heap → (Builtin.firstCells sz es.length v).run P w1 = .ok vs.toArray w1) := by
 unfold srcOf at h
 split at h
 · rename_i s es'
   simp only [Option.some.injEq, Prod.mk.injEq] at h
   obtain ⟨rfl, rfl, rfl⟩ := h
   subst hpp
   simp only [Rep] at hy
   rcases hy with ⟨rfl, rfl⟩ | ⟨b, off, cap, vs, rfl, h1, h2, h3, h4, h5⟩
   · exact ⟨[], by simp [RepE], fun w1 => rfl, fun w1 _ => rfl⟩
   · refine ⟨vs, h5.up, fun w1 => rfl, fun w1 hw => ?_⟩
     simp only [Builtin.firstCells]
     exact run_loadCells (w := w1) (h4.keep (by rw [hw])) h5.length.symm
 · rename_i i n s
   split at h
   · rename_i e he
     simp only [Option.some.injEq, Prod.mk.injEq] at h
     obtain ⟨rfl, rfl, rfl⟩ := h
     obtain ⟨hl, rfl, hs⟩ := hpp
     simp only [Rep] at hy
     rcases hy with ⟨hb, rfl, rfl⟩ | ⟨b, cap, T', m, hb, rfl, h1, h2, h3⟩
     · have : e.es = [] := List.eq_nil_of_length_eq_zero hl
       rw [this]
       exact ⟨[], by simp [RepE], fun w1 => rfl, fun w1 _ => rfl⟩
     · rcases hg.ent i e he with ⟨hb', _⟩ | ⟨b', c, fr, vs, rest, hb', hh, hfr, hc, hr⟩
       · rw [hb] at hb'; simp at hb'
       · obtain rfl : b = b' := by rw [hb] at hb'; simpa using hb'
         rw [hs] at hr
         refine ⟨vs, hr, fun w1 => by rw [hl]; rfl, fun w1 hw => ?_⟩
         simp only [Builtin.firstCells]
         have hca : cellsAt w b 0 vs := cellsAt_block hh hc
         exact run_loadCells (w := w1) (hca.keep (by rw [hw])) hr.length.symm
   · simp at h
 · rename_i i lo n s
   split at h
   · rename_i e he
     simp only [Option.some.injEq, Prod.mk.injEq] at h
     obtain ⟨rfl, rfl, rfl⟩ := h
     obtain ⟨hl, rfl, hs⟩ := hpp
     simp only [Rep] at hy
     have hlen : ((e.es.drop lo).take n).length = n := by simp; omega
     rcases hy with ⟨hb, rfl, rfl⟩ | ⟨b, off, cap, T', m, hb, rfl, h1, h5, h2, h3⟩
     · exact ⟨[], by simp [RepE], fun w1 => by simp; rfl, fun w1 _ => by simp; rfl⟩
     · rcases hg.ent i e he with ⟨hb', _⟩ | ⟨b', c, fr, vs, rest, hb', hh, hfr, hc, hr⟩
       · rw [hb] at hb'; simp at hb'
       · obtain rfl : b = b' := by rw [hb] at hb'; simpa using hb'
         rw [hs] at hr
         obtain ⟨v1, cu, v2, rfl, hv1, hcu⟩ := hr.cut (l := lo) (k := lo + n) (by omega) hl
         have e1 : (e.es.take (lo + n)).drop lo = (e.es.drop lo).take n := by rw [List.drop_take]; congr 1; omega
         rw [e1] at hcu
         refine ⟨cu, hcu, fun w1 => by rw [hlen]; rfl, fun w1 hw => ?_⟩
         rw [hlen]
         simp only [Builtin.firstCells]
         have hcl : cu.length = n * s := by rw [hcu.length, hlen]
         by_cases hn0 : n = 0
         · subst hn0
           have : cu = [] := List.eq_nil_of_length_eq_zero (by omega)
           subst this
           exact run_loadCells (w := w1) (vs := []) (fun j v hv => by simp at hv) (by simp)
         · have ho : off = lo * s := by
             rcases h5 with h | ⟨h, _⟩
             · exact h
             · omega
           have hca : cellsAt w b 0 (v1 ++ cu ++ v2) := cellsAt_block hh hc
           have hcm := hca.mid
           rw [hv1, Nat.zero_add, ← ho] at hcm
           exact run_loadCells (w := w1) (hcm.keep (by rw [hw])) hcl.symm
   · simp at h
 · simp only [Option.some.injEq, Prod.mk.injEq] at h
   obtain ⟨rfl, rfl, rfl⟩ := h
   simp only [Rep] at hy
   subst hy
   exact ⟨[], by simp [RepE], fun w1 => rfl, fun w1 _ => rfl⟩
 · rename_i s
   simp only [Option.some.injEq, Prod.mk.injEq] at h
   obtain ⟨rfl, rfl, rfl⟩ := h
   subst hpp
   simp only [Rep] at hy
   subst hy
   have hl : (bytesE (bl s)).length = s.size := by simp [bytesE, bl]
   refine ⟨_, bytes_rep (bl s), fun w1 => by rw [hl]; rfl, fun w1 _ => ?_⟩
   rw [hl]
   simp only [Builtin.firstCells, run_pure]
   congr 1
   apply Array.ext'
   simp [bl, bytes_extract]
   rw [List.take_of_length_le (by simp)]
 · simp at h
theorem cap_bound (need cap : Nat) (h : cap < need) : Builtin.nextslicecap need cap ≤ 2 * need := by
 have hg : ∀ (r c : Nat), 256 ≤ c → c < 2 * need → Builtin.growBy need r c ≤ 2 * need := by
   intro r
   induction r with
   | zero => intro c h1 h2; simp only [Builtin.growBy]; omega
   | succ r ih =>
     intro c h1 h2
     simp only [Builtin.growBy]
     split
     · omega
     · by_cases h3 : c + (c + 768) / 4 < 2 * need
       · exact ih _ (by omega) h3
       · omega
 unfold Builtin.nextslicecap
 split
 · omega
 · split
   · omega
   · exact hg 4 cap (by omega) (by omega)
/-- The head of an append. -/
theorem append_fits {t u ty e : TypeId} {ti : TypeInfo} {e' : TypeId} (hu : P.underlying t = some (.slice e)) (hi : P.info? e = some ti) (hd : P.underlying u = some (.slice e') ∨ P.underlying u = some .string)
   {base : Option Addr} {sLen sCap n : Nat} {vy : Value} {vs : List Value} (hl : ∀ w1 : World, (Builtin.lenOf vy).run P w1 = .ok n w1) (hf : ∀ w1 : World, w1.heap = w.heap → (Builtin.firstCells ti.size n vy).run P w1 = .ok vs.toArray w1) (hfit : sLen + n ≤ sCap) :
   (Builtin.append_ #[t, u] ty #[.slice base sLen sCap, vy]).run P w = match base with
     | some a => match (storeCells (a.add (sLen * ti.size)) vs).run P w with
       | .ok _ w' => .ok (.slice base (sLen + n) sCap) w'
       | .halt h w' => .halt h w'
     | none => .ok (.slice base (sLen + n) sCap) w := by
 unfold Builtin.append_
 rcases hd with hd | hd
 all_goals
   simp only [List.getElem?_toArray, List.getElem?_cons_zero, List.getElem?_cons_succ, run_bind, run_underlying hu, run_size hi, run_underlying hd, run_pure, Bool.false_eq_true, if_false, hl, Bool.not_false, if_true, hfit, hf w rfl]
   cases base with
   | none => simp only [run_pure]
   | some a => simp only [run_bind, run_pure]; split <;> simp_all
theorem append_grows {t u ty e : TypeId} {ti : TypeInfo} {z : Value} {e' : TypeId} (hu : P.underlying t = some (.slice e)) (hi : P.info? e = some ti) (hz : ti.zero = some z) (hd : P.underlying u = some (.slice e') ∨ P.underlying u = some .string)
   {base : Option Addr} {sLen sCap n : Nat} {vy : Value} {old vs : List Value} (hl : ∀ w1 : World, (Builtin.lenOf vy).run P w1 = .ok n w1) (hf : ∀ w1 : World, w1.heap = w.heap → (Builtin.firstCells ti.size n vy).run P w1 = .ok vs.toArray w1)
   (ho : ∀ w1 : World, w1.heap = w.heap → (Builtin.firstCells ti.size sLen (.slice base sLen sCap)).run P w1 = .ok old.toArray w1) (hfit : ¬ sLen + n ≤ sCap) (hb : (sLen + n) * ti.bytes ≤ 2 ^ 47) (hb0 : ti.bytes ≠ 0) :
   ∃ cap, sLen + n ≤ cap ∧ (Builtin.append_ #[t, u] ty #[.slice base sLen sCap, vy]).run P w = .ok (.slice (some ⟨w.heap.size, 0, none⟩) (sLen + n) cap) { w with drawn := w.drawn + 1, heap := w.heap.push (.cells (old.toArray ++ vs.toArray ++ Builtin.zeroCells z.cells (cap - (sLen + n))) e) } := by
 refine ⟨(Question.appendCap (sLen + n) sCap e).cut (w.tape w.drawn (.appendCap (sLen + n) sCap e)), by simp [Question.cut], ?_⟩
 unfold Builtin.append_
 have h1 : ¬ (((sLen + n : Nat) : Int) > IntKind.i64.max ∧ (false = true ∨ ti.bytes = 0)) := fun h => by rcases h.2 with h | h <;> simp_all
 have h2 : ¬ (Builtin.nextslicecap (sLen + n) sCap * ti.bytes > 2 ^ 48) := by
   have := Nat.mul_le_mul_right ti.bytes (cap_bound (sLen + n) sCap (by omega))
   have e : 2 * (sLen + n) * ti.bytes = 2 * ((sLen + n) * ti.bytes) := by rw [Nat.mul_assoc]
   omega
 have hch : ∀ q : Question, q.forced = false → (choose q).run P w = .ok (q.cut (w.tape w.drawn q)) { w with drawn := w.drawn + 1 } := by
   intro q hq; simp [choose, Sem.run, hq]
 have har : ∀ (m : Nat) (w1 : World), (askRoom m).run P w1 = .ok () w1 := by intro m w1; unfold askRoom; split <;> rfl
 rcases hd with hd | hd
 all_goals
   simp only [List.getElem?_toArray, List.getElem?_cons_zero, List.getElem?_cons_succ, run_bind, run_underlying hu, run_size hi, run_underlying hd, run_pure, Bool.false_eq_true, if_false, hl, Bool.not_false, if_true, hfit, run_info hi, false_or]
   rw [if_neg (by simpa using h1)]
   simp only [run_bind, run_pure, run_info hi, h2, if_false, hch (.appendCap (sLen + n) sCap e) rfl, har]
   rw [ho { w with drawn := w.drawn + 1 } rfl]
   simp only [run_bind]
   rw [hf { w with drawn := w.drawn + 1 } rfl]
   simp only [run_bind, run_zero hi hz, newRow, newObj, run_pure]
   rfl
theorem grow_post (hg : Good X w β hp) (hn : β nb = none) {e : TypeId} {sz m cap : Nat} {es : List (List AV)} {vs : List Value} (hv : RepE w β (Own X β hp) sz es vs) (hm : es.length = m) {z : Array Value} (hz : z.size = sz) (hcap : m ≤ cap) {ob : Prop} {hr : List Nat} :
   Post X w β hp nb { v := .osl nb m sz, hw := [(nb, some ⟨e, sz, es⟩)], hr := hr, ob := ob } (.slice (some ⟨w.heap.size, 0, none⟩) m cap) { w with drawn := w.drawn + 1, heap := w.heap.push (.cells (vs.toArray ++ Builtin.zeroCells z (cap - m)) e) } (gmSet β nb (some w.heap.size)) := by
 refine post_alloc hg hn (fr := (0, 0)) (c := vs.toArray ++ Builtin.zeroCells z (cap - m)) (vs := vs) (rest := (Builtin.zeroCells z (cap - m)).toList) rfl (by intro o _; exact .inl rfl) (by simp) hv rfl rfl rfl rfl ?_
 intro O' hs
 simp only [Rep]
 refine .inr ⟨w.heap.size, cap, _, _, gmSet_same, rfl, hcap, hs, ?_⟩
 have : (Builtin.zeroCells z (cap - m)).size = (cap - m) * sz := by simp [Builtin.zeroCells, hz]
 have h2 : vs.length = m * sz := by rw [hv.length, hm]
 simp only [Array.size_append, List.size_toArray, this, h2]
 rw [← Nat.add_mul]
 exact Nat.mul_le_mul_right _ (by omega)
theorem repE_plain {O : Nat → Prop} {sz : Nat} : ∀ {es : List (List AV)} {vs : List Value}, es.all (fun c => c.all storable) = true → RepE w β O sz es vs → ∀ v ∈ vs, plainV v = true
 | [], vs, h, hr, v, hv => by simp only [RepE] at hr; subst hr; simp at hv
 | c :: es, vs, h, hr, v, hv => by
   simp only [RepE] at hr
   obtain ⟨u, r, rfl, _, h1, h2⟩ := hr
   simp only [List.all_cons, Bool.and_eq_true] at h
   rcases List.mem_append.1 hv with hv | hv
   · exact storables_plain h.1 h1 v hv
   · exact repE_plain h.2 h2 v hv
theorem hpSet_twice {i : Nat} {a b : Option Ent} : hpSet (hpSet hp i a) i b = hpSet hp i b := by
 funext j; unfold hpSet; split <;> rfl
theorem append_sound (hT : TabOk P T) (hg : Good X w β hp) (hn : β nb = none) {t u ty : TypeId} {x y : AV} {vx vy : Value} {r : Out} (h : aAppend T hp nb t x y = some r) (hob : r.ob)
   (hd : (∃ e, descOf T u = some (.slice e)) ∨ descOf T u = some .string) (hx : Rep w β (Own X β hp) x vx) (hy : Rep w β (Own X β hp) y vy) :
   ∃ v w' β', (Builtin.append_ #[t, u] ty #[vx, vy]).run P w = .ok v w' ∧ Post X w β hp nb r v w' β' := by
 obtain ⟨e', hd'⟩ : ∃ e', P.underlying u = some (.slice e') ∨ P.underlying u = some .string := by
   rcases hd with ⟨e', h⟩ | h
   · exact ⟨e', .inl (tab_desc hT h)⟩
   · exact ⟨0, .inr (tab_desc hT h)⟩
 unfold aAppend at h
 split at h
 · simp at h
 · rename_i e te he
   obtain ⟨hu, hte⟩ := elemOf_spec hT he
   obtain ⟨ti, z, hi, hisz, hby, hz, hzc, hud, hzl⟩ := tab hT hte
   have hzsz : z.cells.size = te.size := by rw [← Array.length_toList, hzc, hzl]
   split at h
   · simp at h
   · rename_i es rs p hsrc
     split at h
     · simp only [Option.some.injEq] at h
       subst h
       simp only at hob
       obtain ⟨hpp, hs0, hb0, hbd⟩ := hob
       obtain ⟨vs, hvs, hlen, hfirst⟩ := src_sound (P := P) hg hsrc hpp hy
       simp only [Rep] at hx
       subst hx
       by_cases hz0 : es.length = 0
       · have hes : es = [] := List.eq_nil_of_length_eq_zero hz0
         refine ⟨.slice none (0 + es.length) 0, w, gmSet β nb none, ?_, ?_⟩
         · rw [append_fits hu hi hd' hlen (by rw [hisz]; exact hfirst) (by omega)]
         · refine Stp.post (stp_nil hg hn _ hes) ?_
           simp only [Rep]
           exact .inl ⟨gmSet_same, by rw [hz0], hz0⟩
       · obtain ⟨cap, hcap, hrun⟩ := append_grows (ty := ty) hu hi hz hd' (base := none) (sLen := 0) (sCap := 0) (old := []) hlen (by rw [hisz]; exact hfirst) (fun w1 _ => rfl) (by omega) (by rw [hby, Nat.zero_add]; exact hbd) (by rw [hby]; omega)
         simp only [Nat.zero_add] at hcap hrun
         refine ⟨_, _, gmSet β nb (some w.heap.size), hrun, ?_⟩
         have := grow_post (ob := p ∧ 0 < te.size ∧ 0 < te.bytes ∧ es.length * te.bytes ≤ 2 ^ 47) (hr := rs) hg hn (e := e) hvs rfl hzsz hcap
         simpa using this
     · rename_i i n sz
       split at h
       · rename_i en hen
         simp only [Option.some.injEq] at h
         subst h
         simp only at hob
         obtain ⟨hpp, hst0, hs0, hb0, hbd, hel, rfl, hesz, rfl⟩ := hob
         obtain ⟨vs, hvs, hlen, hfirst⟩ := src_sound (P := P) hg hsrc hpp hy
         have hdrop := stp_drop (nb := nb) hg i
         have hhp : ∀ a : Option Ent, setHp hp [(i, none), (nb, a)] = hpSet (hpSet hp i none) nb a := fun _ => rfl
         simp only [Rep] at hx
         rcases hx with ⟨hbi, rfl, rfl⟩ | ⟨b, cap, T', m, hbi, rfl, hnc, hshape, hcap⟩
         · have hen0 : en.es = [] := List.eq_nil_of_length_eq_zero hel
           by_cases hz0 : es.length = 0
           · have hes : es = [] := List.eq_nil_of_length_eq_zero hz0
             refine ⟨.slice none (0 + es.length) 0, w, gmSet β nb none, ?_, ?_⟩
             · rw [append_fits hu hi hd' hlen (by rw [hisz]; exact hfirst) (by omega)]
             · refine Stp.post ?_ ?_
               · rw [hhp]
                 exact hdrop.trans (stp_nil hdrop.good hn _ (by simp [hen0, hes]))
               · simp only [Rep]
                 exact .inl ⟨gmSet_same, by rw [hz0], by omega⟩
           · obtain ⟨cap, hcap, hrun⟩ := append_grows (ty := ty) hu hi hz hd' (base := none) (sLen := 0) (sCap := 0) (old := []) hlen (by rw [hisz]; exact hfirst) (fun w1 _ => rfl) (by omega) (by rw [hby]; exact hbd) (by rw [hby]; omega)
             refine ⟨_, _, gmSet β nb (some w.heap.size), hrun, ?_⟩
             have hvs' := RepE.mono (hdrop.frm.stab hdrop.ext) _ _ _ hvs
             have hg1 := grow_post (m := 0 + es.length) (ob := True) (hr := []) hdrop.good hn (e := en.ty) (es := en.es ++ es) (by rw [hen0]; exact hvs') (by simp [hen0]) hzsz hcap
             refine Stp.post ?_ ?_
             · rw [hhp]
               have := hdrop.trans hg1.stp
               simpa [setHp_cons] using this
             · have := hg1.rep
               rw [hhp]
               simpa [setHp_cons] using this
         · rcases hg.ent i en hen with ⟨hb', _⟩ | ⟨b', c, fr, old, rest, hb', hh, hfr, hc, hr⟩
           · rw [hbi] at hb'; simp at hb'
           · obtain rfl : b = b' := by rw [hbi] at hb'; simpa using hb'
             have hcs : m = c.size := by
               have : w.shape? b = some (en.ty, c.size) := by simp [World.shape?, hh]
               rw [this] at hshape; simp at hshape; exact hshape.2.symm
             rw [hesz] at hr
             have hol : old.length = n * te.size := by rw [hr.length, hel]
             have hvl : vs.length = es.length * te.size := hvs.length
             by_cases hfit : n + es.length ≤ cap
             · have hroom : 0 + n * te.size + vs.length ≤ c.size := by
                 have := Nat.mul_le_mul_right te.size hfit
                 rw [Nat.add_mul] at this
                 omega
               have hplain : ∀ v ∈ vs, plainV v = true := repE_plain hst0 hvs
               have hst := run_storeCells (P := P) (b := b) (off := n * te.size) vs 0 w c hh (by omega) hfr hplain
               refine ⟨.slice (some ⟨b, 0, none⟩) (n + es.length) cap, setBlk w b (.cells (putL c (n * te.size + 0) vs) en.ty fr), gmSet β nb (some b), ?_, ?_⟩
               · rw [append_fits hu hi hd' hlen (by rw [hisz]; exact hfirst) hfit]
                 simp only [add_none, hisz, Nat.zero_add, hst]
               · have hpw : Post X w β hp nb { v := .any, hw := [(i, some ⟨en.ty, te.size, en.es ++ es⟩)] } undef (setBlk w b (.cells (putL c (n * te.size + 0) vs) en.ty fr)) β := by
                   refine post_write (e' := ⟨en.ty, te.size, en.es ++ es⟩) (vs := old ++ vs) (rest := rest.drop vs.length) hg hen hbi hh hfr rfl (putL_size _ _ _) ?_ (hr.append hvs) rfl (fun _ _ => by simp [Rep])
                   rw [putL_list _ _ _ (by omega), hc, Nat.add_zero, ← hol]
                   simp
                 have h1 := hpw.stp
                 have h2 := stp_rename (i := i) (e := ⟨en.ty, te.size, en.es ++ es⟩) h1.good (by show hpSet hp i _ i = _; simp) hn hbi
                 have h3 := h1.trans h2
                 have e1 : hpSet (hpSet (setHp hp [(i, some (⟨en.ty, te.size, en.es ++ es⟩ : Ent))]) i none) nb (some ⟨en.ty, te.size, en.es ++ es⟩) = hpSet (hpSet hp i none) nb (some ⟨en.ty, te.size, en.es ++ es⟩) := by
                   show hpSet (hpSet (hpSet hp i _) i none) nb _ = _
                   rw [hpSet_twice]
                 rw [e1] at h3
                 refine Stp.post (by rw [hhp]; exact h3) ?_
                 simp only [Rep]
                 exact .inr ⟨b, cap, T', m, gmSet_same, rfl, hfit, by rw [shape_setBlk hh (putL_size _ _ _)]; exact hshape, hcap⟩
             · have hold : ∀ w1 : World, w1.heap = w.heap → (Builtin.firstCells ti.size n (.slice (some ⟨b, 0, none⟩) n cap)).run P w1 = .ok old.toArray w1 := by
                 intro w1 hw
                 simp only [Builtin.firstCells]
                 have hca : cellsAt w b 0 old := cellsAt_block hh hc
                 exact run_loadCells (w := w1) (hca.keep (by rw [hw])) (by rw [hol, hisz])
               obtain ⟨cap', hcap', hrun⟩ := append_grows (ty := ty) hu hi hz hd' hlen (by rw [hisz]; exact hfirst) hold hfit (by rw [hby]; exact hbd) (by rw [hby]; omega)
               refine ⟨_, _, gmSet β nb (some w.heap.size), hrun, ?_⟩
               have hvs' := RepE.mono (hdrop.frm.stab hdrop.ext) _ _ _ (hr.append hvs)
               have hg1 := grow_post (m := n + es.length) (ob := True) (hr := []) hdrop.good hn (e := en.ty) (es := en.es ++ es) hvs' (by simp [hel]) hzsz hcap'
               refine Stp.post ?_ ?_
               · rw [hhp]
                 have := hdrop.trans hg1.stp
                 simpa [setHp_cons] using this
               · have := hg1.rep
                 rw [hhp]
                 simpa [setHp_cons] using this
       · simp at h
     · rename_i i n sz
       split at h
       · rename_i en hen
         simp only [Option.some.injEq] at h
         subst h
         simp only at hob
         obtain ⟨hpp, hst0, hs0, hb0, hbd, hel, rfl, hesz, rfl⟩ := hob
         obtain ⟨vs, hvs, hlen, hfirst⟩ := src_sound (P := P) hg hsrc hpp hy
         have hdrop := stp_drop (nb := nb) hg i
         have hhp : ∀ a : Option Ent, setHp hp [(i, none), (nb, a)] = hpSet (hpSet hp i none) nb a := fun _ => rfl
         simp only [Rep] at hx
         rcases hx with ⟨hbi, rfl, rfl⟩ | ⟨b, off0, cap, T', m, hbi, rfl, hnc, hoff, hshape, hcap⟩
         · have hen0 : en.es.take 0 = [] := rfl
           by_cases hz0 : es.length = 0
           · have hes : es = [] := List.eq_nil_of_length_eq_zero hz0
             refine ⟨.slice none (0 + es.length) 0, w, gmSet β nb none, ?_, ?_⟩
             · rw [append_fits hu hi hd' hlen (by rw [hisz]; exact hfirst) (by omega)]
             · refine Stp.post ?_ ?_
               · rw [hhp]
                 exact hdrop.trans (stp_nil hdrop.good hn _ (by simp [hen0, hes]))
               · simp only [Rep]
                 exact .inl ⟨gmSet_same, by rw [hz0], by omega⟩
           · obtain ⟨cap, hcap, hrun⟩ := append_grows (ty := ty) hu hi hz hd' (base := none) (sLen := 0) (sCap := 0) (old := []) hlen (by rw [hisz]; exact hfirst) (fun w1 _ => rfl) (by omega) (by rw [hby]; exact hbd) (by rw [hby]; omega)
             refine ⟨_, _, gmSet β nb (some w.heap.size), hrun, ?_⟩
             have hvs' := RepE.mono (hdrop.frm.stab hdrop.ext) _ _ _ hvs
             have hg1 := grow_post (m := 0 + es.length) (ob := True) (hr := []) hdrop.good hn (e := en.ty) (es := en.es.take 0 ++ es) (by rw [hen0]; exact hvs') (by simp [hen0]) hzsz hcap
             refine Stp.post ?_ ?_
             · rw [hhp]
               have := hdrop.trans hg1.stp
               simpa [setHp_cons] using this
             · have := hg1.rep
               rw [hhp]
               simpa [setHp_cons] using this
         · rcases hg.ent i en hen with ⟨hb', _⟩ | ⟨b', c, fr, old, rest, hb', hh, hfr, hc, hr⟩
           · rw [hbi] at hb'; simp at hb'
           · obtain rfl : b = b' := by rw [hbi] at hb'; simpa using hb'
             obtain rfl : off0 = 0 := by rcases hoff with h | ⟨_, _, h⟩ <;> omega
             rw [Nat.zero_add] at hcap
             have hcs : m = c.size := by
               have : w.shape? b = some (en.ty, c.size) := by simp [World.shape?, hh]
               rw [this] at hshape; simp at hshape; exact hshape.2.symm
             rw [hesz] at hr
             have hel2 : (en.es.take n).length = n := by simp; omega
             obtain ⟨v0, old', rest', hsp, hv0, hr'⟩ := hr.cut (l := 0) (k := n) (Nat.zero_le _) hel
             obtain rfl : v0 = [] := List.eq_nil_of_length_eq_zero (by omega)
             rw [List.drop_zero] at hr'
             rw [hsp, List.nil_append, List.append_assoc] at hc
             clear hsp hr
             have hr := hr'
             have hol : old'.length = n * te.size := by rw [hr.length, hel2]
             have hvl : vs.length = es.length * te.size := hvs.length
             by_cases hfit : n + es.length ≤ cap
             · have hroom : 0 + n * te.size + vs.length ≤ c.size := by
                 have := Nat.mul_le_mul_right te.size hfit
                 rw [Nat.add_mul] at this
                 omega
               have hplain : ∀ v ∈ vs, plainV v = true := repE_plain hst0 hvs
               have hst := run_storeCells (P := P) (b := b) (off := n * te.size) vs 0 w c hh (by omega) hfr hplain
               refine ⟨.slice (some ⟨b, 0, none⟩) (n + es.length) cap, setBlk w b (.cells (putL c (n * te.size + 0) vs) en.ty fr), gmSet β nb (some b), ?_, ?_⟩
               · rw [append_fits hu hi hd' hlen (by rw [hisz]; exact hfirst) hfit]
                 simp only [add_none, hisz, Nat.zero_add, hst]
               · have hpw : Post X w β hp nb { v := .any, hw := [(i, some ⟨en.ty, te.size, en.es.take n ++ es⟩)] } undef (setBlk w b (.cells (putL c (n * te.size + 0) vs) en.ty fr)) β := by
                   refine post_write (e' := ⟨en.ty, te.size, en.es.take n ++ es⟩) (vs := old' ++ vs) (rest := (rest' ++ rest).drop vs.length) hg hen hbi hh hfr rfl (putL_size _ _ _) ?_ (hr.append hvs) rfl (fun _ _ => by simp [Rep])
                   rw [putL_list _ _ _ (by omega), hc, Nat.add_zero, ← hol]
                   simp
                 have h1 := hpw.stp
                 have h2 := stp_rename (i := i) (e := ⟨en.ty, te.size, en.es.take n ++ es⟩) h1.good (by show hpSet hp i _ i = _; simp) hn hbi
                 have h3 := h1.trans h2
                 have e1 : hpSet (hpSet (setHp hp [(i, some (⟨en.ty, te.size, en.es.take n ++ es⟩ : Ent))]) i none) nb (some ⟨en.ty, te.size, en.es.take n ++ es⟩) = hpSet (hpSet hp i none) nb (some ⟨en.ty, te.size, en.es.take n ++ es⟩) := by
                   show hpSet (hpSet (hpSet hp i _) i none) nb _ = _
                   rw [hpSet_twice]
                 rw [e1] at h3
                 refine Stp.post (by rw [hhp]; exact h3) ?_
                 simp only [Rep]
                 exact .inr ⟨b, cap, T', m, gmSet_same, rfl, hfit, by rw [shape_setBlk hh (putL_size _ _ _)]; exact hshape, hcap⟩
             · have hold : ∀ w1 : World, w1.heap = w.heap → (Builtin.firstCells ti.size n (.slice (some ⟨b, 0, none⟩) n cap)).run P w1 = .ok old'.toArray w1 := by
                 intro w1 hw
                 simp only [Builtin.firstCells]
                 have hca : cellsAt w b 0 old' := cellsAt_block hh hc
                 exact run_loadCells (w := w1) (hca.keep (by rw [hw])) (by rw [hol, hisz])
               obtain ⟨cap', hcap', hrun⟩ := append_grows (ty := ty) hu hi hz hd' hlen (by rw [hisz]; exact hfirst) hold hfit (by rw [hby]; exact hbd) (by rw [hby]; omega)
               refine ⟨_, _, gmSet β nb (some w.heap.size), hrun, ?_⟩
               have hvs' := RepE.mono (hdrop.frm.stab hdrop.ext) _ _ _ (hr.append hvs)
               have hg1 := grow_post (m := n + es.length) (ob := True) (hr := []) hdrop.good hn (e := en.ty) (es := en.es.take n ++ es) hvs' (by simp [hel2]) hzsz hcap'
               refine Stp.post ?_ ?_
               · rw [hhp]
                 have := hdrop.trans hg1.stp
                 simpa [setHp_cons] using this
               · have := hg1.rep
                 rw [hhp]
                 simpa [setHp_cons] using this
       · simp at h
     · simp at h
theorem conv_sound (hT : TabOk P T) (hg : Good X w β hp) (hn : β nb = none) {src dst : TypeId} {x : AV} {u : Value} {r : Out} (h : aConv T hp nb src dst x = some r) (hob : r.ob) (hx : Rep w β (Own X β hp) x u) :
   ∃ v w' β', (convert src dst u).run P w = .ok v w' ∧ Post X w β hp nb r v w' β' := by
 have hu8 : ∀ e, isU8 T e = true → P.underlying e = some (.int .u8) := by
   intro e he
   unfold isU8 at he
   split at he
   · rename_i ti hti
     obtain ⟨_, _, _, _, _, _, _, hud, _⟩ := tab hT hti
     split at he
     · rename_i hd; rw [hud, hd]
     · simp at he
   · simp at he
 have hbs : ∀ (b off : Nat) (es : List (List AV)) (vs : List Value) (n : Nat), cellsAt w b off vs → ∀ β', RepE w β' (Own X β hp) 1 es vs → (∀ c ∈ es, isByte c = true) → n = es.length → ∀ cap,
     (Conv.bytesToString (.slice (some ⟨b, off, none⟩) n cap)).run P w = .ok (.string ⟨(eBytes es).toArray⟩) w := by
   intro b off es vs n hc β' hr hb hn cap
   have hl : n = vs.length := by rw [hr.length, hn]; simp
   simp only [Conv.bytesToString, run_bind, run_loadCells hc hl]
   rw [← Array.forIn_toList, run_bytes (fun n r => rfl) es vs ByteArray.empty hr hb]
   rfl
 unfold aConv at h
 split at h
 · rename_i k' k k'' n h1 h2
   simp only [out, Option.some.injEq] at h
   subst h
   simp only [Rep] at hx
   subst hx
   exact ⟨_, w, β, by simp only [convert, run_bind, run_underlying (tab_desc hT h1), run_underlying (tab_desc hT h2), Conv.intToInt, run_pure]; rfl, Post.still hg rfl (by simp [Rep])⟩
 · rename_i s h1 h2
   simp only [out, Option.some.injEq] at h
   subst h
   simp only [Rep] at hx
   subst hx
   exact ⟨_, w, β, by simp only [convert, run_bind, run_underlying (tab_desc hT h1), run_underlying (tab_desc hT h2), run_pure]; rfl, Post.still hg rfl (by simp [Rep])⟩
 · rename_i e s h1 h2
   split at h
   · rename_i he
     simp only [Option.some.injEq] at h
     subst h
     simp only [Rep] at hx
     subst hx
     let cap := (Question.appendCap s.size 0 e).cut (w.tape w.drawn (.appendCap s.size 0 e))
     have hcap : s.size ≤ cap := by simp [cap, Question.cut]
     let c : Array Value := s.data.map (fun b => .int .u8 b.toNat) ++ Array.replicate (cap - s.size) (.int .u8 0)
     have hcs : c.size = cap := by
       show (s.data.map _ ++ Array.replicate _ _).size = _
       simp
       show s.size + (cap - s.size) = cap
       omega
     refine ⟨.slice (some ⟨w.heap.size, 0, none⟩) s.size cap, { w with drawn := w.drawn + 1, heap := w.heap.push (.cells c e (cap, cap + 1)) }, gmSet β nb (some w.heap.size), ?_, ?_⟩
     · simp only [convert, run_bind, run_underlying (tab_desc hT h1), run_underlying (tab_desc hT h2), run_underlying (hu8 e he), Conv.stringToBytes]
       have hch : ∀ q : Question, q.forced = false → (choose q).run P w = .ok (q.cut (w.tape w.drawn q)) { w with drawn := w.drawn + 1 } := by
         intro q hq; simp [choose, Sem.run, hq]
       simp only [hch (.appendCap s.size 0 e) rfl, newRow, newObj, run_bind, run_pure, markStringish, shape]
       have hsh : World.shape? { w with drawn := w.drawn + 1, heap := w.heap.push (.cells c e) } w.heap.size = some (e, c.size) := by simp [World.shape?]
       have hfz : World.freeze { w with drawn := w.drawn + 1, heap := w.heap.push (.cells c e) } ⟨w.heap.size, c.size, none⟩ 1 = { w with drawn := w.drawn + 1, heap := w.heap.push (.cells c e (cap, cap + 1)) } := by
         simp only [World.freeze, Nat.one_ne_zero, if_false]
         congr 1
         apply Array.ext_getElem?
         intro j
         simp only [Array.getElem?_modify, Array.getElem?_push]
         by_cases hj : w.heap.size = j
         · subst hj; simp [hcs]
         · rw [if_neg hj, if_neg (fun h => hj h.symm), if_neg (fun h => hj h.symm)]
       simp only [c, cap] at hsh hfz ⊢
       simp only [Sem.run, hsh, freeze, hfz]
     · refine post_alloc hg hn (c := c) (fr := (cap, cap + 1)) (vs := (bl s).map fun b => .int .u8 b.toNat) (rest := List.replicate (cap - s.size) (.int .u8 0)) rfl (by intro o ho; rw [hcs] at ho; simp; omega) ?_ (bytes_rep _) rfl rfl rfl rfl ?_
       · show (s.data.map _ ++ Array.replicate _ _).toList = _
         simp [bl]
       · intro O' hsh
         simp only [Rep]
         exact .inr ⟨w.heap.size, cap, _, _, gmSet_same, rfl, hcap, hsh, by rw [hcs]; omega⟩
   · simp at h
 · rename_i e e' i n sz h1 h2
   split at h
   · rename_i en he hsd hen
     simp only [Option.some.injEq] at h
     subst h
     simp only at hob
     obtain ⟨hnl, hn0⟩ := hob
     obtain rfl : src = dst := by simpa using hsd
     obtain rfl : e = e' := by rw [h1] at h2; simpa using h2
     simp only [Rep] at hx
     rcases hx with ⟨_, rfl, rfl⟩ | ⟨b, cap, T', m, hbi, rfl, hnc, hsh, hcap⟩
     · omega
     · rcases hg.ent i en hen with ⟨hb', _⟩ | ⟨b', c, fr, vs, rest, hb', hh, hfr, hc, hr⟩
       · rw [hbi] at hb'; simp at hb'
       · obtain rfl : b = b' := by rw [hbi] at hb'; simpa using hb'
         let fr' : Nat × Nat := if fr.1 == fr.2 then (c.size, c.size + 1) else (min fr.1 c.size, max fr.2 (c.size + 1))
         have hfz : World.freeze w ⟨b, c.size, none⟩ 1 = setBlk w b (.cells c en.ty fr') := by
           simp only [World.freeze, Nat.one_ne_zero, if_false, setBlk]
           congr 1
           apply Array.ext_getElem?
           intro j
           have hb := getElem?_lt hh
           simp only [Array.getElem?_modify, Array.getElem?_setIfInBounds]
           by_cases hj : b = j
           · subst hj
             simp only [if_true, hh, hb, Option.map_some, fr']
           · simp [hj]
         have hf' : ∀ o, o < c.size → fr'.1 = fr'.2 ∨ o < fr'.1 := by
           intro o ho
           simp only [fr']
           split
           · exact .inr ho
           · rename_i hne
             have := hfr o ho
             simp only [beq_iff_eq] at hne
             refine .inr ?_
             simp only; omega
         have hshape : World.shape? w b = some (en.ty, c.size) := by simp [World.shape?, hh]
         have hrun : (convert src src (.slice (some ⟨b, 0, none⟩) n cap)).run P w = .ok (.slice (some ⟨b, 0, none⟩) n cap) (setBlk w b (.cells c en.ty fr')) := by
           simp only [convert, run_bind, run_underlying (tab_desc hT h1), run_underlying (hu8 e he), beq_self_eq_true, markStringish, shape, run_pure]
           simp only [Sem.run, hshape, freeze, hfz]
         refine ⟨_, _, β, hrun, post_writeF (e := en) (e' := en) (vs := vs) (rest := rest) hg hen hbi hh hf' rfl rfl hc hr rfl (fun O' => ?_)⟩
         simp only [Rep]
         exact .inr ⟨b, cap, T', m, hbi, rfl, hnc, by rw [shape_setBlk hh rfl]; exact hsh, hcap⟩
   · simp at h
 · rename_i e sz es h1 h2
   split at h
   · rename_i he
     simp only [out, Option.some.injEq] at h
     subst h
     simp only at hob
     simp only [Rep] at hx
     rcases hx with ⟨rfl, rfl⟩ | ⟨b, off, cap, vs, rfl, g1, g2, g3, g4, g5⟩
     · exact ⟨.string ByteArray.empty, w, β, by simp only [convert, run_bind, run_underlying (tab_desc hT h1), run_underlying (tab_desc hT h2), run_underlying (hu8 e he), Conv.bytesToString, run_pure], Post.still hg rfl (by simp [Rep, eBytes]; rfl)⟩
     · refine ⟨.string ⟨(eBytes es).toArray⟩, w, β, ?_, Post.still hg rfl (by simp only [Rep])⟩
       simp only [convert, run_bind, run_underlying (tab_desc hT h1), run_underlying (tab_desc hT h2), run_underlying (hu8 e he)]
       exact hbs b off es vs _ g4 _ (repE_bytes g5 hob) hob rfl cap
   · simp at h
 · rename_i e i n sz h1 h2
   split at h
   · rename_i en he hen
     simp only [Option.some.injEq] at h
     subst h
     simp only at hob
     obtain ⟨hb, hl, hs⟩ := hob
     simp only [Rep] at hx
     rcases hx with ⟨_, rfl, rfl⟩ | ⟨b, cap, T', m, hbi, rfl, _⟩
     · have : en.es = [] := List.eq_nil_of_length_eq_zero hl
       exact ⟨.string ByteArray.empty, w, β, by simp only [convert, run_bind, run_underlying (tab_desc hT h1), run_underlying (tab_desc hT h2), run_underlying (hu8 e he), Conv.bytesToString, run_pure], Post.still hg rfl (by simp [Rep, eBytes, this]; rfl)⟩
     · rcases hg.ent i en hen with ⟨hb', _⟩ | ⟨b', c, fr, vs, rest, hb', hh, hfr, hc, hr⟩
       · rw [hbi] at hb'; simp at hb'
       · obtain rfl : b = b' := by rw [hbi] at hb'; simpa using hb'
         refine ⟨.string ⟨(eBytes en.es).toArray⟩, w, β, ?_, Post.still hg rfl (by simp only [Rep])⟩
         simp only [convert, run_bind, run_underlying (tab_desc hT h1), run_underlying (tab_desc hT h2), run_underlying (hu8 e he)]
         exact hbs b 0 en.es vs _ (cellsAt_block hh hc) _ (repE_bytes hr hb) hb hl.symm cap
   · simp at h
 · rename_i e h1 h2
   split at h
   · rename_i he
     simp only [out, Option.some.injEq] at h
     subst h
     simp only [Rep] at hx
     subst hx
     exact ⟨.string ByteArray.empty, w, β, by simp only [convert, run_bind, run_underlying (tab_desc hT h1), run_underlying (tab_desc hT h2), run_underlying (hu8 e he), Conv.bytesToString, run_pure], Post.still hg rfl (by simp [Rep]; rfl)⟩
   · simp at h
 · simp at h
end mem
end Go.Av
