/-
  Part 5 of the proof that logtidelaw45.ConsoleAnswer returns true for every list of bytes and every text, and leaves both as they were.
-/
import Derived.Test.YtffchapiaampmaaGreatDoorA04
set_option linter.unusedSimpArgs false
set_option linter.unusedVariables false
namespace Go.Av
mutual
theorem rep_ren {w : World} {β1 β2 : Gm} {O : Nat → Prop} {ρ : Nat → Nat} (h : ∀ i p, β1 i = some p → β2 (ρ i) = some p) : ∀ (a : AV) (v : Value), Rep w β1 O a v → Rep w β2 O (ren ρ a) v
 | .any, v, _ => by simp [ren, Rep]
 | .val u, v, hr => by simpa [ren, Rep] using hr
 | .agg cs, v, hr => by
   simp only [ren, Rep] at hr ⊢
   obtain ⟨vs, rfl, hl⟩ := hr
   exact ⟨vs, rfl, repL_ren h cs vs hl⟩
 | .tup cs, v, hr => by
   simp only [ren, Rep] at hr ⊢
   obtain ⟨vs, rfl, hl⟩ := hr
   exact ⟨vs, rfl, repL_ren h cs vs hl⟩
 | .sl sz es, v, hr => by simpa only [ren, Rep] using hr
 | .rp cs, v, hr => by simpa only [ren, Rep] using hr
 | .osl i n sz, v, hr => by
   simp only [ren, Rep] at hr ⊢
   rcases hr with ⟨h1, h2⟩ | ⟨b, cap, T, m, h1, h2⟩
   · exact .inl ⟨h _ _ h1, h2⟩
   · exact .inr ⟨b, cap, T, m, h _ _ h1, h2⟩
 | .ptr i sz k off, v, hr => by
   simp only [ren, Rep] at hr ⊢
   obtain ⟨b, h1, h2⟩ := hr
   exact ⟨b, h _ _ h1, h2⟩
 | .osv i lo n sz, v, hr => by
   simp only [ren, Rep] at hr ⊢
   rcases hr with ⟨h1, h2⟩ | ⟨b, off, cap, T, m, h1, h2⟩
   · exact .inl ⟨h _ _ h1, h2⟩
   · exact .inr ⟨b, off, cap, T, m, h _ _ h1, h2⟩
theorem repL_ren {w : World} {β1 β2 : Gm} {O : Nat → Prop} {ρ : Nat → Nat} (h : ∀ i p, β1 i = some p → β2 (ρ i) = some p) : ∀ (a : List AV) (v : List Value), RepL w β1 O a v → RepL w β2 O (renL ρ a) v
 | [], v, hr => by simpa [renL, RepL] using hr
 | c :: cs, v, hr => by
   simp only [renL, RepL] at hr ⊢
   obtain ⟨u, r, h1, h2, h3⟩ := hr
   exact ⟨u, r, h1, rep_ren h c u h2, repL_ren h cs r h3⟩
end
mutual
theorem rep_unren {w : World} {β1 β2 : Gm} {O : Nat → Prop} {ρ : Nat → Nat} {k : Nat} (h : ∀ i, i < k → β1 i = β2 (ρ i)) : ∀ (a : AV) (v : Value), idLt k a = true → Rep w β2 O (ren ρ a) v → Rep w β1 O a v
 | .any, v, _, _ => by simp [Rep]
 | .val u, v, _, hr => by simpa [ren, Rep] using hr
 | .agg cs, v, hk, hr => by
   simp only [ren, Rep] at hr ⊢
   obtain ⟨vs, rfl, hl⟩ := hr
   exact ⟨vs, rfl, repL_unren h cs vs (by simpa [idLt] using hk) hl⟩
 | .tup cs, v, hk, hr => by
   simp only [ren, Rep] at hr ⊢
   obtain ⟨vs, rfl, hl⟩ := hr
   exact ⟨vs, rfl, repL_unren h cs vs (by simpa [idLt] using hk) hl⟩
 | .sl sz es, v, _, hr => by simpa only [ren, Rep] using hr
 | .rp cs, v, _, hr => by simpa only [ren, Rep] using hr
 | .osl i n sz, v, hk, hr => by
   have hi : i < k := by simpa [idLt] using hk
   simp only [ren, Rep] at hr ⊢
   rw [h i hi]; exact hr
 | .ptr i sz k' off, v, hk, hr => by
   have hi : i < k := by simpa [idLt] using hk
   simp only [ren, Rep] at hr ⊢
   rw [h i hi]; exact hr
 | .osv i lo n sz, v, hk, hr => by
   have hi : i < k := by simpa [idLt] using hk
   simp only [ren, Rep] at hr ⊢
   rw [h i hi]; exact hr
theorem repL_unren {w : World} {β1 β2 : Gm} {O : Nat → Prop} {ρ : Nat → Nat} {k : Nat} (h : ∀ i, i < k → β1 i = β2 (ρ i)) : ∀ (a : List AV) (v : List Value), idLtL k a = true → RepL w β2 O (renL ρ a) v → RepL w β1 O a v
 | [], v, _, hr => by simpa [renL, RepL] using hr
 | c :: cs, v, hk, hr => by
   simp only [renL, RepL] at hr ⊢
   simp only [idLtL, Bool.and_eq_true] at hk
   obtain ⟨u, r, h1, h2, h3⟩ := hr
   exact ⟨u, r, h1, rep_unren h c u hk.1 h2, repL_unren h cs r hk.2 h3⟩
end
theorem renL_length (ρ : Nat → Nat) : ∀ cs : List AV, (renL ρ cs).length = cs.length
 | [] => rfl
 | c :: cs => by simp [renL, renL_length ρ cs]
theorem repE_ren {w : World} {β1 β2 : Gm} {O : Nat → Prop} {ρ : Nat → Nat} (h : ∀ i p, β1 i = some p → β2 (ρ i) = some p) {sz : Nat} : ∀ (a : List (List AV)) (v : List Value), RepE w β1 O sz a v → RepE w β2 O sz (a.map (renL ρ)) v
 | [], v, hr => by simpa [RepE] using hr
 | c :: cs, v, hr => by
   simp only [List.map_cons, RepE] at hr ⊢
   obtain ⟨u, r, h1, h2, h3, h4⟩ := hr
   exact ⟨u, r, h1, by rw [renL_length]; exact h2, repL_ren h c u h3, repE_ren h cs r h4⟩
theorem repE_unren {w : World} {β1 β2 : Gm} {O : Nat → Prop} {ρ : Nat → Nat} {k : Nat} (h : ∀ i, i < k → β1 i = β2 (ρ i)) {sz : Nat} : ∀ (a : List (List AV)) (v : List Value), idLtE k a = true → RepE w β2 O sz (a.map (renL ρ)) v → RepE w β1 O sz a v
 | [], v, _, hr => by simpa [RepE] using hr
 | c :: cs, v, hk, hr => by
   simp only [List.map_cons, RepE] at hr ⊢
   simp only [idLtE, List.all_cons, Bool.and_eq_true] at hk
   obtain ⟨u, r, h1, h2, h3, h4⟩ := hr
   exact ⟨u, r, h1, by rw [renL_length] at h2; exact h2, repL_unren h c u hk.1 h3, repE_unren h cs r hk.2 h4⟩
mutual
theorem ren_id : ∀ a : AV, ren (fun i => i) a = a
 | .osv i lo n sz => rfl
 | .any => rfl
 | .val u => rfl
 | .agg cs => by simp [ren, renL_id cs]
 | .tup cs => by simp [ren, renL_id cs]
 | .sl sz es => rfl
 | .rp cs => rfl
 | .osl i n sz => rfl
 | .ptr i sz k off => rfl
theorem renL_id : ∀ a : List AV, renL (fun i => i) a = a
 | [] => rfl
 | c :: cs => by simp [renL, ren_id c, renL_id cs]
end
/-- A value without ids stands under every ghost map. -/
theorem repE_noid {w : World} {β : Gm} {O : Nat → Prop} {sz : Nat} {a : List (List AV)} {v : List Value} (hk : idLtE 0 a = true) (h : RepE w β O sz a v) : RepE w β0 O sz a v := by
 refine repE_unren (ρ := fun i => i) (k := 0) (β2 := β) (fun i hi => by omega) a v hk ?_
 have : a.map (renL fun i => i) = a := (List.map_congr_left (fun c _ => renL_id c)).trans (List.map_id a)
 rw [this]; exact h
theorem repL_noid {w : World} {β : Gm} {O : Nat → Prop} {a : List AV} {v : List Value} (hk : idLtL 0 a = true) (h : RepL w β O a v) : RepL w β0 O a v := by
 refine repL_unren (ρ := fun i => i) (k := 0) (β2 := β) (fun i hi => by omega) a v hk ?_
 rw [renL_id]; exact h
mutual
/-- Where nothing settled is in a value, what is owned does not matter. -/
theorem rep_noSl {w : World} {β : Gm} {O O' : Nat → Prop} : ∀ (a : AV) (v : Value), noSl a = true → Rep w β O a v → Rep w β O' a v
 | .any, v, _, _ => by simp [Rep]
 | .val u, v, _, hr => by simpa [Rep] using hr
 | .agg cs, v, hk, hr => by
   simp only [Rep] at hr ⊢
   obtain ⟨vs, rfl, hl⟩ := hr
   exact ⟨vs, rfl, repL_noSl cs vs (by simpa [noSl] using hk) hl⟩
 | .tup cs, v, hk, hr => by
   simp only [Rep] at hr ⊢
   obtain ⟨vs, rfl, hl⟩ := hr
   exact ⟨vs, rfl, repL_noSl cs vs (by simpa [noSl] using hk) hl⟩
 | .sl sz es, v, hk, hr => by simp [noSl] at hk
 | .rp cs, v, hk, hr => by simp [noSl] at hk
 | .osl i n sz, v, _, hr => by simpa only [Rep] using hr
 | .ptr i sz k off, v, _, hr => by simpa only [Rep] using hr
 | .osv i lo n sz, v, _, hr => by simpa only [Rep] using hr
theorem repL_noSl {w : World} {β : Gm} {O O' : Nat → Prop} : ∀ (a : List AV) (v : List Value), noSlL a = true → RepL w β O a v → RepL w β O' a v
 | [], v, _, hr => by simpa [RepL] using hr
 | c :: cs, v, hk, hr => by
   simp only [RepL] at hr ⊢
   simp only [noSlL, Bool.and_eq_true] at hk
   obtain ⟨u, r, h1, h2, h3⟩ := hr
   exact ⟨u, r, h1, rep_noSl c u hk.1 h2, repL_noSl cs r hk.2 h3⟩
end
theorem repE_noSl {w : World} {β : Gm} {O O' : Nat → Prop} {sz : Nat} : ∀ (a : List (List AV)) (v : List Value), noSlE a = true → RepE w β O sz a v → RepE w β O' sz a v
 | [], v, _, hr => by simpa [RepE] using hr
 | c :: cs, v, hk, hr => by
   simp only [RepE] at hr ⊢
   simp only [noSlE, List.all_cons, Bool.and_eq_true] at hk
   obtain ⟨u, r, h1, h2, h3, h4⟩ := hr
   exact ⟨u, r, h1, h2, repL_noSl c u hk.1 h3, repE_noSl cs r hk.2 h4⟩
mutual
theorem noSl_ren (ρ : Nat → Nat) : ∀ a, noSl (ren ρ a) = noSl a
 | .osv i lo n sz => rfl
 | .any => rfl
 | .val u => rfl
 | .agg cs => by simp [ren, noSl, noSlL_ren ρ cs]
 | .tup cs => by simp [ren, noSl, noSlL_ren ρ cs]
 | .sl sz es => rfl
 | .rp cs => rfl
 | .osl i n sz => rfl
 | .ptr i sz k off => rfl
theorem noSlL_ren (ρ : Nat → Nat) : ∀ a, noSlL (renL ρ a) = noSlL a
 | [] => rfl
 | c :: cs => by simp [renL, noSlL, noSl_ren ρ c, noSlL_ren ρ cs]
end
theorem repL_of_get {w : World} {β : Gm} {O : Nat → Prop} : ∀ (as : List AV) (vs : List Value), as.length = vs.length → (∀ (j : Nat) a v, as[j]? = some a → vs[j]? = some v → Rep w β O a v) → RepL w β O as vs
 | [], vs, hl, _ => by simp only [RepL]; exact List.eq_nil_of_length_eq_zero hl.symm
 | a :: as, [], hl, _ => by simp at hl
 | a :: as, v :: vs, hl, h => by
   simp only [RepL]
   exact ⟨v, vs, rfl, h 0 a v rfl rfl, repL_of_get as vs (by simpa using hl) (fun j a v h1 h2 => h (j + 1) a v (by simpa using h1) (by simpa using h2))⟩
theorem setHp_out {hp : Hp} {ρ : Nat → Nat} {f : Nat → Option Ent} : ∀ (l : List Nat) (hp : Hp) (j : Nat), (∀ i ∈ l, ρ i ≠ j) → setHp hp (l.map fun i => (ρ i, f i)) j = hp j
 | [], hp, j, _ => rfl
 | i :: l, hp, j, h => by
   simp only [List.map_cons, setHp_cons]
   rw [setHp_out (hp := hp) l _ j (fun i' hi' => h i' (by simp [hi'])), hpSet_ne (fun e => h i (by simp) e.symm)]
theorem setHp_in {hp : Hp} {ρ : Nat → Nat} {f : Nat → Option Ent} : ∀ (l : List Nat) (hp : Hp) (i : Nat), i ∈ l → (∀ i' ∈ l, ρ i' = ρ i → i' = i) → setHp hp (l.map fun i => (ρ i, f i)) (ρ i) = f i
 | [], hp, i, hi, _ => by simp at hi
 | i0 :: l, hp, i, hi, h => by
   simp only [List.map_cons, setHp_cons]
   by_cases hm : i ∈ l
   · exact setHp_in (hp := hp) l _ i hm (fun i' hi' => h i' (by simp [hi']))
   · have : i = i0 := by rcases List.mem_cons.1 hi with h | h; exact h; exact absurd h hm
     subst this
     rw [setHp_out (hp := hp) l _ _ (fun i' hi' he => hm (h i' (by simp [hi']) he ▸ hi'))]
     simp
section call
variable {X : Nat → Prop} {P : Program} {w : World} {β : Gm} {hp : Hp} {nb : Nat}
theorem getD_get {l : List Nat} {i : Nat} (h : i < l.length) : l.getD i 0 = l[i] := by simp [List.getD, h]
theorem call_sound {g : FuncId} {o : Orc} {args : List AV} {vals : List Value} (hg : Good X w β hp) (hfresh : ∀ j, nb ≤ j → j < nb + 8 → β j = none) (hargs : RepL w β (Own X β hp) args vals) (hob : (aCall P g args hp nb o).ob) :
   Calls P g vals.toArray w fun e w' => ∃ v β', e = .returned v ∧ Post X w β hp nb (aCall P g args hp nb o) v w' β' := by
 obtain ⟨⟨hfn, hcall⟩, hnd, hil, hhs, hle, hle8, hal, hview, hbor, hbd, hidA, hidH⟩ := hob
 have hρ : ∀ i, i < o.ids.length → o.ρ nb i = o.ids.getD i 0 := fun i hi => by simp [Orc.ρ, hi]
 have hρ2 : ∀ i, o.ids.length ≤ i → o.ρ nb i = nb + (i - o.ids.length) := fun i hi => by simp [Orc.ρ, Nat.not_lt.2 hi]
 generalize hρdef : o.ρ nb = ρ at *
 let βc : Gm := fun i => if i < o.ids.length then β (o.ids.getD i 0) else none
 have hβc : ∀ i, i < o.ids.length → βc i = β (ρ i) := fun i hi => by rw [hρ i hi]; simp [βc, hi]
 have hβn : ∀ i, o.ids.length ≤ i → βc i = none := fun i hi => by simp [βc, Nat.not_lt.2 hi]
 let Xc : Nat → Prop := fun b => X b ∨ ∃ j e, hp j = some e ∧ β j = some (some b) ∧ j ∉ o.ids ∧ j ∉ o.bor
 have hcl : ∀ i e, hpL (o.hs.map some) i = some e → i < o.ids.length ∧ o.hs[i]? = some e ∧ hp (ρ i) = some (renEnt ρ e) := by
   intro i e hi
   have h1 : o.hs[i]? = some e := by
     simp only [hpL, List.getElem?_map] at hi
     cases h : o.hs[i]? with
     | none => rw [h] at hi; simp at hi
     | some e' => rw [h] at hi; simpa using hi
   have hlt : i < o.ids.length := by
     rw [hil]
     rcases Nat.lt_or_ge i o.hs.length with h | h
     · exact h
     · rw [List.getElem?_eq_none h] at h1; cases h1
   refine ⟨hlt, h1, ?_⟩
   rw [hρ i hlt, hhs i hlt, h1]; rfl
 have hmem : ∀ i, i < o.ids.length → ρ i ∈ o.ids := fun i hi => by rw [hρ i hi, getD_get hi]; exact List.getElem_mem hi
 have hlive : ∀ i, i < o.ids.length → ∃ e, hp (ρ i) = some e := by
   intro i hi
   have : i < o.hs.length := by omega
   exact ⟨renEnt ρ o.hs[i], by rw [hρ i hi, hhs i hi]; simp [this]⟩
 have hinjρ : ∀ i j, i < o.ids.length → j < o.ids.length → ρ i = ρ j → i = j := by
   intro i j hi hj h
   rw [hρ i hi, hρ j hj, getD_get hi, getD_get hj] at h
   exact (List.getElem_inj hnd).1 h
 have hzone : ∀ j, β j ≠ none → ¬ (nb ≤ j ∧ j < nb + 8) := fun j hj h => hj (hfresh j h.1 h.2)
 have hsub : ∀ b, Own Xc βc (hpL (o.hs.map some)) b → Own X β hp b := by
   rintro b ((hX | ⟨j, e, h1, h2, _⟩) | ⟨i, e, hi, hb⟩)
   · exact .inl hX
   · exact .inr ⟨j, e, h1, h2⟩
   · obtain ⟨hlt, _, h3⟩ := hcl i e hi
     exact .inr ⟨ρ i, _, h3, by rw [← hβc i hlt]; exact hb⟩
 have hst : Stab w w β β (Own X β hp) (Own Xc βc (hpL (o.hs.map some))) := ⟨Nat.le_refl _, fun _ _ h => h, fun _ _ h => h, fun b _ h => ⟨rfl, fun h' => h (hsub b h')⟩⟩
 have hgc : Good Xc w βc (hpL (o.hs.map some)) := by
   refine ⟨?_, ?_, ?_, ?_, hg.laid.1, fun b hb => ⟨(hg.laid.2 b hb).1, fun h => (hg.laid.2 b hb).2 (hsub b h)⟩⟩
   · intro i j e e' b hi hj hbi hbj
     obtain ⟨li, _, h1⟩ := hcl i e hi
     obtain ⟨lj, _, h2⟩ := hcl j e' hj
     rw [hβc i li] at hbi; rw [hβc j lj] at hbj
     exact hinjρ i j li lj (hg.inj _ _ _ _ b h1 h2 hbi hbj)
   · intro i e hi
     obtain ⟨li, hh, h1⟩ := hcl i e hi
     rw [hβc i li]
     rcases hg.ent (ρ i) _ h1 with ⟨g1, g2⟩ | ⟨b, c, fr, vs, rest, g1, g2, g3, g4, g5⟩
     · refine .inl ⟨g1, ?_⟩
       simpa [renEnt] using g2
     · refine .inr ⟨b, c, fr, vs, rest, g1, g2, g3, g4, ?_⟩
       exact repE_unren hβc _ _ (hidH e (List.mem_of_getElem? hh)) (RepE.mono hst _ _ _ g5)
   · rintro i e b hi hb (hX | ⟨j, f, h1, h2, h3, _⟩)
     · obtain ⟨li, _, hl⟩ := hcl i e hi
       rw [hβc i li] at hb
       exact hg.xdis _ _ b hl hb hX
     · obtain ⟨li, _, hl⟩ := hcl i e hi
       rw [hβc i li] at hb
       exact h3 (hg.inj _ _ _ _ b hl h1 hb h2 ▸ hmem i li)
   · rintro b (hX | ⟨j, f, h1, h2, _⟩)
     · exact hg.xlt b hX
     · exact hg.lt h1 h2
 have hborb : ∀ i e b, i ∈ o.bor → hp i = some e → β i = some (some b) → ¬ Own Xc βc (hpL (o.hs.map some)) b := by
   rintro i e b hi he hb ((hX | ⟨j, f, h1, h2, h3, h4⟩) | ⟨j, f, hj, hbj⟩)
   · exact hg.xdis i e b he hb hX
   · exact h4 (hg.inj _ _ _ _ b h1 he h2 hb ▸ hi)
   · obtain ⟨lj, _, hl⟩ := hcl j f hj
     rw [hβc j lj] at hbj
     exact (hbd i hi).1 (hg.inj _ _ _ _ b hl he hbj hb ▸ hmem j lj)
 have hv1 : ∀ (c a : AV) (v : Value), idLt o.ids.length a = true → view1 hp o.bor c (ren ρ a) → Rep w β (Own X β hp) c v → Rep w βc (Own Xc βc (hpL (o.hs.map some))) a v := by
   intro c a v hk hv hr
   rcases hv with rfl | ⟨i, n, sz, e, rfl, hib, he, hn, hsz, ha⟩ | ⟨rfl, sz, ha⟩
   · exact rep_unren hβc a v hk (Rep.mono hst _ _ hr)
   · have : a = .sl sz e.es := by cases a <;> simp [ren] at ha ⊢; exact ha
     subst this
     simp only [Rep] at hr ⊢
     rcases hr with ⟨h1, rfl, rfl⟩ | ⟨b, cap, T', m, h1, rfl, h2, h3, h4⟩
     · exact .inl ⟨rfl, List.eq_nil_of_length_eq_zero hn⟩
     · rcases hg.ent i e he with ⟨hb', _⟩ | ⟨b', c, fr, vs, rest, hb', hh, hfr, hc, hre⟩
       · rw [h1] at hb'; simp at hb'
       · obtain rfl : b = b' := by rw [h1] at hb'; simpa using hb'
         subst hn
         refine .inr ⟨b, 0, cap, vs, rfl, h2, getElem?_lt hh, hborb i e b hib he h1, cellsAt_block hh hc, ?_⟩
         rw [← hsz]
         exact repE_noid ((hbd i hib).2 e he) (RepE.mono hst _ _ _ hre)
   · have : a = .sl sz [] := by cases a <;> simp [ren] at ha ⊢; exact ha
     subst this
     simp only [Rep] at hr ⊢
     exact .inl ⟨hr, trivial⟩
 have hvl : ∀ (cs as : List AV) (vs : List Value), idLtL o.ids.length as = true → viewL hp o.bor cs (renL ρ as) → RepL w β (Own X β hp) cs vs → RepL w βc (Own Xc βc (hpL (o.hs.map some))) as vs := by
   intro cs
   induction cs with
   | nil =>
     intro as vs hk hv hr
     cases as with
     | nil => simpa [RepL] using hr
     | cons a as => simp [renL, viewL] at hv
   | cons c cs ih =>
     intro as vs hk hv hr
     cases as with
     | nil => simp [renL, viewL] at hv
     | cons a as =>
       simp only [renL, viewL] at hv
       simp only [idLtL, Bool.and_eq_true] at hk
       simp only [RepL] at hr ⊢
       obtain ⟨u, r, h1, h2, h3⟩ := hr
       exact ⟨u, r, h1, hv1 c a u hk.1 hv.1 h2, ih as r hk.2 hv.2 h3⟩
 have hgetk : ∀ (as : List AV), idLtL o.ids.length as = true → ∀ (j : Nat) a, as[j]? = some a → idLt o.ids.length a = true := by
   intro as
   induction as with
   | nil => intro _ j a h; simp at h
   | cons c cs ih =>
     intro hk j a h
     simp only [idLtL, Bool.and_eq_true] at hk
     cases j with
     | zero => simp at h; exact h ▸ hk.1
     | succ j => exact ih hk.2 j a (by simpa using h)
 have has : RepL w βc (Own Xc βc (hpL (o.hs.map some))) o.as vals := by
   refine repL_of_get _ _ (by rw [← hal, hargs.length]) ?_
   intro j a v ha hv
   have hjlt : j < args.length := by
     rw [hal]
     rcases Nat.lt_or_ge j o.as.length with h | h
     · exact h
     · rw [List.getElem?_eq_none h] at ha; cases ha
   obtain ⟨u, hu, hru⟩ := hargs.get j args[j] (by simp [hjlt])
   obtain rfl : u = v := by rw [hu] at hv; simpa using hv
   have hka := hgetk _ hidA j a ha
   rcases hview j args[j] a (by simp [hjlt]) ha with h | ⟨cs, as', h1, h2, h3⟩
   · exact hv1 _ _ _ hka h hru
   · cases a <;> simp [ren] at h2
     rename_i cs'
     subst h2
     rw [h1] at hru
     simp only [Rep] at hru ⊢
     obtain ⟨vs, rfl, hl⟩ := hru
     exact ⟨vs, rfl, hvl cs cs' vs (by simpa [idLt] using hka) h3 hl⟩
 refine (hcall Xc w βc vals has hgc (fun i hi => hβn i (by simpa [hil] using hi))).mono ?_
 rintro e w' ⟨v, βc', rfl, hrep, hgood, hfrm, hkeep, hext, hnone⟩
 let β'' : Gm := fun j => if nb ≤ j ∧ j < nb + 8 then βc' (o.ids.length + (j - nb)) else β j
 let hp'' : Hp := setHp hp ((List.range o.hs'.length).map fun i => (ρ i, ((o.hs'[i]?).join).map (renEnt ρ)))
 have hβi : ∀ i, i < o.ids.length → βc' i = β (ρ i) ∧ β'' (ρ i) = β (ρ i) ∧ β (ρ i) ≠ none := by
   intro i hi
   obtain ⟨e, he⟩ := hlive i hi
   have hne := hg.some he
   refine ⟨?_, by simp [β'', hzone _ hne], hne⟩
   cases hb : β (ρ i) with
   | none => exact absurd hb hne
   | some p => exact hext i p (by rw [hβc i hi]; exact hb)
 have hβz : ∀ i, o.ids.length ≤ i → i < o.ids.length + 8 → β'' (ρ i) = βc' i := by
   intro i h1 h2
   rw [hρ2 i h1]
   simp only [β'']
   rw [if_pos (by omega)]
   congr 1; omega
 have hback : ∀ i p, βc' i = some p → β'' (ρ i) = some p := by
   intro i p hp'
   rcases Nat.lt_or_ge i o.ids.length with h | h
   · obtain ⟨h1, h2, _⟩ := hβi i h
     rw [h2, ← h1]; exact hp'
   · rw [hβz i h ?_]
     · exact hp'
     · rcases Nat.lt_or_ge i o.hs'.length with h' | h'
       · omega
       · rw [hnone i h'] at hp'; cases hp'
 have hρinj : ∀ i j, i < o.hs'.length → j < o.hs'.length → ρ i = ρ j → i = j := by
   intro i j hi hj h
   rcases Nat.lt_or_ge i o.ids.length with h1 | h1 <;> rcases Nat.lt_or_ge j o.ids.length with h2 | h2
   · exact hinjρ i j h1 h2 h
   · exfalso
     rw [hρ2 j h2] at h
     exact hzone _ (hβi i h1).2.2 (by rw [h]; omega)
   · exfalso
     rw [hρ2 i h1] at h
     exact hzone _ (hβi j h2).2.2 (by rw [← h]; omega)
   · rw [hρ2 i h1, hρ2 j h2] at h; omega
 have hext'' : GmExt β β'' := by
   intro j p hj
   simp only [β'']
   rw [if_neg (hzone j (by rw [hj]; simp))]; exact hj
 have hl'' : ∀ j f, hp'' j = some f → (∃ i e, i < o.hs'.length ∧ j = ρ i ∧ hpL o.hs' i = some e ∧ f = renEnt ρ e ∧ β'' j = βc' i) ∨ (hp j = some f ∧ j ∉ o.ids ∧ β'' j = β j) := by
   intro j f hj
   by_cases h : ∃ i, i < o.hs'.length ∧ ρ i = j
   · obtain ⟨i, hi, rfl⟩ := h
     left
     have h1 : hp'' (ρ i) = ((o.hs'[i]?).join).map (renEnt ρ) := setHp_in (hp := hp) _ _ _ (by simpa using hi) (fun i' hi' he => hρinj i' i (by simpa using hi') hi he)
     rw [h1] at hj
     cases hx : (o.hs'[i]?).join with
     | none => rw [hx] at hj; simp at hj
     | some e =>
       rw [hx] at hj
       refine ⟨i, e, hi, rfl, hx, by simpa using hj.symm, ?_⟩
       rcases Nat.lt_or_ge i o.ids.length with h | h
       · obtain ⟨h1, h2, _⟩ := hβi i h; rw [h2, h1]
       · exact hβz i h (by omega)
   · right
     have h1 : hp'' j = hp j := setHp_out (hp := hp) _ _ _ (fun i hi he => h ⟨i, by simpa using hi, he⟩)
     rw [h1] at hj
     refine ⟨hj, fun hm => ?_, ?_⟩
     · obtain ⟨i, hi, rfl⟩ := List.getElem_of_mem hm
       exact h ⟨i, by omega, by rw [hρ i hi, getD_get hi]⟩
     · simp only [β'']; rw [if_neg (hzone j (hg.some hj))]
 have hO'' : ∀ b, Own X β'' hp'' b → Own Xc βc' (hpL o.hs') b ∨ ∃ j f, j ∈ o.bor ∧ hp j = some f ∧ β j = some (some b) := by
   rintro b (hX | ⟨j, f, hj, hb⟩)
   · exact .inl (.inl (.inl hX))
   · rcases hl'' j f hj with ⟨i, e, hi, rfl, he, rfl, hβ⟩ | ⟨h1, h2, h3⟩
     · exact .inl (.inr ⟨i, e, he, by rw [← hβ]; exact hb⟩)
     · rw [h3] at hb
       by_cases hbm : j ∈ o.bor
       · exact .inr ⟨j, f, hbm, h1, hb⟩
       · exact .inl (.inl (.inr ⟨j, f, h1, hb, h2, hbm⟩))
 have hOw : ∀ b, Own X β'' hp'' b → Own X β hp b ∨ w.heap.size ≤ b := by
   intro b hb
   rcases hO'' b hb with h | ⟨j, f, _, h1, h2⟩
   · rcases hfrm.own b h with h | h
     · exact .inl (hsub b h)
     · exact .inr h
   · exact .inl (.inr ⟨j, f, h1, h2⟩)
 have hfrm'' : Frm w (Own X β hp) w' (Own X β'' hp'') := ⟨hfrm.os, hfrm.tape, hfrm.output, hfrm.size, fun b hb ho => hfrm.same b hb (fun h => ho (hsub b h)), hOw, hfrm.shape⟩
 have hstO : o.bor = [] → Stab w' w' β'' β'' (Own Xc βc' (hpL o.hs')) (Own X β'' hp'') := by
   intro hb
   refine ⟨Nat.le_refl _, fun _ _ h => h, fun _ _ h => h, fun b _ h => ⟨rfl, fun h' => ?_⟩⟩
   rcases hO'' b h' with h1 | ⟨j, f, hm, _⟩
   · exact h h1
   · rw [hb] at hm; simp at hm
 have hrepO : ∀ (a : AV) (v : Value), (o.bor ≠ [] → noSl a = true) → Rep w' βc' (Own Xc βc' (hpL o.hs')) a v → Rep w' β'' (Own X β'' hp'') (ren ρ a) v := by
   intro a v hn hr
   have h1 := rep_ren hback a v hr
   by_cases hb : o.bor = []
   · exact Rep.mono (hstO hb) _ _ h1
   · exact rep_noSl _ _ (by rw [noSl_ren]; exact hn hb) h1
 have hrepE : ∀ (sz : Nat) (a : List (List AV)) (v : List Value), (o.bor ≠ [] → noSlE a = true) → RepE w' βc' (Own Xc βc' (hpL o.hs')) sz a v → RepE w' β'' (Own X β'' hp'') sz (a.map (renL ρ)) v := by
   intro sz a v hn hr
   have h1 := repE_ren hback a v hr
   by_cases hb : o.bor = []
   · exact RepE.mono (hstO hb) _ _ _ h1
   · refine repE_noSl _ _ ?_ h1
     have := hn hb
     simp only [noSlE, List.all_map] at this ⊢
     simpa [Function.comp_def, noSlL_ren] using this
 have hbnot : ∀ j f b, j ∈ o.bor → hp j = some f → β j = some (some b) → ¬ Own Xc βc' (hpL o.hs') b := by
   intro j f b hj hf hb h
   rcases hfrm.own b h with h | h
   · exact hborb j f b hj hf hb h
   · have := hg.lt hf hb; omega
 have hgood'' : Good X w' β'' hp'' := by
   refine good_of hg hfrm'' hext'' ?_ ?_ ?_
   · intro j k f f' b hj hk hbj hbk
     rcases hl'' j f hj with ⟨i, e, hi, rfl, he, rfl, hβ⟩ | ⟨h1, h2, h3⟩ <;> rcases hl'' k f' hk with ⟨i', e', hi', rfl, he', rfl, hβ'⟩ | ⟨h1', h2', h3'⟩
     · rw [hβ] at hbj; rw [hβ'] at hbk
       rw [hgood.inj i i' e e' b he he' hbj hbk]
     · exfalso
       rw [hβ] at hbj; rw [h3'] at hbk
       by_cases hbm : k ∈ o.bor
       · exact hbnot k f' b hbm h1' hbk (.inr ⟨i, e, he, hbj⟩)
       · exact hgood.xdis i e b he hbj (.inr ⟨k, f', h1', hbk, h2', hbm⟩)
     · exfalso
       rw [h3] at hbj; rw [hβ'] at hbk
       by_cases hbm : j ∈ o.bor
       · exact hbnot j f b hbm h1 hbj (.inr ⟨i', e', he', hbk⟩)
       · exact hgood.xdis i' e' b he' hbk (.inr ⟨j, f, h1, hbj, h2, hbm⟩)
     · rw [h3] at hbj; rw [h3'] at hbk
       exact hg.inj j k f f' b h1 h1' hbj hbk
   · intro j f hj
     rcases hl'' j f hj with ⟨i, e, hi, rfl, he, rfl, hβ⟩ | ⟨h1, h2, h3⟩
     · left
       rw [hβ]
       rcases hgood.ent i e he with ⟨g1, g2⟩ | ⟨b, c, fr, vs, rest, g1, g2, g3, g4, g5⟩
       · exact .inl ⟨g1, by simp [renEnt, g2]⟩
       · refine .inr ⟨b, c, fr, vs, rest, g1, g2, g3, g4, hrepE _ _ _ (fun hb => ?_) g5⟩
         refine (hbor hb).2 e ?_
         have : o.hs'[i]? = some (some e) := by
           simp only [hpL] at he
           cases hx : o.hs'[i]? with
           | none => rw [hx] at he; simp at he
           | some y => rw [hx] at he; simp at he; rw [he]
         exact List.mem_of_getElem? this
     · refine .inr ⟨h1, fun b hb => ?_⟩
       by_cases hbm : j ∈ o.bor
       · exact hfrm.same b (hg.lt h1 hb) (hborb j f b hbm h1 hb)
       · exact hkeep b (.inr ⟨j, f, h1, hb, h2, hbm⟩)
   · intro j f b hj hb hX
     rcases hl'' j f hj with ⟨i, e, hi, rfl, he, rfl, hβ⟩ | ⟨h1, h2, h3⟩
     · rw [hβ] at hb
       exact hgood.xdis i e b he hb (.inl hX)
     · rw [h3] at hb; exact hg.xdis j f b h1 hb hX
 refine ⟨v, β'', rfl, ?_⟩
 have hhw : (aCall P g args hp nb o).hw = (List.range o.hs'.length).map fun i => (ρ i, ((o.hs'[i]?).join).map (renEnt ρ)) := by simp only [aCall, hρdef]
 have hvv : (aCall P g args hp nb o).v = ren ρ o.r := by simp only [aCall, hρdef]
 refine ⟨?_, by rw [hhw]; exact hgood'', by rw [hhw]; exact hfrm'', hext'', fun b hb => hkeep b (.inl hb), ?_⟩
 · rw [hhw, hvv]
   exact hrepO o.r v (fun hb => (hbor hb).1) hrep
 · intro j hj
   by_cases hz : nb ≤ j ∧ j < nb + 8
   · exact .inr hz
   · simp only [β'', if_neg hz] at hj; exact .inl hj
end call
section exec
variable {X : Nat → Prop} {P : Program} {T : Tab} {w : World} {β : Gm} {hp : Hp} {nb : Nat} {env : Env} {a : Act} {K : Act → World → Prop} {Q : Exit → Act → World → Prop}
theorem wp_value {o : Oper} {v : Value} {w' : World} (h : (execOp a.eval o).run P w = .ok (.value v) w') (hk : K (a.put o.dst v) w') : o.wp P a w K Q := by
 unfold Oper.wp; rw [h]; exact hk
theorem run_v {m : Sem Value} {v : Value} {w' : World} (h : m.run P w = .ok v w') : (do pure (Next.value (← m)) : Sem Next).run P w = .ok (.value v) w' := by
 rw [run_bind, h]; rfl
theorem repL_args {O : Nat → Prop} (henv : EnvOk w β O env a.tmps) : ∀ xs : List Operand, RepL w β O (xs.map (evA env)) (xs.map a.eval)
 | [] => by simp [RepL]
 | x :: xs => by simp only [List.map_cons, RepL]; exact ⟨_, _, rfl, evA_rep henv x, repL_args henv xs⟩
theorem exec_sound0 (hT : TabOk P T) {orc : Option Orc} {o : Oper} {r : Out} (h : aexec0 P T orc nb env hp o.op = some r) (hob : r.ob) (hg : Good X w β hp)
   (hfresh : ∀ j, nb ≤ j → j < nb + 8 → β j = none) (henv : EnvOk w β (Own X β hp) env a.tmps)
   (hK : ∀ v w' β', Post X w β hp nb r v w' β' → K (a.put o.dst v) w') : o.wp P a w K Q := by
 have hn : β nb = none := hfresh nb (Nat.le_refl _) (by omega)
 have still : ∀ z, (execOp a.eval o).run P w = .ok (.value z) w → Rep w β (Own X β hp) r.v z → r.hw = [] → o.wp P a w K Q :=
   fun z h1 h2 h3 => wp_value h1 (hK z w β (Post.still hg h3 h2))
 have hev := fun x => evA_rep henv x
 cases hop : o.op with
 | move x =>
   simp only [hop, aexec0, out, Option.some.injEq] at h; subst h
   exact still _ (by simp only [execOp, hop]; rfl) (hev x) rfl
 | assign x =>
   simp only [hop, aexec0, out, Option.some.injEq] at h; subst h
   exact still _ (by simp only [execOp, hop]; rfl) (hev x) rfl
 | pick c x y =>
   simp only [hop, aexec0] at h
   split at h
   · rename_i t hc
     simp only [out, Option.some.injEq] at h; subst h
     have h1 := hev c
     rw [hc] at h1
     simp only [Rep] at h1
     refine still (if t then a.eval x else a.eval y) (by simp only [execOp, hop, h1, asBool, run_bind, run_pure]) ?_ rfl
     cases t
     · exact hev y
     · exact hev x
   · simp at h
 | binOp op xt x y yt =>
   simp only [hop, aexec0] at h
   obtain ⟨z, h1, h2, h3⟩ := bin_sound (X := x) (Y := y) hT h hob (hev x) (hev y)
   exact still z (by simp only [execOp, hop]; exact run_v h1) h2 h3
 | unOp op t x =>
   simp only [hop, aexec0] at h
   obtain ⟨z, h1, h2, h3⟩ := un_sound (P := P) h (hev x)
   exact still z (by simp only [execOp, hop]; exact run_v h1) h2 h3
 | convert s d x =>
   simp only [hop, aexec0] at h
   obtain ⟨v, w', β', h1, h2⟩ := conv_sound hT hg hn h hob (hev x)
   exact wp_value (by simp only [execOp, hop]; exact run_v h1) (hK v w' β' h2)
 | extract x i =>
   simp only [hop, aexec0] at h
   split at h
   · rename_i cs hc
     split at h
     · rename_i c hci
       simp only [out, Option.some.injEq] at h; subst h
       have h1 := hev x
       rw [hc] at h1
       simp only [Rep] at h1
       obtain ⟨vs, h1, h2⟩ := h1
       obtain ⟨u, hu, hr⟩ := h2.get i c hci
       refine still u ?_ hr rfl
       simp only [execOp, hop]
       refine run_v ?_
       rw [h1]
       simp [Instr.extract, hu, run_pure]
     · simp at h
   · simp at h
 | field t x f =>
   simp only [hop, aexec0] at h
   obtain ⟨z, h1, h2, h3⟩ := field_sound hT h hob (hev x)
   exact still z (by simp only [execOp, hop]; exact run_v h1) h2 h3
 | fieldAddr t x f =>
   simp only [hop, aexec0] at h
   obtain ⟨z, h1, h2, h3⟩ := fieldAddr_sound hT h hob (hev x)
   exact still z (by simp only [execOp, hop]; exact run_v h1) h2 h3
 | indexAddr t x i =>
   simp only [hop, aexec0] at h
   obtain ⟨z, h1, h2, h3⟩ := indexAddr_sound hT h hob (hev x) (hev i)
   exact still z (by simp only [execOp, hop]; exact run_v h1) h2 h3
 | index t x i =>
   simp only [hop, aexec0] at h
   obtain ⟨z, h1, h2, h3⟩ := index_sound hT h hob (hev x) (hev i)
   exact still z (by simp only [execOp, hop]; exact run_v h1) h2 h3
 | load t x =>
   simp only [hop, aexec0] at h
   obtain ⟨z, h1, h2, h3⟩ := load_sound hT hg h hob (hev x)
   exact still z (by simp only [execOp, hop]; exact run_v h1) h2 h3
 | store t x y =>
   simp only [hop, aexec0] at h
   obtain ⟨w', h1, h2⟩ := store_sound (nb := nb) hT hg h hob (hev x) (hev y)
   have : (execOp a.eval o).run P w = .ok .skip w' := by simp only [execOp, hop, run_bind, h1]; rfl
   unfold Oper.wp; rw [this]
   exact hK undef w' β h2
 | slice t x lo hi mx =>
   cases mx with
   | some m => simp [hop, aexec0] at h
   | none =>
     simp only [hop, aexec0] at h
     obtain ⟨z, h1, h2, h3⟩ := slice_sound hT henv h hob (hev x)
     exact still z (by simp only [execOp, hop]; exact run_v h1) h2 h3
 | box el x =>
   simp only [hop, aexec0] at h
   split at h
   · rename_i cs hc
     simp only [Option.some.injEq] at h; subst h
     obtain ⟨v, w', h1, h2⟩ := box_sound (P := P) (el := el) hg hn hc (hev x)
     exact wp_value (by simp only [execOp, hop]; exact run_v h1) (hK v w' _ h2)
   · simp at h
 | alloc el =>
   simp only [hop, aexec0] at h
   split at h
   · rename_i ti ht
     simp only [Option.some.injEq] at h; subst h
     obtain ⟨v, w', h1, h2⟩ := alloc_sound hT hg hn ht
     exact wp_value (by simp only [execOp, hop]; exact run_v h1) (hK v w' _ h2)
   · simp at h
 | build t parts =>
   simp only [hop, aexec0] at h
   split at h
   · rename_i ti ht
     split at h
     · rename_i cs p hf
       simp only [out, Option.some.injEq] at h; subst h
       obtain ⟨hp1, hp2⟩ := hob
       have hp3 : ∃ fs, ti.desc = .struct fs := by
         unfold isStruct at hp2
         split at hp2
         · rename_i fs hfs; exact ⟨fs, hfs⟩
         · simp at hp2
       obtain ⟨z, h1, h2⟩ := build_sound hT henv ht hf hp1 hp3
       exact still z (by simp only [execOp, hop]; exact run_v h1) h2 rfl
     · simp at h
   · simp at h
 | buildSlice t len parts =>
   simp only [hop, aexec0] at h
   split at h
   · rename_i e te es he hpc
     simp only [Option.some.injEq] at h; subst h
     simp only at hob
     obtain ⟨o1, o2, o3, o4⟩ := hob
     obtain ⟨v, w', h1, h2⟩ := buildSlice_sound hT hg hn henv he o1 hpc o2 o3 o4
     exact wp_value (by simp only [execOp, hop]; exact run_v h1) (hK v w' _ (h2 _))
   · simp at h
 | makeSlice t l c =>
   simp only [hop, aexec0] at h
   split at h
   · rename_i e te n m he hl hc
     simp only [Option.some.injEq] at h; subst h
     simp only at hob
     obtain ⟨rfl, o2, o3, o4, o5⟩ := hob
     have e1 := hev l
     have e2 := hev c
     rw [hl] at e1; rw [hc] at e2
     simp only [Rep] at e1 e2
     obtain ⟨v, w', h1, h2⟩ := makeSlice_sound hT hg hn he o2 o3 o4 o5
     exact wp_value (by simp only [execOp, hop, e1, e2]; exact run_v h1) (hK v w' _ (h2 _))
   · simp at h
 | nilCheck x =>
   simp only [hop, aexec0] at h
   have h1 := hev x
   split at h
   · rename_i i sz k off hx
     simp only [out, Option.some.injEq] at h; subst h
     rw [hx] at h1
     have h2 := h1
     simp only [Rep] at h1
     obtain ⟨b, hb, h1⟩ := h1
     exact still (a.eval x) (by simp only [execOp, hop, h1]; rfl) (by simpa using h2) rfl
   · rename_i cs hx
     simp only [out, Option.some.injEq] at h; subst h
     rw [hx] at h1
     have h2 := h1
     simp only [Rep] at h1
     obtain ⟨b, off, vs, h1, _⟩ := h1
     exact still (a.eval x) (by simp only [execOp, hop, h1]; rfl) (by simpa using h2) rfl
   · simp at h
 | call c =>
   simp only [hop, aexec0] at h
   cases hcal : c.callee with
   | value f =>
     simp only [hcal] at h
     have hf0 := hev f
     split at h
     · rename_i g fr bd hev2
       rw [hev2] at hf0
       simp only [Rep] at hf0
       split at h
       · rename_i h1 h2
         have e1 : fr = #[] := Array.ext' (by simpa using h1)
         have e2 : bd = #[] := Array.ext' (by simpa using h2)
         subst e1 e2
         split at h
         · rename_i oo
           simp only [Option.some.injEq] at h; subst h
           obtain ⟨⟨⟨fn, hf, hbody, hname⟩, _⟩, _⟩ := id hob
           have hrun : (execOp a.eval o).run P w = .ok (.enter g ((c.args.toList.map a.eval).toArray)) w := by
             simp only [execOp, hop, resolve, hcal, hf0, run_bind, run_pure, Deferred.ofValue]
             simp only [invoke, callFunc, run_bind, run_program, hf, hname, hbody, Bool.false_eq_true, if_false, run_pure]
             simp
             apply Array.ext'; simp
           unfold Oper.wp; rw [hrun]
           refine (call_sound hg hfresh (repL_args henv c.args.toList) hob).mono ?_
           rintro e w' ⟨v, β', rfl, hp'⟩
           exact hK v w' β' hp'
         · simp at h
       · simp at h
     · simp at h
   | invoke rc m => simp [hcal] at h
   | builtin b =>
     have arr1 : ∀ {α : Type} {xs : Array α} {x : α}, xs.toList = [x] → xs = #[x] := fun h => Array.ext' (by simpa using h)
     have arr2 : ∀ {α : Type} {xs : Array α} {x y : α}, xs.toList = [x, y] → xs = #[x, y] := fun h => Array.ext' (by simpa using h)
     cases b <;> simp only [hcal, reduceCtorEq] at h
     case len =>
       split at h
       · rename_i x t hx ht
         have hrun : ∀ z, (Builtin.len_ #[t] o.type #[a.eval x]).run P w = .ok z w → (execOp a.eval o).run P w = .ok (.value z) w := by
           intro z hz
           simp only [execOp, hop, resolve, hcal, run_bind, run_pure, invoke, builtin, arr1 hx, arr1 ht]
           simp only [List.map_toArray, List.map_cons, List.map_nil, hz]
         split at h
         · rename_i e r' hd hl
           split at h
           · simp at h
           · rename_i hne
             simp only [Option.some.injEq] at h; subst h
             obtain ⟨z, h1, h2, h3⟩ := len_sound (t := t) (ty := o.type) hT hl (hev x) (.inl ⟨⟨e, hd⟩, fun s hs => hne s hs⟩)
             exact still z (hrun z h1) h2 h3
         · rename_i r' hd hl
           split at h
           · rename_i s hs
             simp only [Option.some.injEq] at h; subst h
             obtain ⟨z, h1, h2, h3⟩ := len_sound (t := t) (ty := o.type) hT hl (hev x) (.inr ⟨hd, s, hs⟩)
             exact still z (hrun z h1) h2 h3
           · simp at h
         · simp at h
       · simp at h
     case min =>
       split at h
       · rename_i x y hx
         split at h
         · rename_i c' hm
           simp only [out, Option.some.injEq] at h; subst h
           have e1 := hev x
           have e2 := hev y
           unfold aMin2 at hm
           split at hm
           · rename_i k n k' n' hx1 hx2
             simp only [Option.some.injEq] at hm; subst hm
             rw [hx1] at e1; rw [hx2] at e2
             simp only [Rep] at e1 e2
             refine still (.int k (if n' < n then n' else n)) ?_ (by simp only [Rep]) rfl
             simp only [execOp, hop, resolve, hcal, run_bind, run_pure, invoke, builtin, arr2 hx]
             simp only [List.map_toArray, List.map_cons, List.map_nil, Builtin.min_, e1, e2, List.foldlM_cons, List.foldlM_nil, Builtin.min2, run_bind, run_pure]
           · simp at hm
         · simp at h
       · simp at h
     case max =>
       split at h
       · rename_i x y hx
         split at h
         · rename_i c' hm
           simp only [out, Option.some.injEq] at h; subst h
           have e1 := hev x
           have e2 := hev y
           unfold aMax2 at hm
           split at hm
           · rename_i k n k' n' hx1 hx2
             simp only [Option.some.injEq] at hm; subst hm
             rw [hx1] at e1; rw [hx2] at e2
             simp only [Rep] at e1 e2
             refine still (.int k (if n' > n then n' else n)) ?_ (by simp only [Rep]) rfl
             simp only [execOp, hop, resolve, hcal, run_bind, run_pure, invoke, builtin, arr2 hx]
             simp only [List.map_toArray, List.map_cons, List.map_nil, Builtin.max_, e1, e2, List.foldlM_cons, List.foldlM_nil, Builtin.max2, run_bind, run_pure]
           · simp at hm
         · simp at h
       · simp at h
     case append =>
       split at h
       · rename_i x y t u hx ht
         have hrun : ∀ z w', (Builtin.append_ #[t, u] o.type #[a.eval x, a.eval y]).run P w = .ok z w' → (execOp a.eval o).run P w = .ok (.value z) w' := by
           intro z w' hz
           simp only [execOp, hop, resolve, hcal, run_bind, run_pure, invoke, builtin, arr2 hx, arr2 ht]
           simp only [List.map_toArray, List.map_cons, List.map_nil, hz]
         split at h
         · rename_i e hd
           obtain ⟨v, w', β', h1, h2⟩ := append_sound (ty := o.type) hT hg hn h hob (.inl ⟨e, hd⟩) (hev x) (hev y)
           exact wp_value (hrun v w' h1) (hK v w' β' h2)
         · rename_i hd
           obtain ⟨v, w', β', h1, h2⟩ := append_sound (ty := o.type) hT hg hn h hob (.inr hd) (hev x) (hev y)
           exact wp_value (hrun v w' h1) (hK v w' β' h2)
         · simp at h
       · simp at h
 | makeInterface t x =>
   simp only [hop, aexec0] at h
   unfold aMkIface at h
   split at h
   · rename_i v hx
     split at h
     · rename_i d hd
       split at h
       · rename_i hc
         simp only [out, Option.some.injEq] at h; subst h
         have h1 := hev x
         rw [hx] at h1
         simp only [Rep] at h1
         refine still (.iface t v) ?_ (by simp [Rep]) rfl
         simp only [execOp, hop]
         refine run_v ?_
         simp only [Instr.makeInterface, run_bind, run_underlying (tab_desc hT hd), h1]
         cases d <;> first | (simp [concD] at hc; done) | simp [run_pure]
       · simp at h
     · simp at h
   · simp at h
 | typeAssert x xt t ok =>
   cases ok with
   | false => simp [hop, aexec0] at h
   | true =>
     simp only [hop, aexec0] at h
     unfold aAssert at h
     split at h
     · rename_i t' v ti hx hti
       split at h
       · rename_i hc
         have h1 := hev x
         rw [hx] at h1
         simp only [Rep] at h1
         obtain ⟨i, z, hi, _, _, hz, _, hu, _⟩ := tab hT hti
         have hrun : ∀ y, (Instr.typeAssert (.iface t' v) xt t true).run P w = .ok y w → (execOp a.eval o).run P w = .ok (.value y) w := by
           intro y hy
           simp only [execOp, hop]
           refine run_v ?_
           rw [h1]; exact hy
         have key : (Instr.typeAssert (.iface t' v) xt t true).run P w = .ok (if t' = t then .tuple #[v, .bool true] else .tuple #[z, .bool false]) w := by
           simp only [Instr.typeAssert, run_bind, run_underlying hu, if_true]
           generalize ti.desc = d at hc
           by_cases he : t' = t
           · cases d <;> first | (simp [concD] at hc; done) | simp [he, run_pure]
           · cases d <;> first | (simp [concD] at hc; done) | simp [he, run_bind, run_zero hi hz, run_pure]
         by_cases he : t' = t
         · simp only [he, if_true, out, Option.some.injEq] at h; subst h
           rw [if_pos he] at key
           exact still _ (hrun _ key) (by simp [Rep, RepL]) rfl
         · simp only [he, if_false, out, Option.some.injEq] at h; subst h
           rw [if_neg he] at key
           exact still _ (hrun _ key) (by simp [Rep, RepL]) rfl
       · simp at h
     · simp at h
 | _ => simp [hop, aexec0] at h
theorem exec_sound (hT : TabOk P T) {orc : Option Orc} {o : Oper} {r : Out} (h : aexec P T orc nb env hp o.op = some r) (hob : r.ob) (hg : Good X w β hp)
   (hfresh : ∀ j, nb ≤ j → j < nb + 8 → β j = none) (henv : EnvOk w β (Own X β hp) env a.tmps)
   (hK : ∀ v w' β', Post X w β hp nb r v w' β' → K (a.put o.dst v) w') : o.wp P a w K Q := by
 unfold aexec at h
 split at h
 · rename_i r0 _
   simp only [Option.some.injEq] at h
   subst h
   obtain ⟨v, w', β', h1, h2⟩ := hob.2 env hp (fun _ _ => rfl) (fun _ _ => rfl) X w β a o rfl hg hfresh henv
   exact wp_value h1 (hK v w' β' ⟨h2.rep, h2.good, h2.frm, h2.ext, h2.keepX, h2.new⟩)
 · exact exec_sound0 hT h hob hg hfresh henv hK
end exec
section loc
variable {P : Program} {T : Tab} {nb : Nat} {env env' : Env} {hp hp' : Hp}
/-- Two results of which the second serves where the first does. -/
structure OutLe (r r' : Out) : Prop where
 v : r'.v = r.v
 hw : r'.hw = r.hw
 ob : r.ob → r'.ob
theorem OutLe.refl (r : Out) : OutLe r r := ⟨rfl, rfl, fun h => h⟩
theorem aConv_local {s d : TypeId} {x : AV} {r : Out} (h : aConv T hp nb s d x = some r) (hh : ∀ i ∈ r.hr, hp i = hp' i) : aConv T hp' nb s d x = some r := by
 unfold aConv at h ⊢
 split at h <;> try exact h
 · rename_i e e' i n sz h1 h2
   split at h
   · rename_i en h3 h4 h5
     simp only [Option.some.injEq] at h
     subst h
     rw [← hh i (by simp), h3, h4, h5]
   · simp at h
 · rename_i e i n sz h1 h2
   (try simp only [h1, h2])
   split at h
   · rename_i en h3 h4
     simp only [Option.some.injEq] at h
     subst h
     rw [← hh i (by simp), h3, h4]
   · simp at h
theorem aPart_hr {tf : TI} {cs : List AV} {p : Prop} {hr : List Nat} {r : Out} (h : aPart tf cs p hr = some r) : r.hr = hr := by
 unfold aPart at h
 split at h
 · simp at h; subst h; rfl
 · split at h
   · simp at h; subst h; rfl
   · simp at h
theorem aLoad_local {t : TypeId} {x : AV} {r : Out} (h : aLoad T hp t x = some r) (hh : ∀ i ∈ r.hr, hp i = hp' i) : aLoad T hp' t x = some r := by
 unfold aLoad at h ⊢
 split at h <;> try exact h
 rename_i ti i sz k off ht
 (try simp only [ht])
 split at h
 · rename_i e he
   split at h
   · rename_i c hc
     have := aPart_hr h
     rw [← hh i (by rw [this]; simp), he]
     (try simp only [hc]); exact h
   · simp at h
 · simp at h
theorem aStore_local {t : TypeId} {x y : AV} {r : Out} (h : aStore T hp t x y = some r) (hh : ∀ i ∈ r.hr, hp i = hp' i) : aStore T hp' t x y = some r := by
 unfold aStore at h ⊢
 split at h
 · rename_i ti i sz k off xs ht hxs
   (try simp only [ht, hxs])
   split at h
   · rename_i e he
     split at h
     · rename_i c hc
       simp only [Option.some.injEq] at h
       subst h
       rw [← hh i (by simp), he]
       (try simp only [hc])
     · simp at h
   · simp at h
 · simp at h
theorem srcOf_local {sz : Nat} {y : AV} {es : List (List AV)} {rs : List Nat} {p : Prop} (h : srcOf hp sz y = some (es, rs, p)) (hh : ∀ i ∈ rs, hp i = hp' i) : srcOf hp' sz y = some (es, rs, p) := by
 unfold srcOf at h ⊢
 split at h <;> try exact h
 all_goals
   split at h
   · rename_i e he
     simp only [Option.some.injEq, Prod.mk.injEq] at h
     obtain ⟨rfl, rfl, rfl⟩ := h
     (try simp only)
     rw [← hh _ (by simp), he]
   · simp at h
theorem aAppend_local {t : TypeId} {x y : AV} {r : Out} (h : aAppend T hp nb t x y = some r) (hh : ∀ i ∈ r.hr, hp i = hp' i) : aAppend T hp' nb t x y = some r := by
 unfold aAppend at h ⊢
 split at h
 · simp at h
 · rename_i e te he
   (try simp only [he])
   split at h
   · simp at h
   · rename_i es rs p hs
     split at h
     · simp only [Option.some.injEq] at h
       subst h
       rw [srcOf_local hs (fun i hi => hh i hi)]
     · split at h
       · rename_i i n sz x en hen
         simp only [Option.some.injEq] at h
         subst h
         rw [srcOf_local hs (fun j hj => hh j (by simp [hj]))]
         (try simp only)
         rw [← hh i (by simp), hen]
       · simp at h
     · split at h
       · rename_i i n sz x en hen
         simp only [Option.some.injEq] at h
         subst h
         rw [srcOf_local hs (fun j hj => hh j (by simp [hj]))]
         (try simp only)
         rw [← hh i (by simp), hen]
       · simp at h
     · simp at h
theorem view1_local {bor : List Nat} {c a : AV} (hh : ∀ i ∈ bor, hp i = hp' i) (h : view1 hp bor c a) : view1 hp' bor c a := by
 rcases h with h | ⟨i, n, sz, e, h1, h2, h3, h4⟩ | h
 · exact .inl h
 · exact .inr (.inl ⟨i, n, sz, e, h1, h2, by rw [← hh i h2]; exact h3, h4⟩)
 · exact .inr (.inr h)
theorem viewL_local {bor : List Nat} (hh : ∀ i ∈ bor, hp i = hp' i) : ∀ {cs as : List AV}, viewL hp bor cs as → viewL hp' bor cs as
 | [], [], _ => trivial
 | c :: cs, a :: as, h => ⟨view1_local hh h.1, viewL_local hh h.2⟩
 | [], _ :: _, h => h.elim
 | _ :: _, [], h => h.elim
theorem viewA_local {bor : List Nat} {c a : AV} (hh : ∀ i ∈ bor, hp i = hp' i) (h : viewA hp bor c a) : viewA hp' bor c a := by
 rcases h with h | ⟨cs, as, h1, h2, h3⟩
 · exact .inl (view1_local hh h)
 · exact .inr ⟨cs, as, h1, h2, viewL_local hh h3⟩
theorem aCall_local {g : FuncId} {args : List AV} {o : Orc} (hh : ∀ i ∈ (aCall P g args hp nb o).hr, hp i = hp' i) : OutLe (aCall P g args hp nb o) (aCall P g args hp' nb o) := by
 refine ⟨rfl, rfl, ?_⟩
 have h1 : ∀ i ∈ o.ids, hp i = hp' i := fun i hi => hh i (by simp [aCall, hi])
 have h2 : ∀ i ∈ o.bor, hp i = hp' i := fun i hi => hh i (by simp [aCall, hi])
 rintro ⟨a1, a2, a3, a4, a5, a6, a7, a8, a9, a10, a11, a12⟩
 refine ⟨a1, a2, a3, fun i hi => ?_, a5, a6, a7, fun j c a hc ha => viewA_local h2 (a8 j c a hc ha), a9, fun i hi => ⟨(a10 i hi).1, fun e he => (a10 i hi).2 e (by rw [h2 i hi]; exact he)⟩, a11, a12⟩
 rw [← h1 _ (by rw [getD_get hi]; exact List.getElem_mem hi)]
 exact a4 i hi
theorem aBound_congr {d : Nat} {x : Option Operand} (h : ∀ y ∈ x.toArray, evA env y = evA env' y) : aBound env d x = aBound env' d x := by
 cases x with
 | none => rfl
 | some y => simp only [aBound]; rw [h y (by simp)]
theorem partCells_congr : ∀ {ps : List (Nat × Operand)}, (∀ x ∈ ps.map (·.2), evA env x = evA env' x) → partCells env ps = partCells env' ps
 | [], _ => rfl
 | (i, x) :: ps, h => by
   simp only [partCells]
   rw [h x (by simp), partCells_congr (ps := ps) (fun y hy => h y (by simp at hy ⊢; exact .inr hy))]
theorem fillA_congr {t : TypeId} : ∀ {ps : List (Nat × Operand)} {cells : List AV} {ob : Prop}, (∀ x ∈ ps.map (·.2), evA env x = evA env' x) → fillA T t env cells ob ps = fillA T t env' cells ob ps
 | [], _, _, _ => rfl
 | (i, x) :: ps, cells, ob, h => by
   simp only [fillA]
   rw [h x (by simp)]
   split
   · exact fillA_congr (fun y hy => h y (by simp at hy ⊢; exact .inr hy))
   · rfl
theorem aexec0_congr {orc : Option Orc} {op : Op} (h : ∀ x ∈ op.operands, evA env x = evA env' x) : aexec0 P T orc nb env hp op = aexec0 P T orc nb env' hp op := by
 cases op <;> simp only [Op.operands] at h <;> simp only [aexec0]
 case call c =>
   have ha : ∀ x ∈ c.args, evA env x = evA env' x := fun x hx => h x (by simp [Call.operands, hx])
   cases hc : c.callee with
   | value f =>
     have : c.args.toList.map (evA env) = c.args.toList.map (evA env') := List.map_congr_left fun x hx => ha x (by simpa using hx)
     have hf : evA env f = evA env' f := h f (by simp [Call.operands, hc])
     simp only [this, hf]
   | invoke r m => rfl
   | builtin b =>
     cases b <;> try rfl
     all_goals
       (try simp only [])
       cases hl : c.args.toList with
       | nil => rcases c.argTypes.toList with _ | ⟨t, _ | ⟨u, _ | _⟩⟩ <;> rfl
       | cons x l =>
         have e1 : evA env x = evA env' x := ha x (by rw [← Array.mem_toList_iff, hl]; simp)
         cases l with
         | nil => rcases c.argTypes.toList with _ | ⟨t, _ | ⟨u, _ | _⟩⟩ <;> first | rfl | simp only [e1]
         | cons y l =>
           have e2 : evA env y = evA env' y := ha y (by rw [← Array.mem_toList_iff, hl]; simp)
           cases l with
           | nil => rcases c.argTypes.toList with _ | ⟨t, _ | ⟨u, _ | _⟩⟩ <;> first | rfl | simp only [e1, e2]
           | cons z l => rcases c.argTypes.toList with _ | ⟨t, _ | ⟨u, _ | _⟩⟩ <;> rfl
 case build t ps =>
   have e : ∀ cells ob, fillA T t env cells ob ps.toList = fillA T t env' cells ob ps.toList := fun cells ob => fillA_congr (fun x hx => h x (by simpa using hx))
   simp only [e]
 case buildSlice t n ps => rw [partCells_congr (fun x hx => h x (by simpa using hx))]
 case slice t x lo hi mx =>
   cases mx with
   | some m => rfl
   | none =>
     simp only [aSlice]
     rw [h x (by simp), aBound_congr (env := env) (env' := env') (d := 0) (x := lo) (fun y hy => h y (by simp at hy ⊢; simp [hy]))]
     have hb : ∀ d, aBound env d hi = aBound env' d hi := fun d => aBound_congr (fun y hy => h y (by simp at hy ⊢; simp [hy]))
     simp only [hb]
 case pick c x y => rw [h c (by simp), h x (by simp), h y (by simp)]
 case typeAssert x xt t ok =>
   cases ok with
   | false => rfl
   | true => simp only [h x (by simp)]
 all_goals (first | rfl | (simp_all; done))
theorem aexec0_local {orc : Option Orc} {op : Op} {r : Out} (h : aexec0 P T orc nb env hp op = some r) (he : ∀ x ∈ op.operands, evA env x = evA env' x) (hh : ∀ i ∈ r.hr, hp i = hp' i) :
   ∃ r', aexec0 P T orc nb env' hp' op = some r' ∧ OutLe r r' := by
 rw [aexec0_congr he] at h
 cases op <;> simp only [aexec0] at h ⊢ <;> try exact ⟨r, h, OutLe.refl r⟩
 case slice t x lo hi mx =>
   cases mx with
   | some m => simp at h
   | none => exact ⟨r, h, OutLe.refl r⟩
 case convert s d x => exact ⟨r, aConv_local h hh, OutLe.refl r⟩
 case typeAssert x xt t ok =>
   cases ok with
   | false => simp at h
   | true => exact ⟨r, h, OutLe.refl r⟩
 case load t x => exact ⟨r, aLoad_local h hh, OutLe.refl r⟩
 case store t x y => exact ⟨r, aStore_local h hh, OutLe.refl r⟩
 case call c =>
   cases hc : c.callee with
   | value f =>
     rw [hc] at h
     simp only at h ⊢
     split at h
     · split at h
       · split at h
         · rename_i o
           simp only [Option.some.injEq] at h
           subst h
           exact ⟨_, rfl, aCall_local hh⟩
         · simp at h
       · simp at h
     · simp at h
   | invoke rc m => rw [hc] at h; simp at h
   | builtin b =>
     rw [hc] at h
     cases b <;> simp only at h ⊢ <;> try exact ⟨r, h, OutLe.refl r⟩
     case append =>
       split at h
       · rename_i x y t u hx ht
         (try simp only [hx, ht])
         split at h
         · rename_i e hd
           exact ⟨r, aAppend_local h hh, OutLe.refl r⟩
         · rename_i hd
           exact ⟨r, aAppend_local h hh, OutLe.refl r⟩
         · simp at h
       · simp at h
theorem aexec_local {orc : Option Orc} {op : Op} {r : Out} (h : aexec P T orc nb env hp op = some r) (he : ∀ x ∈ op.operands, evA env x = evA env' x) (hh : ∀ i ∈ r.hr, hp i = hp' i) :
   ∃ r', aexec P T orc nb env' hp' op = some r' ∧ OutLe r r' := by
 unfold aexec at h ⊢
 split at h
 · rename_i r0 h0
   simp only [Option.some.injEq] at h
   subst h
   refine ⟨_, rfl, rfl, rfl, fun hb => ⟨hb.1, fun env2 hp2 h1 h2 => hb.2 env2 hp2 (fun x hx => (he x hx).trans (h1 x hx)) (fun i hi => (hh i hi).trans (h2 i hi))⟩⟩
 · exact aexec0_local h he hh
end loc
end Go.Av
