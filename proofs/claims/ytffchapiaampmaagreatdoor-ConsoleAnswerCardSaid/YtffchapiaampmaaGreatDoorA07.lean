/-
  Part 7 of the proof that logtidelaw45.ConsoleAnswer returns true for every list of bytes and every text, and leaves both as they were.
-/
import Derived.Test.YtffchapiaampmaaGreatDoorA06
set_option linter.unusedSimpArgs false
set_option linter.unusedVariables false
namespace Go.Av
mutual
/-- What stands for c stands for a as well, once the ids are renamed and those of D settled. -/
def wk (hp : Hp) (ids : List (Option Nat)) (D : List Nat) : AV → AV → Prop
 | _, .any => True
 | c, .val v => c = .val v
 | c, .agg as => ∃ cs, c = .agg cs ∧ wkL hp ids D cs as
 | c, .tup as => ∃ cs, c = .tup cs ∧ wkL hp ids D cs as
 | c, .sl sz es => c = .sl sz es ∨ (∃ i n e, c = .osl i n sz ∧ i ∈ D ∧ hp i = some e ∧ e.es.length = n ∧ e.sz = sz ∧ es = e.es ∧ idLtE 0 e.es = true) ∨ (c = .val (.slice none 0 0) ∧ es = [])
 | c, .rp cs => c = .rp cs
 | c, .osl i n sz => (∃ j, ids[i]? = some (some j) ∧ c = .osl j n sz) ∨ (ids[i]? = some none ∧ c = .val (.slice none 0 0) ∧ n = 0)
 | c, .ptr i sz k off => ∃ j, ids[i]? = some (some j) ∧ c = .ptr j sz k off
 | _, .osv _ _ _ _ => False
def wkL (hp : Hp) (ids : List (Option Nat)) (D : List Nat) : List AV → List AV → Prop
 | cs, [] => cs = []
 | cs, a :: as => ∃ c r, cs = c :: r ∧ wk hp ids D c a ∧ wkL hp ids D r as
end
def wkE (hp : Hp) (ids : List (Option Nat)) (D : List Nat) : List (List AV) → List (List AV) → Prop
 | cs, [] => cs = []
 | cs, a :: as => ∃ c r, cs = c :: r ∧ wkL hp ids D c a ∧ wkE hp ids D r as
def wkEnt (hp : Hp) (ids : List (Option Nat)) (D : List Nat) (e e' : Ent) : Prop :=
 e'.ty = e.ty ∧ e'.sz = e.sz ∧ ((e'.es = e.es ∧ idLtE 0 e.es = true) ∨ wkE hp ids D e.es e'.es)
def wkEnv (hp : Hp) (ids : List (Option Nat)) (D : List Nat) (env : List (Nat × AV)) : List (Nat × AV) → Prop
 | [] => True
 | (t, a) :: r => wk hp ids D (lk env t) a ∧ wkEnv hp ids D env r
def wkHp1 (hp : Hp) (ids : List (Option Nat)) (D : List Nat) (i : Nat) (e' : Ent) : Prop :=
 (∃ j e, ids[i]? = some (some j) ∧ hp j = some e ∧ wkEnt hp ids D e e') ∨ (ids[i]? = some none ∧ e'.es = [])
def wkHp (hp : Hp) (ids : List (Option Nat)) (D : List Nat) : List (Nat × Option Ent) → Prop
 | [] => True
 | (_, none) :: r => wkHp hp ids D r
 | (i, some e') :: r => wkHp1 hp ids D i e' ∧ wkHp hp ids D r
def srcIds (ids : List (Option Nat)) : List (Nat × Option Ent) → List Nat
 | [] => []
 | (_, none) :: r => srcIds ids r
 | (i, some _) :: r => match ids[i]? with
   | some (some j) => j :: srcIds ids r
   | _ => srcIds ids r
structure IdsOk (ids : List (Option Nat)) (D : List Nat) (k : Nat) (l : List (Nat × Option Ent)) : Prop where
 nd : (srcIds ids l).Nodup
 dis : ∀ j ∈ srcIds ids l, j ∉ D
 fst : ids.take k = (List.range k).map some
def gmOf (β : Gm) (ids : List (Option Nat)) : Gm := fun i => match ids[i]? with
 | some (some j) => β j
 | some none => some none
 | none => none
section core
variable {X : Nat → Prop} {w : World} {β : Gm} {hp hp' : Hp} {ids : List (Option Nat)} {D : List Nat} {k : Nat}
theorem src_mem {ids : List (Option Nat)} : ∀ {l : List (Nat × Option Ent)} {i j : Nat} {e : Ent}, lkh l i = some e → ids[i]? = some (some j) → j ∈ srcIds ids l
 | [], i, j, e, h, _ => by simp [lkh] at h
 | (i', none) :: r, i, j, e, h, hj => by
   simp only [lkh] at h
   split at h
   · simp at h
   · simp only [srcIds]; exact src_mem h hj
 | (i', some f) :: r, i, j, e, h, hj => by
   simp only [lkh] at h
   simp only [srcIds]
   split at h
   · rename_i he; subst he; simp [hj]
   · have := src_mem h hj
     split
     · exact List.mem_cons_of_mem _ this
     · exact this
theorem ids_inj {ids : List (Option Nat)} : ∀ {l : List (Nat × Option Ent)}, (srcIds ids l).Nodup → ∀ {i i' j : Nat} {e e' : Ent}, lkh l i = some e → lkh l i' = some e' → ids[i]? = some (some j) → ids[i']? = some (some j) → i = i'
 | [], _, i, i', j, e, e', h, _, _, _ => by simp [lkh] at h
 | (k, none) :: r, hnd, i, i', j, e, e', h, h', hj, hj' => by
   simp only [lkh] at h h'
   split at h
   · simp at h
   · split at h'
     · simp at h'
     · exact ids_inj (l := r) hnd h h' hj hj'
 | (k, some f) :: r, hnd, i, i', j, e, e', h, h', hj, hj' => by
   have hnd' : (srcIds ids r).Nodup := by
     simp only [srcIds] at hnd
     split at hnd
     · exact (List.nodup_cons.1 hnd).2
     · exact hnd
   simp only [lkh] at h h'
   split at h
   · rename_i he
     split at h'
     · rename_i he'; omega
     · subst he
       simp only [srcIds, hj] at hnd
       exact absurd (src_mem h' hj') (List.nodup_cons.1 hnd).1
   · split at h'
     · rename_i he'
       subst he'
       simp only [srcIds, hj'] at hnd
       exact absurd (src_mem h hj) (List.nodup_cons.1 hnd).1
     · exact ids_inj hnd' h h' hj hj'
theorem weak_core {l : List (Nat × Option Ent)} (hl : hp' = lkh l) (hg : Good X w β hp) (hi : IdsOk ids D k l) (hh : ∀ i e', hp' i = some e' → wkHp1 hp ids D i e') :
   (∀ b, Own X (gmOf β ids) hp' b → Own X β hp b) ∧ (∀ c a v, wk hp ids D c a → Rep w β (Own X β hp) c v → Rep w (gmOf β ids) (Own X (gmOf β ids) hp') a v) ∧ Good X w (gmOf β ids) hp' := by
 have hlive : ∀ i e' b, hp' i = some e' → gmOf β ids i = some (some b) → ∃ j e, ids[i]? = some (some j) ∧ hp j = some e ∧ wkEnt hp ids D e e' ∧ β j = some (some b) ∧ j ∉ D := by
   intro i e' b he hb
   rcases hh i e' he with ⟨j, e, h1, h2, h3⟩ | ⟨h1, _⟩
   · refine ⟨j, e, h1, h2, h3, by simpa [gmOf, h1] using hb, hi.dis j (src_mem (by rw [← hl]; exact he) h1)⟩
   · simp [gmOf, h1] at hb
 have hO : ∀ b, Own X (gmOf β ids) hp' b → Own X β hp b := by
   rintro b (h | ⟨i, e', he, hb⟩)
   · exact .inl h
   · obtain ⟨j, e, _, h2, _, h4, _⟩ := hlive i e' b he hb
     exact .inr ⟨j, e, h2, h4⟩
 have hD : ∀ i e b, i ∈ D → hp i = some e → β i = some (some b) → ¬ Own X (gmOf β ids) hp' b := by
   rintro i e b hiD he hb (h | ⟨i', e', he', hb'⟩)
   · exact hg.xdis i e b he hb h
   · obtain ⟨j, e2, _, h2, _, h4, h5⟩ := hlive i' e' b he' hb'
     exact h5 (hg.inj j i e2 e b h2 he h4 hb ▸ hiD)
 have hst : Stab w w β β (Own X β hp) (Own X (gmOf β ids) hp') := ⟨Nat.le_refl _, fun _ _ h => h, fun _ _ h => h, fun b _ h => ⟨rfl, fun h' => h (hO b h')⟩⟩
 have key : ∀ (a c : AV) (v : Value), wk hp ids D c a → Rep w β (Own X β hp) c v → Rep w (gmOf β ids) (Own X (gmOf β ids) hp') a v := by
   intro a
   refine AV.rec (motive_1 := fun a => ∀ (c : AV) (v : Value), wk hp ids D c a → Rep w β (Own X β hp) c v → Rep w (gmOf β ids) (Own X (gmOf β ids) hp') a v)
     (motive_2 := fun as => ∀ (cs : List AV) (vs : List Value), wkL hp ids D cs as → RepL w β (Own X β hp) cs vs → RepL w (gmOf β ids) (Own X (gmOf β ids) hp') as vs)
     (motive_3 := fun _ => True) ?_ ?_ ?_ ?_ ?_ ?_ ?_ ?_ ?_ ?_ ?_ ?_ ?_ a
   · intro c v _ _; simp [Rep]
   · intro u c v h hr; simp only [wk] at h; subst h; simpa [Rep] using hr
   · intro as ih c v h hr
     simp only [wk] at h
     obtain ⟨cs, rfl, h⟩ := h
     simp only [Rep] at hr ⊢
     obtain ⟨vs, rfl, hl⟩ := hr
     exact ⟨vs, rfl, ih cs vs h hl⟩
   · intro as ih c v h hr
     simp only [wk] at h
     obtain ⟨cs, rfl, h⟩ := h
     simp only [Rep] at hr ⊢
     obtain ⟨vs, rfl, hl⟩ := hr
     exact ⟨vs, rfl, ih cs vs h hl⟩
   · intro sz es _ c v h hr
     simp only [wk] at h
     rcases h with rfl | ⟨i, n, e, rfl, hiD, he, hn, hsz, rfl, hid⟩ | ⟨rfl, rfl⟩
     · have := Rep.mono hst _ _ hr
       simpa only [Rep] using this
     · simp only [Rep] at hr ⊢
       rcases hr with ⟨h1, rfl, rfl⟩ | ⟨b, cap, T', m, h1, rfl, h2, h3, h4⟩
       · exact .inl ⟨rfl, List.eq_nil_of_length_eq_zero hn⟩
       · rcases hg.ent i e he with ⟨hb', _⟩ | ⟨b', c, fr, vs, rest, hb', hh', hfr, hc, hre⟩
         · rw [h1] at hb'; simp at hb'
         · obtain rfl : b = b' := by rw [h1] at hb'; simpa using hb'
           subst hn
           refine .inr ⟨b, 0, cap, vs, rfl, h2, getElem?_lt hh', hD i e b hiD he h1, cellsAt_block hh' hc, ?_⟩
           rw [← hsz]
           exact repE_noid hid (RepE.mono hst _ _ _ hre)
     · simp only [Rep] at hr ⊢
       exact .inl ⟨hr, trivial⟩
   · intro cs _ c v h hr
     simp only [wk] at h
     subst h
     have := Rep.mono hst _ _ hr
     simpa only [Rep] using this
   · intro i n sz c v h hr
     simp only [wk] at h
     rcases h with ⟨j, h1, rfl⟩ | ⟨h1, rfl, rfl⟩
     · simp only [Rep, gmOf, h1] at hr ⊢; exact hr
     · simp only [Rep, gmOf, h1] at hr ⊢; exact .inl ⟨trivial, hr, trivial⟩
   · intro i sz k' off c v h hr
     simp only [wk] at h
     obtain ⟨j, h1, rfl⟩ := h
     simp only [Rep, gmOf, h1] at hr ⊢; exact hr
   · intro i lo n sz c v h hr; simp only [wk] at h
   · intro cs vs h hr; simp only [wkL] at h; subst h; simpa [RepL] using hr
   · intro a as iha ihas cs vs h hr
     simp only [wkL] at h
     obtain ⟨c, r, rfl, h1, h2⟩ := h
     simp only [RepL] at hr ⊢
     obtain ⟨v, vr, rfl, g1, g2⟩ := hr
     exact ⟨v, vr, rfl, iha c v h1 g1, ihas r vr h2 g2⟩
   · trivial
   · intros; trivial
 have keyL : ∀ (as cs : List AV) (vs : List Value), wkL hp ids D cs as → RepL w β (Own X β hp) cs vs → RepL w (gmOf β ids) (Own X (gmOf β ids) hp') as vs := by
   intro as
   induction as with
   | nil => intro cs vs h hr; simp only [wkL] at h; subst h; simpa [RepL] using hr
   | cons a as ih =>
     intro cs vs h hr
     simp only [wkL] at h
     obtain ⟨c, r, rfl, h1, h2⟩ := h
     simp only [RepL] at hr ⊢
     obtain ⟨v, vr, rfl, g1, g2⟩ := hr
     exact ⟨v, vr, rfl, key a c v h1 g1, ih r vr h2 g2⟩
 have wkL_len : ∀ (as cs : List AV), wkL hp ids D cs as → as.length = cs.length := by
   intro as
   induction as with
   | nil => intro cs h; simp only [wkL] at h; subst h; rfl
   | cons a as ih => intro cs h; simp only [wkL] at h; obtain ⟨c, r, rfl, _, h2⟩ := h; simp [ih r h2]
 have keyE : ∀ (sz : Nat) (as cs : List (List AV)) (vs : List Value), wkE hp ids D cs as → RepE w β (Own X β hp) sz cs vs → RepE w (gmOf β ids) (Own X (gmOf β ids) hp') sz as vs := by
   intro sz as
   induction as with
   | nil => intro cs vs h hr; simp only [wkE] at h; subst h; simpa [RepE] using hr
   | cons a as ih =>
     intro cs vs h hr
     simp only [wkE] at h
     obtain ⟨c, r, rfl, h1, h2⟩ := h
     simp only [RepE] at hr ⊢
     obtain ⟨v, vr, rfl, g0, g1, g2⟩ := hr
     exact ⟨v, vr, rfl, by rw [wkL_len a c h1]; exact g0, keyL a c v h1 g1, ih r vr h2 g2⟩
 refine ⟨hO, fun c a v => key a c v, ?_, ?_, ?_, hg.xlt, hg.laid.1, fun b hb => ⟨(hg.laid.2 b hb).1, fun h => (hg.laid.2 b hb).2 (hO b h)⟩⟩
 · intro i i' e e' b hi1 hi2 hb1 hb2
   obtain ⟨j, f, h1, h2, _, h4, _⟩ := hlive i e b hi1 hb1
   obtain ⟨j', f', h1', h2', _, h4', _⟩ := hlive i' e' b hi2 hb2
   have := hg.inj j j' f f' b h2 h2' h4 h4'
   subst this
   exact ids_inj hi.nd (by rw [← hl]; exact hi1) (by rw [← hl]; exact hi2) h1 h1'
 · intro i e' he'
   rcases hh i e' he' with ⟨j, e, h1, h2, hty, hsz, hes⟩ | ⟨h1, h2⟩
   · have hgm : gmOf β ids i = β j := by simp [gmOf, h1]
     rw [hgm]
     rcases hg.ent j e h2 with ⟨g1, g2⟩ | ⟨b, c, fr, vs, rest, g1, g2, g3, g4, g5⟩
     · refine .inl ⟨g1, ?_⟩
       rcases hes with ⟨h, _⟩ | h
       · rw [h, g2]
       · rw [g2] at h
         cases hx : e'.es with
         | nil => rfl
         | cons a as => rw [hx] at h; simp only [wkE] at h; obtain ⟨c, r, h, _⟩ := h; simp at h
     · refine .inr ⟨b, c, fr, vs, rest, g1, by rw [hty]; exact g2, g3, g4, ?_⟩
       rw [hsz]
       rcases hes with ⟨h, hid⟩ | h
       · rw [h]; exact (repE_noid hid (RepE.mono hst _ _ _ g5)).up
       · exact keyE _ _ _ _ h g5
   · exact .inl ⟨by simp [gmOf, h1], h2⟩
 · intro i e b he hb
   obtain ⟨j, f, _, h2, _, h4, _⟩ := hlive i e b he hb
   exact hg.xdis j f b h2 h4
end core
section rules
variable {P : Program} {T : Tab} {C : Ctx} {Q : Exit → Nat → AS → Prop} {n : Nat} {s : AS}
theorem wkEnv_lk {hp : Hp} {ids : List (Option Nat)} {D : List Nat} {env : List (Nat × AV)} : ∀ {l : List (Nat × AV)}, wkEnv hp ids D env l → ∀ t, wk hp ids D (lk env t) (lk l t)
 | [], _, t => by simp [lk, wk]
 | (u, a) :: r, h, t => by
   simp only [wkEnv] at h
   simp only [lk]
   split
   · rename_i he; subst he; exact h.1
   · exact wkEnv_lk h.2 t
theorem wkHp_lk {hp : Hp} {ids : List (Option Nat)} {D : List Nat} : ∀ {l : List (Nat × Option Ent)}, wkHp hp ids D l → ∀ i e, lkh l i = some e → wkHp1 hp ids D i e
 | [], _, i, e, h => by simp [lkh] at h
 | (j, none) :: r, hw, i, e, h => by
   simp only [wkHp] at hw
   simp only [lkh] at h
   split at h
   · simp at h
   · exact wkHp_lk hw i e h
 | (j, some f) :: r, hw, i, e, h => by
   simp only [wkHp] at hw
   simp only [lkh] at h
   split at h
   · rename_i he; subst he; simp at h; subst h; exact hw.1
   · exact wkHp_lk hw.2 i e h
theorem gm_ext {β : Gm} {ids : List (Option Nat)} {D : List Nat} {l : List (Nat × Option Ent)} (hi : IdsOk ids D C.k l) (h : GmExt C.βi β) : GmExt C.βi (gmOf β ids) := by
 intro i p hp
 have hlt : i < C.k := by
   rcases Nat.lt_or_ge i C.k with h | h
   · exact h
   · rw [C.hk i h] at hp; cases hp
 have : ids[i]? = some (some i) := by
   have h1 : (ids.take C.k)[i]? = some (some i) := by rw [hi.fst]; simp [hlt]
   rwa [List.getElem?_take_of_lt hlt] at h1
 simp only [gmOf, this]
 exact h i p hp
/-- The state may be read otherwise: ids renamed, slices settled, slots forgotten. -/
theorem AW.weak {c : Code} (ids : List (Option Nat)) (D : List Nat) (n' : Nat) (s' : AS) {k : Nat} (hk : C.k = k) (hi : IdsOk ids D k s'.hp) (hn : ids.length ≤ n') (he : wkEnv (lkh s.hp) ids D s.env s'.env) (hh : wkHp (lkh s.hp) ids D s'.hp)
   (h : AW P C c Q n' s') : AW P C c Q n s := by
 intro a w hI
 subst hk
 refine h a w ?_
 obtain ⟨β, hS, hnn⟩ := hI
 obtain ⟨hO, hrep, hgood⟩ := weak_core (hp' := lkh s'.hp) rfl hS.good hi (wkHp_lk hh)
 refine ⟨gmOf β ids, ⟨hgood, fun t => hrep _ _ _ (wkEnv_lk he t) (hS.env t), hS.size, hS.defers, ?_, hS.keepX, gm_ext hi hS.ext⟩, fun j hj => ?_⟩
 · exact hS.frm.trans ⟨rfl, rfl, rfl, Nat.le_refl _, fun _ _ _ => rfl, fun b hb => .inl (hO b hb), fun _ _ h => h⟩
 · simp only [gmOf]
   rw [List.getElem?_eq_none (by omega)]
def resList (T : Tab) (s : AS) : List ResultVar → Option (List AV × Prop)
 | [] => some ([], True)
 | .tmp t :: r => match resList T s r with
   | some (l, p) => some (lk s.env t :: l, p)
   | none => none
 | .cell x t :: r => match aLoad T (lkh s.hp) t (lk s.env x), resList T s r with
   | some o, some (l, p) => some (o.v :: l, o.ob ∧ p)
   | _, _ => none
def resOf : List AV → AV
 | [a] => a
 | l => .tup l
def resV (tmps : Array Value) : ResultVar → Sem Value
 | .tmp t => pure (tmps.getD t undef)
 | .cell a t => do loadVar t (← asAddr (tmps.getD a undef))
theorem results_eq (fn : Func) (tmps : Array Value) : results fn tmps = (do let vs ← fn.results.mapM (resV tmps); pure (if h : vs.size = 1 then vs[0] else .tuple vs)) := by
 unfold results
 refine congrArg (fun (f : ResultVar → Sem Value) => (do let vs ← fn.results.mapM f; pure (if h : vs.size = 1 then vs[0] else Value.tuple vs) : Sem Value)) ?_
 funext x; cases x <;> rfl
theorem res_sound (hT : TabOk P T) {X : Nat → Prop} {w : World} {β : Gm} {tmps : Array Value} (hg : Good X w β (lkh s.hp)) (henv : EnvOk w β (Own X β (lkh s.hp)) (lk s.env) tmps) :
   ∀ (rs : List ResultVar) (l : List AV) (p : Prop), resList T s rs = some (l, p) → p → ∃ vs, (rs.mapM (resV tmps) : Sem (List Value)).run P w = .ok vs w ∧ RepL w β (Own X β (lkh s.hp)) l vs
 | [], l, p, h, hp => by
   simp only [resList, Option.some.injEq, Prod.mk.injEq] at h
   obtain ⟨rfl, rfl⟩ := h
   exact ⟨[], rfl, by simp [RepL]⟩
 | .tmp t :: r, l, p, h, hp => by
   simp only [resList] at h
   split at h
   · rename_i l' p' hl
     simp only [Option.some.injEq, Prod.mk.injEq] at h
     obtain ⟨rfl, rfl⟩ := h
     obtain ⟨vs, h1, h2⟩ := res_sound hT hg henv r l' p' hl hp
     refine ⟨tmps.getD t undef :: vs, ?_, by simp only [RepL]; exact ⟨_, _, rfl, henv t, h2⟩⟩
     simp only [List.mapM_cons, resV, run_bind, run_pure, h1]
   · simp at h
 | .cell x t :: r, l, p, h, hp => by
   simp only [resList] at h
   split at h
   · rename_i o l' p' ho hl
     simp only [Option.some.injEq, Prod.mk.injEq] at h
     obtain ⟨rfl, rfl⟩ := h
     obtain ⟨vs, h1, h2⟩ := res_sound hT hg henv r l' p' hl hp.2
     obtain ⟨z, h3, h4, _⟩ := load_sound hT hg ho hp.1 (henv x)
     refine ⟨z :: vs, ?_, by simp only [RepL]; exact ⟨_, _, rfl, h4, h2⟩⟩
     have h5 : (do loadVar t (← asAddr (tmps.getD x undef)) : Sem Value).run P w = .ok z w := by
       simp only [Instr.loadAt] at h3
       simp only [run_bind] at h3 ⊢
       cases hv : tmps.getD x undef with
       | pointer a =>
         cases a with
         | none => rw [hv] at h3; simp [Instr.sureAddr, stuck, Sem.run] at h3
         | some a => rw [hv] at h3; simpa [Instr.sureAddr, asAddr, run_pure] using h3
       | _ => rw [hv] at h3; simp [Instr.sureAddr, stuck, Sem.run] at h3
     simp only [List.mapM_cons, resV, run_bind, h1, run_pure]
     simp only [run_bind] at h5
     rw [h5]
     simp only [h1]
   · simp at h
/-- What must hold where a function returns. -/
def retQ (T : Tab) (rv : List ResultVar) (r : AV) (hs' : List (Option Ent)) (k : Nat) : Exit → Nat → AS → Prop := fun e _ s =>
 (e = .ret ∨ e = .normal) ∧ ∃ l p ids D, resList T s rv = some (l, p) ∧ p ∧ IdsOk ids D k (hs'.zipIdx.map fun x => (x.2, x.1)) ∧ ids.length = hs'.length ∧ wk (lkh s.hp) ids D (resOf l) r ∧ wkHp (lkh s.hp) ids D (hs'.zipIdx.map fun x => (x.2, x.1))
def initE : Nat → List AV → List (Nat × AV)
 | _, [] => []
 | i, a :: r => (i, a) :: initE (i + 1) r
def initH : Nat → List (Option Ent) → List (Nat × Option Ent)
 | _, [] => []
 | i, a :: r => (i, a) :: initH (i + 1) r
theorem initE_lk : ∀ (as : List AV) (i t : Nat), lk (initE i as) t = if i ≤ t then (as[t - i]?).getD .any else .any
 | [], i, t => by simp [initE, lk]
 | a :: as, i, t => by
   simp only [initE, lk]
   by_cases h : i = t
   · subst h; simp
   · rw [if_neg h, initE_lk as (i + 1) t]
     by_cases h1 : i ≤ t
     · rw [if_pos (by omega), if_pos h1, show t - i = (t - (i + 1)) + 1 by omega]; simp
     · rw [if_neg (by omega), if_neg h1]
theorem initH_lk : ∀ (hs : List (Option Ent)) (i j : Nat), lkh (initH i hs) j = if i ≤ j then (hs[j - i]?).join else none
 | [], i, j => by simp [initH, lkh]
 | a :: as, i, t => by
   simp only [initH, lkh]
   by_cases h : i = t
   · subst h; simp
   · rw [if_neg h, initH_lk as (i + 1) t]
     by_cases h1 : i ≤ t
     · rw [if_pos (by omega), if_pos h1, show t - i = (t - (i + 1)) + 1 by omega]; simp
     · rw [if_neg (by omega), if_neg h1]
theorem zipIdx_lk : ∀ (hs : List (Option Ent)) (i j : Nat), lkh ((hs.zipIdx i).map fun x => (x.2, x.1)) j = if i ≤ j then (hs[j - i]?).join else none
 | [], i, j => by simp [lkh]
 | a :: as, i, t => by
   simp only [List.zipIdx_cons, List.map_cons, lkh]
   by_cases h : i = t
   · subst h; simp
   · rw [if_neg h, zipIdx_lk as (i + 1) t]
     by_cases h1 : i ≤ t
     · rw [if_pos (by omega), if_pos h1, show t - i = (t - (i + 1)) + 1 by omega]; simp
     · rw [if_neg (by omega), if_neg h1]
theorem acall_intro (hT : TabOk P T) {g : FuncId} {fn : Func} {c : Code} (hf : P.funcs[g]? = some fn) (hb : fn.body = some c) (hname : (fn.name == "runtime.NumGoroutine") = false) {as : List AV} {hs hs' : List (Option Ent)} {r : AV} {N : Nat} (hN : fn.ntmps = N) (has : as.length ≤ N)
   {rv : List ResultVar} (hrv : fn.results = rv.toArray)
   (h : ∀ C : Ctx, C.N = N → C.k = hs.length → AW P C c (retQ T rv r hs' hs.length) hs.length ⟨initE 0 as, initH 0 hs⟩) : ACall P g as hs r hs' := by
 refine ⟨⟨fn, hf, by rw [hb]; rfl, hname⟩, ?_⟩
 intro X w β vs hargs hgood hnone
 let C : Ctx := ⟨X, w, Own X β (hpL hs), β, N, hs.length, hnone⟩
 have hlen := hargs.length
 have hhp : lkh (initH 0 hs) = hpL hs := by funext j; rw [initH_lk]; simp [hpL]
 have hI : InvC C hs.length (⟨initE 0 as, initH 0 hs⟩ : AS).st { tmps := vs.toArray ++ Array.replicate (fn.ntmps - vs.toArray.size) undef, defers := [] } w := by
   refine ⟨β, ⟨?_, ?_, ?_, rfl, ?_, fun _ _ => rfl, GmExt.refl _⟩, hnone⟩
   · simp only [AS.st, hhp]; exact hgood
   · intro t
     simp only [AS.st, hhp, initE_lk, Nat.zero_le, if_true, Nat.sub_zero]
     cases ha : as[t]? with
     | none => simp [Rep]
     | some a =>
       obtain ⟨u, hu, hr⟩ := hargs.get t a ha
       have hlt : t < vs.length := by
         rcases Nat.lt_or_ge t vs.length with h | h
         · exact h
         · rw [List.getElem?_eq_none h] at hu; cases hu
       have : (vs.toArray ++ Array.replicate (fn.ntmps - vs.toArray.size) undef).getD t undef = u := by
         rw [Array.getD_eq_getD_getElem?, Array.getElem?_append_left (by simpa using hlt)]
         simp [hu]
       rw [this]
       simpa using hr
   · simp only [C, Array.size_append, List.size_toArray, Array.size_replicate]; omega
   · simp only [AS.st, hhp]; exact Frm.refl _ _
 refine calls_of_wp hf hb (wp_mono (h C rfl rfl _ w hI) ?_)
 rintro e a' w' ⟨n', s', hq, β', hS, hn'⟩
 obtain ⟨he, l, p, ids, D, hl, hp, hids, hlen', hwk, hwh⟩ := hq
 have fin : a'.defers = [] ∧ ∃ v, (results fn a'.tmps).run P w' = .ok v w' ∧ ∃ v' β'', Ending.returned v = .returned v' ∧ Rep w' β'' (Own X β'' (hpL hs')) r v' ∧ Good X w' β'' (hpL hs') ∧
     Frm w (Own X β (hpL hs)) w' (Own X β'' (hpL hs')) ∧ (∀ b, X b → w'.heap[b]? = w.heap[b]?) ∧ GmExt β β'' ∧ (∀ i, hs'.length ≤ i → β'' i = none) := by
   refine ⟨hS.defers, ?_⟩
   obtain ⟨vs', h1, h2⟩ := res_sound (s := s') hT hS.good hS.env rv l p hl hp
   have hrun : (results fn a'.tmps).run P w' = .ok (if h : vs'.toArray.size = 1 then vs'.toArray[0] else .tuple vs'.toArray) w' := by
     rw [results_eq, hrv, run_bind, Array.mapM_eq_mapM_toList]
     have e1 : ∀ (m : Sem (List Value)), (Functor.map List.toArray m).run P w' = (m >>= fun a => pure a.toArray).run P w' := fun m => rfl
     rw [e1, run_bind, show rv.toArray.toList = rv from rfl, h1]
     simp only [run_pure]
   refine ⟨_, hrun, _, gmOf β' ids, rfl, ?_⟩
   have hhp' : lkh (hs'.zipIdx.map fun x => (x.2, x.1)) = hpL hs' := by funext j; rw [zipIdx_lk]; simp [hpL]
   obtain ⟨hO, hrep, hgood'⟩ := weak_core (hp' := hpL hs') hhp'.symm hS.good hids (fun i e' he' => wkHp_lk hwh i e' (by rw [hhp']; exact he'))
   refine ⟨hrep _ _ _ hwk ?_, hgood', ?_, hS.keepX, gm_ext (C := C) hids hS.ext, fun i hi => ?_⟩
   · have hll := h2.length
     match l, vs', h2, hll with
     | [], [], h2, _ => simp only [resOf, Rep]; exact ⟨[], rfl, h2⟩
     | [a], [v], h2, _ =>
       simp only [RepL] at h2
       obtain ⟨v', r', h3, h4, _⟩ := h2
       simp at h3
       obtain ⟨rfl, _⟩ := h3
       show Rep w' β' (Own C.X β' (lkh s'.hp)) a v
       exact h4
     | a :: b :: l, v :: u :: vs', h2, _ =>
       simp only [resOf, Rep]
       exact ⟨v :: u :: vs', by simp, h2⟩
   · exact hS.frm.trans ⟨rfl, rfl, rfl, Nat.le_refl _, fun _ _ _ => rfl, fun b hb => .inl (hO b hb), fun _ _ h => h⟩
   · simp only [gmOf]; rw [List.getElem?_eq_none (by omega)]
 rcases he with rfl | rfl
 · exact fin
 · exact fin
end rules
def fieldsOk (P : Program) : TypeDesc → Bool
 | .struct fs => fs.toList.all (fun f => (P.info? f.type).isSome)
 | _ => true
def tabOf (P : Program) : Tab := fun t =>
 match P.info? t, P.underlying t with
 | some i, some d => match i.zero with
   | some z => if z.cells.toList.length = i.size ∧ fieldsOk P d = true then some ⟨i.size, i.bytes, d, z.cells.toList⟩ else none
   | none => none
 | _, _ => none
theorem tabOf_ok (P : Program) : TabOk P (tabOf P) := by
 intro t ti h
 unfold tabOf at h
 split at h
 · rename_i i d hi hd
   split at h
   · rename_i z hz
     split at h
     · rename_i hc
       simp only [Option.some.injEq] at h
       subst h
       refine ⟨i, z, hi, rfl, rfl, hz, rfl, hd, hc.1, fun fs hfs f hf => ?_⟩
       simp only at hfs
       subst hfs
       have := hc.2
       simp only [fieldsOk, List.all_eq_true] at this
       have := this f hf
       cases hx : P.info? f.type with
       | none => rw [hx] at this; simp at this
       | some j => exact ⟨j, rfl⟩
     · simp at h
   · simp at h
 · simp at h
/-- A type's underlying shape. -/
def dsc (P : Program) (t : TypeId) : TypeDesc := match P.underlying t with
 | some d => d
 | none => .invalid
/-- A region, as what is to be shown of its run. -/
def RegVC (P : Program) (T : Tab) (orc : Nat → Option Orc) (n : Nat) (ops : Array Oper) (draw : Bool) (keep : List Nat) (Q : Exit → Nat → AS → Prop) (s : AS) : Prop :=
 match arun P T orc n ops ops.toList 0 s [] True with
 | some (s', ts, p) => (!draw || touchesOk (masks ops.toList []) ts) = true ∧ p ∧ Q .normal (n + 8 * ops.size) (trim keep s')
 | none => False
theorem AW.reg {P : Program} {C : Ctx} {Q : Exit → Nat → AS → Prop} {n : Nat} {s : AS} (hm : P.follows .mixedOrders = true) {N : Nat} (hN : C.N = N) (orc : Nat → Option Orc) (keep : List Nat) {id : Nat} {ops : Array Oper} {draw : Bool} (hok : regOk N ops draw = true)
   (h : RegVC P (tabOf P) orc n ops draw keep Q s) : AW P C (.region id ops draw) Q n s := by
 unfold RegVC at h
 split at h
 · rename_i s' ts p hrun
   exact AW.region (tabOf_ok P) hm hN hok keep hrun h.1 h.2.1 h.2.2
 · exact h.elim
end Go.Av
