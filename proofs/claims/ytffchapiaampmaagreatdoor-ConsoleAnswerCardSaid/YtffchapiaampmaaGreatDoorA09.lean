/-
  Part 9 of the proof that logtidelaw45.ConsoleAnswer returns true for every list of bytes and every text, and leaves both as they were.
-/
import Derived.Test.YtffchapiaampmaaGreatDoorA08
set_option linter.unusedSimpArgs false
set_option linter.unusedVariables false
namespace Go.Av
section
variable {hp : Hp} {ids : List (Option Nat)} {D : List Nat}
@[simp] theorem wk_any (c : AV) : wk hp ids D c .any ↔ True := by simp [wk]
@[simp] theorem wk_val (c : AV) (v : Value) : wk hp ids D c (.val v) ↔ c = .val v := by simp [wk]
@[simp] theorem wk_agg (cs az : List AV) : wk hp ids D (.agg cs) (.agg az) ↔ wkL hp ids D cs az := by simp [wk]
@[simp] theorem wk_tup (cs az : List AV) : wk hp ids D (.tup cs) (.tup az) ↔ wkL hp ids D cs az := by simp [wk]
@[simp] theorem wk_slo (i n sz sz' : Nat) (es : List (List AV)) : wk hp ids D (.osl i n sz) (.sl sz' es) ↔ sz = sz' ∧ i ∈ D ∧ ∃ e, hp i = some e ∧ e.es.length = n ∧ e.sz = sz ∧ es = e.es ∧ idLtE 0 e.es = true := by
 simp only [wk, reduceCtorEq, false_and, or_false, false_or]
 constructor
 · rintro ⟨i', n', e, h, h1, h2, h3, h4, h5, h6⟩
   cases h
   exact ⟨rfl, h1, e, h2, h3, h4, h5, h6⟩
 · rintro ⟨rfl, h1, e, h2, h3, h4, h5, h6⟩
   exact ⟨i, n, e, rfl, h1, h2, h3, h4, h5, h6⟩
@[simp] theorem wk_sls (sz sz' : Nat) (es es' : List (List AV)) : wk hp ids D (.sl sz es) (.sl sz' es') ↔ sz = sz' ∧ es = es' := by simp [wk]
@[simp] theorem wk_sln (sz : Nat) (es : List (List AV)) : wk hp ids D (.val (.slice none 0 0)) (.sl sz es) ↔ es = [] := by simp [wk]
@[simp] theorem wk_rp (cs cs' : List AV) : wk hp ids D (.rp cs) (.rp cs') ↔ cs = cs' := by simp [wk]
@[simp] theorem wk_oslo (i j n n' sz sz' : Nat) : wk hp ids D (.osl j n sz) (.osl i n' sz') ↔ ids[i]? = some (some j) ∧ n = n' ∧ sz = sz' := by
 simp only [wk, reduceCtorEq, false_and, and_false, or_false]
 constructor
 · rintro ⟨k, h, h2⟩; cases h2; exact ⟨h, rfl, rfl⟩
 · rintro ⟨h, rfl, rfl⟩; exact ⟨j, h, rfl⟩
@[simp] theorem wk_osln (i n sz : Nat) : wk hp ids D (.val (.slice none 0 0)) (.osl i n sz) ↔ ids[i]? = some none ∧ n = 0 := by simp [wk]
@[simp] theorem wk_ptr (i j sz sz' k k' o o' : Nat) : wk hp ids D (.ptr j sz k o) (.ptr i sz' k' o') ↔ ids[i]? = some (some j) ∧ sz = sz' ∧ k = k' ∧ o = o' := by
 simp only [wk]
 constructor
 · rintro ⟨k, h, h2⟩; cases h2; exact ⟨h, rfl, rfl, rfl⟩
 · rintro ⟨h, rfl, rfl, rfl⟩; exact ⟨j, h, rfl⟩
@[simp] theorem wkL_nil : wkL hp ids D [] [] ↔ True := by simp [wkL]
@[simp] theorem wkL_cons (c a : AV) (cs az : List AV) : wkL hp ids D (c :: cs) (a :: az) ↔ wk hp ids D c a ∧ wkL hp ids D cs az := by
 simp only [wkL, List.cons.injEq]
 constructor
 · rintro ⟨_, _, ⟨rfl, rfl⟩, h⟩; exact h
 · intro h; exact ⟨c, cs, ⟨rfl, rfl⟩, h⟩
@[simp] theorem wkE_nil : wkE hp ids D [] [] ↔ True := by simp [wkE]
@[simp] theorem wkE_cons (c a : List AV) (cs az : List (List AV)) : wkE hp ids D (c :: cs) (a :: az) ↔ wkL hp ids D c a ∧ wkE hp ids D cs az := by
 simp only [wkE, List.cons.injEq]
 constructor
 · rintro ⟨_, _, ⟨rfl, rfl⟩, h⟩; exact h
 · intro h; exact ⟨c, cs, ⟨rfl, rfl⟩, h⟩
theorem wkL_self : ∀ az : List AV, idLtL 0 az = true → wkL hp ids D az az
 | [], _ => by simp
 | a :: az, h => by
   simp only [idLtL, Bool.and_eq_true] at h
   rw [wkL_cons]
   refine ⟨?_, wkL_self az h.2⟩
   cases a with
   | agg cs => rw [wk_agg]; exact wkL_self cs (by simpa [idLt] using h.1)
   | tup cs => rw [wk_tup]; exact wkL_self cs (by simpa [idLt] using h.1)
   | osl i n sz => simp [idLt] at h
   | ptr i sz k o => simp [idLt] at h
   | osv i lo n sz => simp [idLt] at h
   | _ => simp
theorem wkE_self : ∀ es : List (List AV), idLtE 0 es = true → wkE hp ids D es es
 | [], _ => by simp
 | a :: az, h => by
   simp only [idLtE, List.all_cons, Bool.and_eq_true] at h
   rw [wkE_cons]
   exact ⟨wkL_self a h.1, wkE_self az h.2⟩
theorem wkE_append : ∀ {a b : List (List AV)} {a' b' : List (List AV)}, wkE hp ids D a a' → wkE hp ids D b b' → wkE hp ids D (a ++ b) (a' ++ b')
 | a, b, [], b', h, h' => by simp only [wkE] at h; subst h; simpa using h'
 | a, b, x :: a', b', h, h' => by
   simp only [wkE] at h
   obtain ⟨c, r, rfl, h1, h2⟩ := h
   simp only [List.cons_append, wkE_cons]
   exact ⟨h1, wkE_append h2 h'⟩
end
/-- One more element behind those that stay. -/
theorem wkE_snoc {hp : Hp} {ids : List (Option Nat)} {D : List Nat} {es : List (List AV)} {c a : List AV} (h : idLtE 0 es = true) (h2 : wkL hp ids D c a) : wkE hp ids D (es ++ [c]) (es ++ [a]) :=
 wkE_append (wkE_self es h) (by simpa using h2)
theorem wkE_snoc_iff {hp : Hp} {ids : List (Option Nat)} {D : List Nat} {c a : List AV} : ∀ {es : List (List AV)}, idLtE 0 es = true → (wkE hp ids D (es ++ [c]) (es ++ [a]) ↔ wkL hp ids D c a)
 | [], _ => by simp
 | e :: es, h => by
   have h' : idLtL 0 e = true ∧ idLtE 0 es = true := by simpa [idLtE, Bool.and_eq_true] using h
   simp only [List.cons_append, wkE_cons, wkE_snoc_iff h'.2]
   exact ⟨fun h => h.2, fun h => ⟨wkL_self e h'.1, h⟩⟩
end Go.Av
