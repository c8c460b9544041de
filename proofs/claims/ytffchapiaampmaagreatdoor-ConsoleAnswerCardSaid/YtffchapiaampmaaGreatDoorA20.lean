/-
  Part 20 of the proof that logtidelaw45.ConsoleAnswer returns true for every list of bytes and every text, and leaves both as they were.
-/
import Derived.Test.YtffchapiaampmaaGreatDoorA19
set_option linter.unusedSimpArgs false
set_option linter.unusedVariables false
namespace Go.Av
noncomputable section
mutual
/-- Settled: owned slices are read with their content. -/
def stl (hp : Hp) (D : List Nat) : AV → Option AV
 | .val v => some (.val v)
 | .agg cs => match stlL hp D cs with
   | some l => some (.agg l)
   | none => none
 | .sl sz es => some (.sl sz es)
 | .osl i n sz => match hp i with
   | some e => match D.contains i && e.es.length == n && e.sz == sz && idLtE 0 e.es with
     | true => some (.sl sz e.es)
     | false => none
   | none => none
 | _ => none
def stlL (hp : Hp) (D : List Nat) : List AV → Option (List AV)
 | [] => some []
 | c :: cs => match stl hp D c, stlL hp D cs with
   | some a, some l => some (a :: l)
   | _, _ => none
end
mutual
theorem stl_ok {hp : Hp} {ids : List (Option Nat)} {D : List Nat} : ∀ (c a : AV), stl hp D c = some a → wk hp ids D c a
 | .val v, a, h => by simp only [stl, Option.some.injEq] at h; subst h; simp [wk]
 | .agg cs, a, h => by
   simp only [stl] at h
   split at h
   · rename_i l hl
     simp only [Option.some.injEq] at h; subst h
     simp only [wk]
     exact ⟨cs, rfl, stlL_ok cs l hl⟩
   · simp at h
 | .sl sz es, a, h => by simp only [stl, Option.some.injEq] at h; subst h; simp [wk]
 | .osl i n sz, a, h => by
   simp only [stl] at h
   split at h
   · rename_i e he
     split at h
     · rename_i hk
       simp only [Bool.and_eq_true, List.contains_iff_mem, beq_iff_eq] at hk
       simp only [Option.some.injEq] at h; subst h
       simp only [wk]
       exact .inr (.inl ⟨i, n, e, rfl, hk.1.1.1, he, hk.1.1.2, hk.1.2, rfl, hk.2⟩)
     · simp at h
   · simp at h
 | .any, a, h => by simp [stl] at h
 | .tup cs, a, h => by simp [stl] at h
 | .rp cs, a, h => by simp [stl] at h
 | .ptr _ _ _ _, a, h => by simp [stl] at h
 | .osv _ _ _ _, a, h => by simp [stl] at h
theorem stlL_ok {hp : Hp} {ids : List (Option Nat)} {D : List Nat} : ∀ (c a : List AV), stlL hp D c = some a → wkL hp ids D c a
 | [], a, h => by simp only [stlL, Option.some.injEq] at h; subst h; simp [wkL]
 | c :: cs, a, h => by
   simp only [stlL] at h
   split at h
   · rename_i x l hx hl
     simp only [Option.some.injEq] at h; subst h
     simp only [wkL]
     exact ⟨c, cs, rfl, stl_ok c x hx, stlL_ok cs l hl⟩
   · simp at h
end
mutual
def oids : AV → List Nat
 | .agg cs => oidsL cs
 | .osl i _ _ => [i]
 | _ => []
def oidsL : List AV → List Nat
 | [] => []
 | c :: cs => oids c ++ oidsL cs
end
def pos (i : Nat) : List Nat → Option Nat
 | [] => none
 | j :: r => if i = j then some 0 else match pos i r with
   | some k => some (k + 1)
   | none => none
theorem pos_ok {i : Nat} : ∀ {l : List Nat} {k : Nat}, pos i l = some k → l[k]? = some i
 | [], k, h => by simp [pos] at h
 | j :: r, k, h => by
   simp only [pos] at h
   split at h
   · rename_i he; subst he; simp only [Option.some.injEq] at h; subst h; simp
   · split at h
     · rename_i k' hk
       simp only [Option.some.injEq] at h; subst h
       simpa using pos_ok hk
     · simp at h
/-- What is returned on top: owned slices stay. -/
def rt1 (hp : Hp) (ids D : List Nat) (a : AV) : Option AV := match a with
 | .osl i n sz => match pos i ids with
   | some j => some (.osl j n sz)
   | none => none
 | a => stl hp D a
def rtL (hp : Hp) (ids D : List Nat) : List AV → Option (List AV)
 | [] => some []
 | c :: cs => match rt1 hp ids D c, rtL hp ids D cs with
   | some a, some l => some (a :: l)
   | _, _ => none
theorem rt1_ok {hp : Hp} {ids D : List Nat} {c a : AV} (h : rt1 hp ids D c = some a) : wk hp (ids.map some) D c a := by
 unfold rt1 at h
 split at h
 · rename_i i n sz
   split at h
   · rename_i j hj
     simp only [Option.some.injEq] at h; subst h
     simp only [wk]
     exact .inl ⟨i, by rw [List.getElem?_map, pos_ok hj]; rfl, rfl⟩
   · simp at h
 · exact stl_ok _ _ h
theorem rtL_ok {hp : Hp} {ids D : List Nat} : ∀ {c a : List AV}, rtL hp ids D c = some a → wkL hp (ids.map some) D c a
 | [], a, h => by simp only [rtL, Option.some.injEq] at h; subst h; simp [wkL]
 | c :: cs, a, h => by
   simp only [rtL] at h
   split at h
   · rename_i x l hx hl
     simp only [Option.some.injEq] at h; subst h
     simp only [wkL]
     exact ⟨c, cs, rfl, rt1_ok hx, rtL_ok hl⟩
   · simp at h
theorem rtOf_ok {hp : Hp} {ids D : List Nat} {l a : List AV} (h : rtL hp ids D l = some a) : wk hp (ids.map some) D (resOf l) (resOf a) := by
 have hw := rtL_ok h
 cases l with
 | nil => simp only [rtL, Option.some.injEq] at h; subst h; simp [resOf, wk, wkL]
 | cons x l =>
   simp only [rtL] at h
   split at h
   · rename_i y m hy hm
     simp only [Option.some.injEq] at h; subst h
     cases l with
     | nil =>
       simp only [rtL, Option.some.injEq] at hm; subst hm
       simp only [resOf]; exact rt1_ok hy
     | cons x2 l =>
       simp only [rtL] at hm
       split at hm
       · simp only [Option.some.injEq] at hm; subst hm
         simp only [resOf, wk]
         exact ⟨_, rfl, hw⟩
       · simp at hm
   · simp at h
def resB (T : Tab) (s : AS) : List ResultVar → Bool
 | [] => true
 | .tmp _ :: r => resB T s r
 | .cell x t :: r => obD T 0 (lk s.env) (lkh s.hp) (.load t (.tmp x)) && resB T s r
theorem resB_ok {P : Program} {T : Tab} {s : AS} : ∀ {rv : List ResultVar} {l : List AV} {p : Prop}, resB T s rv = true → resList T s rv = some (l, p) → p
 | [], l, p, _, h => by simp only [resList, Option.some.injEq, Prod.mk.injEq] at h; obtain ⟨_, rfl⟩ := h; trivial
 | .tmp t :: r, l, p, hb, h => by
   simp only [resList] at h
   split at h
   · rename_i l' p' hl
     simp only [Option.some.injEq, Prod.mk.injEq] at h
     obtain ⟨_, rfl⟩ := h
     exact resB_ok (P := P) (by simpa [resB] using hb) hl
   · simp at h
 | .cell x t :: r, l, p, hb, h => by
   simp only [resList] at h
   simp only [resB, Bool.and_eq_true] at hb
   split at h
   · rename_i o l' p' ho hl
     simp only [Option.some.injEq, Prod.mk.injEq] at h
     obtain ⟨_, rfl⟩ := h
     exact ⟨obD_ok (P := P) hb.1 (by simpa only [aexec0, evA] using ho), resB_ok (P := P) hb.2 hl⟩
   · simp at h
def topIds (k : Nat) (ids : List Nat) : List AV → List Nat
 | [] => ids
 | .osl i _ _ :: r => if ids.contains i then topIds k ids r else topIds k (ids ++ [i]) r
 | _ :: r => topIds k ids r
def nestIds : List AV → List Nat
 | [] => []
 | .osl _ _ _ :: r => nestIds r
 | a :: r => oids a ++ nestIds r
def entsB (hp : Hp) : List Nat → Bool
 | [] => true
 | i :: r => (match hp i with
   | some e => idLtE 0 e.es
   | none => true) && entsB hp r
def iret (T : Tab) (rv : List ResultVar) (k : Nat) (e : Exit) (s : AS) : Option (AV × List (Option Ent)) :=
 match e with
 | .ret | .normal => match resList T s rv with
   | some (l, _) =>
     let ids := topIds k (List.range k) l
     let D := nestIds l
     match rtL (lkh s.hp) ids D l with
     | some a => match resB T s rv && decide ids.Nodup && decide (ids.take k = List.range k) && ids.all (fun i => !D.contains i) && entsB (lkh s.hp) ids with
       | true => some (resOf a, ids.map (lkh s.hp))
       | false => none
     | none => none
   | none => none
 | _ => none
theorem srcIds_sub (ids : List Nat) : ∀ (l : List Nat) (hs : List (Option Ent)) (i : Nat), l = ids.drop i → hs.length = l.length → (srcIds (ids.map some) ((hs.zipIdx i).map fun x => (x.2, x.1))).Sublist l
 | [], [], i, _, _ => by simp [srcIds]
 | j :: l, h :: hs, i, hd, hl => by
   have hi : ids[i]? = some j := by
     have := congrArg List.head? hd
     simpa [List.head?_drop] using this.symm
   have hd' : l = ids.drop (i + 1) := by
     have := congrArg List.tail hd
     simpa [List.tail_drop] using this
   have ih := srcIds_sub ids l hs (i + 1) hd' (by simpa using hl)
   simp only [List.zipIdx_cons, List.map_cons]
   cases h with
   | none => simp only [srcIds]; exact List.Sublist.cons _ ih
   | some e =>
     simp only [srcIds, List.getElem?_map, hi, Option.map_some]
     exact List.Sublist.cons_cons _ ih
 | [], _ :: _, i, _, hl => by simp at hl
 | _ :: _, [], i, _, hl => by simp at hl
theorem wkHp_ents {hp : Hp} {ids D : List Nat} : ∀ (l : List Nat) (i : Nat), l = ids.drop i → entsB hp l = true → wkHp hp (ids.map some) D ((((l.map hp)).zipIdx i).map fun x => (x.2, x.1))
 | [], i, _, _ => by simp [wkHp]
 | j :: l, i, hd, hb => by
   have hi : ids[i]? = some j := by
     have := congrArg List.head? hd
     simpa [List.head?_drop] using this.symm
   have hd' : l = ids.drop (i + 1) := by
     have := congrArg List.tail hd
     simpa [List.tail_drop] using this
   simp only [entsB, Bool.and_eq_true] at hb
   have ih := wkHp_ents (D := D) l (i + 1) hd' hb.2
   simp only [List.map_cons, List.zipIdx_cons]
   cases he : hp j with
   | none => simp only [wkHp]; exact ih
   | some e =>
     simp only [wkHp]
     have h1 := hb.1
     simp only [he] at h1
     exact ⟨.inl ⟨j, e, by rw [List.getElem?_map, hi]; rfl, he, rfl, rfl, .inl ⟨rfl, h1⟩⟩, ih⟩
theorem iret_ok {P : Program} {T : Tab} {rv : List ResultVar} {k n : Nat} {e : Exit} {s : AS} {r : AV} {hs' : List (Option Ent)} (h : iret T rv k e s = some (r, hs')) : retQ T rv r hs' k e n s := by
 unfold iret at h
 have key : ∀ (he : e = .ret ∨ e = .normal) (h : (match resList T s rv with
   | some (l, _) =>
     let ids := topIds k (List.range k) l
     let D := nestIds l
     match rtL (lkh s.hp) ids D l with
     | some a => match resB T s rv && decide ids.Nodup && decide (ids.take k = List.range k) && ids.all (fun i => !D.contains i) && entsB (lkh s.hp) ids with
       | true => some (resOf a, ids.map (lkh s.hp))
       | false => none
     | none => none
   | none => none) = some (r, hs')), retQ T rv r hs' k e n s := by
   intro he h
   split at h
   · rename_i l p hl
     simp only at h
     split at h
     · rename_i a ha
       split at h
       · rename_i hk
         simp only [Bool.and_eq_true, decide_eq_true_eq, List.all_eq_true] at hk
         obtain ⟨⟨⟨⟨k1, k2⟩, k3⟩, k4⟩, k5⟩ := hk
         simp only [Option.some.injEq, Prod.mk.injEq] at h
         obtain ⟨rfl, rfl⟩ := h
         have hsub := srcIds_sub (topIds k (List.range k) l) (topIds k (List.range k) l) ((topIds k (List.range k) l).map (lkh s.hp)) 0 (by simp) (by simp)
         refine ⟨he, l, p, (topIds k (List.range k) l).map some, nestIds l, hl, resB_ok (P := P) k1 hl, ⟨hsub.nodup k2, fun j hj hD => ?_, ?_⟩, by simp, rtOf_ok ha, wkHp_ents _ 0 (by simp) k5⟩
         · have := k4 j (hsub.subset hj)
           simp at this
           exact this hD
         · rw [← List.map_take, k3]
       · simp at h
     · simp at h
   · simp at h
 split at h
 · exact key (.inl rfl) h
 · exact key (.inr rfl) h
 · simp at h
def icall (P : Program) (T : Tab) (fns : FuncId → Option Func) (known : Caller) (F : Nat) : Nat → Caller
 | 0 => fun _ _ _ => none
 | f + 1 => fun g as hs => match known g as hs with
   | some r => some r
   | none => match fns g with
     | some fn => match fn.body with
       | some c => match decide (as.length ≤ fn.ntmps) with
         | true => match icode P T (icall P T fns known F f) fn.ntmps F c hs.length ⟨initE 0 as, initH 0 (hs.map some)⟩ with
           | some (e, n, s) => iret T fn.results.toList hs.length e s
           | none => none
         | false => none
       | none => none
     | none => none
theorem icall_ok {P : Program} {T : Tab} {fns : FuncId → Option Func} {known : Caller} {F : Nat} (hT : TabOk P T) (hm : P.follows .mixedOrders = true) (hf : ∀ g fn, fns g = some fn → P.funcs[g]? = some fn ∧ (fn.name == "runtime.NumGoroutine") = false) (hk : CallerOk P known) : ∀ f, CallerOk P (icall P T fns known F f) := by
 intro f
 induction f with
 | zero => intro g as hs r hs' h; simp [icall] at h
 | succ f ih =>
   intro g as hs r hs' h
   simp only [icall] at h
   split at h
   · rename_i r' hkn
     simp only [Option.some.injEq] at h; subst h
     exact hk _ _ _ _ _ hkn
   · split at h
     · rename_i fn hfn
       obtain ⟨h1, h2⟩ := hf g fn hfn
       split at h
       · rename_i c hb
         split at h
         · rename_i hlen
           split at h
           · rename_i e n s hc
             refine acall_intro hT h1 hb h2 rfl (of_decide_eq_true hlen) (rv := fn.results.toList) (by simp) ?_
             intro C hN hk'
             have hq := iret_ok (P := P) (n := n) h
             have := icode_ok hT hm ih hN F c hs.length ⟨initE 0 as, initH 0 (hs.map some)⟩ e n s hc (retQ T fn.results.toList r hs' hs.length) hq
             simpa using this
           · simp at h
         · simp at h
       · simp at h
     · simp at h
def beqV : Value → Value → Bool
 | .int k a, .int k' b => decide (k = k') && decide (a = b)
 | .bool a, .bool b => a == b
 | .string a, .string b => decide (bl a = bl b)
 | .slice none 0 0, .slice none 0 0 => true
 | _, _ => false
mutual
def beqA : AV → AV → Bool
 | .val v, .val u => beqV v u
 | .agg a, .agg b => beqL a b
 | .tup a, .tup b => beqL a b
 | .osl i n sz, .osl j m tz => i == j && n == m && sz == tz
 | .sl sz es, .sl tz fs => sz == tz && beqE es fs
 | _, _ => false
def beqL : List AV → List AV → Bool
 | [], [] => true
 | a :: r, b :: s => beqA a b && beqL r s
 | _, _ => false
def beqE : List (List AV) → List (List AV) → Bool
 | [], [] => true
 | a :: r, b :: s => beqL a b && beqE r s
 | _, _ => false
end
theorem beqV_eq {a b : Value} (h : beqV a b = true) : a = b := by
 unfold beqV at h
 split at h
 · simp only [Bool.and_eq_true, decide_eq_true_eq] at h; rw [h.1, h.2]
 · simp only [beq_iff_eq] at h; rw [h]
 · rename_i a b
   have := of_decide_eq_true h
   cases a with | _ x => cases b with | _ y =>
   cases x with | _ l => cases y with | _ m =>
   simp only [bl] at this
   rw [this]
 · rfl
 · simp at h
mutual
theorem beqA_eq : ∀ (a b : AV), beqA a b = true → a = b
 | .val v, .val u, h => by simp only [beqA] at h; rw [beqV_eq h]
 | .agg a, .agg b, h => by simp only [beqA] at h; rw [beqL_eq a b h]
 | .tup a, .tup b, h => by simp only [beqA] at h; rw [beqL_eq a b h]
 | .osl i n sz, .osl j m tz, h => by simp only [beqA, Bool.and_eq_true, beq_iff_eq] at h; rw [h.1.1, h.1.2, h.2]
 | .sl sz es, .sl tz fs, h => by simp only [beqA, Bool.and_eq_true, beq_iff_eq] at h; rw [h.1, beqE_eq es fs h.2]
 | .any, b, h => by cases b <;> simp [beqA] at h
 | .rp _, b, h => by cases b <;> simp [beqA] at h
 | .ptr _ _ _ _, b, h => by cases b <;> simp [beqA] at h
 | .osv _ _ _ _, b, h => by cases b <;> simp [beqA] at h
 | .val _, .any, h => by simp [beqA] at h
 | .val _, .agg _, h => by simp [beqA] at h
 | .val _, .tup _, h => by simp [beqA] at h
 | .val _, .sl _ _, h => by simp [beqA] at h
 | .val _, .rp _, h => by simp [beqA] at h
 | .val _, .osl _ _ _, h => by simp [beqA] at h
 | .val _, .ptr _ _ _ _, h => by simp [beqA] at h
 | .val _, .osv _ _ _ _, h => by simp [beqA] at h
 | .agg _, .any, h => by simp [beqA] at h
 | .agg _, .val _, h => by simp [beqA] at h
 | .agg _, .tup _, h => by simp [beqA] at h
 | .agg _, .sl _ _, h => by simp [beqA] at h
 | .agg _, .rp _, h => by simp [beqA] at h
 | .agg _, .osl _ _ _, h => by simp [beqA] at h
 | .agg _, .ptr _ _ _ _, h => by simp [beqA] at h
 | .agg _, .osv _ _ _ _, h => by simp [beqA] at h
 | .tup _, .any, h => by simp [beqA] at h
 | .tup _, .val _, h => by simp [beqA] at h
 | .tup _, .agg _, h => by simp [beqA] at h
 | .tup _, .sl _ _, h => by simp [beqA] at h
 | .tup _, .rp _, h => by simp [beqA] at h
 | .tup _, .osl _ _ _, h => by simp [beqA] at h
 | .tup _, .ptr _ _ _ _, h => by simp [beqA] at h
 | .tup _, .osv _ _ _ _, h => by simp [beqA] at h
 | .osl _ _ _, .any, h => by simp [beqA] at h
 | .osl _ _ _, .val _, h => by simp [beqA] at h
 | .osl _ _ _, .agg _, h => by simp [beqA] at h
 | .osl _ _ _, .tup _, h => by simp [beqA] at h
 | .osl _ _ _, .sl _ _, h => by simp [beqA] at h
 | .osl _ _ _, .rp _, h => by simp [beqA] at h
 | .osl _ _ _, .ptr _ _ _ _, h => by simp [beqA] at h
 | .osl _ _ _, .osv _ _ _ _, h => by simp [beqA] at h
 | .sl _ _, .any, h => by simp [beqA] at h
 | .sl _ _, .val _, h => by simp [beqA] at h
 | .sl _ _, .agg _, h => by simp [beqA] at h
 | .sl _ _, .tup _, h => by simp [beqA] at h
 | .sl _ _, .osl _ _ _, h => by simp [beqA] at h
 | .sl _ _, .rp _, h => by simp [beqA] at h
 | .sl _ _, .ptr _ _ _ _, h => by simp [beqA] at h
 | .sl _ _, .osv _ _ _ _, h => by simp [beqA] at h
theorem beqL_eq : ∀ (a b : List AV), beqL a b = true → a = b
 | [], [], _ => rfl
 | a :: r, b :: s, h => by simp only [beqL, Bool.and_eq_true] at h; rw [beqA_eq a b h.1, beqL_eq r s h.2]
 | [], _ :: _, h => by simp [beqL] at h
 | _ :: _, [], h => by simp [beqL] at h
theorem beqE_eq : ∀ (a b : List (List AV)), beqE a b = true → a = b
 | [], [], _ => rfl
 | a :: r, b :: s, h => by simp only [beqE, Bool.and_eq_true] at h; rw [beqL_eq a b h.1, beqE_eq r s h.2]
 | [], _ :: _, h => by simp [beqE] at h
 | _ :: _, [], h => by simp [beqE] at h
end
/-- What a call returns is this. -/
def isRes (x : Option (AV × List (Option Ent))) (r : AV) : Bool := match x with
 | some (a, []) => beqA a r
 | _ => false
theorem isRes_ok {x : Option (AV × List (Option Ent))} {r : AV} (h : isRes x r = true) : x = some (r, []) := by
 unfold isRes at h
 split at h
 · rw [beqA_eq _ _ h]
 · simp at h
/-- .. a slice of its own, settled. -/
def isSl (x : Option (AV × List (Option Ent))) (sz : Nat) (es : List (List AV)) : Bool := match x with
 | some (.osl 0 n s, [some e]) => e.es.length == n && s == sz && e.sz == sz && beqE e.es es && idLtE 0 es
 | _ => false
theorem isSl_ok {P : Program} {call : Caller} (hc : CallerOk P call) {g : FuncId} {as : List AV} {sz : Nat} {es : List (List AV)} (h : isSl (call g as []) sz es = true) : PCall P g as (fun r => r = .sl sz es) := by
 unfold isSl at h
 split at h
 · rename_i n s e he
   simp only [Bool.and_eq_true, beq_iff_eq] at h
   obtain ⟨⟨⟨⟨h1, rfl⟩, h3⟩, h4⟩, h5⟩ := h
   have e4 := beqE_eq _ _ h4
   subst e4
   have hq := hc _ _ _ _ _ he
   cases e with | _ ty sz' es' =>
   simp only at h3 h1 h5
   subst h3
   exact PCall.osl hq h1 h5
 · simp at h
theorem isRes_call {P : Program} {call : Caller} (hc : CallerOk P call) {g : FuncId} {as : List AV} {r : AV} (h : isRes (call g as []) r = true) (hi : idLt 0 r = true) : PCall P g as (fun x => x = r) :=
 ⟨r, rfl, hi, hc _ _ _ _ _ (isRes_ok h)⟩
end
end Go.Av
