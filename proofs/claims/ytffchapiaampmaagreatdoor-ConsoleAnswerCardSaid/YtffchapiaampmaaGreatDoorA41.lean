/-
  Part 41 of the proof that logtidelaw45.ConsoleAnswer returns true for every list of bytes and every text, and leaves both as they were.
-/
import Derived.Test.YtffchapiaampmaaGreatDoorA19
import Derived.Test.YtffchapiaampmaaGreatDoorA20
import Derived.Test.YtffchapiaampmaaGreatDoorA40
set_option linter.unusedSimpArgs false
set_option linter.unusedVariables false
namespace Go.Proofs.YtffchapiaampmaaGreatDoor
open Go.Av
def rgC (x : Int × Int) : List AV := [.val (.int .u8 x.1), .val (.int .u8 x.2)]
def rgE (l : List (Int × Int)) : List (List AV) := l.map rgC
theorem rgE_len (l : List (Int × Int)) : (rgE l).length = l.length := by simp [rgE]
theorem rgE_getE (l : List (Int × Int)) (i : Nat) : (rgE l)[i]? = (l[i]?).map rgC := by simp [rgE]
/-- An instruction. -/
structure In where
 op : Int
 x : Int
 y : Int
 rs : List (Int × Int)
def inC (i : In) : List AV := [.val (.int .i64 i.op), .val (.int .i64 i.x), .val (.int .i64 i.y), .sl 2 (rgE i.rs)]
def inE (l : List In) : List (List AV) := l.map inC
theorem inE_len (l : List In) : (inE l).length = l.length := by simp [inE]
theorem inE_getE (l : List In) (i : Nat) : (inE l)[i]? = (l[i]?).map inC := by simp [inE]
attribute [go_sem] rgE_len rgE_getE rgC inE_len inE_getE inC
/-- A thread. -/
structure Th where
 pc : Nat
 at_ : Nat
 em : Nat
 s0 : Int
 s1 : Int
 s2 : Int
 s3 : Int
def mI1 : AV := .val (.int .i64 (-1))
def thR (pc a em s0 s1 s2 s3 : Int) : List AV := [.val (.int .i64 pc), .val (.int .i64 a), .val (.int .i64 em), .val (.int .i64 s0), .val (.int .i64 s1), .val (.int .i64 s2), .val (.int .i64 s3), mI1, mI1, mI1, mI1, mI1, mI1, mI1, mI1, mI1, mI1, mI1, mI1, mI1, mI1, mI1, mI1, mI1, mI1, mI1, mI1, mI1, mI1, mI1, mI1, mI1, mI1, mI1, mI1]
def thC (t : Th) : List AV := thR t.pc t.at_ t.em t.s0 t.s1 t.s2 t.s3
def thE (l : List Th) : List (List AV) := l.map thC
theorem thE_len (l : List Th) : (thE l).length = l.length := by simp [thE]
theorem thE_getE (l : List Th) (i : Nat) : (thE l)[i]? = (l[i]?).map thC := by simp [thE]
@[simp] theorem thE_id (k : Nat) (l : List Th) : idLtE k (thE l) = true := by
 simp only [idLtE, thE, List.all_map, List.all_eq_true]; intro x _; rfl
@[simp] theorem thE_st (l : List Th) : (thE l).all (fun c => c.all storable) = true := by
 simp only [thE, List.all_map, List.all_eq_true]; intro x _; rfl
@[simp] theorem thE_ns (l : List Th) : noSlE (thE l) = true := by
 simp only [noSlE, thE, List.all_map, List.all_eq_true]; intro x _; rfl
theorem thE_ren (L : List Nat) (l : List Th) : renCE L (thE l) = thE l := by
 simp only [renCE, thE, List.map_map]; apply List.map_congr_left; intro x _; rfl
theorem thE_renE (ρ : Nat → Nat) (l : List Th) : (thE l).map (renL ρ) = thE l := renE_noid ρ (thE_id 0 l)
theorem thE_app (l m : List Th) : thE l ++ thE m = thE (l ++ m) := by simp [thE]
@[simp] theorem thE_nil : thE [] = [] := rfl
attribute [go_sem] thE_len thE_getE thE_ren thE_renE
attribute [simp] thE_len
/-- Where a program may go on. -/
def Nx (p : List In) (E : Nat → Bool) (sp : Nat → Nat) (pc q : Nat) : Bool :=
 decide (q < p.length) && (!E pc || E q) && (List.range 4).all fun k => !decide (sp k < pc) || decide (sp k < q)
def OkI (p : List In) (E : Nat → Bool) (sp : Nat → Nat) (pc : Nat) (i : In) : Bool :=
 if i.op = 13 then true
 else if i.op = 10 then decide (0 ≤ i.x) && decide (0 ≤ i.y) && Nx p E sp pc i.x.toNat && Nx p E sp pc i.y.toNat
 else if i.op = 11 then decide (0 ≤ i.x) && Nx p E sp pc i.x.toNat
 else if i.op = 12 then Nx p E sp pc (pc + 1) && (decide (i.x = 0 ∧ sp 0 = pc ∧ pc < sp 1) || decide (i.x = 1 ∧ sp 1 = pc) || decide (i.x = 2 ∧ sp 2 = pc ∧ pc < sp 3) || decide (i.x = 3 ∧ sp 3 = pc))
 else if i.op = 14 then !E pc && E (pc + 1) && Nx p E sp pc (pc + 1)
 else if i.op = 15 then Nx p E sp pc (pc + 1)
 else if i.op = 1 then Nx p (fun _ => false) sp pc (pc + 1)
 else false
def okAll (p : List In) (E : Nat → Bool) (sp : Nat → Nat) : List In → Nat → Bool
 | [], _ => true
 | i :: r, pc => OkI p E sp pc i && okAll p E sp r (pc + 1)
theorem okAll_get {p : List In} {E : Nat → Bool} {sp : Nat → Nat} : ∀ {l : List In} {k pc : Nat} {i : In}, okAll p E sp l k = true → l[pc]? = some i → OkI p E sp (k + pc) i = true
 | [], k, pc, i, _, h => by simp at h
 | a :: r, k, 0, i, hk, h => by
   simp only [okAll, Bool.and_eq_true] at hk
   simp at h; subst h; exact hk.1
 | a :: r, k, pc + 1, i, hk, h => by
   simp only [okAll, Bool.and_eq_true] at hk
   have := okAll_get hk.2 (pc := pc) (by simpa using h)
   rwa [show k + (pc + 1) = k + 1 + pc by omega]
/-- A program that stays inside. -/
structure OkP (p : List In) (E : Nat → Bool) (sp : Nat → Nat) : Prop where
 pos : 0 < p.length
 le : p.length ≤ 2 ^ 12
 all : okAll p E sp p 0 = true
def SlOk (s : Int) (a pc sp : Nat) : Prop := s = -1 ∨ (0 ≤ s ∧ s ≤ a ∧ sp < pc)
structure ThOk (p : List In) (E : Nat → Bool) (sp : Nat → Nat) (n : Nat) (t : Th) : Prop where
 pc : t.pc < p.length
 at_ : t.at_ ≤ n
 em : t.em = 0 ∨ (t.em = 1 ∧ E t.pc = true)
 h0 : SlOk t.s0 t.at_ t.pc (sp 0)
 h1 : SlOk t.s1 t.at_ t.pc (sp 1)
 h2 : SlOk t.s2 t.at_ t.pc (sp 2)
 h3 : SlOk t.s3 t.at_ t.pc (sp 3)
 o1 : 0 ≤ t.s0 → 0 ≤ t.s1 → t.s0 ≤ t.s1
 o2 : 0 ≤ t.s2 → 0 ≤ t.s3 → t.s2 ≤ t.s3
theorem SlOk.to {s : Int} {a b pc q sp : Nat} (h : SlOk s a pc sp) (hab : a ≤ b) (hq : sp < pc → sp < q) : SlOk s b q sp := by
 rcases h with h | ⟨h1, h2, h3⟩
 · exact .inl h
 · exact .inr ⟨h1, by omega, hq h3⟩
theorem Nx.get {p : List In} {E : Nat → Bool} {sp : Nat → Nat} {pc q : Nat} (h : Nx p E sp pc q = true) : q < p.length ∧ (E pc = true → E q = true) ∧ ∀ k, k < 4 → sp k < pc → sp k < q := by
 simp only [Nx, Bool.and_eq_true, decide_eq_true_eq, Bool.or_eq_true, Bool.not_eq_true', List.all_eq_true, List.mem_range, decide_eq_false_iff_not] at h
 refine ⟨h.1.1, fun he => ?_, fun k hk h1 => ?_⟩
 · rcases h.1.2 with h2 | h2
   · rw [h2] at he; simp at he
   · exact h2
 · rcases h.2 k hk with h2 | h2
   · exact absurd h1 h2
   · exact h2
/-- The thread goes on at another place. -/
theorem ThOk.go {p : List In} {E : Nat → Bool} {sp : Nat → Nat} {n : Nat} {t : Th} {q : Nat} (h : ThOk p E sp n t) (hn : Nx p E sp t.pc q = true) : ThOk p E sp n { t with pc := q } := by
 obtain ⟨g1, g2, g3⟩ := Nx.get hn
 exact ⟨g1, h.at_, h.em.imp id (fun ⟨a, b⟩ => ⟨a, g2 b⟩), h.h0.to (Nat.le_refl _) (g3 0 (by omega)), h.h1.to (Nat.le_refl _) (g3 1 (by omega)), h.h2.to (Nat.le_refl _) (g3 2 (by omega)), h.h3.to (Nat.le_refl _) (g3 3 (by omega)), h.o1, h.o2⟩
theorem ThOk.enter {p : List In} {E : Nat → Bool} {sp : Nat → Nat} {n : Nat} {t : Th} (h : ThOk p E sp n t) (he : E t.pc = false) (he2 : E (t.pc + 1) = true) (hn : Nx p E sp t.pc (t.pc + 1) = true) : t.em = 0 ∧ ThOk p E sp n { t with pc := t.pc + 1, em := 1 } := by
 have h1 := h.go hn
 have e0 : t.em = 0 := by
   rcases h.em with h2 | ⟨_, h2⟩
   · exact h2
   · rw [he] at h2; simp at h2
 exact ⟨e0, h1.pc, h1.at_, .inr ⟨rfl, he2⟩, h1.h0, h1.h1, h1.h2, h1.h3, h1.o1, h1.o2⟩
theorem ThOk.class {p : List In} {E : Nat → Bool} {sp : Nat → Nat} {n : Nat} {t : Th} (h : ThOk p E sp n t) (hn : Nx p (fun _ => false) sp t.pc (t.pc + 1) = true) (ha : t.at_ < n) : ThOk p E sp n { t with pc := t.pc + 1, at_ := t.at_ + 1, em := 0 } := by
 obtain ⟨g1, _, g3⟩ := Nx.get hn
 exact ⟨g1, ha, .inl rfl, h.h0.to (by simp only; omega) (g3 0 (by omega)), h.h1.to (by simp only; omega) (g3 1 (by omega)), h.h2.to (by simp only; omega) (g3 2 (by omega)), h.h3.to (by simp only; omega) (g3 3 (by omega)), h.o1, h.o2⟩
theorem ThOk.save0 {p : List In} {E : Nat → Bool} {sp : Nat → Nat} {n : Nat} {t : Th} (h : ThOk p E sp n t) (hn : Nx p E sp t.pc (t.pc + 1) = true) (hs : sp 0 = t.pc ∧ t.pc < sp 1) : ThOk p E sp n { t with pc := t.pc + 1, s0 := t.at_ } := by
 have k := h.go hn
 exact ⟨k.pc, k.at_, k.em, .inr ⟨by simp only; omega, by simp only; omega, by simp only; omega⟩, k.h1, k.h2, k.h3, fun _ h1 => by
   rcases h.h1 with h2 | ⟨_, _, h2⟩
   · simp only at h1; omega
   · omega, k.o2⟩
theorem ThOk.save1 {p : List In} {E : Nat → Bool} {sp : Nat → Nat} {n : Nat} {t : Th} (h : ThOk p E sp n t) (hn : Nx p E sp t.pc (t.pc + 1) = true) (hs : sp 1 = t.pc) : ThOk p E sp n { t with pc := t.pc + 1, s1 := t.at_ } := by
 have k := h.go hn
 exact ⟨k.pc, k.at_, k.em, k.h0, .inr ⟨by simp only; omega, by simp only; omega, by simp only; omega⟩, k.h2, k.h3, fun h1 _ => by
   rcases h.h0 with h2 | ⟨_, h2, _⟩
   · simp only at h1; omega
   · exact h2, k.o2⟩
theorem ThOk.save2 {p : List In} {E : Nat → Bool} {sp : Nat → Nat} {n : Nat} {t : Th} (h : ThOk p E sp n t) (hn : Nx p E sp t.pc (t.pc + 1) = true) (hs : sp 2 = t.pc ∧ t.pc < sp 3) : ThOk p E sp n { t with pc := t.pc + 1, s2 := t.at_ } := by
 have k := h.go hn
 exact ⟨k.pc, k.at_, k.em, k.h0, k.h1, .inr ⟨by simp only; omega, by simp only; omega, by simp only; omega⟩, k.h3, k.o1, fun _ h1 => by
   rcases h.h3 with h2 | ⟨_, _, h2⟩
   · simp only at h1; omega
   · omega⟩
theorem ThOk.save3 {p : List In} {E : Nat → Bool} {sp : Nat → Nat} {n : Nat} {t : Th} (h : ThOk p E sp n t) (hn : Nx p E sp t.pc (t.pc + 1) = true) (hs : sp 3 = t.pc) : ThOk p E sp n { t with pc := t.pc + 1, s3 := t.at_ } := by
 have k := h.go hn
 exact ⟨k.pc, k.at_, k.em, k.h0, k.h1, k.h2, .inr ⟨by simp only; omega, by simp only; omega, by simp only; omega⟩, k.o1, fun h1 _ => by
   rcases h.h2 with h2 | ⟨_, h2, _⟩
   · simp only at h1; omega
   · exact h2⟩
/-- What was seen: no row, one, two. -/
inductive Sn where
 | z
 | o (a : List Bool)
 | t (a b : List Bool)
def cntT (l : List Bool) : Nat := l.countP id
def Sn.cnt : Sn → Nat
 | .z => 0
 | .o a => cntT a
 | .t a b => cntT a + cntT b
def Sn.ok (N : Nat) : Sn → Prop
 | .z => True
 | .o a => a.length = N
 | .t a b => a.length = N ∧ b.length = N
def Sn.rows : Sn → Nat
 | .z => 0
 | .o _ => 1
 | .t _ _ => 2
theorem cntT_le (l : List Bool) : cntT l ≤ l.length := List.countP_le_length
theorem cntT_rep (n : Nat) : cntT (List.replicate n false) = 0 := by simp [cntT, List.countP_replicate]
theorem cntT_set {l : List Bool} {i : Nat} (h : l[i]? = some false) : cntT (l.set i true) = cntT l + 1 := by
 induction l generalizing i with
 | nil => simp at h
 | cons a r ih =>
   cases i with
   | zero => simp at h; subst h; simp [cntT, List.countP_cons]
   | succ i =>
     have := ih (i := i) (by simpa using h)
     simp only [List.set_cons_succ, cntT, List.countP_cons] at this ⊢
     omega
theorem Sn.cnt_le {N : Nat} {s : Sn} (h : s.ok N) : s.cnt ≤ 2 * N := by
 cases s with
 | z => simp [Sn.cnt]
 | o a => have := cntT_le a; simp only [Sn.ok] at h; simp only [Sn.cnt]; omega
 | t a b => have := cntT_le a; have := cntT_le b; simp only [Sn.ok] at h; simp only [Sn.cnt]; omega
theorem ixLt {pc a P n : Nat} (h1 : pc < P) (h2 : a ≤ n) : pc * (n + 1) + a < P * (n + 1) := by
 have : (pc + 1) * (n + 1) ≤ P * (n + 1) := Nat.mul_le_mul_right _ h1
 rw [Nat.add_mul] at this
 omega
theorem boE_rep (n : Nat) : List.replicate n [.val (.bool false)] = boE (List.replicate n false) := by simp [boE, boC]
attribute [go_sem] boE_rep
def loC (a b : AV) : Bool := match a, b with
 | .val (.slice none 0 0), .sl _ [] => true
 | a, b => beqA a b
def loL : List AV → List AV → Bool
 | [], [] => true
 | a :: r, b :: s => loC a b && loL r s
 | _, _ => false
def loE : List (List AV) → List (List AV) → Bool
 | [], [] => true
 | a :: r, b :: s => loL a b && loE r s
 | _, _ => false
theorem loC_ok {w : World} {β : Gm} {O : Nat → Prop} {a b : AV} {v : Value} (h : loC a b = true) (hr : Rep w β O a v) : Rep w β O b v := by
 unfold loC at h
 split at h
 · simp only [Rep] at hr ⊢; exact .inl ⟨hr, trivial⟩
 · rw [← beqA_eq _ _ h]; exact hr
theorem loL_ok {w : World} {β : Gm} {O : Nat → Prop} : ∀ {a b : List AV} {v : List Value}, loL a b = true → RepL w β O a v → RepL w β O b v
 | [], [], v, _, hr => hr
 | a :: r, b :: s, v, h, hr => by
   simp only [loL, Bool.and_eq_true] at h
   simp only [RepL] at hr ⊢
   obtain ⟨x, t, rfl, h1, h2⟩ := hr
   exact ⟨x, t, rfl, loC_ok h.1 h1, loL_ok h.2 h2⟩
 | [], _ :: _, v, h, _ => by simp [loL] at h
 | _ :: _, [], v, h, _ => by simp [loL] at h
theorem loL_len : ∀ {a b : List AV}, loL a b = true → a.length = b.length
 | [], [], _ => rfl
 | a :: r, b :: s, h => by simp only [loL, Bool.and_eq_true] at h; simp [loL_len h.2]
 | [], _ :: _, h => by simp [loL] at h
 | _ :: _, [], h => by simp [loL] at h
theorem loE_ok {w : World} {β : Gm} {O : Nat → Prop} {sz : Nat} : ∀ {a b : List (List AV)} {v : List Value}, loE a b = true → RepE w β O sz a v → RepE w β O sz b v
 | [], [], v, _, hr => hr
 | a :: r, b :: s, v, h, hr => by
   simp only [loE, Bool.and_eq_true] at h
   simp only [RepE] at hr ⊢
   obtain ⟨x, t, rfl, h0, h1, h2⟩ := hr
   exact ⟨x, t, rfl, by rw [← loL_len h.1]; exact h0, loL_ok h.1 h1, loE_ok h.2 h2⟩
 | [], _ :: _, v, h, _ => by simp [loE] at h
 | _ :: _, [], v, h, _ => by simp [loE] at h
theorem loE_len : ∀ {a b : List (List AV)}, loE a b = true → a.length = b.length
 | [], [], _ => rfl
 | a :: r, b :: s, h => by simp only [loE, Bool.and_eq_true] at h; simp [loE_len h.2]
 | [], _ :: _, h => by simp [loE] at h
 | _ :: _, [], h => by simp [loE] at h
theorem PCall.lo {P : Program} {g : FuncId} {xs : List AV} {sz : Nat} {es fs : List (List AV)} (h : PCall P g xs (fun r => r = .sl sz es)) (hl : loE es fs = true) : PCall P g xs (fun r => r = .sl sz fs) := by
 obtain ⟨_, rfl, h1, h2, h3⟩ := h
 refine ⟨_, rfl, rfl, h2, fun X w β vs k1 k2 k3 => (h3 X w β vs k1 k2 k3).mono ?_⟩
 rintro e w' ⟨v, β', rfl, g1, g2⟩
 refine ⟨v, β', rfl, ?_, g2⟩
 simp only [Rep] at g1 ⊢
 have hlen := loE_len hl
 rcases g1 with ⟨rfl, g1⟩ | ⟨b, off, cap, us, rfl, q1, q2, q3, q4, q5⟩
 · subst g1
   exact .inl ⟨rfl, List.eq_nil_of_length_eq_zero (by rw [← hlen]; rfl)⟩
 · exact .inr ⟨b, off, cap, us, by rw [hlen], by rw [← hlen]; exact q1, q2, q3, q4, loE_ok hl q5⟩
theorem OkI.cases {p : List In} {E : Nat → Bool} {sp : Nat → Nat} {pc : Nat} {op x y : Int} {rs : List (Int × Int)} (h : OkI p E sp pc ⟨op, x, y, rs⟩ = true) :
   op = 13 ∨ (op = 10 ∧ ∃ u v : Nat, x = u ∧ y = v ∧ Nx p E sp pc u = true ∧ Nx p E sp pc v = true) ∨ (op = 11 ∧ ∃ u : Nat, x = u ∧ Nx p E sp pc u = true) ∨
   (op = 12 ∧ Nx p E sp pc (pc + 1) = true ∧ ((x = 0 ∧ sp 0 = pc ∧ pc < sp 1) ∨ (x = 1 ∧ sp 1 = pc) ∨ (x = 2 ∧ sp 2 = pc ∧ pc < sp 3) ∨ (x = 3 ∧ sp 3 = pc))) ∨
   (op = 14 ∧ E pc = false ∧ E (pc + 1) = true ∧ Nx p E sp pc (pc + 1) = true) ∨ (op = 15 ∧ Nx p E sp pc (pc + 1) = true) ∨ (op = 1 ∧ Nx p (fun _ => false) sp pc (pc + 1) = true) := by
 simp only [OkI] at h
 split at h
 · exact .inl (by assumption)
 split at h
 · simp only [Bool.and_eq_true, decide_eq_true_eq] at h
   exact .inr (.inl ⟨by assumption, x.toNat, y.toNat, by omega, by omega, h.1.2, h.2⟩)
 split at h
 · simp only [Bool.and_eq_true, decide_eq_true_eq] at h
   exact .inr (.inr (.inl ⟨by assumption, x.toNat, by omega, h.2⟩))
 split at h
 · simp only [Bool.and_eq_true, Bool.or_eq_true, decide_eq_true_eq] at h
   exact .inr (.inr (.inr (.inl ⟨by assumption, h.1, by rcases h.2 with ((h | h) | h) | h <;> simp [h]⟩)))
 split at h
 · simp only [Bool.and_eq_true, Bool.not_eq_true'] at h
   exact .inr (.inr (.inr (.inr (.inl ⟨by assumption, h.1.1, h.1.2, h.2⟩))))
 split at h
 · exact .inr (.inr (.inr (.inr (.inr (.inl ⟨by assumption, h⟩)))))
 split at h
 · exact .inr (.inr (.inr (.inr (.inr (.inr ⟨by assumption, h⟩)))))
 · simp at h
theorem thE_take (l : List Th) (i : Nat) : (thE l).take i = thE (l.take i) := by simp [thE]
def Sn.v (k : Nat) : Sn → AV
 | .z => .val (.slice none 0 0)
 | .o _ => .osl k 1 1
 | .t _ _ => .osl k 2 1
def Sn.ents (k : Nat) : Sn → List (Nat × Option Ent)
 | .z => []
 | .o a => [(k, some ⟨140, 1, [[.osl (k + 1) a.length 1]]⟩), (k + 1, some ⟨4, 1, boE a⟩)]
 | .t a b => [(k, some ⟨140, 1, [[.osl (k + 1) a.length 1], [.osl (k + 2) b.length 1]]⟩), (k + 1, some ⟨4, 1, boE a⟩), (k + 2, some ⟨4, 1, boE b⟩)]
attribute [simp] Sn.v Sn.ents Sn.rows
/-- The zero thread. -/
def th0 : List AV := List.replicate 35 (.val (.int .i64 0))
def iniC (a : Int) (k : Nat) : List AV := .val (.int .i64 0) :: .val (.int .i64 a) :: .val (.int .i64 0) :: (List.replicate k mI1 ++ List.replicate (32 - k) (.val (.int .i64 0)))
theorem iniC_len {a : Int} {k : Nat} (h : k ≤ 32) : (iniC a k).length = 35 := by simp [iniC]; omega
theorem iniC0 (a : Int) : iniC a 0 = .val (.int .i64 0) :: .val (.int .i64 a) :: List.replicate 33 (.val (.int .i64 0)) := rfl
theorem iniC32 (a : Int) : iniC a 32 = thR 0 a 0 (-1) (-1) (-1) (-1) := rfl
theorem iniC_step {a : Int} {k : Nat} (h : k < 32) : (iniC a k).take (3 + k) ++ ([mI1] ++ (iniC a k).drop (3 + k + 1)) = iniC a (k + 1) := by
 have e1 : 32 - k = (32 - (k + 1)) + 1 := by omega
 have e2 : (3 + k + 1) = (k + 1) + 3 := by omega
 have e3 : (3 + k) = k + 3 := by omega
 unfold iniC
 rw [e1, e2, e3]
 obtain ⟨m, hm⟩ : ∃ m, 32 - (k + 1) = m := ⟨_, rfl⟩
 rw [hm]
 simp only [List.take_succ_cons, List.drop_succ_cons]
 have f1 : List.replicate k mI1 ++ List.replicate (m + 1) (AV.val (Value.int IntKind.i64 0)) = (List.replicate k mI1 ++ [.val (.int .i64 0)]) ++ List.replicate m (.val (.int .i64 0)) := by simp [List.replicate_succ]
 have f2 : (List.replicate k mI1 ++ List.replicate (m + 1) (AV.val (Value.int IntKind.i64 0))).take k = List.replicate k mI1 := List.take_left' (by simp)
 have f3 : (List.replicate k mI1 ++ List.replicate (m + 1) (AV.val (Value.int IntKind.i64 0))).drop (k + 1) = List.replicate m (.val (.int .i64 0)) := by rw [f1]; exact List.drop_left' (by simp)
 rw [f2, f3, List.replicate_succ']
 simp
attribute [go_sem] thE_take
theorem lastSt {st : List Th} (h : 0 < st.length) : ∃ (l : List Th) (t : Th), st.length = l.length + 1 ∧ st[l.length]? = some t ∧ t ∈ st ∧ st.take l.length = l ∧ ∀ x ∈ l, x ∈ st := by
 rcases List.eq_nil_or_concat st with rfl | ⟨l, t, rfl⟩
 · simp at h
 · exact ⟨l, t, by simp, by simp, by simp, by simp, fun x hx => by simp [hx]⟩
@[go_sem] theorem thE_nest (l : List Th) : nestE (thE l) = [] := by
 induction l with
 | nil => rfl
 | cons a r ih =>
   show nestE (thC a :: thE r) = []
   rw [nestE, ih]; rfl
@[go_sem] theorem boE_nest (l : List Bool) : nestE (boE l) = [] := by
 induction l with
 | nil => rfl
 | cons a r ih =>
   show nestE (boC a :: boE r) = []
   rw [nestE, ih]; rfl
theorem idsL_rep (n : Nat) (v : Value) (r : List AV) : idsL (List.replicate n (.val v) ++ r) = idsL r := by
 induction n with
 | zero => rfl
 | succ n ih => rw [List.replicate_succ, List.cons_append]; exact ih
@[go_sem] theorem iniC_ids (a : Int) (k : Nat) : idsL (iniC a k) = [] := by
 show idsL (List.replicate k mI1 ++ List.replicate (32 - k) (.val (.int .i64 0))) = []
 rw [mI1, idsL_rep]
 have := idsL_rep (32 - k) (.int .i64 0) []
 rw [List.append_nil] at this
 rw [this]; rfl
theorem renCL_rep (L : List Nat) (n : Nat) (v : Value) : renCL L (List.replicate n (.val v)) = List.replicate n (.val v) := by
 induction n with
 | zero => rfl
 | succ n ih => rw [List.replicate_succ, renCL, ih]; rfl
theorem renCL_app (L : List Nat) : ∀ (a b : List AV), renCL L (a ++ b) = renCL L a ++ renCL L b
 | [], b => rfl
 | c :: cs, b => by rw [List.cons_append, renCL, renCL_app L cs b]; rfl
@[go_sem] theorem iniC_ren (L : List Nat) (a : Int) (k : Nat) : renCL L (iniC a k) = iniC a k := by
 show _ :: _ :: _ :: renCL L (List.replicate k mI1 ++ List.replicate (32 - k) (.val (.int .i64 0))) = _
 rw [renCL_app, mI1, renCL_rep, renCL_rep]; rfl
@[simp] theorem iniC_id (n : Nat) (a : Int) (k : Nat) : idLtL n (iniC a k) = true := by
 have h : ∀ (m : Nat) (v : Value) (r : List AV), idLtL n (List.replicate m (.val v) ++ r) = idLtL n r := by
   intro m v r
   induction m with
   | zero => rfl
   | succ m ih => rw [List.replicate_succ, List.cons_append, idLtL, ih]; rfl
 show (true && (true && (true && idLtL n (List.replicate k mI1 ++ List.replicate (32 - k) (.val (.int .i64 0)))))) = true
 rw [mI1, h]
 have := h (32 - k) (.int .i64 0) []
 rw [List.append_nil] at this
 rw [this]; rfl
theorem iniC_step' {a : Int} {k : Nat} (h : k < 32) : List.take (3 + k * 1) (iniC a k) ++ AV.val (Value.int IntKind.i64 (-1)) :: List.drop (3 + k * 1 + 1) (iniC a k) = iniC a (k + 1) := by
 rw [Nat.mul_one]; exact iniC_step h
theorem thE_app2 (l m : List Th) : thE (l ++ m) = thE l ++ thE m := by simp [thE]
theorem thE_cons (t : Th) (l : List Th) : thE (t :: l) = thC t :: thE l := rfl
/-- The measure of the search. -/
def runM (N : Nat) (sn : Sn) (l : List Th) : Nat := 3 * (2 * N - sn.cnt) + l.length
theorem pushOk {p : List In} {E : Nat → Bool} {sp : Nat → Nat} {n N M : Nat} {l2 : List Th} {sn4 : Sn} (q1 : sn4.ok N) (hl : ∀ t ∈ l2, ThOk p E sp n t) (hb : 3 * (2 * N - sn4.cnt) + l2.length + 2 < M) (hM : M ≤ 6 * N + 1)
   (new : List Th) (hnew : ∀ t ∈ new, ThOk p E sp n t) (h2 : new.length ≤ 2) : (sn4.ok N ∧ (∀ t ∈ l2 ++ new, ThOk p E sp n t) ∧ runM N sn4 (l2 ++ new) ≤ 6 * N + 1) ∧ runM N sn4 (l2 ++ new) < M := by
 refine ⟨⟨q1, fun t ht => ?_, ?_⟩, ?_⟩
 · rcases List.mem_append.1 ht with h | h
   · exact hl t h
   · exact hnew t h
 · unfold runM; rw [List.length_append]; omega
 · unfold runM; rw [List.length_append]; omega
theorem markOk {N c0 : Nat} {l2 st : List Th} {sn sn4 : Sn} (hn : st.length = l2.length + 1) (hc0 : sn.cnt = c0) (q1 : sn4.ok N) (q2 : sn4.cnt = c0 + 1) : 3 * (2 * N - sn4.cnt) + l2.length + 2 < runM N sn st := by
 have h9 := Sn.cnt_le q1
 unfold runM; omega
@[go_sem] theorem nestE_app : ∀ (a b : List (List AV)), nestE (a ++ b) = nestE a ++ nestE b
 | [], b => rfl
 | c :: cs, b => by rw [List.cons_append, nestE, nestE, nestE_app cs b, List.append_assoc]
theorem keepOk {p : List In} {E : Nat → Bool} {sp : Nat → Nat} {n N c0 : Nat} {l2 st : List Th} {sn sn4 : Sn} (hl2 : ∀ x ∈ l2, x ∈ st) (m2 : ∀ t ∈ st, ThOk p E sp n t) (m3 : runM N sn st ≤ 6 * N + 1) (hn : st.length = l2.length + 1) (hc0 : sn.cnt = c0) (q1 : sn4.ok N) (q2 : sn4.cnt = c0) :
   (sn4.ok N ∧ (∀ t ∈ l2, ThOk p E sp n t) ∧ runM N sn4 l2 ≤ 6 * N + 1) ∧ runM N sn4 l2 < runM N sn st := by
 refine ⟨⟨q1, fun t ht => m2 t (hl2 t ht), ?_⟩, ?_⟩
 · unfold runM at m3 ⊢; omega
 · unfold runM; omega
@[go_sem] theorem E187 : Go.Av.elemOf (tabOf Tryz.prog) 187 = none := by kernel_rfl
end Go.Proofs.YtffchapiaampmaaGreatDoor
namespace Go.Proofs.YtffchapiaampmaaGreatDoor
open Go.Av
set_option maxHeartbeats 4000000
set_option maxRecDepth 10000
attribute [local irreducible] XH XO PCall ACall
set_option maxHeartbeats 40000000
theorem in120 (rs : List (Int × Int)) (c : Int) (hn : rs.length ≤ 2 ^ 20) : PCall Tryz.prog 120 [.sl 2 (rgE rs), .val (.int .u8 c)] (fun r => ∃ b, r = B b) := by
 all_goals refine PCall.go 28 (fn := Tryz.f120) Tryz.func120 rfl rfl rfl (by simp) rfl ?_
 all_goals try refine XW.ra0 0 [0, 1] ?_
 all_goals try refine XW.ra0 1 [0, 1, 5] ?_
 all_goals try (refine XW.lp 0 (fun i : Nat => ⟨[(0, .sl 2 (rgE rs)), (1, .val (.int .u8 c)), (5, I (i : Nat))], []⟩) (fun i => i ≤ rs.length) (fun i => rs.length - i) 0 (mkWk [] [] (by simp [wkEnv, lk, lkh, I, str, B, U8, U64, U32]; first | done | omega) (by simp [wkHp, wkHp1, wkEnt, lkh, I, str])) ?_; rintro i hI0 Y0 hY0; skip)
 all_goals try refine XW.ra0 2 [0, 1, 5, 9] ?_
 all_goals try first | refine XW.cT 9 ?_ | refine XW.cF 9 ?_ | refine XW.cB 9 (fun c9 => ?_) (fun c9 => ?_)
 all_goals try (refine XW.at 4 ?_; have hi := ltC c9; obtain ⟨x, hx, hxm⟩ := getx rs i hi)
 all_goals try refine XW.rS 4 ?_
 all_goals try refine XO.r1 8 ?_
 all_goals try first | refine XO.kT 19 ?_ | refine XO.kF 19 ?_ | refine XO.split 19 (fun g19 => ?_) (fun g19 => ?_)
 all_goals try refine XO.r1 8 ?_
 all_goals try refine XO.done [0, 1, 5, 27] ?_
 all_goals try first | refine XW.cT 27 ?_ | refine XW.cF 27 ?_ | refine XW.cB 27 (fun c27 => ?_) (fun c27 => ?_)
 all_goals try refine XW.ra0 5 [4] ?_
 all_goals try (refine XW.atr ?_; first | (exact XP.rs ⟨_, rfl⟩))
 all_goals try refine XW.ra2 3 [0, 1, 5] ?_
 all_goals try (refine XH.le ?_; first | (exact eY hY0 (i + 1) (mkWk [] [] (by simp [wkEnv, lk, lkh, I, str, B, U8, U64, U32]; first | done | omega) (by simp [wkHp, wkHp1, wkEnt, lkh, I, str]))))
 all_goals try refine XW.ra0 6 [4] ?_
 all_goals try (refine XW.atr ?_; first | (exact XP.rs ⟨_, rfl⟩))
attribute [go_sem] thC thR mI1 th0
/-- What run returns. -/
def RunR (p : List In) (E : Nat → Bool) (sp : Nat → Nat) (n : Nat) : AV → Prop := fun r => (∃ t, r = .tup [.agg (thC t), B true] ∧ ThOk p E sp n t) ∨ r = .tup [.agg th0, B false]
theorem run102 (p : List In) (E : Nat → Bool) (sp : Nat → Nat) (hp : OkP p E sp) (hrs : ∀ i ∈ p, i.rs.length ≤ 2 ^ 20) (s : S) (hs : s.length ≤ 2 ^ 20) (a : Nat) (ha : a ≤ s.length) : PCall Tryz.prog 102 [.sl 4 (inE p), str s, I (a : Nat)] (RunR p E sp s.length) := by
 obtain ⟨N, hNe⟩ : ∃ N, N = p.length * (s.length + 1) := ⟨_, rfl⟩
 have hNb : N ≤ 2 ^ 33 := by rw [hNe]; exact Nat.le_trans (Nat.mul_le_mul hp.le (show s.length + 1 ≤ 2 ^ 21 by omega)) (by decide)
 all_goals refine PCall.go 178 (fn := Tryz.f102) Tryz.func102 rfl rfl rfl (by simp) rfl ?_
 all_goals try refine XW.rS 0 ?_
 all_goals try refine XO.r0 2 ?_
 all_goals try refine XO.doneN [0, 1, 2, 6] ?_
 all_goals try refine XW.rS 1 ?_
 all_goals try refine XO.r0 1 ?_
 all_goals try refine XO.doneN [0, 1, 2, 6, 8] ?_
 all_goals try refine XW.rS 2 ?_
 all_goals try refine XO.r0 4 ?_
 all_goals try refine XO.doneN [0, 1, 6, 8, 9] ?_
 all_goals try refine XW.rS 3 ?_
 all_goals try refine XO.r0 1 ?_
 all_goals try refine XO.doneN [0, 1, 6, 8, 9, 10] ?_
 all_goals try (refine XW.lp 2 (fun k : Nat => ⟨[(0, .sl 4 (inE p)), (1, str s), (6, .ptr 0 35 0 0), (8, nilV), (9, .ptr 1 35 0 0), (10, I (k : Nat))], [(0, some ⟨189, 35, [th0]⟩), (1, some ⟨189, 35, [iniC a k]⟩)]⟩) (fun k => k ≤ 32) (fun k => 32 - k) 0 (mkWk [some 0, some 1] [] (by simp [wkEnv, lk, lkh, I, str, B, U8, U64, U32, iniC0, th0, nilV]; first | done | omega) (by simp [wkHp, wkHp1, wkEnt, lkh, I, str, iniC0, th0, nilV])) ?_; rintro k hI0 Y0 hY0; skip)
 all_goals try refine XW.rS 4 ?_
 all_goals try refine XO.r0 2 ?_
 all_goals try refine XO.doneN [0, 1, 6, 8, 9, 10, 18] ?_
 all_goals try first | refine XW.cT 18 ?_ | refine XW.cF 18 ?_ | refine XW.cB 18 (fun c18 => ?_) (fun c18 => ?_)
 all_goals try (refine XW.at 6 ?_; have hk9 := of_decide_eq_true c18; have hk : k < 32 := (by omega); have hl8 : (k : Int) < ((32 : Nat) : Int) := (by omega); have hl9 : (iniC (a : Int) k).length = 35 := iniC_len (by omega); have hx := iniC_step' (a := (a : Int)) hk)
 all_goals try refine XW.rS 6 ?_
 all_goals try refine XO.r1 4 ?_
 all_goals try refine XO.doneN [0, 1, 6, 8, 9, 10] ?_
 all_goals try refine XW.rS 5 ?_
 all_goals try refine XO.r2 3 ?_
 all_goals try refine XO.doneN [0, 1, 6, 8, 9, 10] ?_
 all_goals try (refine XH.le ?_; first | (exact eY hY0 (k + 1) (mkWk [some 0, some 1] [] (by simp [wkEnv, lk, lkh, I, str, B, U8, U64, U32, th0, nilV]; first | done | omega) (by simp [wkHp, wkHp1, wkEnt, lkh, I, str, th0, nilV]))))
 all_goals try (refine XW.at 7 ?_; have hk9 := of_decide_eq_false c18; obtain rfl : k = 32 := (by omega); simp only [iniC32])
 all_goals try refine XW.rS 7 ?_
 all_goals try refine XO.r0 3 ?_
 all_goals try refine XO.doneN [0, 1, 6, 8, 11] ?_
 all_goals try (refine XW.lp 5 (fun x : Sn × List Th => ⟨[(0, .sl 4 (inE p)), (1, str s), (6, .ptr 0 35 0 0), (8, x.1.v 2), (11, .osl 1 x.2.length 35)], (0, some ⟨189, 35, [th0]⟩) :: (1, some ⟨189, 35, thE x.2⟩) :: x.1.ents 2⟩) (fun x => x.1.ok N ∧ (∀ t ∈ x.2, ThOk p E sp s.length t) ∧ runM N x.1 x.2 ≤ 6 * N + 1) (fun x => runM N x.1 x.2) (.z, [⟨0, a, 0, -1, -1, -1, -1⟩]) (mkWk [some 0, some 1] [] (by simp [wkEnv, lk, lkh, I, str, B, U8, U64, U32, Sn.v, Sn.ents, thE_len, th0, thC, thR, mI1, thE_app2, thE_cons, thE_nil, thE]; first | done | omega) (by simp [wkHp, wkHp1, wkEnt, lkh, I, str, Sn.v, Sn.ents, thE_len, th0, thC, thR, mI1, thE_app2, thE_cons, thE_nil, thE])) ?_ (h0 := ⟨trivial, by simp only [List.mem_singleton]; rintro t rfl; exact ⟨hp.pos, ha, .inl rfl, .inl rfl, .inl rfl, .inl rfl, .inl rfl, fun h => by simp at h, fun h => by simp at h⟩, by simp [runM, Sn.cnt]; omega⟩); rintro ⟨sn, st⟩ hI1 Y1 hY1; refine XW.join 15 6 (fun x : Sn × List Th × Th => ⟨[(0, .sl 4 (inE p)), (1, str s), (6, .ptr 0 35 0 0), (8, x.1.v 3), (11, .osl 1 x.2.1.length 35), (12, .ptr 2 35 0 0)], (0, some ⟨189, 35, [th0]⟩) :: (1, some ⟨189, 35, thE x.2.1⟩) :: (2, some ⟨189, 35, [thC x.2.2]⟩) :: x.1.ents 3⟩) (fun x => x.1.ok N ∧ 1 ≤ x.1.rows ∧ (∀ t ∈ x.2.1, ThOk p E sp s.length t) ∧ ThOk p E sp s.length x.2.2 ∧ 3 * (2 * N - x.1.cnt) + x.2.1.length + 2 < runM N sn st ∧ runM N sn st ≤ 6 * N + 1) ?_ (fun K => ?_); rintro ⟨sn4, l2, ⟨pc, a2, em, u0, u1, u2, u3⟩⟩ hJ)
 all_goals try (refine XW.at 8 ?_; obtain ⟨c0, hc0⟩ : ∃ c0, sn.cnt = c0 := ⟨_, rfl⟩; rcases sn with _ | ⟨ra⟩ | ⟨ra, rb⟩ <;> simp only [Sn.v, Sn.ents, Nat.reduceAdd])
 all_goals try refine XW.rS 8 ?_
 all_goals try refine XO.r0 3 ?_
 all_goals try refine XO.doneN [0, 1, 6, 8, 11, 28] ?_
 all_goals try first | refine XW.cT 28 ?_ | refine XW.cF 28 ?_ | refine XW.cB 28 (fun c28 => ?_) (fun c28 => ?_)
 all_goals try (refine XW.at 9 ?_; obtain ⟨m1, m2, m3⟩ := hI1; (try simp only at m1 m2 m3); have hsl : st.length ≤ 6 * N + 1 := (by unfold runM at m3; omega); obtain ⟨l2, ⟨pc, a2, em, u0, u1, u2, u3⟩, hn2, hlast, htm, htake, hl2⟩ := lastSt (gt0 c28); have hx : (st.length : Int) - 1 = (l2.length : Int) := (by omega); have hx2 := hlast; have ht := m2 _ htm)
 all_goals try refine XW.rS 9 ?_
 all_goals try refine XO.r3 8 ?_
 all_goals try refine XO.doneN [0, 1, 6, 8, 11, 12] ?_
 all_goals try refine XW.rS 10 ?_
 all_goals try refine XO.r2 4 ?_
 all_goals try refine XO.sc (thE l2) ?_
 all_goals try refine XO.r0 1 ?_
 all_goals try refine XO.doneN [0, 1, 6, 8, 11, 12] ?_
 all_goals try ((first | refine XW.lp 6 (fun sn : Sn => ⟨[(0, .sl 4 (inE p)), (1, str s), (6, .ptr 0 35 0 0), (8, sn.v 3), (11, .osl 1 l2.length 35), (12, .ptr 2 35 0 0)], (0, some ⟨189, 35, [th0]⟩) :: (1, some ⟨189, 35, thE l2⟩) :: (2, some ⟨189, 35, [thR pc a2 em u0 u1 u2 u3]⟩) :: sn.ents 3⟩) (fun sn => sn.ok N ∧ sn.cnt = c0) (fun sn => 2 - sn.rows) .z (mkWk [some 0, some 1, some 2] [] (by simp [wkEnv, lk, lkh, I, str, B, U8, U64, U32, Sn.v, Sn.ents, thE_len, th0, thC, thR, mI1, thE_app2, thE_cons, thE_nil]; first | done | omega) (by simp [wkHp, wkHp1, wkEnt, lkh, I, str, Sn.v, Sn.ents, thE_len, th0, thC, thR, mI1, thE_app2, thE_cons, thE_nil])) ?_ (h0 := ⟨m1, hc0⟩) | refine XW.lp 6 (fun sn : Sn => ⟨[(0, .sl 4 (inE p)), (1, str s), (6, .ptr 0 35 0 0), (8, sn.v 3), (11, .osl 1 l2.length 35), (12, .ptr 2 35 0 0)], (0, some ⟨189, 35, [th0]⟩) :: (1, some ⟨189, 35, thE l2⟩) :: (2, some ⟨189, 35, [thR pc a2 em u0 u1 u2 u3]⟩) :: sn.ents 3⟩) (fun sn => sn.ok N ∧ sn.cnt = c0) (fun sn => 2 - sn.rows) (.o ra) (mkWk [some 0, some 3, some 4, some 1, some 2] [] (by simp [wkEnv, lk, lkh, I, str, B, U8, U64, U32, Sn.v, Sn.ents, thE_len, th0, thC, thR, mI1, thE_app2, thE_cons, thE_nil]; first | done | omega) (by simp [wkHp, wkHp1, wkEnt, lkh, I, str, Sn.v, Sn.ents, thE_len, th0, thC, thR, mI1, thE_app2, thE_cons, thE_nil])) ?_ (h0 := ⟨m1, hc0⟩) | refine XW.lp 6 (fun sn : Sn => ⟨[(0, .sl 4 (inE p)), (1, str s), (6, .ptr 0 35 0 0), (8, sn.v 3), (11, .osl 1 l2.length 35), (12, .ptr 2 35 0 0)], (0, some ⟨189, 35, [th0]⟩) :: (1, some ⟨189, 35, thE l2⟩) :: (2, some ⟨189, 35, [thR pc a2 em u0 u1 u2 u3]⟩) :: sn.ents 3⟩) (fun sn => sn.ok N ∧ sn.cnt = c0) (fun sn => 2 - sn.rows) (.t ra rb) (mkWk [some 0, some 4, some 5, some 1, some 2, some 3] [] (by simp [wkEnv, lk, lkh, I, str, B, U8, U64, U32, Sn.v, Sn.ents, thE_len, th0, thC, thR, mI1, thE_app2, thE_cons, thE_nil]; first | done | omega) (by simp [wkHp, wkHp1, wkEnt, lkh, I, str, Sn.v, Sn.ents, thE_len, th0, thC, thR, mI1, thE_app2, thE_cons, thE_nil])) ?_ (h0 := ⟨m1, hc0⟩)); rintro sn3 hI2 Y2 hY2; obtain ⟨k1, k2⟩ := hI2; rcases sn3 with _ | ⟨ra⟩ | ⟨ra, rb⟩ <;> simp only [Sn.v, Sn.ents, Nat.reduceAdd] <;> simp only [Sn.ok] at k1)
 all_goals try refine XW.rS 11 ?_
 all_goals try refine XO.r0 5 ?_
 all_goals try refine XO.doneN [0, 1, 6, 8, 11, 12, 44] ?_
 all_goals try first | refine XW.cT 44 ?_ | refine XW.cF 44 ?_ | refine XW.cB 44 (fun c44 => ?_) (fun c44 => ?_)
 all_goals try (refine XW.at 12 ?_; first | (exfalso; have h9 := of_decide_eq_true c44; have h8 := ht.em; simp only at h8; omega) | (have hx : IntKind.i64.wrap ((p.length : Int) * ((s.length : Int) + 1)) = (N : Int) := (by have e : (p.length : Int) * ((s.length : Int) + 1) = (N : Int) := (by rw [hNe]; simp); rw [e, wrap64 (by omega)])))
 all_goals try refine XW.rS 12 ?_
 all_goals try refine XO.r3 11 ?_
 all_goals try refine XO.doneN [0, 1, 6, 8, 11, 12] ?_
 all_goals try (refine XH.le ?_; first | (refine hY2 (.o (List.replicate N false)) ?_ ?_ _ _ (mkWk [some 0, some 3, some 4, some 1, some 2] [] ?_ ?_); (next => (constructor; (next => simp [Sn.ok]); (next => simp only [Sn.cnt, cntT_rep] at k2 ⊢; omega))); (next => first | omega | (simp; done) | (simp; omega)); (next => simp [wkEnv, lk, lkh, I, str, B, U8, U64, U32, Sn.v, Sn.ents, thE_len, th0, thC, thR, mI1, thE_app2, thE_cons, thE_nil]; first | done | omega); (next => simp [wkHp, wkHp1, wkEnt, lkh, I, str, Sn.v, Sn.ents, thE_len, th0, thC, thR, mI1, thE_app2, thE_cons, thE_nil])) | (refine hY2 (.t ra (List.replicate N false)) ?_ ?_ _ _ (mkWk [some 0, some 4, some 5, some 1, some 2, some 3] [] ?_ ?_); (next => (constructor; (next => exact ⟨k1, List.length_replicate⟩); (next => simp only [Sn.cnt, cntT_rep] at k2 ⊢; omega))); (next => first | omega | (simp; done) | (simp; omega)); (next => simp [wkEnv, lk, lkh, I, str, B, U8, U64, U32, Sn.v, Sn.ents, thE_len, th0, thC, thR, mI1, thE_app2, thE_cons, thE_nil]; first | done | omega); (next => simp [wkHp, wkHp1, wkEnt, lkh, I, str, Sn.v, Sn.ents, thE_len, th0, thC, thR, mI1, thE_app2, thE_cons, thE_nil])))
 all_goals try (refine XW.at 13 ?_; have hem := ht.em; simp only at hem; rcases hem with rfl | ⟨rfl, he2⟩ <;> first | (exfalso; have h9 := of_decide_eq_false c44; omega) | (obtain ⟨pm, hpm⟩ : ∃ pm, pm = pc * (s.length + 1) := ⟨_, rfl⟩; obtain ⟨ix, hix⟩ : ∃ ix, ix = pm + a2 := ⟨_, rfl⟩; have hixN : ix < N := (by rw [hix, hpm, hNe]; exact ixLt ht.pc ht.at_); have hw9 : IntKind.i64.wrap ((pc : Int) * ((s.length : Int) + 1)) = (pm : Int) := (by have e : (pc : Int) * ((s.length : Int) + 1) = (pm : Int) := (by rw [hpm]; simp); rw [e, wrap64 (by omega)]); have hs9 : (pm : Int) + (a2 : Int) = (ix : Int) := (by omega); have hx := hw9; have hx2 := hs9; (first | (have hkeep := keepOk (sn4 := .t ra rb) hl2 m2 m3 hn2 hc0 k1 k2) | (have hkeep := keepOk (sn4 := .o ra) hl2 m2 m3 hn2 hc0 k1 k2)); first | (have g1 := getx rb ix (Nat.lt_of_lt_of_eq hixN k1.2.symm); have g2 := getx ra ix (Nat.lt_of_lt_of_eq hixN k1.1.symm); obtain ⟨bvb, hrb, _⟩ := g1; obtain ⟨bva, hra, _⟩ := g2) | (have g1 := getx ra ix (Nat.lt_of_lt_of_eq hixN k1.symm); obtain ⟨bv, hrow, _⟩ := g1)))
 all_goals try refine XW.rS 13 ?_
 all_goals try refine XO.r3 15 ?_
 all_goals try (first | (have hx := hrow) | (have hx := hra; have hx2 := hrb))
 all_goals try refine XO.r3 1 ?_
 all_goals try refine XO.doneN [0, 1, 6, 8, 11, 12, 70] ?_
 all_goals try first | refine XW.cT 70 ?_ | refine XW.cF 70 ?_ | refine XW.cB 70 (fun c70 => ?_) (fun c70 => ?_)
 all_goals try (refine XW.at 14 ?_; have hx := hw9; have hx2 := hs9)
 all_goals try refine XW.rS 14 ?_
 all_goals try refine XO.r3 15 ?_
 all_goals try (first | (have hx := hrow) | (have hx := hra; have hx2 := hrb))
 all_goals try refine XO.r3 1 ?_
 all_goals try refine XO.doneN [0, 1, 6, 8, 11, 12] ?_
 all_goals try (refine XW.at 15 ?_; first | (have hz9 := hrow; refine XW.wkr 15 6 _ (mkWk [some 0, some 3, some 4, some 1, some 2] [] ?_ ?_) (K (.o (ra.set ix true), l2, ⟨pc, a2, 0, u0, u1, u2, u3⟩) ⟨?_, ?_, fun t h => m2 t (hl2 t h), ht, markOk hn2 hc0 ?_ ?_, m3⟩); (next => simp [wkEnv, lk, lkh, I, str, B, Sn.v, Sn.ents, thE_len, th0, thC, thR, mI1, thE_app2, thE_cons, thE_nil]; first | done | omega); (next => simp [wkHp, wkHp1, wkEnt, lkh, I, str, Sn.v, Sn.ents, thE_len, th0, thC, thR, mI1, thE_app2, thE_cons, thE_nil]); (next => simp [Sn.ok, k1]); (next => simp); (next => simp [Sn.ok, k1]); (next => rw [Sn.cnt, cntT_set (by rw [hrow, c70])]; simp only [Sn.cnt] at k2; omega)) | (have hz9 := hra; refine XW.wkr 15 6 _ (mkWk [some 0, some 4, some 5, some 1, some 2, some 3] [] ?_ ?_) (K (.t (ra.set ix true) rb, l2, ⟨pc, a2, 0, u0, u1, u2, u3⟩) ⟨?_, ?_, fun t h => m2 t (hl2 t h), ht, markOk hn2 hc0 ?_ ?_, m3⟩); (next => simp [wkEnv, lk, lkh, I, str, B, Sn.v, Sn.ents, thE_len, th0, thC, thR, mI1, thE_app2, thE_cons, thE_nil]; first | done | omega); (next => simp [wkHp, wkHp1, wkEnt, lkh, I, str, Sn.v, Sn.ents, thE_len, th0, thC, thR, mI1, thE_app2, thE_cons, thE_nil]); (next => simp [Sn.ok, k1]); (next => simp); (next => simp [Sn.ok, k1]); (next => rw [Sn.cnt, cntT_set (by rw [hra, c70])]; simp only [Sn.cnt] at k2; omega)) | (have hz9 := hrb; refine XW.wkr 15 6 _ (mkWk [some 0, some 4, some 5, some 1, some 2, some 3] [] ?_ ?_) (K (.t ra (rb.set ix true), l2, ⟨pc, a2, 1, u0, u1, u2, u3⟩) ⟨?_, ?_, fun t h => m2 t (hl2 t h), ht, markOk hn2 hc0 ?_ ?_, m3⟩); (next => simp [wkEnv, lk, lkh, I, str, B, Sn.v, Sn.ents, thE_len, th0, thC, thR, mI1, thE_app2, thE_cons, thE_nil]; first | done | omega); (next => simp [wkHp, wkHp1, wkEnt, lkh, I, str, Sn.v, Sn.ents, thE_len, th0, thC, thR, mI1, thE_app2, thE_cons, thE_nil]); (next => simp [Sn.ok, k1]); (next => simp); (next => simp [Sn.ok, k1]); (next => rw [Sn.cnt, cntT_set (by rw [hrb, c70])]; simp only [Sn.cnt] at k2; omega)) | (have hpush := pushOk hJ.1 hJ.2.2.1 hJ.2.2.2.2.1 hJ.2.2.2.2.2; obtain ⟨q1, q3, q4, ht, q5, q6⟩ := hJ; have hsz : l2.length ≤ 6 * N + 1 := (by simp only at q5; omega); have hpc9 : pc < p.length := ht.pc; have hpl := hp.le; have hat9 : a2 ≤ s.length := ht.at_; rcases sn4 with _ | ⟨ra⟩ | ⟨ra, rb⟩ <;> simp only [Sn.v, Sn.ents, Nat.reduceAdd] <;> first | (exfalso; simp at q3; done) | (obtain ⟨⟨op, ix1, iy1, irs⟩, hx, him⟩ := getx p pc ht.pc; have hcs := okAll_get hp.all hx; rw [Nat.zero_add] at hcs; rcases OkI.cases hcs with rfl | ⟨rfl, u, v, rfl, rfl, nu, nv⟩ | ⟨rfl, u, rfl, nu⟩ | ⟨rfl, nn, ⟨rfl, s1, s2⟩ | ⟨rfl, s1⟩ | ⟨rfl, s1, s2⟩ | ⟨rfl, s1⟩⟩ | ⟨rfl, e1, e2, nn⟩ | ⟨rfl, nn⟩ | ⟨rfl, nn⟩)))
 all_goals try refine XW.rS 15 ?_
 all_goals try refine XO.r1 7 ?_
 all_goals try refine XO.doneN [0, 1, 6, 8, 11, 12, 13] ?_
 all_goals try refine XW.rS 16 ?_
 all_goals try refine XO.r0 2 ?_
 all_goals try refine XO.doneN [0, 1, 6, 8, 11, 12, 13, 92] ?_
 all_goals try refine XW.rS 17 ?_
 all_goals try refine XO.r0 2 ?_
 all_goals try refine XO.doneN [0, 1, 6, 8, 11, 12, 13, 92, 93] ?_
 all_goals try first | refine XW.cT 93 ?_ | refine XW.cF 93 ?_ | refine XW.cB 93 (fun c93 => ?_) (fun c93 => ?_)
 all_goals try refine XW.rS 18 ?_
 all_goals try refine XO.r0 3 ?_
 all_goals try refine XO.doneN [6, 7] ?_
 all_goals try (refine XW.atr ?_; first | (exact XP.rs (.inl ⟨⟨pc, a2, em, u0, u1, u2, u3⟩, rfl, ht⟩)) | (exact XP.rs (.inr rfl)))
 all_goals try refine XW.rS 19 ?_
 all_goals try refine XO.r0 2 ?_
 all_goals try refine XO.doneN [0, 1, 6, 8, 11, 12, 13, 92, 96] ?_
 all_goals try first | refine XW.cT 96 ?_ | refine XW.cF 96 ?_ | refine XW.cB 96 (fun c96 => ?_) (fun c96 => ?_)
 all_goals try refine XW.rS 20 ?_
 all_goals try refine XO.r0 3 ?_
 all_goals try refine XO.doneN [0, 1, 6, 8, 11, 12, 13, 14] ?_
 all_goals try refine XW.rS 21 ?_
 all_goals try refine XO.r0 8 ?_
 all_goals try refine XO.doneN [0, 1, 6, 8, 11, 12, 14] ?_
 all_goals try refine XW.rS 22 ?_
 all_goals try refine XO.r0 6 ?_
 all_goals try refine XO.doneN [0, 1, 6, 8, 11] ?_
 all_goals try refine XW.rS 23 ?_
 all_goals try refine XO.r0 2 ?_
 all_goals try refine XO.doneN [0, 1, 6, 8, 11, 12, 13, 92, 110] ?_
 all_goals try first | refine XW.cT 110 ?_ | refine XW.cF 110 ?_ | refine XW.cB 110 (fun c110 => ?_) (fun c110 => ?_)
 all_goals try (refine XW.at 24 ?_; have nuB := (Nx.get nu).1)
 all_goals try refine XW.rS 24 ?_
 all_goals try refine XO.r2 5 ?_
 all_goals try refine XO.doneN [0, 1, 6, 8, 11, 12] ?_
 all_goals try refine XW.rS 25 ?_
 all_goals try refine XO.r0 2 ?_
 all_goals try refine XO.doneN [0, 1, 6, 8, 11, 12, 13, 92, 116] ?_
 all_goals try first | refine XW.cT 116 ?_ | refine XW.cF 116 ?_ | refine XW.cB 116 (fun c116 => ?_) (fun c116 => ?_)
 all_goals try refine XW.rS 26 ?_
 all_goals try refine XO.r1 7 ?_
 all_goals try refine XO.doneN [0, 1, 6, 8, 11, 12] ?_
 all_goals try refine XW.rS 27 ?_
 all_goals try refine XO.r0 2 ?_
 all_goals try refine XO.doneN [0, 1, 6, 8, 11, 12, 13, 92, 124] ?_
 all_goals try first | refine XW.cT 124 ?_ | refine XW.cF 124 ?_ | refine XW.cB 124 (fun c124 => ?_) (fun c124 => ?_)
 all_goals try (refine XW.at 28 ?_; obtain ⟨he0, ht2⟩ := ht.enter e1 e2 nn; simp only at he0; subst he0)
 all_goals try refine XW.rS 28 ?_
 all_goals try refine XO.r2 5 ?_
 all_goals try refine XO.doneN [0, 1, 6, 8, 11, 12] ?_
 all_goals try refine XW.rS 29 ?_
 all_goals try refine XO.r0 2 ?_
 all_goals try refine XO.doneN [0, 1, 6, 8, 11, 12, 13, 92, 130] ?_
 all_goals try first | refine XW.cT 130 ?_ | refine XW.cF 130 ?_ | refine XW.cB 130 (fun c130 => ?_) (fun c130 => ?_)
 all_goals try refine XW.rS 30 ?_
 all_goals try refine XO.r0 3 ?_
 all_goals try refine XO.doneN [0, 1, 6, 8, 11, 12, 134] ?_
 all_goals try first | refine XW.cT 134 ?_ | refine XW.cF 134 ?_ | refine XW.cB 134 (fun c134 => ?_) (fun c134 => ?_)
 all_goals try refine XW.rS 31 ?_
 all_goals try refine XO.r0 2 ?_
 all_goals try refine XO.doneN [0, 1, 6, 8, 11, 12, 13, 92, 135] ?_
 all_goals try first | refine XW.cT 135 ?_ | refine XW.cF 135 ?_ | refine XW.cB 135 (fun c135 => ?_) (fun c135 => ?_)
 all_goals try refine XW.rS 32 ?_
 all_goals try refine XO.r0 3 ?_
 all_goals try refine XO.doneN [0, 1, 6, 8, 11, 12, 139] ?_
 all_goals try first | refine XW.cT 139 ?_ | refine XW.cF 139 ?_ | refine XW.cB 139 (fun c139 => ?_) (fun c139 => ?_)
 all_goals try refine XW.rS 33 ?_
 all_goals try refine XO.r0 2 ?_
 all_goals try refine XO.doneN [0, 1, 6, 8, 11, 12, 13, 92, 140] ?_
 all_goals try first | refine XW.cT 140 ?_ | refine XW.cF 140 ?_ | refine XW.cB 140 (fun c140 => ?_) (fun c140 => ?_)
 all_goals try refine XW.rS 34 ?_
 all_goals try refine XO.r0 5 ?_
 all_goals try refine XO.doneN [0, 1, 6, 8, 11, 12, 146] ?_
 all_goals try first | refine XW.cT 146 ?_ | refine XW.cF 146 ?_ | refine XW.cB 146 (fun c146 => ?_) (fun c146 => ?_)
 all_goals try refine XW.rS 35 ?_
 all_goals try refine XO.r0 2 ?_
 all_goals try refine XO.doneN [0, 1, 6, 8, 11, 12, 13, 147] ?_
 all_goals try first | refine XW.cT 147 ?_ | refine XW.cF 147 ?_ | refine XW.cB 147 (fun c147 => ?_) (fun c147 => ?_)
 all_goals try refine XW.rS 36 ?_
 all_goals try refine XO.r0 6 ?_
 all_goals try first | refine XO.kT 154 ?_ | refine XO.kF 154 ?_ | refine XO.split 154 (fun g154 => ?_) (fun g154 => ?_)
 all_goals try refine XO.r0 5 ?_
 all_goals try (have hlt8 : a2 < s.length := (by have h9 := of_decide_eq_false g154; omega); obtain ⟨ch, hx, _⟩ := getx s a2 hlt8)
 all_goals try refine XO.r1 1 ?_
 all_goals try first | (refine XO.p (in120 irs _ (hrs _ him)) ?_; rintro _ ⟨_, rfl⟩) | refine XO.r0 1 ?_
 all_goals try refine XO.r0 2 ?_
 all_goals try refine XO.doneN [0, 1, 6, 8, 11, 12, 163] ?_
 all_goals try first | refine XW.cT 163 ?_ | refine XW.cF 163 ?_ | refine XW.cB 163 (fun c163 => ?_) (fun c163 => ?_)
 all_goals try (refine XW.at 37 ?_; have hlt9 : a2 < s.length := (by have h8 := ht.at_; simp only at h8; rcases Nat.lt_or_ge a2 s.length with h7 | h7; exact h7; exfalso; simp at c163; omega))
 all_goals try refine XW.rS 37 ?_
 all_goals try refine XO.r2 5 ?_
 all_goals try refine XO.doneN [0, 1, 6, 8, 11, 12] ?_
 all_goals try refine XW.rS 38 ?_
 all_goals try refine XO.r0 2 ?_
 all_goals try refine XO.doneN [0, 1, 6, 8, 11, 12] ?_
 all_goals try refine XW.rS 39 ?_
 all_goals try refine XO.r2 5 ?_
 all_goals try refine XO.doneN [0, 1, 6, 8, 11, 12] ?_
 all_goals try refine XW.rS 40 ?_
 all_goals try refine XO.r0 5 ?_
 all_goals try refine XO.doneN [0, 1, 6, 8, 11] ?_
 all_goals try (refine XH.le ?_; first | (refine hY1 (.o ra, l2) ?_ ?_ _ _ (mkWk [some 0, some 3, some 1, some 2] [] ?_ ?_); (next => exact hkeep.1); (next => exact hkeep.2); (next => simp [wkEnv, lk, lkh, I, str, B, U8, U64, U32, Sn.v, Sn.ents, thE_len, th0, thC, thR, mI1, thE_app2, thE_cons, thE_nil]; first | done | omega); (next => simp [wkHp, wkHp1, wkEnt, lkh, I, str, Sn.v, Sn.ents, thE_len, th0, thC, thR, mI1, thE_app2, thE_cons, thE_nil])) | (refine hY1 (.t ra rb, l2) ?_ ?_ _ _ (mkWk [some 0, some 4, some 1, some 2, some 3] [] ?_ ?_); (next => exact hkeep.1); (next => exact hkeep.2); (next => simp [wkEnv, lk, lkh, I, str, B, U8, U64, U32, Sn.v, Sn.ents, thE_len, th0, thC, thR, mI1, thE_app2, thE_cons, thE_nil]; first | done | omega); (next => simp [wkHp, wkHp1, wkEnt, lkh, I, str, Sn.v, Sn.ents, thE_len, th0, thC, thR, mI1, thE_app2, thE_cons, thE_nil])) | (refine hY1 (.o ra, l2 ++ [⟨v, a2, em, u0, u1, u2, u3⟩, ⟨u, a2, em, u0, u1, u2, u3⟩]) ?_ ?_ _ _ (mkWk [some 0, some 3, some 1, some 2] [] ?_ ?_); (next => exact (hpush [⟨v, a2, em, u0, u1, u2, u3⟩, ⟨u, a2, em, u0, u1, u2, u3⟩] (by simp only [List.mem_cons, List.not_mem_nil, or_false]; rintro t (rfl | rfl); exact ht.go nv; exact ht.go nu) (by simp)).1); (next => exact (hpush [⟨v, a2, em, u0, u1, u2, u3⟩, ⟨u, a2, em, u0, u1, u2, u3⟩] (by simp only [List.mem_cons, List.not_mem_nil, or_false]; rintro t (rfl | rfl); exact ht.go nv; exact ht.go nu) (by simp)).2); (next => simp [wkEnv, lk, lkh, I, str, B, U8, U64, U32, Sn.v, Sn.ents, thE_len, th0, thC, thR, mI1, thE_app2, thE_cons, thE_nil]; first | done | omega); (next => simp [wkHp, wkHp1, wkEnt, lkh, I, str, Sn.v, Sn.ents, thE_len, th0, thC, thR, mI1, thE_app2, thE_cons, thE_nil])) | (refine hY1 (.t ra rb, l2 ++ [⟨v, a2, em, u0, u1, u2, u3⟩, ⟨u, a2, em, u0, u1, u2, u3⟩]) ?_ ?_ _ _ (mkWk [some 0, some 4, some 1, some 2, some 3] [] ?_ ?_); (next => exact (hpush [⟨v, a2, em, u0, u1, u2, u3⟩, ⟨u, a2, em, u0, u1, u2, u3⟩] (by simp only [List.mem_cons, List.not_mem_nil, or_false]; rintro t (rfl | rfl); exact ht.go nv; exact ht.go nu) (by simp)).1); (next => exact (hpush [⟨v, a2, em, u0, u1, u2, u3⟩, ⟨u, a2, em, u0, u1, u2, u3⟩] (by simp only [List.mem_cons, List.not_mem_nil, or_false]; rintro t (rfl | rfl); exact ht.go nv; exact ht.go nu) (by simp)).2); (next => simp [wkEnv, lk, lkh, I, str, B, U8, U64, U32, Sn.v, Sn.ents, thE_len, th0, thC, thR, mI1, thE_app2, thE_cons, thE_nil]; first | done | omega); (next => simp [wkHp, wkHp1, wkEnt, lkh, I, str, Sn.v, Sn.ents, thE_len, th0, thC, thR, mI1, thE_app2, thE_cons, thE_nil])) | (refine hY1 (.o ra, l2 ++ [⟨u, a2, em, u0, u1, u2, u3⟩]) ?_ ?_ _ _ (mkWk [some 0, some 3, some 1, some 2] [] ?_ ?_); (next => exact (hpush [⟨u, a2, em, u0, u1, u2, u3⟩] (by simp only [List.mem_singleton]; rintro t rfl; exact ht.go nu) (by simp)).1); (next => exact (hpush [⟨u, a2, em, u0, u1, u2, u3⟩] (by simp only [List.mem_singleton]; rintro t rfl; exact ht.go nu) (by simp)).2); (next => simp [wkEnv, lk, lkh, I, str, B, U8, U64, U32, Sn.v, Sn.ents, thE_len, th0, thC, thR, mI1, thE_app2, thE_cons, thE_nil]; first | done | omega); (next => simp [wkHp, wkHp1, wkEnt, lkh, I, str, Sn.v, Sn.ents, thE_len, th0, thC, thR, mI1, thE_app2, thE_cons, thE_nil])) | (refine hY1 (.t ra rb, l2 ++ [⟨u, a2, em, u0, u1, u2, u3⟩]) ?_ ?_ _ _ (mkWk [some 0, some 4, some 1, some 2, some 3] [] ?_ ?_); (next => exact (hpush [⟨u, a2, em, u0, u1, u2, u3⟩] (by simp only [List.mem_singleton]; rintro t rfl; exact ht.go nu) (by simp)).1); (next => exact (hpush [⟨u, a2, em, u0, u1, u2, u3⟩] (by simp only [List.mem_singleton]; rintro t rfl; exact ht.go nu) (by simp)).2); (next => simp [wkEnv, lk, lkh, I, str, B, U8, U64, U32, Sn.v, Sn.ents, thE_len, th0, thC, thR, mI1, thE_app2, thE_cons, thE_nil]; first | done | omega); (next => simp [wkHp, wkHp1, wkEnt, lkh, I, str, Sn.v, Sn.ents, thE_len, th0, thC, thR, mI1, thE_app2, thE_cons, thE_nil])) | (refine hY1 (.o ra, l2 ++ [⟨pc + 1, a2, em, a2, u1, u2, u3⟩]) ?_ ?_ _ _ (mkWk [some 0, some 3, some 1, some 2] [] ?_ ?_); (next => exact (hpush [⟨pc + 1, a2, em, a2, u1, u2, u3⟩] (by simp only [List.mem_singleton]; rintro t rfl; exact ht.save0 nn ⟨s1, s2⟩) (by simp)).1); (next => exact (hpush [⟨pc + 1, a2, em, a2, u1, u2, u3⟩] (by simp only [List.mem_singleton]; rintro t rfl; exact ht.save0 nn ⟨s1, s2⟩) (by simp)).2); (next => simp [wkEnv, lk, lkh, I, str, B, U8, U64, U32, Sn.v, Sn.ents, thE_len, th0, thC, thR, mI1, thE_app2, thE_cons, thE_nil]; first | done | omega); (next => simp [wkHp, wkHp1, wkEnt, lkh, I, str, Sn.v, Sn.ents, thE_len, th0, thC, thR, mI1, thE_app2, thE_cons, thE_nil])) | (refine hY1 (.t ra rb, l2 ++ [⟨pc + 1, a2, em, a2, u1, u2, u3⟩]) ?_ ?_ _ _ (mkWk [some 0, some 4, some 1, some 2, some 3] [] ?_ ?_); (next => exact (hpush [⟨pc + 1, a2, em, a2, u1, u2, u3⟩] (by simp only [List.mem_singleton]; rintro t rfl; exact ht.save0 nn ⟨s1, s2⟩) (by simp)).1); (next => exact (hpush [⟨pc + 1, a2, em, a2, u1, u2, u3⟩] (by simp only [List.mem_singleton]; rintro t rfl; exact ht.save0 nn ⟨s1, s2⟩) (by simp)).2); (next => simp [wkEnv, lk, lkh, I, str, B, U8, U64, U32, Sn.v, Sn.ents, thE_len, th0, thC, thR, mI1, thE_app2, thE_cons, thE_nil]; first | done | omega); (next => simp [wkHp, wkHp1, wkEnt, lkh, I, str, Sn.v, Sn.ents, thE_len, th0, thC, thR, mI1, thE_app2, thE_cons, thE_nil])) | (refine hY1 (.o ra, l2 ++ [⟨pc + 1, a2, em, u0, a2, u2, u3⟩]) ?_ ?_ _ _ (mkWk [some 0, some 3, some 1, some 2] [] ?_ ?_); (next => exact (hpush [⟨pc + 1, a2, em, u0, a2, u2, u3⟩] (by simp only [List.mem_singleton]; rintro t rfl; exact ht.save1 nn s1) (by simp)).1); (next => exact (hpush [⟨pc + 1, a2, em, u0, a2, u2, u3⟩] (by simp only [List.mem_singleton]; rintro t rfl; exact ht.save1 nn s1) (by simp)).2); (next => simp [wkEnv, lk, lkh, I, str, B, U8, U64, U32, Sn.v, Sn.ents, thE_len, th0, thC, thR, mI1, thE_app2, thE_cons, thE_nil]; first | done | omega); (next => simp [wkHp, wkHp1, wkEnt, lkh, I, str, Sn.v, Sn.ents, thE_len, th0, thC, thR, mI1, thE_app2, thE_cons, thE_nil])) | (refine hY1 (.t ra rb, l2 ++ [⟨pc + 1, a2, em, u0, a2, u2, u3⟩]) ?_ ?_ _ _ (mkWk [some 0, some 4, some 1, some 2, some 3] [] ?_ ?_); (next => exact (hpush [⟨pc + 1, a2, em, u0, a2, u2, u3⟩] (by simp only [List.mem_singleton]; rintro t rfl; exact ht.save1 nn s1) (by simp)).1); (next => exact (hpush [⟨pc + 1, a2, em, u0, a2, u2, u3⟩] (by simp only [List.mem_singleton]; rintro t rfl; exact ht.save1 nn s1) (by simp)).2); (next => simp [wkEnv, lk, lkh, I, str, B, U8, U64, U32, Sn.v, Sn.ents, thE_len, th0, thC, thR, mI1, thE_app2, thE_cons, thE_nil]; first | done | omega); (next => simp [wkHp, wkHp1, wkEnt, lkh, I, str, Sn.v, Sn.ents, thE_len, th0, thC, thR, mI1, thE_app2, thE_cons, thE_nil])) | (refine hY1 (.o ra, l2 ++ [⟨pc + 1, a2, em, u0, u1, a2, u3⟩]) ?_ ?_ _ _ (mkWk [some 0, some 3, some 1, some 2] [] ?_ ?_); (next => exact (hpush [⟨pc + 1, a2, em, u0, u1, a2, u3⟩] (by simp only [List.mem_singleton]; rintro t rfl; exact ht.save2 nn ⟨s1, s2⟩) (by simp)).1); (next => exact (hpush [⟨pc + 1, a2, em, u0, u1, a2, u3⟩] (by simp only [List.mem_singleton]; rintro t rfl; exact ht.save2 nn ⟨s1, s2⟩) (by simp)).2); (next => simp [wkEnv, lk, lkh, I, str, B, U8, U64, U32, Sn.v, Sn.ents, thE_len, th0, thC, thR, mI1, thE_app2, thE_cons, thE_nil]; first | done | omega); (next => simp [wkHp, wkHp1, wkEnt, lkh, I, str, Sn.v, Sn.ents, thE_len, th0, thC, thR, mI1, thE_app2, thE_cons, thE_nil])) | (refine hY1 (.t ra rb, l2 ++ [⟨pc + 1, a2, em, u0, u1, a2, u3⟩]) ?_ ?_ _ _ (mkWk [some 0, some 4, some 1, some 2, some 3] [] ?_ ?_); (next => exact (hpush [⟨pc + 1, a2, em, u0, u1, a2, u3⟩] (by simp only [List.mem_singleton]; rintro t rfl; exact ht.save2 nn ⟨s1, s2⟩) (by simp)).1); (next => exact (hpush [⟨pc + 1, a2, em, u0, u1, a2, u3⟩] (by simp only [List.mem_singleton]; rintro t rfl; exact ht.save2 nn ⟨s1, s2⟩) (by simp)).2); (next => simp [wkEnv, lk, lkh, I, str, B, U8, U64, U32, Sn.v, Sn.ents, thE_len, th0, thC, thR, mI1, thE_app2, thE_cons, thE_nil]; first | done | omega); (next => simp [wkHp, wkHp1, wkEnt, lkh, I, str, Sn.v, Sn.ents, thE_len, th0, thC, thR, mI1, thE_app2, thE_cons, thE_nil])) | (refine hY1 (.o ra, l2 ++ [⟨pc + 1, a2, em, u0, u1, u2, a2⟩]) ?_ ?_ _ _ (mkWk [some 0, some 3, some 1, some 2] [] ?_ ?_); (next => exact (hpush [⟨pc + 1, a2, em, u0, u1, u2, a2⟩] (by simp only [List.mem_singleton]; rintro t rfl; exact ht.save3 nn s1) (by simp)).1); (next => exact (hpush [⟨pc + 1, a2, em, u0, u1, u2, a2⟩] (by simp only [List.mem_singleton]; rintro t rfl; exact ht.save3 nn s1) (by simp)).2); (next => simp [wkEnv, lk, lkh, I, str, B, U8, U64, U32, Sn.v, Sn.ents, thE_len, th0, thC, thR, mI1, thE_app2, thE_cons, thE_nil]; first | done | omega); (next => simp [wkHp, wkHp1, wkEnt, lkh, I, str, Sn.v, Sn.ents, thE_len, th0, thC, thR, mI1, thE_app2, thE_cons, thE_nil])) | (refine hY1 (.t ra rb, l2 ++ [⟨pc + 1, a2, em, u0, u1, u2, a2⟩]) ?_ ?_ _ _ (mkWk [some 0, some 4, some 1, some 2, some 3] [] ?_ ?_); (next => exact (hpush [⟨pc + 1, a2, em, u0, u1, u2, a2⟩] (by simp only [List.mem_singleton]; rintro t rfl; exact ht.save3 nn s1) (by simp)).1); (next => exact (hpush [⟨pc + 1, a2, em, u0, u1, u2, a2⟩] (by simp only [List.mem_singleton]; rintro t rfl; exact ht.save3 nn s1) (by simp)).2); (next => simp [wkEnv, lk, lkh, I, str, B, U8, U64, U32, Sn.v, Sn.ents, thE_len, th0, thC, thR, mI1, thE_app2, thE_cons, thE_nil]; first | done | omega); (next => simp [wkHp, wkHp1, wkEnt, lkh, I, str, Sn.v, Sn.ents, thE_len, th0, thC, thR, mI1, thE_app2, thE_cons, thE_nil])) | (refine hY1 (.o ra, l2 ++ [⟨pc + 1, a2, 1, u0, u1, u2, u3⟩]) ?_ ?_ _ _ (mkWk [some 0, some 3, some 1, some 2] [] ?_ ?_); (next => exact (hpush [⟨pc + 1, a2, 1, u0, u1, u2, u3⟩] (by simp only [List.mem_singleton]; rintro t rfl; exact ht2) (by simp)).1); (next => exact (hpush [⟨pc + 1, a2, 1, u0, u1, u2, u3⟩] (by simp only [List.mem_singleton]; rintro t rfl; exact ht2) (by simp)).2); (next => simp [wkEnv, lk, lkh, I, str, B, U8, U64, U32, Sn.v, Sn.ents, thE_len, th0, thC, thR, mI1, thE_app2, thE_cons, thE_nil]; first | done | omega); (next => simp [wkHp, wkHp1, wkEnt, lkh, I, str, Sn.v, Sn.ents, thE_len, th0, thC, thR, mI1, thE_app2, thE_cons, thE_nil])) | (refine hY1 (.t ra rb, l2 ++ [⟨pc + 1, a2, 1, u0, u1, u2, u3⟩]) ?_ ?_ _ _ (mkWk [some 0, some 4, some 1, some 2, some 3] [] ?_ ?_); (next => exact (hpush [⟨pc + 1, a2, 1, u0, u1, u2, u3⟩] (by simp only [List.mem_singleton]; rintro t rfl; exact ht2) (by simp)).1); (next => exact (hpush [⟨pc + 1, a2, 1, u0, u1, u2, u3⟩] (by simp only [List.mem_singleton]; rintro t rfl; exact ht2) (by simp)).2); (next => simp [wkEnv, lk, lkh, I, str, B, U8, U64, U32, Sn.v, Sn.ents, thE_len, th0, thC, thR, mI1, thE_app2, thE_cons, thE_nil]; first | done | omega); (next => simp [wkHp, wkHp1, wkEnt, lkh, I, str, Sn.v, Sn.ents, thE_len, th0, thC, thR, mI1, thE_app2, thE_cons, thE_nil])) | (refine hY1 (.o ra, l2 ++ [⟨pc + 1, a2, em, u0, u1, u2, u3⟩]) ?_ ?_ _ _ (mkWk [some 0, some 3, some 1, some 2] [] ?_ ?_); (next => exact (hpush [⟨pc + 1, a2, em, u0, u1, u2, u3⟩] (by simp only [List.mem_singleton]; rintro t rfl; exact ht.go nn) (by simp)).1); (next => exact (hpush [⟨pc + 1, a2, em, u0, u1, u2, u3⟩] (by simp only [List.mem_singleton]; rintro t rfl; exact ht.go nn) (by simp)).2); (next => simp [wkEnv, lk, lkh, I, str, B, U8, U64, U32, Sn.v, Sn.ents, thE_len, th0, thC, thR, mI1, thE_app2, thE_cons, thE_nil]; first | done | omega); (next => simp [wkHp, wkHp1, wkEnt, lkh, I, str, Sn.v, Sn.ents, thE_len, th0, thC, thR, mI1, thE_app2, thE_cons, thE_nil])) | (refine hY1 (.t ra rb, l2 ++ [⟨pc + 1, a2, em, u0, u1, u2, u3⟩]) ?_ ?_ _ _ (mkWk [some 0, some 4, some 1, some 2, some 3] [] ?_ ?_); (next => exact (hpush [⟨pc + 1, a2, em, u0, u1, u2, u3⟩] (by simp only [List.mem_singleton]; rintro t rfl; exact ht.go nn) (by simp)).1); (next => exact (hpush [⟨pc + 1, a2, em, u0, u1, u2, u3⟩] (by simp only [List.mem_singleton]; rintro t rfl; exact ht.go nn) (by simp)).2); (next => simp [wkEnv, lk, lkh, I, str, B, U8, U64, U32, Sn.v, Sn.ents, thE_len, th0, thC, thR, mI1, thE_app2, thE_cons, thE_nil]; first | done | omega); (next => simp [wkHp, wkHp1, wkEnt, lkh, I, str, Sn.v, Sn.ents, thE_len, th0, thC, thR, mI1, thE_app2, thE_cons, thE_nil])) | (refine hY1 (.o ra, l2 ++ [⟨pc + 1, a2 + 1, 0, u0, u1, u2, u3⟩]) ?_ ?_ _ _ (mkWk [some 0, some 3, some 1, some 2] [] ?_ ?_); (next => exact (hpush [⟨pc + 1, a2 + 1, 0, u0, u1, u2, u3⟩] (by simp only [List.mem_singleton]; rintro t rfl; exact ht.class nn hlt9) (by simp)).1); (next => exact (hpush [⟨pc + 1, a2 + 1, 0, u0, u1, u2, u3⟩] (by simp only [List.mem_singleton]; rintro t rfl; exact ht.class nn hlt9) (by simp)).2); (next => simp [wkEnv, lk, lkh, I, str, B, U8, U64, U32, Sn.v, Sn.ents, thE_len, th0, thC, thR, mI1, thE_app2, thE_cons, thE_nil]; first | done | omega); (next => simp [wkHp, wkHp1, wkEnt, lkh, I, str, Sn.v, Sn.ents, thE_len, th0, thC, thR, mI1, thE_app2, thE_cons, thE_nil])) | (refine hY1 (.t ra rb, l2 ++ [⟨pc + 1, a2 + 1, 0, u0, u1, u2, u3⟩]) ?_ ?_ _ _ (mkWk [some 0, some 4, some 1, some 2, some 3] [] ?_ ?_); (next => exact (hpush [⟨pc + 1, a2 + 1, 0, u0, u1, u2, u3⟩] (by simp only [List.mem_singleton]; rintro t rfl; exact ht.class nn hlt9) (by simp)).1); (next => exact (hpush [⟨pc + 1, a2 + 1, 0, u0, u1, u2, u3⟩] (by simp only [List.mem_singleton]; rintro t rfl; exact ht.class nn hlt9) (by simp)).2); (next => simp [wkEnv, lk, lkh, I, str, B, U8, U64, U32, Sn.v, Sn.ents, thE_len, th0, thC, thR, mI1, thE_app2, thE_cons, thE_nil]; first | done | omega); (next => simp [wkHp, wkHp1, wkEnt, lkh, I, str, Sn.v, Sn.ents, thE_len, th0, thC, thR, mI1, thE_app2, thE_cons, thE_nil])) | (refine hY1 (.o ra, l2 ++ []) ?_ ?_ _ _ (mkWk [some 0, some 3, some 1, some 2] [] ?_ ?_); (next => exact (hpush [] (fun _ h => by simp at h) (by simp)).1); (next => exact (hpush [] (fun _ h => by simp at h) (by simp)).2); (next => simp [wkEnv, lk, lkh, I, str, B, U8, U64, U32, Sn.v, Sn.ents, thE_len, th0, thC, thR, mI1, thE_app2, thE_cons, thE_nil]; first | done | omega); (next => simp [wkHp, wkHp1, wkEnt, lkh, I, str, Sn.v, Sn.ents, thE_len, th0, thC, thR, mI1, thE_app2, thE_cons, thE_nil])) | (refine hY1 (.t ra rb, l2 ++ []) ?_ ?_ _ _ (mkWk [some 0, some 4, some 1, some 2, some 3] [] ?_ ?_); (next => exact (hpush [] (fun _ h => by simp at h) (by simp)).1); (next => exact (hpush [] (fun _ h => by simp at h) (by simp)).2); (next => simp [wkEnv, lk, lkh, I, str, B, U8, U64, U32, Sn.v, Sn.ents, thE_len, th0, thC, thR, mI1, thE_app2, thE_cons, thE_nil]; first | done | omega); (next => simp [wkHp, wkHp1, wkEnt, lkh, I, str, Sn.v, Sn.ents, thE_len, th0, thC, thR, mI1, thE_app2, thE_cons, thE_nil])))
 all_goals try refine XW.rS 41 ?_
 all_goals try refine XO.r0 3 ?_
 all_goals try refine XO.doneN [6, 7] ?_
 all_goals try (refine XW.atr ?_; first | (exact XP.rs (.inl ⟨⟨pc, a2, em, u0, u1, u2, u3⟩, rfl, ht⟩)) | (exact XP.rs (.inr rfl)))
end Go.Proofs.YtffchapiaampmaaGreatDoor
