/-
  Part 46 of the proof that logtidelaw45.ConsoleAnswer returns true for every list of bytes and every text, and leaves both as they were.
-/
import Derived.Test.YtffchapiaampmaaGreatDoorA38
import Derived.Test.YtffchapiaampmaaGreatDoorA45
import Derived.Shelf.Strings.OnBuilder
import Derived.Shelf.LaysM
import Derived.Shelf.Strconv.Itoa3
import Derived.Test.YtffchapiaampmaaGreatDoorProg
import Derived.Lib.ItoaMem
import Derived.Lib.ItoaLen
set_option linter.unusedSimpArgs false
set_option linter.unusedVariables false
namespace Go.Proofs.YtffchapiaampmaaGreatDoor
open Go.Av
set_option maxHeartbeats 4000000
set_option maxRecDepth 10000
attribute [local irreducible] XH XO PCall ACall
theorem stages18 (q : Qy) (h : QyG q) (l : List Ev) (hl : ∀ e ∈ l, EvD e) (hn : l.length ≤ 2 ^ 20) : PCall Tryz.prog 18 [.agg (qyC q), .sl 10 (evE l)] (fun r => ∃ (out : List Ev) (c : Int), r = .tup [.sl 10 (evE out), I c] ∧ out.length ≤ l.length ∧ ∀ e ∈ out, EvD e) := by
 have hb9 := h.st.1
 have qc := check33 q h
 simp only [qyC, tsC_c, List.cons_append, List.nil_append] at qc
 all_goals refine PCall.go 49 (fn := Tryz.f18) Tryz.func18 rfl rfl rfl (by simp) rfl ?_
 all_goals try refine XW.ra0 0 [1, 2] ?_
 all_goals try refine XW.rS 1 ?_
 all_goals try refine XO.r0 1 ?_
 all_goals try (refine XO.p (qc) ?_; rintro _ ⟨c, rfl⟩)
 all_goals try refine XO.r0 1 ?_
 all_goals try refine XO.done [1, 2, 6] ?_
 all_goals try refine XW.ra0 2 [1, 2, 6, 12] ?_
 all_goals try first | refine XW.cT 12 ?_ | refine XW.cF 12 ?_ | refine XW.cB 12 (fun c12 => ?_) (fun c12 => ?_)
 all_goals try refine XW.ra0 3 [4, 5] ?_
 all_goals try (refine XW.atr ?_; first | (exact XP.rn2 ⟨[], _, rfl, by simp, fun _ h => by simp at h⟩) | (exact XP.rs ⟨out, 0, rfl, m2, m3⟩))
 all_goals try refine XW.rS 4 ?_
 all_goals try refine XO.r0 1 ?_
 all_goals try refine XO.sb ?_
 all_goals try refine XO.r0 1 ?_
 all_goals try refine XO.done [2, 7] ?_
 all_goals try refine XW.ra0 5 [2, 7, 8] ?_
 all_goals try (refine XW.lp 1 (fun s : Nat × List Ev => ⟨[(2, .ptr 0 19 0 0), (7, .sl 10 (evE s.2)), (8, I (s.1 : Nat))], [(0, some ⟨33, 19, [qyC q]⟩)]⟩) (fun s => s.1 ≤ q.stages.length ∧ s.2.length ≤ l.length ∧ ∀ e ∈ s.2, EvD e) (fun s => q.stages.length - s.1) (0, l) (mkWk [some 0] [] (by simp [wkEnv, lk, lkh, I, str, B, U8, U64, U32, qyC, tsC_c, B]; first | done | omega) (by simp [wkHp, wkHp1, wkEnt, lkh, I, str, qyC, tsC_c, B])) ?_ (h0 := ⟨by simp, by simp, hl⟩); rintro ⟨i, out⟩ hI0 Y0 hY0; skip)
 all_goals try refine XW.ra0 6 [2, 7, 8, 20] ?_
 all_goals try first | refine XW.cT 20 ?_ | refine XW.cF 20 ?_ | refine XW.cB 20 (fun c20 => ?_) (fun c20 => ?_)
 all_goals try (refine XW.at 8 ?_; obtain ⟨m1, m2, m3⟩ := hI0; (try simp only at m1 m2 m3); have hi := ltC c20; obtain ⟨x, hx, hxm⟩ := getx q.stages i hi; have qs := select19 1 x.test (h.st.2 x hxm).1 out (fun e he => (m3 e he).1) (by omega); simp only [tsC_c] at qs)
 all_goals try refine XW.ra1 8 [2, 7, 8, 28] ?_
 all_goals try first | refine XW.cT 28 ?_ | refine XW.cF 28 ?_ | refine XW.cB 28 (fun c28 => ?_) (fun c28 => ?_)
 all_goals try refine XW.rS 9 ?_
 all_goals try refine XO.r1 7 ?_
 all_goals try (refine XO.p (apply34 x.src ((h.st.2 x hxm).2.1 c28) out m3 (by omega)) ?_; rintro _ ⟨o2, rfl, ol, og⟩)
 all_goals try refine XO.r0 4 ?_
 all_goals try refine XO.done [2, 7, 8] ?_
 all_goals try refine XW.rS 10 ?_
 all_goals try refine XO.r1 7 ?_
 all_goals try (refine XO.p (qs) ?_; rintro _ ⟨o2, rfl, ol, og⟩)
 all_goals try refine XO.r0 1 ?_
 all_goals try refine XO.done [2, 7, 8] ?_
 all_goals try refine XW.ra2 7 [2, 7, 8] ?_
 all_goals try (refine XH.le ?_; first | (refine hY0 (i + 1, o2) ?_ ?_ _ _ (mkWk [some 0] [] ?_ ?_); (next => exact ⟨by simp only; omega, by simp only; omega, og⟩); (next => first | omega | (simp; done) | (simp; omega)); (next => simp [wkEnv, lk, lkh, I, str, B, U8, U64, U32, qyC, tsC_c, B]; first | done | omega); (next => simp [wkHp, wkHp1, wkEnt, lkh, I, str, qyC, tsC_c, B])) | (refine hY0 (i + 1, o2) ?_ ?_ _ _ (mkWk [some 0] [] ?_ ?_); (next => exact ⟨by simp only; omega, by simp only; omega, fun e he => m3 e (og e he)⟩); (next => first | omega | (simp; done) | (simp; omega)); (next => simp [wkEnv, lk, lkh, I, str, B, U8, U64, U32, qyC, tsC_c, B]; first | done | omega); (next => simp [wkHp, wkHp1, wkEnt, lkh, I, str, qyC, tsC_c, B])))
 all_goals try (refine XW.at 11 ?_; obtain ⟨m1, m2, m3⟩ := hI0; (try simp only at m1 m2 m3))
 all_goals try refine XW.ra0 11 [4, 5] ?_
 all_goals try (refine XW.atr ?_; first | (exact XP.rn2 ⟨[], _, rfl, by simp, fun _ h => by simp at h⟩) | (exact XP.rs ⟨out, 0, rfl, m2, m3⟩))
theorem fm_step {α : Type} {f : α → S} {l : List α} {i : Nat} {x : α} (h : l[i]? = some x) : (l.take (i + 1)).flatMap f = (l.take i).flatMap f ++ f x := by
 rw [List.take_add_one, h]; simp
theorem fm_len {α : Type} {f : α → S} {l : List α} {M : Nat} (h : ∀ x ∈ l, (f x).length ≤ M) : ∀ i, ((l.take i).flatMap f).length ≤ i * M
 | 0 => by simp
 | i + 1 => by
   have ih := fm_len h i
   cases hx : l[i]? with
   | none =>
     have : l.take (i + 1) = l.take i := by rw [List.take_of_length_le (by have := List.getElem?_eq_none_iff.1 hx; omega), List.take_of_length_le (List.getElem?_eq_none_iff.1 hx)]
     rw [this, Nat.add_mul]; omega
   | some x =>
     rw [fm_step hx, List.length_append, Nat.add_mul, Nat.one_mul]
     have := h x (List.mem_of_getElem? hx)
     omega
/-- The first i numbers, with blanks between. -/
def nuO (v : List Int) : Nat → S
 | 0 => []
 | i + 1 => nuO v i ++ (if 0 < i then [32] else []) ++ decS (v.getD i 0)
def numF (v : List Int) : S := nuO v v.length
theorem nuO_len (v : List Int) : ∀ i, (nuO v i).length ≤ i * (2 ^ 20 + 1)
 | 0 => by simp [nuO]
 | i + 1 => by
   have h1 := nuO_len v i
   have h2 := decS_len (v.getD i 0)
   rw [nuO]
   generalize v.getD i 0 = x at *
   generalize nuO v i = y at *
   simp only [List.length_append]
   split
   · simp only [List.length_singleton]; omega
   · simp only [List.length_nil]; omega
theorem nuO_0 {v : List Int} {i : Nat} {x : Int} (h : v[i]? = some x) (hi : decide ((i : Int) > 0) = false) : nuO v (i + 1) = nuO v i ++ decS x := by
 have h1 := of_decide_eq_false hi
 simp only [nuO, List.getD, h, Option.getD_some]
 rw [if_neg (by omega)]; simp
theorem nuO_1 {v : List Int} {i : Nat} {x : Int} (h : v[i]? = some x) (hi : decide ((i : Int) > 0) = true) : nuO v (i + 1) = nuO v i ++ [32] ++ decS x := by
 have h1 := of_decide_eq_true hi
 simp only [nuO, List.getD, h, Option.getD_some]
 rw [if_pos (by omega)]
theorem numbers24 (v : List Int) (hv : v.length ≤ 2 ^ 20) : PCall Tryz.prog 24 [.sl 1 (intE v)] (fun r => r = str (numF v)) := by
 all_goals refine PCall.go 23 (fn := Tryz.f24) Tryz.func24 rfl rfl rfl (by simp) rfl ?_
 all_goals try refine XW.ra0 0 [0] ?_
 all_goals try refine XW.ra0 1 [0, 3] ?_
 all_goals try refine XW.ra0 2 [0, 3, 4] ?_
 all_goals try (refine XW.lp 0 (fun s : Nat × S => ⟨[(0, .sl 1 (intE v)), (3, str s.2), (4, I (s.1 : Nat))], []⟩) (fun s => s.1 ≤ v.length ∧ s.2 = nuO v s.1) (fun s => v.length - s.1) (0, []) (mkWk [] [] (by simp [wkEnv, lk, lkh, I, str, B, U8, U64, U32]; first | done | omega) (by simp [wkHp, wkHp1, wkEnt, lkh, I, str])) ?_ (h0 := ⟨by simp, rfl⟩); rintro ⟨i, out⟩ hI0 Y0 hY0; skip)
 all_goals try refine XW.ra0 3 [0, 3, 4, 8] ?_
 all_goals try first | refine XW.cT 8 ?_ | refine XW.cF 8 ?_ | refine XW.cB 8 (fun c8 => ?_) (fun c8 => ?_)
 all_goals try (refine XW.at 5 ?_; obtain ⟨m1, m2⟩ := hI0; (try simp only at m1 m2); have hol := nuO_len v i; rw [← m2] at hol; have hi := ltC c8; obtain ⟨x, hx, hxm⟩ := getx v i hi; have hdl := decS_len x)
 all_goals try refine XW.ra0 5 [0, 3, 4, 12] ?_
 all_goals try first | refine XW.cT 12 ?_ | refine XW.cF 12 ?_ | refine XW.cB 12 (fun c12 => ?_) (fun c12 => ?_)
 all_goals try refine XW.ra2 6 [0, 3, 4] ?_
 all_goals try refine XW.rS 7 ?_
 all_goals try refine XO.r1 5 ?_
 all_goals try (refine XO.p (decimal48 _) ?_; rintro _ rfl)
 all_goals try refine XO.r2 2 ?_
 all_goals try refine XO.done [0, 3, 4] ?_
 all_goals try refine XW.ra2 4 [0, 3, 4] ?_
 all_goals try (refine XH.le ?_; first | (refine hY0 (i + 1, out ++ [32] ++ decS x) ?_ ?_ _ _ (mkWk [] [] ?_ ?_); (next => (refine ⟨?_, ?_⟩ <;> first | (simp only; omega) | (simp only; rw [nuO_1 hx c12, m2]))); (next => first | omega | (simp; done) | (simp; omega)); (next => simp [wkEnv, lk, lkh, I, str, B, U8, U64, U32]; first | done | omega); (next => simp [wkHp, wkHp1, wkEnt, lkh, I, str])) | (refine hY0 (i + 1, out ++ decS x) ?_ ?_ _ _ (mkWk [] [] ?_ ?_); (next => (refine ⟨?_, ?_⟩ <;> first | (simp only; omega) | (simp only; rw [nuO_0 hx c12, m2]))); (next => first | omega | (simp; done) | (simp; omega)); (next => simp [wkEnv, lk, lkh, I, str, B, U8, U64, U32]; first | done | omega); (next => simp [wkHp, wkHp1, wkEnt, lkh, I, str])))
 all_goals try (refine XW.at 8 ?_; obtain ⟨m1, m2⟩ := hI0; (try simp only at m1 m2); have h9 := geC c8; obtain rfl : i = v.length := (by omega))
 all_goals try refine XW.ra0 8 [2] ?_
 all_goals try (refine XW.atr ?_; first | (exact XP.rs (by unfold numF; rw [← m2])))
/-- The line of a row. -/
def rowF (sk : Int) (r : Rw) : S := (if sk = 0 then (r.key.flatMap fun k => quF k ++ [32]) ++ numF r.vals else (r.key.flatMap fun k => quF k ++ [32]) ++ numF r.vals ++ ([32, 101, 114, 114, 111, 114, 32] ++ numF [r.n])) ++ [10]
theorem bne0 {x : Int} (h : (x != 0) = false) : x = 0 := by simpa using h
theorem numF_len (v : List Int) : (numF v).length ≤ v.length * (2 ^ 20 + 1) := nuO_len v _
/-- A row that is printed. -/
def RwP (y : Rw) : Prop := y.key.length ≤ 2 ^ 10 ∧ (∀ k ∈ y.key, k.length ≤ 2 ^ 20) ∧ y.vals.length ≤ 2 ^ 20 ∧ (∀ v ∈ y.vals, In64 v) ∧ In64 y.n
theorem rowK_len {y : Rw} (h : RwP y) (i : Nat) : ((y.key.take i).flatMap fun k => quF k ++ [32]).length ≤ i * 2 ^ 23 := fm_len (fun k hk => by
 have := quF_len k
 have := h.2.1 k hk
 rw [List.length_append]; simp; omega) i
theorem flat_all {α : Type} (f : α → S) (l : List α) : (l.take l.length).flatMap f = l.flatMap f := by rw [List.take_length]
theorem row26 (q : Qy) (y : Rw) (hy : RwP y) : PCall Tryz.prog 26 [.agg (qyC q), .agg (rwC y)] (fun r => r = str (rowF q.sketch y)) := by
 have hkl := hy.1
 have hvl := hy.2.2.1
 all_goals refine PCall.go 40 (fn := Tryz.f26) Tryz.func26 rfl rfl rfl (by simp) rfl ?_
 all_goals try refine XW.ra0 0 [2, 3] ?_
 all_goals try refine XW.ra0 1 [2, 3, 5] ?_
 all_goals try refine XW.ra0 2 [2, 3, 5, 6] ?_
 all_goals try (refine XW.lp 2 (fun s : Nat × S => ⟨[(2, .ptr 0 19 0 0), (3, .ptr 1 3 0 0), (5, str s.2), (6, I (s.1 : Nat))], [(0, some ⟨33, 19, [qyC q]⟩), (1, some ⟨80, 3, [rwC y]⟩)]⟩) (fun s => s.1 ≤ y.key.length ∧ s.2 = (y.key.take s.1).flatMap fun k => quF k ++ [32]) (fun s => y.key.length - s.1) (0, []) (mkWk [some 0, some 1] [] (by simp [wkEnv, lk, lkh, I, str, B, U8, U64, U32, qyC, tsC_c, rwC, B]; first | done | omega) (by simp [wkHp, wkHp1, wkEnt, lkh, I, str, qyC, tsC_c, rwC, B])) ?_ (h0 := ⟨by simp, by simp⟩); rintro ⟨i, out⟩ hI0 Y0 hY0; skip)
 all_goals try refine XW.ra0 3 [2, 3, 5, 6, 11] ?_
 all_goals try first | refine XW.cT 11 ?_ | refine XW.cF 11 ?_ | refine XW.cB 11 (fun c11 => ?_) (fun c11 => ?_)
 all_goals try (refine XW.at 5 ?_; obtain ⟨m1, m2⟩ := hI0; (try simp only at m1 m2); have hol := rowK_len hy i; rw [← m2] at hol; have hi := ltC c11; obtain ⟨k, hx, hxm⟩ := getx y.key i hi; have hkk := hy.2.1 k hxm; have hql := quF_len k; have hst := fm_step (f := fun k => quF k ++ [32]) hx; rw [← m2] at hst)
 all_goals try refine XW.rS 5 ?_
 all_goals try refine XO.r1 6 ?_
 all_goals try (refine XO.p (quote12 k (by omega)) ?_; rintro _ rfl)
 all_goals try refine XO.r2 3 ?_
 all_goals try refine XO.done [2, 3, 5, 6] ?_
 all_goals try refine XW.ra2 4 [2, 3, 5, 6] ?_
 all_goals try (refine XH.le ?_; first | (exact hY0 (i + 1, out ++ (quF k ++ [32])) (by (refine ⟨?_, ?_⟩ <;> first | (simp only; omega) | (simp only; rw [hst]))) (by first | omega | (simp; done) | (simp; omega)) _ _ (mkWk [some 0, some 1] [] (by simp [wkEnv, lk, lkh, I, str, B, U8, U64, U32, qyC, tsC_c, rwC, B]; first | done | omega) (by simp [wkHp, wkHp1, wkEnt, lkh, I, str, qyC, tsC_c, rwC, B]))))
 all_goals try (refine XW.at 6 ?_; obtain ⟨m1, m2⟩ := hI0; (try simp only at m1 m2); have h9 := geC c11; obtain rfl : i = y.key.length := (by omega); have hol := rowK_len hy y.key.length; rw [← m2] at hol; rw [flat_all] at m2; have hnl := numF_len y.vals; have hnl2 := numF_len [y.n]; simp only [List.length_singleton] at hnl2; have hnl3 : (numF y.vals).length ≤ 2 ^ 50 := Nat.le_trans hnl (Nat.le_trans (Nat.mul_le_mul hvl (Nat.le_refl _)) (by decide)); have hol2 : out.length ≤ 2 ^ 43 := Nat.le_trans hol (Nat.le_trans (Nat.mul_le_mul hkl (Nat.le_refl _)) (by decide)))
 all_goals try refine XW.rS 6 ?_
 all_goals try refine XO.r0 3 ?_
 all_goals try (refine XO.p (numbers24 y.vals hvl) ?_; rintro _ rfl)
 all_goals try refine XO.r2 2 ?_
 all_goals try refine XO.done [2, 3, 5] ?_
 all_goals try refine XW.ra0 7 [3, 5, 30] ?_
 all_goals try first | refine XW.cT 30 ?_ | refine XW.cF 30 ?_ | refine XW.cB 30 (fun c30 => ?_) (fun c30 => ?_)
 all_goals try refine XW.rS 8 ?_
 all_goals try refine XO.r0 3 ?_
 all_goals try refine XO.sb ?_
 all_goals try (refine XO.p (numbers24 [y.n] (by simp)) ?_; rintro _ rfl)
 all_goals try refine XO.r2 3 ?_
 all_goals try refine XO.done [5] ?_
 all_goals try refine XW.ra2 9 [4] ?_
 all_goals try (refine XW.atr ?_; first | (exact XP.rs (by unfold rowF; rw [if_neg (bne_iff_ne.1 c30), ← m2])) | (exact XP.rs (by unfold rowF; rw [if_pos (bne0 c30), ← m2])))
/-- What an answer holds. -/
structure AnOk (q : Qy) (es : List Ev) (rs : List Rw) (ps : List (Ev × Ev)) : Prop where
 e0 : q.kind ≠ 0 → es = []
 r0 : q.kind ≠ 1 → q.kind ≠ 2 → rs = []
 p0 : q.kind ≠ 3 → ps = []
 el : es.length ≤ 2 ^ 20 ∧ ∀ e ∈ es, EvD e
 rl : rs.length ≤ 36 ∧ ∀ y ∈ rs, RwP y
 rv : ∀ y ∈ rs, y.vals ≠ []
 pl : ps.length ≤ 2 ^ 20 ∧ ∀ x ∈ ps, EvD x.1 ∧ EvD x.2
theorem AnOk.no (q : Qy) : AnOk q [] [] [] := ⟨fun _ => rfl, fun _ _ => rfl, fun _ => rfl, ⟨by simp, fun _ h => by simp at h⟩, ⟨by simp, fun _ h => by simp at h⟩, (fun _ h => by simp at h), ⟨by simp, fun _ h => by simp at h⟩⟩
/-- An answer's three lists, of which any may be nil. -/
def AnR (q : Qy) : AV → Prop := fun r => ∃ (a b c : AV) (es : List Ev) (rs : List Rw) (ps : List (Ev × Ev)) (n : Int), r = .tup [.agg [a, b, c], I n] ∧ AnOk q es rs ps ∧ (a = .sl 10 (evE es) ∨ a = nilV ∧ es = []) ∧ (b = .sl 3 (rwE rs) ∨ b = nilV ∧ rs = []) ∧ (c = .sl 20 (prE ps) ∨ c = nilV ∧ ps = [])
theorem AnR.no {q : Qy} {n : Int} : AnR q (.tup [.agg [nilV, nilV, nilV], I n]) := ⟨_, _, _, [], [], [], n, rfl, AnOk.no q, .inr ⟨rfl, rfl⟩, .inr ⟨rfl, rfl⟩, .inr ⟨rfl, rfl⟩⟩
theorem AnR.ev {q : Qy} {es : List Ev} (h : q.kind = 0) (h1 : es.length ≤ 2 ^ 20) (h2 : ∀ e ∈ es, EvD e) : AnR q (.tup [.agg [.sl 10 (evE es), nilV, nilV], I 0]) :=
 ⟨_, _, _, es, [], [], 0, rfl, ⟨fun h' => absurd h h', fun _ _ => rfl, fun _ => rfl, ⟨h1, h2⟩, ⟨by simp, fun _ h => by simp at h⟩, (fun _ h => by simp at h), ⟨by simp, fun _ h => by simp at h⟩⟩, .inl rfl, .inr ⟨rfl, rfl⟩, .inr ⟨rfl, rfl⟩⟩
theorem AnR.rw {q : Qy} {rs : List Rw} (h : q.kind = 1 ∨ q.kind = 2) (h1 : rs.length ≤ 36) (h2 : ∀ e ∈ rs, RwP e) (h3 : ∀ e ∈ rs, e.vals ≠ []) : AnR q (.tup [.agg [nilV, .sl 3 (rwE rs), nilV], I 0]) :=
 ⟨_, _, _, [], rs, [], 0, rfl, ⟨fun _ => rfl, fun a b => (h.elim a b).elim, fun _ => rfl, ⟨by simp, fun _ h => by simp at h⟩, ⟨h1, h2⟩, h3, ⟨by simp, fun _ h => by simp at h⟩⟩, .inr ⟨rfl, rfl⟩, .inl rfl, .inr ⟨rfl, rfl⟩⟩
theorem AnR.pr {q : Qy} {ps : List (Ev × Ev)} (h : q.kind = 3) (h1 : ps.length ≤ 2 ^ 20) (h2 : ∀ x ∈ ps, EvD x.1 ∧ EvD x.2) : AnR q (.tup [.agg [nilV, nilV, .sl 20 (prE ps)], I 0]) :=
 ⟨_, _, _, [], [], ps, 0, rfl, ⟨fun _ => rfl, fun _ _ => rfl, fun h' => absurd h h', ⟨by simp, fun _ h => by simp at h⟩, ⟨by simp, fun _ h => by simp at h⟩, (fun _ h => by simp at h), ⟨h1, h2⟩⟩, .inr ⟨rfl, rfl⟩, .inr ⟨rfl, rfl⟩, .inl rfl⟩
theorem RwB.p {l : List Rw} (h : RwB l) : ∀ y ∈ l, RwP y := fun y hy => ⟨(h y hy).1, (h y hy).2.1, (h y hy).2.2.2.2.2, (h y hy).2.2.2.1, (h y hy).2.2.2.2.1⟩
theorem RwN.p {n : Nat} {l : List Rw} (h : RwN n l) (hn : n ≤ 2 ^ 20) : ∀ y ∈ l, RwP y := fun y hy => ⟨(h y hy).1, (h y hy).2.1, by rw [(h y hy).2.2.1]; exact hn, (h y hy).2.2.2.1, (h y hy).2.2.2.2⟩
theorem RwN.b {n : Nat} {l : List Rw} (h : RwN n l) (hn : n = 1) : RwB l := fun y hy => ⟨(h y hy).1, (h y hy).2.1, by
 have := (h y hy).2.2.1
 cases hv : y.vals with
 | nil => rw [hv] at this; simp at this; omega
 | cons a t => exact ⟨a, t, rfl⟩, (h y hy).2.2.2.1, (h y hy).2.2.2.2, by rw [(h y hy).2.2.1]; omega⟩
theorem RwB.v {l : List Rw} (h : RwB l) : ∀ y ∈ l, y.vals ≠ [] := fun y hy => by
 obtain ⟨a, t, e⟩ := (h y hy).2.2.1
 rw [e]; simp
theorem RwN.v {n : Nat} {l : List Rw} (h : RwN n l) (hn : 1 ≤ n) : ∀ y ∈ l, y.vals ≠ [] := fun y hy e => by
 have := (h y hy).2.2.1
 rw [e] at this; simp at this; omega
theorem QyG.a12 {q : Qy} (h : QyG q) (k : q.kind = 1 ∨ q.kind = 2) : 1 ≤ q.aggs.length := k.elim h.ag1 (fun k => by rw [h.one k]; omega)
theorem kinds {q : Qy} (h : QyG q) : q.kind = 0 ∨ q.kind = 1 ∨ q.kind = 2 ∨ q.kind = 3 := by
 rcases h.shape with ⟨_, _, _, _, rfl⟩ | ⟨_, _, _, _, rfl⟩ | ⟨_, _, _, _, _, _, rfl⟩ | ⟨_, _, _, _, _, _, rfl⟩ <;> simp
theorem pick49 {k s : Int} (h : (k == 2) = true) (h2 : (s != 0) = true) (h0 : 0 ≤ s) : k = 2 ∧ 1 ≤ s := by
 have h1 : k = 2 := by simpa using h
 have h3 : s ≠ 0 := by simpa using h2
 exact ⟨h1, by omega⟩
theorem finish20 (q : Qy) (h : QyG q) (l o : List Ev) (hl : ∀ e ∈ l, EvD e) (hn : l.length ≤ 36) (ho : ∀ e ∈ o, EvD e) (hm : o.length ≤ 36) : PCall Tryz.prog 20 [.agg (qyC q), .sl 10 (evE l), .sl 10 (evE o)] (AnR q) := by
 have hk := kinds h
 have hnl := h.names.1
 have hal := h.aggs.1
 have hsk := h.sk
 have qc := check33 q h
 have hn2 : l.length ≤ 2 ^ 20 := (by omega)
 have hm2 : o.length ≤ 2 ^ 20 := (by omega)
 have qe := events36 q l hn2
 have qp := pairs37 l o q.key q.window (fun e he => (hl e he).1) (fun e he => (ho e he).1) hn2 hm2
 have qco := collect42 q.names q.aggs l (by omega) (by omega) (fun e he => (hl e he).1) hn2
 simp only [qyC, tsC_c, List.cons_append, List.nil_append] at qc qe
 all_goals refine PCall.go 90 (fn := Tryz.f20) Tryz.func20 rfl rfl rfl (by simp) rfl ?_
 all_goals try refine XW.ra0 0 [1, 2, 3, 6] ?_
 all_goals try refine XW.rS 1 ?_
 all_goals try refine XO.r0 1 ?_
 all_goals try (refine XO.p (qc) ?_; rintro _ ⟨c, rfl⟩)
 all_goals try refine XO.r0 1 ?_
 all_goals try refine XO.done [1, 2, 3, 6, 8] ?_
 all_goals try refine XW.ra0 2 [1, 2, 3, 6, 8, 15] ?_
 all_goals try first | refine XW.cT 15 ?_ | refine XW.cF 15 ?_ | refine XW.cB 15 (fun c15 => ?_) (fun c15 => ?_)
 all_goals try refine XW.ra0 3 [6, 7] ?_
 all_goals try (refine XW.atr ?_; first | (exact XP.rs AnR.no) | (exact XP.rs (AnR.ev (beq_iff_eq.1 c18) (by omega) (fun e he => hl e (em e he)))) | (exact XP.rs (AnR.pr (beq_iff_eq.1 c26) (by omega) (fun x hx => ⟨hl _ (pm x (pm2 x hx)).1, ho _ (pm x (pm2 x hx)).2⟩))) | (exact XP.rs (AnR.rw (.inr p49.1) (by omega) ob.p ob.v)) | (exact XP.rs (AnR.rw (.inr (beq_iff_eq.1 c83)) (by omega) ob.p ob.v)) | (exact XP.rs (AnR.rw k12 (by omega) (rn.p (by omega)) (rn.v (h.a12 k12)))))
 all_goals try refine XW.ra0 4 [1, 2, 3, 6, 18] ?_
 all_goals try first | refine XW.cT 18 ?_ | refine XW.cF 18 ?_ | refine XW.cB 18 (fun c18 => ?_) (fun c18 => ?_)
 all_goals try refine XW.rS 5 ?_
 all_goals try refine XO.r0 2 ?_
 all_goals try (refine XO.p (qe) ?_; rintro _ ⟨es, rfl, el, em⟩)
 all_goals try refine XO.r0 3 ?_
 all_goals try refine XO.done [6, 7] ?_
 all_goals try (refine XW.atr ?_; first | (exact XP.rs AnR.no) | (exact XP.rs (AnR.ev (beq_iff_eq.1 c18) (by omega) (fun e he => hl e (em e he)))) | (exact XP.rs (AnR.pr (beq_iff_eq.1 c26) (by omega) (fun x hx => ⟨hl _ (pm x (pm2 x hx)).1, ho _ (pm x (pm2 x hx)).2⟩))) | (exact XP.rs (AnR.rw (.inr p49.1) (by omega) ob.p ob.v)) | (exact XP.rs (AnR.rw (.inr (beq_iff_eq.1 c83)) (by omega) ob.p ob.v)) | (exact XP.rs (AnR.rw k12 (by omega) (rn.p (by omega)) (rn.v (h.a12 k12)))))
 all_goals try refine XW.ra0 6 [1, 2, 3, 6, 26] ?_
 all_goals try first | refine XW.cT 26 ?_ | refine XW.cF 26 ?_ | refine XW.cB 26 (fun c26 => ?_) (fun c26 => ?_)
 all_goals try refine XW.rS 7 ?_
 all_goals try refine XO.r0 6 ?_
 all_goals try (refine XO.p (qp) ?_; rintro _ ⟨ps, c2, rfl, pl, pm⟩)
 all_goals try refine XO.r0 5 ?_
 all_goals try refine XO.done [3, 6, 9, 10] ?_
 all_goals try refine XW.ra0 8 [3, 6, 9, 10, 41] ?_
 all_goals try first | refine XW.cT 41 ?_ | refine XW.cF 41 ?_ | refine XW.cB 41 (fun c41 => ?_) (fun c41 => ?_)
 all_goals try refine XW.ra0 9 [6, 7] ?_
 all_goals try (refine XW.atr ?_; first | (exact XP.rs AnR.no) | (exact XP.rs (AnR.ev (beq_iff_eq.1 c18) (by omega) (fun e he => hl e (em e he)))) | (exact XP.rs (AnR.pr (beq_iff_eq.1 c26) (by omega) (fun x hx => ⟨hl _ (pm x (pm2 x hx)).1, ho _ (pm x (pm2 x hx)).2⟩))) | (exact XP.rs (AnR.rw (.inr p49.1) (by omega) ob.p ob.v)) | (exact XP.rs (AnR.rw (.inr (beq_iff_eq.1 c83)) (by omega) ob.p ob.v)) | (exact XP.rs (AnR.rw k12 (by omega) (rn.p (by omega)) (rn.v (h.a12 k12)))))
 all_goals try refine XW.rS 10 ?_
 all_goals try refine XO.r0 3 ?_
 all_goals try (refine XO.p (limit38 ps q.limit (by omega)) ?_; rintro _ ⟨ps2, rfl, pl2, pm2⟩)
 all_goals try refine XO.r0 3 ?_
 all_goals try refine XO.done [6, 7] ?_
 all_goals try (refine XW.atr ?_; first | (exact XP.rs AnR.no) | (exact XP.rs (AnR.ev (beq_iff_eq.1 c18) (by omega) (fun e he => hl e (em e he)))) | (exact XP.rs (AnR.pr (beq_iff_eq.1 c26) (by omega) (fun x hx => ⟨hl _ (pm x (pm2 x hx)).1, ho _ (pm x (pm2 x hx)).2⟩))) | (exact XP.rs (AnR.rw (.inr p49.1) (by omega) ob.p ob.v)) | (exact XP.rs (AnR.rw (.inr (beq_iff_eq.1 c83)) (by omega) ob.p ob.v)) | (exact XP.rs (AnR.rw k12 (by omega) (rn.p (by omega)) (rn.v (h.a12 k12)))))
 all_goals try refine XW.rS 11 ?_
 all_goals try refine XO.r0 4 ?_
 all_goals try first | refine XO.kT 53 ?_ | refine XO.kF 53 ?_ | refine XO.split 53 (fun g53 => ?_) (fun g53 => ?_)
 all_goals try refine XO.r0 5 ?_
 all_goals try refine XO.done [1, 3, 6, 49] ?_
 all_goals try first | refine XW.cT 49 ?_ | refine XW.cF 49 ?_ | refine XW.cB 49 (fun c49 => ?_) (fun c49 => ?_)
 all_goals try (refine XW.at 12 ?_; have p49 := pick49 g53 c49 hsk)
 all_goals try refine XW.rS 12 ?_
 all_goals try refine XO.r0 5 ?_
 all_goals try (refine XO.p (sketch40 q.sketch q.names l p49.2 (by omega) (fun e he => (hl e he).1) hn2) ?_; rintro _ ⟨cs, rfl, cl, cb⟩)
 all_goals try refine XO.r0 2 ?_
 all_goals try (refine XO.p (best39 cs q.limit cb (by omega)) ?_; rintro _ ⟨rs, rfl, rl, ob⟩)
 all_goals try refine XO.r0 3 ?_
 all_goals try refine XO.done [6, 7] ?_
 all_goals try (refine XW.atr ?_; first | (exact XP.rs AnR.no) | (exact XP.rs (AnR.ev (beq_iff_eq.1 c18) (by omega) (fun e he => hl e (em e he)))) | (exact XP.rs (AnR.pr (beq_iff_eq.1 c26) (by omega) (fun x hx => ⟨hl _ (pm x (pm2 x hx)).1, ho _ (pm x (pm2 x hx)).2⟩))) | (exact XP.rs (AnR.rw (.inr p49.1) (by omega) ob.p ob.v)) | (exact XP.rs (AnR.rw (.inr (beq_iff_eq.1 c83)) (by omega) ob.p ob.v)) | (exact XP.rs (AnR.rw k12 (by omega) (rn.p (by omega)) (rn.v (h.a12 k12)))))
 all_goals try refine XW.rS 13 ?_
 all_goals try refine XO.r0 7 ?_
 all_goals try (refine XO.p (qco) ?_; rintro _ ⟨ac, rfl, al, ab⟩)
 all_goals try (refine XO.p (rows41 q.aggs ac l.length ab (by omega) (by omega)) ?_; rintro _ ⟨rs, rfl, rl, rn⟩)
 all_goals try refine XO.r0 1 ?_
 all_goals try refine XO.done [3, 6, 11] ?_
 all_goals try refine XW.ra0 14 [3, 6, 11, 79] ?_
 all_goals try first | refine XW.cT 79 ?_ | refine XW.cF 79 ?_ | refine XW.cB 79 (fun c79 => ?_) (fun c79 => ?_)
 all_goals try refine XW.ra0 15 [6, 7] ?_
 all_goals try (refine XW.atr ?_; first | (exact XP.rs AnR.no) | (exact XP.rs (AnR.ev (beq_iff_eq.1 c18) (by omega) (fun e he => hl e (em e he)))) | (exact XP.rs (AnR.pr (beq_iff_eq.1 c26) (by omega) (fun x hx => ⟨hl _ (pm x (pm2 x hx)).1, ho _ (pm x (pm2 x hx)).2⟩))) | (exact XP.rs (AnR.rw (.inr p49.1) (by omega) ob.p ob.v)) | (exact XP.rs (AnR.rw (.inr (beq_iff_eq.1 c83)) (by omega) ob.p ob.v)) | (exact XP.rs (AnR.rw k12 (by omega) (rn.p (by omega)) (rn.v (h.a12 k12)))))
 all_goals try refine XW.ra0 16 [3, 6, 11, 83] ?_
 all_goals try first | refine XW.cT 83 ?_ | refine XW.cF 83 ?_ | refine XW.cB 83 (fun c83 => ?_) (fun c83 => ?_)
 all_goals try refine XW.rS 17 ?_
 all_goals try refine XO.r0 3 ?_
 all_goals try (refine XO.p (exact43 rs q.limit (rn.b (h.one (beq_iff_eq.1 c83))) (by omega)) ?_; rintro _ ⟨rs2, rfl, rl2, ob⟩)
 all_goals try refine XO.r0 1 ?_
 all_goals try refine XO.done [6, 11] ?_
 all_goals try (refine XW.at 18 ?_; try (have k12 : q.kind = 1 ∨ q.kind = 2 := (by have a1 := beq_eq_false_iff_ne.1 c18; have a2 := beq_eq_false_iff_ne.1 c26; omega)))
 all_goals try refine XW.ra0 18 [6, 7] ?_
 all_goals try (refine XW.atr ?_; first | (exact XP.rs AnR.no) | (exact XP.rs (AnR.ev (beq_iff_eq.1 c18) (by omega) (fun e he => hl e (em e he)))) | (exact XP.rs (AnR.pr (beq_iff_eq.1 c26) (by omega) (fun x hx => ⟨hl _ (pm x (pm2 x hx)).1, ho _ (pm x (pm2 x hx)).2⟩))) | (exact XP.rs (AnR.rw (.inr p49.1) (by omega) ob.p ob.v)) | (exact XP.rs (AnR.rw (.inr (beq_iff_eq.1 c83)) (by omega) ob.p ob.v)) | (exact XP.rs (AnR.rw k12 (by omega) (rn.p (by omega)) (rn.v (h.a12 k12)))))
theorem run8 (q : Qy) (h : QyG q) (l : List Ev) (hl : ∀ e ∈ l, EvD e) (hn : l.length ≤ 36) : PCall Tryz.prog 8 [.agg (qyC q), .sl 10 (evE l)] (AnR q) := by
 have qs := select19 2 q.test h.test l (fun e he => (hl e he).1) (by omega)
 have qo := select19 1 q.other h.other l (fun e he => (hl e he).1) (by omega)
 have qg := fun l1 h1 h2 => stages18 q h l1 h1 h2
 have qf := fun l1 o1 h1 h2 h3 h4 => finish20 q h l1 o1 h1 h2 h3 h4
 simp only [qyC, tsC_c, List.cons_append, List.nil_append] at qs qo qg qf
 all_goals refine PCall.go 30 (fn := Tryz.f8) Tryz.func8 rfl rfl rfl (by simp) rfl ?_
 all_goals try refine XW.ra0 0 [1, 2, 4] ?_
 all_goals try refine XW.rS 1 ?_
 all_goals try refine XO.r0 4 ?_
 all_goals try (refine XO.p (qs) ?_; rintro _ ⟨l1, rfl, ll, lm⟩)
 all_goals try (refine XO.p (qg l1 (fun e he => hl e (lm e he)) (by omega)) ?_; rintro _ ⟨l2, c, rfl, l2l, l2d⟩)
 all_goals try refine XO.r0 5 ?_
 all_goals try refine XO.done [1, 2, 4, 6, 7] ?_
 all_goals try refine XW.ra0 2 [1, 2, 4, 6, 7, 18] ?_
 all_goals try first | refine XW.cT 18 ?_ | refine XW.cF 18 ?_ | refine XW.cB 18 (fun c18 => ?_) (fun c18 => ?_)
 all_goals try refine XW.ra0 3 [4, 5] ?_
 all_goals try (refine XW.atr ?_; first | (exact XP.rs AnR.no) | (exact XP.rs ⟨_, _, _, es, rs, ps, n, rfl, ok, .inl rfl, .inl rfl, .inl rfl⟩) | (exact XP.rs ⟨_, _, _, es, rs, ps, n, rfl, ok, .inl rfl, .inl rfl, .inr ⟨rfl, hp⟩⟩) | (exact XP.rs ⟨_, _, _, es, rs, ps, n, rfl, ok, .inl rfl, .inr ⟨rfl, hr⟩, .inl rfl⟩) | (exact XP.rs ⟨_, _, _, es, rs, ps, n, rfl, ok, .inl rfl, .inr ⟨rfl, hr⟩, .inr ⟨rfl, hp⟩⟩) | (exact XP.rs ⟨_, _, _, es, rs, ps, n, rfl, ok, .inr ⟨rfl, he⟩, .inl rfl, .inl rfl⟩) | (exact XP.rs ⟨_, _, _, es, rs, ps, n, rfl, ok, .inr ⟨rfl, he⟩, .inl rfl, .inr ⟨rfl, hp⟩⟩) | (exact XP.rs ⟨_, _, _, es, rs, ps, n, rfl, ok, .inr ⟨rfl, he⟩, .inr ⟨rfl, hr⟩, .inl rfl⟩) | (exact XP.rs ⟨_, _, _, es, rs, ps, n, rfl, ok, .inr ⟨rfl, he⟩, .inr ⟨rfl, hr⟩, .inr ⟨rfl, hp⟩⟩))
 all_goals try refine XW.rS 4 ?_
 all_goals try refine XO.r0 5 ?_
 all_goals try (refine XO.p (qo) ?_; rintro _ ⟨o, rfl, ol, om⟩)
 all_goals try (refine XO.p (qf l2 o l2d (by omega) (fun e he => hl e (om e he)) (by omega)) ?_; rintro _ ⟨a, b, c9, es, rs, ps, n, rfl, ok, ha, hb, hc⟩; rcases ha with rfl | ⟨rfl, he⟩ <;> rcases hb with rfl | ⟨rfl, hr⟩ <;> rcases hc with rfl | ⟨rfl, hp⟩)
 all_goals try refine XO.r0 4 ?_
 all_goals try refine XO.done [4, 5] ?_
 all_goals try (refine XW.atr ?_; first | (exact XP.rs AnR.no) | (exact XP.rs ⟨_, _, _, es, rs, ps, n, rfl, ok, .inl rfl, .inl rfl, .inl rfl⟩) | (exact XP.rs ⟨_, _, _, es, rs, ps, n, rfl, ok, .inl rfl, .inl rfl, .inr ⟨rfl, hp⟩⟩) | (exact XP.rs ⟨_, _, _, es, rs, ps, n, rfl, ok, .inl rfl, .inr ⟨rfl, hr⟩, .inl rfl⟩) | (exact XP.rs ⟨_, _, _, es, rs, ps, n, rfl, ok, .inl rfl, .inr ⟨rfl, hr⟩, .inr ⟨rfl, hp⟩⟩) | (exact XP.rs ⟨_, _, _, es, rs, ps, n, rfl, ok, .inr ⟨rfl, he⟩, .inl rfl, .inl rfl⟩) | (exact XP.rs ⟨_, _, _, es, rs, ps, n, rfl, ok, .inr ⟨rfl, he⟩, .inl rfl, .inr ⟨rfl, hp⟩⟩) | (exact XP.rs ⟨_, _, _, es, rs, ps, n, rfl, ok, .inr ⟨rfl, he⟩, .inr ⟨rfl, hr⟩, .inl rfl⟩) | (exact XP.rs ⟨_, _, _, es, rs, ps, n, rfl, ok, .inr ⟨rfl, he⟩, .inr ⟨rfl, hr⟩, .inr ⟨rfl, hp⟩⟩))
end Go.Proofs.YtffchapiaampmaaGreatDoor
namespace Go.Proofs.YtffchapiaampmaaGreatDoor
open Go.Av
theorem ACall.imp9 {P : Program} {g : FuncId} {xs : List AV} {r r' : AV} (h : ACall P g xs [] r []) (hr : ∀ (w : World) (β : Gm) (O : Nat → Prop) (v : Value), Rep w β O r v → Rep w β O r' v) : ACall P g xs [] r' [] := by
 refine ⟨h.1, fun X w β vs k1 k2 k3 => (h.2 X w β vs k1 k2 k3).mono ?_⟩
 rintro e w' ⟨v, β', rfl, g1, g2⟩
 exact ⟨v, β', rfl, hr _ _ _ _ g1, g2⟩
theorem nil_sl {w : World} {β : Gm} {O : Nat → Prop} {v : Value} {sz : Nat} (h : Rep w β O nilV v) : Rep w β O (.sl sz []) v := by
 simp only [nilV, Rep] at h ⊢
 exact .inl ⟨h, trivial⟩
/-- Run: the three lists of an answer. -/
theorem run8s (q : Qy) (h : QyG q) (l : List Ev) (hl : ∀ e ∈ l, EvD e) (hn : l.length ≤ 36) : ∃ (es : List Ev) (rs : List Rw) (ps : List (Ev × Ev)) (n : Int), AnOk q es rs ps ∧ ACall Tryz.prog 8 [.agg (qyC q), .sl 10 (evE l)] [] (.tup [.agg [.sl 10 (evE es), .sl 3 (rwE rs), .sl 20 (prE ps)], I n]) [] := by
 obtain ⟨_, ⟨a, b, c, es, rs, ps, n, rfl, ok, ha, hb, hc⟩, _, hq⟩ := run8 q h l hl hn
 refine ⟨es, rs, ps, n, ok, ACall.imp9 hq ?_⟩
 intro w β O v hv
 have fa : ∀ u, Rep w β O a u → Rep w β O (.sl 10 (evE es)) u := by
   rcases ha with rfl | ⟨rfl, he⟩
   · exact fun _ h => h
   · subst he; exact fun _ h => nil_sl h
 have fb : ∀ u, Rep w β O b u → Rep w β O (.sl 3 (rwE rs)) u := by
   rcases hb with rfl | ⟨rfl, he⟩
   · exact fun _ h => h
   · subst he; exact fun _ h => nil_sl h
 have fc : ∀ u, Rep w β O c u → Rep w β O (.sl 20 (prE ps)) u := by
   rcases hc with rfl | ⟨rfl, he⟩
   · exact fun _ h => h
   · subst he; exact fun _ h => nil_sl h
 rw [Rep] at hv ⊢
 obtain ⟨vs, rfl, hl⟩ := hv
 refine ⟨vs, rfl, ?_⟩
 rw [RepL] at hl ⊢
 obtain ⟨v1, r1, rfl, h1, h2⟩ := hl
 refine ⟨v1, r1, rfl, ?_, h2⟩
 rw [Rep] at h1 ⊢
 obtain ⟨us, rfl, hu⟩ := h1
 refine ⟨us, rfl, ?_⟩
 rw [RepL] at hu ⊢
 obtain ⟨u1, s1, rfl, a1, b1⟩ := hu
 refine ⟨u1, s1, rfl, fa _ a1, ?_⟩
 rw [RepL] at b1 ⊢
 obtain ⟨u2, s2, rfl, a2, b2⟩ := b1
 refine ⟨u2, s2, rfl, fb _ a2, ?_⟩
 rw [RepL] at b2 ⊢
 obtain ⟨u3, s3, rfl, a3, b3⟩ := b2
 exact ⟨u3, s3, rfl, fc _ a3, b3⟩
end Go.Proofs.YtffchapiaampmaaGreatDoor
namespace Go.Proofs.YtffchapiaampmaaGreatDoor
open Go.Av
set_option maxHeartbeats 4000000
set_option maxRecDepth 10000
attribute [local irreducible] XH XO PCall ACall
def evL (e : Ev) : S := numF [e.time, e.host, e.file, e.frm] ++ [32] ++ quF (textF e) ++ [10]
def prL (x : Ev × Ev) : S := numF [x.1.time, x.1.host, x.1.file, x.1.frm, x.2.time, x.2.host, x.2.file, x.2.frm] ++ [10]
/-- The text of an answer. -/
def ansF (q : Qy) (es : List Ev) (rs : List Rw) (ps : List (Ev × Ev)) : S := if q.kind = 0 then es.flatMap evL else if q.kind = 1 ∨ q.kind = 2 then rs.flatMap (rowF q.sketch) else if q.kind = 3 then ps.flatMap prL else []
theorem evL_len {e : Ev} (he : EvB e) : (evL e).length ≤ 2 ^ 24 := by
 have h1 := numF_len [e.time, e.host, e.file, e.frm]
 have h2 := quF_len (textF e)
 have h3 := textF_le e he
 simp only [List.length_cons, List.length_nil] at h1
 unfold evL
 simp only [List.length_append, List.length_cons, List.length_nil]
 omega
theorem prL_len (x : Ev × Ev) : (prL x).length ≤ 2 ^ 24 := by
 have h1 := numF_len [x.1.time, x.1.host, x.1.file, x.1.frm, x.2.time, x.2.host, x.2.file, x.2.frm]
 simp only [List.length_cons, List.length_nil] at h1
 unfold prL
 simp only [List.length_append, List.length_cons, List.length_nil]
 omega
theorem rowF_len {sk : Int} {y : Rw} (h : RwP y) : (rowF sk y).length ≤ 2 ^ 44 := by
 have h1 := rowK_len h y.key.length
 rw [flat_all] at h1
 have h2 := numF_len y.vals
 have h3 := numF_len [y.n]
 have h4 : (numF y.vals).length ≤ 2 ^ 42 := Nat.le_trans h2 (Nat.le_trans (Nat.mul_le_mul h.2.2.1 (Nat.le_refl _)) (by decide))
 have h5 : (y.key.flatMap fun k => quF k ++ [32]).length ≤ 2 ^ 43 := Nat.le_trans h1 (Nat.le_trans (Nat.mul_le_mul h.1 (Nat.le_refl _)) (by decide))
 simp only [List.length_cons, List.length_nil] at h3
 unfold rowF
 split <;> simp only [List.length_append, List.length_cons, List.length_nil] <;> omega
theorem mulB {a b c d : Nat} (h : a ≤ b * c) (hb : b ≤ d) : a ≤ d * c := Nat.le_trans h (Nat.mul_le_mul_right _ hb)
theorem answer10 (q : Qy) (es : List Ev) (rs : List Rw) (ps : List (Ev × Ev)) (ok : AnOk q es rs ps) : PCall Tryz.prog 10 [.agg (qyC q), .agg [.sl 10 (evE es), .sl 3 (rwE rs), .sl 20 (prE ps)]] (fun r => r = str (ansF q es rs ps)) := by
 have hel := ok.el.1
 have hrl := ok.rl.1
 have hpl := ok.pl.1
 all_goals refine PCall.go 108 (fn := Tryz.f10) Tryz.func10 rfl rfl rfl (by simp) rfl ?_
 all_goals try refine XW.ra0 0 [2, 3] ?_
 all_goals try refine XW.ra0 1 [2, 3, 5] ?_
 all_goals try refine XW.ra0 2 [2, 3, 5, 13] ?_
 all_goals try refine XW.ra0 3 [2, 3, 5, 13, 14] ?_
 all_goals try first | refine XW.cT 14 ?_ | refine XW.cF 14 ?_ | refine XW.cB 14 (fun c14 => ?_) (fun c14 => ?_)
 all_goals try refine XW.ra0 4 [3, 5, 6] ?_
 all_goals try (refine XW.lp 1 (fun s : Nat × S => ⟨[(3, .ptr 0 3 0 0), (5, str s.2), (6, I (s.1 : Nat))], [(0, some ⟨40, 3, [[.sl 10 (evE es), .sl 3 (rwE rs), .sl 20 (prE ps)]]⟩)]⟩) (fun s => s.1 ≤ es.length ∧ s.2 = (es.take s.1).flatMap evL) (fun s => es.length - s.1) (0, []) (mkWk [some 0] [] (by simp [wkEnv, lk, lkh, I, str, B, U8, U64, U32, evL]; first | done | omega) (by simp [wkHp, wkHp1, wkEnt, lkh, I, str, evL])) ?_ (h0 := ⟨by simp, by simp⟩); rintro ⟨i, out⟩ hI0 Y0 hY0; skip)
 all_goals try refine XW.ra0 5 [3, 5, 6, 20] ?_
 all_goals try first | refine XW.cT 20 ?_ | refine XW.cF 20 ?_ | refine XW.cB 20 (fun c20 => ?_) (fun c20 => ?_)
 all_goals try (refine XW.at 7 ?_; obtain ⟨m1, m2⟩ := hI0; (try simp only at m1 m2); have hol := mulB (fm_len (f := evL) (fun e he => evL_len (ok.el.2 e he).1) i) (Nat.le_trans m1 hel); rw [← m2] at hol; have hi := ltC c20; obtain ⟨x, hx, hxm⟩ := getx es i hi; have hst := fm_step (f := evL) hx; rw [← m2] at hst; have hxb := (ok.el.2 x hxm).1; have htl := textF_le x hxb; have hql := quF_len (textF x); have hnl := numF_len [x.time, x.host, x.file, x.frm]; simp only [List.length_cons, List.length_nil] at hnl; have qt := PCall.of (text12 x hxb.ln hxb.lt); simp only [evC] at qt)
 all_goals try refine XW.ra1 7 [3, 5, 6, 7] ?_
 all_goals try refine XW.rS 8 ?_
 all_goals try refine XO.r0 9 ?_
 all_goals try refine XO.sb ?_
 all_goals try (refine XO.p (numbers24 [x.time, x.host, x.file, x.frm] (by simp)) ?_; rintro _ rfl)
 all_goals try refine XO.r2 2 ?_
 all_goals try (refine XO.p (qt) ?_; rintro _ rfl)
 all_goals try (refine XO.p (quote12 (textF x) (by omega)) ?_; rintro _ rfl)
 all_goals try refine XO.r2 4 ?_
 all_goals try refine XO.done [3, 5, 6] ?_
 all_goals try refine XW.ra2 6 [3, 5, 6] ?_
 all_goals try (refine XH.le ?_; first | (exact hY0 (i + 1, out ++ evL x) (by (refine ⟨?_, ?_⟩ <;> first | (simp only; omega) | (simp only; rw [hst]))) (by first | omega | (simp; done) | (simp; omega)) _ _ (mkWk [some 0] [] (by simp [wkEnv, lk, lkh, I, str, B, U8, U64, U32, evL]; first | done | omega) (by simp [wkHp, wkHp1, wkEnt, lkh, I, str, evL]))))
 all_goals try refine XW.ra0 9 [2, 3, 5, 13, 46] ?_
 all_goals try first | refine XW.cT 46 ?_ | refine XW.cF 46 ?_ | refine XW.cB 46 (fun c46 => ?_) (fun c46 => ?_)
 all_goals try (refine XW.at 10 ?_; have k1f := beq_eq_false_iff_ne.1 c46)
 all_goals try refine XW.ra0 10 [2, 3, 5, 13, 46] ?_
 all_goals try first | refine XW.cT 46 ?_ | refine XW.cF 46 ?_ | refine XW.cB 46 (fun c46 => ?_) (fun c46 => ?_)
 all_goals try (refine XW.at 11 ?_; first | (have k12 : q.kind = 1 ∨ q.kind = 2 := .inr (beq_iff_eq.1 c46)) | (have k12 : q.kind = 1 ∨ q.kind = 2 := .inl (beq_iff_eq.1 c46)))
 all_goals try refine XW.ra0 11 [2, 3, 5, 8] ?_
 all_goals try (refine XW.lp 2 (fun s : Nat × S => ⟨[(2, .ptr 0 19 0 0), (3, .ptr 1 3 0 0), (5, str s.2), (8, I (s.1 : Nat))], [(0, some ⟨33, 19, [qyC q]⟩), (1, some ⟨40, 3, [[.sl 10 (evE es), .sl 3 (rwE rs), .sl 20 (prE ps)]]⟩)]⟩) (fun s => s.1 ≤ rs.length ∧ s.2 = (rs.take s.1).flatMap (rowF q.sketch)) (fun s => rs.length - s.1) (0, []) (mkWk [some 0, some 1] [] (by simp [wkEnv, lk, lkh, I, str, B, U8, U64, U32, qyC, tsC_c, B]; first | done | omega) (by simp [wkHp, wkHp1, wkEnt, lkh, I, str, qyC, tsC_c, B])) ?_ (h0 := ⟨by simp, by simp⟩); rintro ⟨i, out⟩ hI1 Y1 hY1; skip)
 all_goals try refine XW.ra0 12 [2, 3, 5, 8, 53] ?_
 all_goals try first | refine XW.cT 53 ?_ | refine XW.cF 53 ?_ | refine XW.cB 53 (fun c53 => ?_) (fun c53 => ?_)
 all_goals try (refine XW.at 14 ?_; obtain ⟨m1, m2⟩ := hI1; (try simp only at m1 m2); have hol := mulB (fm_len (f := rowF q.sketch) (fun y hy => rowF_len (ok.rl.2 y hy)) i) (Nat.le_trans m1 hrl); rw [← m2] at hol; have hi := ltC c53; obtain ⟨x, hx, hxm⟩ := getx rs i hi; have hst := fm_step (f := (rowF q.sketch)) hx; rw [← m2] at hst; have hrx := rowF_len (sk := q.sketch) (ok.rl.2 x hxm); have qr := row26 q x (ok.rl.2 x hxm); simp only [qyC, tsC_c, List.cons_append, List.nil_append, rwC] at qr)
 all_goals try refine XW.rS 14 ?_
 all_goals try refine XO.r1 7 ?_
 all_goals try (refine XO.p (qr) ?_; rintro _ rfl)
 all_goals try refine XO.r2 2 ?_
 all_goals try refine XO.done [2, 3, 5, 8] ?_
 all_goals try refine XW.ra2 13 [2, 3, 5, 8] ?_
 all_goals try (refine XH.le ?_; first | (exact hY1 (i + 1, out ++ rowF q.sketch x) (by (refine ⟨?_, ?_⟩ <;> first | (simp only; omega) | (simp only; rw [hst]))) (by first | omega | (simp; done) | (simp; omega)) _ _ (mkWk [some 0, some 1] [] (by simp [wkEnv, lk, lkh, I, str, B, U8, U64, U32, qyC, tsC_c, B]; first | done | omega) (by simp [wkHp, wkHp1, wkEnt, lkh, I, str, qyC, tsC_c, B]))))
 all_goals try (refine XW.at 15 ?_; first | (have k12 : ¬ (q.kind = 1 ∨ q.kind = 2) := fun h => h.elim k1f (beq_eq_false_iff_ne.1 c46)) | (exfalso; simp_all; done))
 all_goals try refine XW.ra0 15 [3, 5, 65] ?_
 all_goals try first | refine XW.cT 65 ?_ | refine XW.cF 65 ?_ | refine XW.cB 65 (fun c65 => ?_) (fun c65 => ?_)
 all_goals try refine XW.ra0 16 [3, 5, 9] ?_
 all_goals try (refine XW.lp 1 (fun s : Nat × S => ⟨[(3, .ptr 0 3 0 0), (5, str s.2), (9, I (s.1 : Nat))], [(0, some ⟨40, 3, [[.sl 10 (evE es), .sl 3 (rwE rs), .sl 20 (prE ps)]]⟩)]⟩) (fun s => s.1 ≤ ps.length ∧ s.2 = (ps.take s.1).flatMap prL) (fun s => ps.length - s.1) (0, []) (mkWk [some 0] [] (by simp [wkEnv, lk, lkh, I, str, B, U8, U64, U32, prL]; first | done | omega) (by simp [wkHp, wkHp1, wkEnt, lkh, I, str, prL])) ?_ (h0 := ⟨by simp, by simp⟩); rintro ⟨i, out⟩ hI2 Y2 hY2; skip)
 all_goals try refine XW.ra0 17 [3, 5, 9, 71] ?_
 all_goals try first | refine XW.cT 71 ?_ | refine XW.cF 71 ?_ | refine XW.cB 71 (fun c71 => ?_) (fun c71 => ?_)
 all_goals try (refine XW.at 19 ?_; obtain ⟨m1, m2⟩ := hI2; (try simp only at m1 m2); have hol := mulB (fm_len (f := prL) (l := ps) (fun y _ => prL_len y) i) (Nat.le_trans m1 hpl); rw [← m2] at hol; have hi := ltC c71; obtain ⟨x, hx, hxm⟩ := getx ps i hi; have hst := fm_step (f := prL) hx; rw [← m2] at hst; have hnl := numF_len [x.1.time, x.1.host, x.1.file, x.1.frm, x.2.time, x.2.host, x.2.file, x.2.frm]; simp only [List.length_cons, List.length_nil] at hnl)
 all_goals try refine XW.rS 19 ?_
 all_goals try refine XO.r1 5 ?_
 all_goals try (skip)
 all_goals try refine XO.r1 6 ?_
 all_goals try (skip)
 all_goals try refine XO.r0 2 ?_
 all_goals try (skip)
 all_goals try refine XO.r0 1 ?_
 all_goals try (skip)
 all_goals try refine XO.r0 1 ?_
 all_goals try (skip)
 all_goals try refine XO.r0 1 ?_
 all_goals try refine XO.done [3, 5, 9, 10, 11] ?_
 all_goals try refine XW.rS 20 ?_
 all_goals try refine XO.r0 17 ?_
 all_goals try refine XO.sb ?_
 all_goals try (refine XO.p (numbers24 [x.1.time, x.1.host, x.1.file, x.1.frm, x.2.time, x.2.host, x.2.file, x.2.frm] (by simp)) ?_; rintro _ rfl)
 all_goals try refine XO.r2 3 ?_
 all_goals try refine XO.done [3, 5, 9] ?_
 all_goals try refine XW.ra2 18 [3, 5, 9] ?_
 all_goals try (refine XH.le ?_; first | (exact hY2 (i + 1, out ++ prL x) (by (refine ⟨?_, ?_⟩ <;> first | (simp only; omega) | (simp only; rw [hst]))) (by first | omega | (simp; done) | (simp; omega)) _ _ (mkWk [some 0] [] (by simp [wkEnv, lk, lkh, I, str, B, U8, U64, U32, prL]; first | done | omega) (by simp [wkHp, wkHp1, wkEnt, lkh, I, str, prL]))))
 all_goals try (refine XW.at 21 ?_; first | (obtain ⟨m1, m2⟩ := hI0; (try simp only at m1 m2); have h9 := geC c20; obtain rfl : i = es.length := (by omega); rw [flat_all] at m2) | (obtain ⟨m1, m2⟩ := hI1; (try simp only at m1 m2); have h9 := geC c53; obtain rfl : i = rs.length := (by omega); rw [flat_all] at m2) | (obtain ⟨m1, m2⟩ := hI2; (try simp only at m1 m2); have h9 := geC c71; obtain rfl : i = ps.length := (by omega); rw [flat_all] at m2) | skip)
 all_goals try refine XW.ra0 21 [4] ?_
 all_goals try (refine XW.atr ?_; first | (exact XP.rs (by rw [ansF, if_pos (beq_iff_eq.1 c14), ← m2])) | (exact XP.rs (by rw [ansF, if_neg (beq_eq_false_iff_ne.1 c14), if_pos k12, ← m2])) | (exact XP.rs (by rw [ansF, if_neg (beq_eq_false_iff_ne.1 c14), if_neg k12, if_pos (beq_iff_eq.1 c65), ← m2])) | (exact XP.rs (by rw [ansF, if_neg (beq_eq_false_iff_ne.1 c14), if_neg k12, if_neg (beq_eq_false_iff_ne.1 c65)])))
end Go.Proofs.YtffchapiaampmaaGreatDoor
namespace Go.Proofs
open Go.Shelf
def Tryz.lays156_ren : Go.Shelf.Ren := ⟨fun | 156 => 47 | 165 => 73 | 166 => 45 | 169 => 23 | 240 => 71 | 241 => 94 | 276 => 92 | 277 => 112 | n => n, fun | 31 => 30 | 9 => 9 | 3 => 3 | 4 => 4 | 0 => 0 | 20 => 20 | 72 => 73 | 76 => 107 | 70 => 71 | 37 => 22 | 75 => 105 | 127 => 113 | 164 => 178 | 5 => 5 | 80 => 84 | n => n, fun | n => n⟩
theorem Tryz.lays156 : Go.Proofs.Lays.n156 Tryz.prog Tryz.lays156_ren := {
 mixed := by kernel_rfl
 f156 := Tryz.func47.trans (congrArg some (by kernel_rfl))
 f165 := Tryz.func73.trans (congrArg some (by kernel_rfl))
 f166 := Tryz.func45.trans (congrArg some (by kernel_rfl))
 f169 := Tryz.func23.trans (congrArg some (by kernel_rfl))
 f240 := Tryz.func71.trans (congrArg some (by kernel_rfl))
 f241 := Tryz.func94.trans (congrArg some (by kernel_rfl))
 f276 := Tryz.func92.trans (congrArg some (by kernel_rfl))
 f277 := Tryz.func112.trans (congrArg some (by kernel_rfl))
 t0 := Tryz.underlying0
 a0 := Tryz.isAgg0
 z0 := Tryz.sizeOf0
 v0 := Tryz.zeroValue0
 t3 := Tryz.underlying3
 a3 := Tryz.isAgg3
 z3 := Tryz.sizeOf3
 v3 := Tryz.zeroValue3
 t4 := Tryz.underlying4
 a4 := Tryz.isAgg4
 z4 := Tryz.sizeOf4
 v4 := Tryz.zeroValue4
 t9 := Tryz.underlying9
 a9 := Tryz.isAgg9
 z9 := Tryz.sizeOf9
 v9 := Tryz.zeroValue9
 t20 := Tryz.underlying20
 a20 := Tryz.isAgg20
 z20 := Tryz.sizeOf20
 v20 := Tryz.zeroValue20
 t31 := Tryz.underlying30
 a31 := Tryz.isAgg30
 z31 := Tryz.sizeOf30
 v31 := Tryz.zeroValue30
 t37 := Tryz.underlying22
 a37 := Tryz.isAgg22
 z37 := Tryz.sizeOf22
 v37 := Tryz.zeroValue22
 t70 := Tryz.underlying71
 a70 := Tryz.isAgg71
 z70 := Tryz.sizeOf71
 v70 := Tryz.zeroValue71
 t72 := Tryz.underlying73
 a72 := Tryz.isAgg73
 z72 := Tryz.sizeOf73
 v72 := Tryz.zeroValue73
 t75 := Tryz.underlying105
 a75 := Tryz.isAgg105
 z75 := Tryz.sizeOf105
 v75 := Tryz.zeroValue105
 t76 := Tryz.underlying107
 a76 := Tryz.isAgg107
 z76 := Tryz.sizeOf107
 v76 := Tryz.zeroValue107
 t127 := Tryz.underlying113
 a127 := Tryz.isAgg113
 z127 := Tryz.sizeOf113
 v127 := Tryz.zeroValue113
 t164 := Tryz.underlying178
 a164 := Tryz.isAgg178
 z164 := Tryz.sizeOf178
 v164 := Tryz.zeroValue178 }
theorem Tryz.Builder_Extra_156 : Builder.Extra Tryz.prog Tryz.lays156_ren := {
 sizeBuilder := by kernel_rfl
 liesBuilder := by kernel_rfl
 t5 := Tryz.underlying5
 a5 := Tryz.isAgg5
 z5 := Tryz.sizeOf5
 v5 := Tryz.zeroValue5
 infoByte := by kernel_rfl
 cellsByte := by kernel_rfl
 sizeByte := by kernel_rfl
 neB5 := by decide }
open Go.RowKit in
theorem Tryz.strings_Join_none (a : Option Addr) (c : Nat) (sep : ByteArray) (w : World) :
   Calls Tryz.prog 47 #[.slice a 0 c, .string sep] w fun e w' => e = .returned (.string ⟨#[]⟩) ∧ w' = w := Any.strings_Join_none Tryz.lays156 Tryz.Builder_Extra_156 a c sep w
open Go.RowKit in
theorem Tryz.strings_Join (bk o c : Nat) (xs : List ByteArray) (sep : ByteArray) (w : World) (hcells : ∀ (j : Nat) x, xs[j]? = some x → w.cell? ⟨bk, o + j, none⟩ = some (.string x)) (hbk : bk < w.heap.size) (hN : xs.length ≤ 140737488355328) (hcap : xs.length ≤ c) (hlen : (Lib.join (xs.map (·.data.toList)) sep.data.toList).length ≤ 140737488355328) :
   Calls Tryz.prog 47 #[.slice (some ⟨bk, o, none⟩) xs.length c, .string sep] w fun e w' => e = .returned (.string ⟨(Lib.join (xs.map (·.data.toList)) sep.data.toList).toArray⟩) ∧ Below w.heap.size w w' := Any.strings_Join Tryz.lays156 Tryz.Builder_Extra_156 bk o c xs sep w hcells hbk hN hcap hlen
def Tryz.laysM171_ren : Go.Shelf.Ren := ⟨fun | 171 => 46 | 243 => 72 | 246 => 93 | 283 => 108 | 284 => 109 | 285 => 110 | 286 => 111 | 129 => 123 | 317 => 122 | 318 => 124 | 319 => 125 | 320 => 126 | 337 => 134 | 338 => 135 | n => n, fun | 3 => 3 | 9 => 9 | 2 => 2 | 4 => 4 | 171 => 196 | 0 => 0 | 53 => 147 | 37 => 22 | 5 => 5 | 173 => 199 | 212 => 213 | 51 => 214 | 20 => 20 | 213 => 215 | 46 => 87 | 232 => 234 | 233 => 235 | n => n, fun | 17 => 0 | 18 => 2 | 19 => 3 | n => n⟩
theorem Tryz.laysM171 : Go.Proofs.LaysM.n171 Tryz.prog Tryz.laysM171_ren := {
 mixed := by kernel_rfl
 f129 := Tryz.func123.trans (congrArg some (by kernel_rfl))
 f171 := Tryz.func46.trans (congrArg some (by kernel_rfl))
 f243 := Tryz.func72.trans (congrArg some (by kernel_rfl))
 f246 := Tryz.func93.trans (congrArg some (by kernel_rfl))
 f283 := Tryz.func108.trans (congrArg some (by kernel_rfl))
 f284 := Tryz.func109.trans (congrArg some (by kernel_rfl))
 f285 := Tryz.func110.trans (congrArg some (by kernel_rfl))
 f286 := Tryz.func111.trans (congrArg some (by kernel_rfl))
 f317 := Tryz.func122.trans (congrArg some (by kernel_rfl))
 f318 := Tryz.func124.trans (congrArg some (by kernel_rfl))
 f319 := Tryz.func125.trans (congrArg some (by kernel_rfl))
 f320 := Tryz.func126.trans (congrArg some (by kernel_rfl))
 f337 := Tryz.func134.trans (congrArg some (by kernel_rfl))
 f338 := Tryz.func135.trans (congrArg some (by kernel_rfl))
 t0 := Tryz.underlying0
 a0 := Tryz.isAgg0
 z0 := Tryz.sizeOf0
 v0 := Tryz.zeroValue0
 t2 := Tryz.underlying2
 a2 := Tryz.isAgg2
 z2 := Tryz.sizeOf2
 v2 := Tryz.zeroValue2
 t3 := Tryz.underlying3
 a3 := Tryz.isAgg3
 z3 := Tryz.sizeOf3
 v3 := Tryz.zeroValue3
 t4 := Tryz.underlying4
 a4 := Tryz.isAgg4
 z4 := Tryz.sizeOf4
 v4 := Tryz.zeroValue4
 t5 := Tryz.underlying5
 a5 := Tryz.isAgg5
 z5 := Tryz.sizeOf5
 v5 := Tryz.zeroValue5
 t9 := Tryz.underlying9
 a9 := Tryz.isAgg9
 z9 := Tryz.sizeOf9
 v9 := Tryz.zeroValue9
 t20 := Tryz.underlying20
 a20 := Tryz.isAgg20
 z20 := Tryz.sizeOf20
 v20 := Tryz.zeroValue20
 t37 := Tryz.underlying22
 a37 := Tryz.isAgg22
 z37 := Tryz.sizeOf22
 v37 := Tryz.zeroValue22
 t46 := Tryz.underlying87
 a46 := Tryz.isAgg87
 z46 := Tryz.sizeOf87
 v46 := Tryz.zeroValue87
 t51 := Tryz.underlying214
 a51 := Tryz.isAgg214
 z51 := Tryz.sizeOf214
 v51 := Tryz.zeroValue214
 t53 := Tryz.underlying147
 a53 := Tryz.isAgg147
 z53 := Tryz.sizeOf147
 v53 := Tryz.zeroValue147
 t171 := Tryz.underlying196
 a171 := Tryz.isAgg196
 z171 := Tryz.sizeOf196
 v171 := Tryz.zeroValue196
 t173 := Tryz.underlying199
 a173 := Tryz.isAgg199
 z173 := Tryz.sizeOf199
 v173 := Tryz.zeroValue199
 t212 := Tryz.underlying213
 a212 := Tryz.isAgg213
 z212 := Tryz.sizeOf213
 v212 := Tryz.zeroValue213
 t213 := Tryz.underlying215
 a213 := Tryz.isAgg215
 z213 := Tryz.sizeOf215
 t232 := Tryz.underlying234
 a232 := Tryz.isAgg234
 z232 := Tryz.sizeOf234
 v232 := Tryz.zeroValue234
 t233 := Tryz.underlying235
 a233 := Tryz.isAgg235
 z233 := Tryz.sizeOf235
 v233 := Tryz.zeroValue235
 g17 := by kernel_rfl
 g18 := by kernel_rfl
 g19 := by kernel_rfl
 i0 := by kernel_rfl
 i2 := by kernel_rfl
 i3 := by kernel_rfl
 i4 := by kernel_rfl
 i5 := by kernel_rfl
 i9 := by kernel_rfl
 i20 := by kernel_rfl
 i37 := by kernel_rfl
 i46 := by kernel_rfl
 i51 := by kernel_rfl
 i53 := by kernel_rfl
 i171 := by kernel_rfl
 i173 := by kernel_rfl
 i212 := by kernel_rfl
 i232 := by kernel_rfl
 i233 := by kernel_rfl
 m17 := by kernel_rfl
 m18 := by kernel_rfl
 m19 := by kernel_rfl }
open Go.RowKit Go.Sort Go.Lib in
theorem Tryz.strconv_Itoa (n : Int) (h0 : -9223372036854775808 ≤ n) (h1 : n ≤ 9223372036854775807) (w : World) (htab : Lib.TabIs Tryz.prog w "internal/strconv.uint64pow10" .u64 Lib.pow10Tab) :
   Calls Tryz.prog 46 #[.int .i64 n] w fun e w' => e = .returned (.string ⟨(Lib.itoa n).toArray⟩) ∧ ∃ k os, w' = grow (w.drewN k) os := Any.strconv_Itoa Tryz.laysM171 n h0 h1 w htab
end Go.Proofs
namespace Go.Proofs.YtffchapiaampmaaGreatDoor
open Go.Av Go.RowKit
theorem decGo_eq : ∀ (f u : Nat) (out : S), u < 10 ^ f → 1 ≤ f → decGo f u out = Lib.decDigits u ++ out
 | 0, u, out, h, h1 => by omega
 | f + 1, u, out, h, _ => by
   rw [decGo, Lib.decDigits]
   by_cases h0 : u / 10 = 0
   · rw [if_pos h0, dif_pos (by omega)]
     have : u % 10 = u := by omega
     rw [this]; rfl
   · rw [if_neg h0, dif_neg (by omega)]
     have hf : 1 ≤ f := by
       rcases Nat.eq_zero_or_pos f with h2 | h2
       · subst h2; simp at h; omega
       · exact h2
     rw [decGo_eq f (u / 10) _ (by rw [Nat.pow_succ] at h; exact Nat.div_lt_of_lt_mul (by rw [Nat.mul_comm]; exact h)) hf]
     simp
theorem decS_itoa {n : Int} (h : In64 n) : decS n = Lib.itoa n := by
 obtain ⟨h1, h2⟩ := h
 have e1 : ∀ m : Int, 0 ≤ m → m < 18446744073709551616 → IntKind.u64.wrap m = m := fun m a b => au.2.1 m ⟨a, b⟩
 unfold decS Lib.itoa decU
 by_cases hn : n < 0
 · rw [if_pos hn, if_pos hn, if_pos hn]
   have e2 : IntKind.u64.wrap n = n + 18446744073709551616 := by
     unfold IntKind.wrap
     simp [IntKind.signed, IntKind.bits]
     omega
   have e3 : IntKind.u64.wrap (0 - IntKind.u64.wrap n) = -n := by
     rw [e2]
     unfold IntKind.wrap
     simp [IntKind.signed, IntKind.bits]
     omega
   rw [e3, decGo_eq 20 _ _ (by omega) (by omega), List.append_nil]
   have : (-n).toNat = n.natAbs := by omega
   rw [this]
 · rw [if_neg hn, if_neg hn, if_neg hn, e1 n (by omega) (by omega), decGo_eq 20 _ _ (by omega) (by omega), List.append_nil]
theorem txTo_join (ls : List Ln) : ∀ i, i ≤ ls.length → txTo ls i = Lib.join ((ls.take i).map (·.text)) [10]
 | 0, _ => rfl
 | i + 1, h => by
   have hx := List.getElem?_eq_getElem (l := ls) (i := i) (by omega)
   rw [txTo, txTo_join ls i (by omega), List.take_add_one, hx]
   simp only [Option.toList, List.map_append, List.map_cons, List.map_nil]
   cases hl : (ls.take i).map (·.text) with
   | nil =>
     have : i = 0 := by
       have h9 := congrArg List.length hl
       rw [List.length_map, List.length_take, List.length_nil] at h9
       omega
     subst this
     simp [Lib.join_nil, Lib.join_one]
   | cons a r =>
     have : 0 < i := by
       rcases Nat.eq_zero_or_pos i with h0 | h0
       · subst h0; simp at hl
       · exact h0
     rw [if_pos this, List.cons_append, Lib.join_cons, Lib.join_cons]
     simp [Lib.joinTail]
/-- What grows behind the heap leaves what is owned as it is. -/
theorem below_post {w w' : World} {X : Nat → Prop} {β : Gm} (hb : Below w.heap.size w w') (hg : Go.Av.Good X w β (hpL [])) : Go.Av.Good X w' β (hpL []) ∧ Frm w (Own X β (hpL [])) w' (Own X β (hpL [])) ∧ ∀ b, X b → w'.heap[b]? = w.heap[b]? := by
 have hnone : ∀ i, hpL [] i = none := fun i => by simp [hpL]
 have hf : Frm w (Own X β (hpL [])) w' (Own X β (hpL [])) := by
   refine ⟨hb.os, hb.tape, hb.output, hb.size, fun b hlt _ => hb.block b hlt, fun b h => .inl h, fun b s hs => ?_⟩
   have hlt : b < w.heap.size := by
     unfold World.shape? at hs
     rcases Nat.lt_or_ge b w.heap.size with h | h
     · exact h
     · rw [Array.getElem?_eq_none h] at hs; simp at hs
   unfold World.shape? at hs ⊢
   rw [hb.block b hlt]; exact hs
 refine ⟨⟨fun i j e e' b h => by rw [hnone] at h; simp at h, fun i e h => by rw [hnone] at h; simp at h, fun i e b h => by rw [hnone] at h; simp at h, fun b hx => Nat.lt_of_lt_of_le (hg.xlt b hx) hb.size, (hf.laid hg.laid).1, (hf.laid hg.laid).2⟩, hf, fun b hx => hb.block b (hg.xlt b hx)⟩
/-- A library function that only lays new blocks, as a call. -/
theorem ACall.below {P : Program} {g : FuncId} {xs : List AV} {r : AV} (hfn : ∃ fn, P.funcs[g]? = some fn ∧ fn.body.isNone = false ∧ (fn.name == "runtime.NumGoroutine") = false)
   (h : ∀ (w : World) (O : Nat → Prop) (β : Gm) (vs : List Value), RepL w β O xs vs → lwOk w → Calls P g vs.toArray w fun e w' => ∃ v, e = .returned v ∧ (∀ β O, Rep w' β O r v) ∧ Below w.heap.size w w') : ACall P g xs [] r [] := by
 refine ⟨hfn, fun X w β vs k1 k2 k3 => (h w _ β vs k1 k2.laid.1).mono ?_⟩
 rintro e w' ⟨v, rfl, h1, h2⟩
 obtain ⟨g1, g2, g3⟩ := below_post h2 k2
 exact ⟨v, β, rfl, h1 _ _, g1, g2, g3, GmExt.refl _, k3⟩
end Go.Proofs.YtffchapiaampmaaGreatDoor
namespace Go.Proofs.YtffchapiaampmaaGreatDoor
open Go.Av Go.RowKit
theorem repE_str {w : World} {β : Gm} {O : Nat → Prop} : ∀ (xs : List S) (vs : List Value), RepE w β O 1 (strE xs) vs → vs = xs.map fun x => Value.string ⟨x.toArray⟩
 | [], vs, h => by simpa [strE, RepE] using h
 | x :: xs, vs, h => by
   have e : strE (x :: xs) = [str x] :: strE xs := rfl
   rw [e] at h
   simp only [RepE, RepL] at h
   obtain ⟨v, r, rfl, _, ⟨u, t, rfl, h1, rfl⟩, h2⟩ := h
   rw [repE_str xs r h2]
   simp only [str, Rep] at h1
   subst h1
   rfl
theorem join47 (xs : List S) (sep : S) (hn : xs.length ≤ 140737488355328) (hl : (Lib.join xs sep).length ≤ 140737488355328) : ACall Tryz.prog 47 [.sl 1 (strE xs), str sep] [] (str (Lib.join xs sep)) [] := by
 refine ACall.below ⟨_, Tryz.func47, rfl, rfl⟩ ?_
 intro w O β vs hr hlw
 simp only [RepL] at hr
 obtain ⟨v1, r1, rfl, h1, v2, r2, rfl, h2, rfl⟩ := hr
 simp only [str, Rep] at h2
 subst h2
 have e1 : ∀ l : List S, (l.map fun x => (⟨x.toArray⟩ : ByteArray)).map (·.data.toList) = l := fun l => by
   induction l with
   | nil => rfl
   | cons a l ih => exact congrArg (a :: ·) ih
 simp only [Rep] at h1
 rcases h1 with ⟨rfl, h0⟩ | ⟨b, off, cap, us, rfl, g1, g2, g3, g4, g5⟩
 · have hx : xs = [] := by
     have := congrArg List.length h0
     simpa [strE] using this
   subst hx
   refine (Tryz.strings_Join_none none 0 ⟨sep.toArray⟩ w).mono ?_
   rintro e w' ⟨rfl, rfl⟩
   exact ⟨_, rfl, fun β O => by simp [str, Rep, Lib.join_nil], Below.refl _ _⟩
 · have hu := repE_str xs us g5
   subst hu
   have hlen : (strE xs).length = xs.length := by simp [strE]
   have q := Tryz.strings_Join b off cap (xs.map fun x => (⟨x.toArray⟩ : ByteArray)) ⟨sep.toArray⟩ w (fun j x hx => by
     refine g4 j _ ?_
     rw [List.getElem?_map] at hx ⊢
     cases hj : xs[j]? with
     | none => rw [hj] at hx; simp at hx
     | some y => rw [hj] at hx; simp at hx ⊢; rw [hx]) g2 (by simpa using hn) (by simpa [strE] using g1) (by rw [e1]; exact hl)
   rw [e1] at q
   rw [hlen]
   simp only [List.length_map] at q
   refine q.mono ?_
   rintro e w' ⟨rfl, hb⟩
   exact ⟨_, rfl, fun β O => by simp [str, Rep], hb⟩
theorem grow_below {w : World} (k : Nat) (os : Array Obj) : Below w.heap.size w (Go.Sort.grow (w.drewN k) os) :=
 ⟨rfl, rfl, rfl, by simp [Go.Sort.grow], fun i hi => by
   show ((w.drewN k).heap ++ os)[i]? = _
   rw [Array.getElem?_append_left (by show i < w.heap.size; omega)]
   rfl⟩
theorem tabIs {w : World} (h : lwOk w) : Lib.TabIs Tryz.prog w "internal/strconv.uint64pow10" .u64 Lib.pow10Tab := by
 obtain ⟨t, fr, h0⟩ := h
 have hg : Tryz.prog.globalNamed "internal/strconv.uint64pow10" = some 0 := by kernel_rfl
 unfold Lib.TabIs World.var?
 rw [hg]
 simp only [Option.bind_some, h0]
 rfl
theorem itoa46 (n : Int) (h : In64 n) : ACall Tryz.prog 46 [.val (.int .i64 n)] [] (str (decS n)) [] := by
 refine ACall.below ⟨_, Tryz.func46, rfl, rfl⟩ ?_
 intro w O β vs hr hlw
 simp only [RepL, Rep] at hr
 obtain ⟨v1, r1, rfl, rfl, rfl⟩ := hr
 have q := Tryz.strconv_Itoa n h.1 (by have := h.2; omega) w (tabIs hlw)
 refine q.mono ?_
 rintro e w' ⟨rfl, k, os, rfl⟩
 exact ⟨_, rfl, fun β O => by simp [str, Rep, decS_itoa h], grow_below k os⟩
end Go.Proofs.YtffchapiaampmaaGreatDoor
