/-
  Part 38 of the proof that logtidelaw45.ConsoleAnswer returns true for every list of bytes and every text, and leaves both as they were.
-/
import Derived.Test.YtffchapiaampmaaGreatDoorA18
import Derived.Test.YtffchapiaampmaaGreatDoorA37
set_option linter.unusedSimpArgs false
set_option linter.unusedVariables false
namespace Go.Proofs.YtffchapiaampmaaGreatDoor
open Go.Av
set_option maxHeartbeats 4000000
set_option maxRecDepth 10000
attribute [local irreducible] XH XO PCall ACall
def hexS : S := [48, 49, 50, 51, 52, 53, 54, 55, 56, 57, 97, 98, 99, 100, 101, 102]
/-- How a byte is written between quotes. -/
def quB (c : UInt8) : S := if c.toNat = 34 ∨ c.toNat = 92 then [92, c] else if c.toNat < 32 ∨ 126 < c.toNat then [92, 120, hexS.getD (c.toNat / 16) 0, hexS.getD (c.toNat % 16) 0] else [c]
def quO (t : S) (i : Nat) : S := 34 :: (t.take i).flatMap quB
/-- A text between quotes. -/
def quF (t : S) : S := quO t t.length ++ [34]
theorem quO_step {t : S} {i : Nat} {x : UInt8} (h : t[i]? = some x) : quO t (i + 1) = quO t i ++ quB x := by
 unfold quO
 rw [List.take_add_one, h]
 simp
theorem quB_len (c : UInt8) : (quB c).length ≤ 4 := by
 unfold quB
 split
 · simp
 · split <;> simp
theorem quO_len (t : S) : ∀ i, i ≤ t.length → (quO t i).length ≤ 1 + 4 * i
 | 0, _ => by simp [quO]
 | i + 1, h => by
   have hx := List.getElem?_eq_getElem (l := t) (i := i) (by omega)
   rw [quO_step hx, List.length_append]
   have := quO_len t i (by omega)
   have := quB_len t[i]
   omega
theorem quF_len (t : S) : (quF t).length ≤ 2 + 4 * t.length := by
 have := quO_len t t.length (Nat.le_refl _)
 unfold quF; rw [List.length_append]; simp; omega
theorem quB1 {c : UInt8} (h : ((c.toNat : Int) == 34) = true) : quB c = [92, c] := by
 have := beq_iff_eq.1 h
 unfold quB; rw [if_pos (by omega)]
theorem quB2 {c : UInt8} (h : ((c.toNat : Int) == 92) = true) : quB c = [92, c] := by
 have := beq_iff_eq.1 h
 unfold quB; rw [if_pos (by omega)]
theorem quB3 {c : UInt8} (h1 : ((c.toNat : Int) == 34) = false) (h2 : ((c.toNat : Int) == 92) = false) (h : decide ((c.toNat : Int) < 32) = true ∨ decide ((c.toNat : Int) > 126) = true) : quB c = [92, 120, hexS.getD (c.toNat / 16) 0, hexS.getD (c.toNat % 16) 0] := by
 have h1 := beq_eq_false_iff_ne.1 h1
 have h2 := beq_eq_false_iff_ne.1 h2
 have h3 : c.toNat < 32 ∨ 126 < c.toNat := by rcases h with h | h <;> have := of_decide_eq_true h <;> omega
 unfold quB; rw [if_neg (by omega), if_pos h3]
theorem quB4 {c : UInt8} (h1 : ((c.toNat : Int) == 34) = false) (h2 : ((c.toNat : Int) == 92) = false) (h3 : decide ((c.toNat : Int) < 32) = false) (h4 : decide ((c.toNat : Int) > 126) = false) : quB c = [c] := by
 have h1 := beq_eq_false_iff_ne.1 h1
 have h2 := beq_eq_false_iff_ne.1 h2
 have h3 := of_decide_eq_false h3
 have h4 := of_decide_eq_false h4
 unfold quB; rw [if_neg (by omega), if_neg (by omega)]
theorem hexHi (x : UInt8) : ([48, 49, 50, 51, 52, 53, 54, 55, 56, 57, 97, 98, 99, 100, 101, 102] : S)[((x.toNat : Int).fdiv (2 ^ min 4 8)).toNat]? = some (hexS.getD (x.toNat / 16) 0) := by
 have h := x.toNat_lt
 generalize x.toNat = n at *
 revert n
 decide +kernel
theorem hexLo (x : UInt8) : ([48, 49, 50, 51, 52, 53, 54, 55, 56, 57, 97, 98, 99, 100, 101, 102] : S)[(bitsOf BinOp.and IntKind.u8 (x.toNat : Int) 15).toNat]? = some (hexS.getD (x.toNat % 16) 0) := by
 have h := x.toNat_lt
 generalize x.toNat = n at *
 revert n
 decide +kernel
theorem hexHi0 (x : UInt8) : 0 ≤ (x.toNat : Int).fdiv (2 ^ min 4 8) := by
 have h := x.toNat_lt
 generalize x.toNat = n at *
 revert n
 decide +kernel
theorem hexLo0 (x : UInt8) : 0 ≤ bitsOf BinOp.and IntKind.u8 (x.toNat : Int) 15 := by
 have h := x.toNat_lt
 generalize x.toNat = n at *
 revert n
 decide +kernel
theorem bytesE_app9 (a b : S) : bytesE (a ++ b) = bytesE a ++ bytesE b := by simp [bytesE]
theorem bytesE_cons9 (a : UInt8) (b : S) : bytesE (a :: b) = [.val (.int .u8 a.toNat)] :: bytesE b := rfl
theorem b34 (out : S) : bytesE out ++ [[.val (.int .u8 34)]] = bytesE (out ++ [34]) := by simp [bytesE, byteE]
theorem eB9 (l : S) : eBytes (bytesE l) = l := by
 simp only [eBytes, bytesE, List.map_map]
 refine (List.map_congr_left (fun c _ => ?_)).trans (List.map_id l)
 simp [byteOf1, byteE]
@[go_sem] theorem baS (t : S) : (⟨t.toArray⟩ : ByteArray).size = t.length := by simp [ByteArray.size]
theorem bytesE_nil9 : bytesE [] = [] := rfl
theorem quote27 (t : S) (ht : t.length ≤ 2 ^ 40) : PCall Tryz.prog 27 [str t] (fun r => r = str (quF t)) := by
 all_goals refine PCall.go 51 (fn := Tryz.f27) Tryz.func27 rfl rfl rfl (by simp) rfl ?_
 all_goals try refine XW.ra0 0 [0] ?_
 all_goals try refine XW.ra0 1 [0, 3] ?_
 all_goals try refine XW.ra0 2 [0, 3, 4] ?_
 all_goals try (refine XW.lp 1 (fun s : Nat × S => ⟨[(0, str t), (3, .osl 0 s.2.length 1), (4, I (s.1 : Nat))], [(0, some ⟨5, 1, bytesE s.2⟩)]⟩) (fun s => s.1 ≤ t.length ∧ s.2 = quO t s.1) (fun s => t.length - s.1) (0, [34]) (mkWk [some 0] [] (by simp [wkEnv, lk, lkh, I, str, B, U8, U64, U32, bytesE_app9, bytesE_cons9, bytesE_nil9]; first | done | omega) (by simp [wkHp, wkHp1, wkEnt, lkh, I, str, bytesE_app9, bytesE_cons9, bytesE_nil9])) ?_ (h0 := ⟨by simp, rfl⟩); rintro ⟨i, out⟩ hI0 Y0 hY0; skip)
 all_goals try refine XW.ra0 3 [0, 3, 4, 10] ?_
 all_goals try first | refine XW.cT 10 ?_ | refine XW.cF 10 ?_ | refine XW.cB 10 (fun c10 => ?_) (fun c10 => ?_)
 all_goals try (refine XW.at 5 ?_; obtain ⟨m1, m2⟩ := hI0; (try simp only at m1 m2); have hol := quO_len t i m1; rw [← m2] at hol; have hi := ltC c10; obtain ⟨x, hx, hxm⟩ := getx t i hi; have hst := quO_step hx; rw [← m2] at hst)
 all_goals try refine XW.ra1 5 [0, 3, 4, 5] ?_
 all_goals try refine XW.rS 7 ?_
 all_goals try refine XO.r0 3 ?_
 all_goals try first | refine XO.kT 23 ?_ | refine XO.kF 23 ?_ | refine XO.split 23 (fun g23 => ?_) (fun g23 => ?_)
 all_goals try refine XO.r0 4 ?_
 all_goals try refine XO.done [0, 3, 4, 5, 20] ?_
 all_goals try first | refine XW.cT 20 ?_ | refine XW.cF 20 ?_ | refine XW.cB 20 (fun c20 => ?_) (fun c20 => ?_)
 all_goals try refine XW.ra0 8 [0, 3, 4] ?_
 all_goals try refine XW.rS 9 ?_
 all_goals try refine XO.r0 3 ?_
 all_goals try first | refine XO.kT 34 ?_ | refine XO.kF 34 ?_ | refine XO.split 34 (fun g34 => ?_) (fun g34 => ?_)
 all_goals try refine XO.r0 4 ?_
 all_goals try refine XO.done [0, 3, 4, 5, 31] ?_
 all_goals try first | refine XW.cT 31 ?_ | refine XW.cF 31 ?_ | refine XW.cB 31 (fun c31 => ?_) (fun c31 => ?_)
 all_goals try (refine XW.at 10 ?_; have hx := hexHi x; have hx2 := hexLo x; have hx0 := hexHi0 x; have hx9 := hexLo0 x)
 all_goals try refine XW.ra3 10 [0, 3, 4] ?_
 all_goals try refine XW.ra0 6 [0, 3, 4] ?_
 all_goals try refine XW.ra2 4 [0, 3, 4] ?_
 all_goals try (refine XH.le ?_; first | (refine hY0 (i + 1, out ++ [92, x]) ?_ ?_ _ _ (mkWk [some 0] [] ?_ ?_); (next => (refine ⟨?_, ?_⟩ <;> first | (simp only; omega) | (simp only; rw [hst, quB1 g23]) | (simp only; rw [hst, quB2 c20]))); (next => first | omega | (simp; done) | (simp; omega)); (next => simp [wkEnv, lk, lkh, I, str, B, U8, U64, U32, bytesE_app9, bytesE_cons9, bytesE_nil9]; first | done | omega); (next => simp [wkHp, wkHp1, wkEnt, lkh, I, str, bytesE_app9, bytesE_cons9, bytesE_nil9])) | (refine hY0 (i + 1, out ++ [92, 120, hexS.getD (x.toNat / 16) 0, hexS.getD (x.toNat % 16) 0]) ?_ ?_ _ _ (mkWk [some 0] [] ?_ ?_); (next => (refine ⟨?_, ?_⟩ <;> first | (simp only; omega) | (simp only; rw [hst, quB3 g23 c20 (.inl g34)]) | (simp only; rw [hst, quB3 g23 c20 (.inr c31)]))); (next => first | omega | (simp; done) | (simp; omega)); (next => simp [wkEnv, lk, lkh, I, str, B, U8, U64, U32, bytesE_app9, bytesE_cons9, bytesE_nil9]; first | done | omega); (next => simp [wkHp, wkHp1, wkEnt, lkh, I, str, bytesE_app9, bytesE_cons9, bytesE_nil9])) | (refine hY0 (i + 1, out ++ [x]) ?_ ?_ _ _ (mkWk [some 0] [] ?_ ?_); (next => (refine ⟨?_, ?_⟩ <;> first | (simp only; omega) | (simp only; rw [hst, quB4 g23 c20 g34 c31]))); (next => first | omega | (simp; done) | (simp; omega)); (next => simp [wkEnv, lk, lkh, I, str, B, U8, U64, U32, bytesE_app9, bytesE_cons9, bytesE_nil9]; first | done | omega); (next => simp [wkHp, wkHp1, wkEnt, lkh, I, str, bytesE_app9, bytesE_cons9, bytesE_nil9])))
 all_goals try (refine XW.at 11 ?_; obtain ⟨m1, m2⟩ := hI0; (try simp only at m1 m2); have h9 := geC c10; obtain rfl : i = t.length := (by omega); have hol := quO_len t t.length (Nat.le_refl _); rw [← m2] at hol; have hx := b34 out; have hx2 := eB9 (out ++ [34]))
 all_goals try refine XW.ra3 11 [2] ?_
 all_goals try (refine XW.atr ?_; first | (exact XP.rs (by rw [quF, ← m2])))
theorem quote12 (t : S) (ht : t.length ≤ 2 ^ 40) : PCall Tryz.prog 12 [str t] (fun r => r = str (quF t)) := by
 all_goals refine PCall.go 5 (fn := Tryz.f12) Tryz.func12 rfl rfl rfl (by simp) rfl ?_
 all_goals try refine XW.ra0 0 [0] ?_
 all_goals try refine XW.rS 1 ?_
 all_goals try refine XO.r0 1 ?_
 all_goals try (refine XO.p (quote27 t ht) ?_; rintro _ rfl)
 all_goals try refine XO.r0 1 ?_
 all_goals try refine XO.done [2] ?_
 all_goals try (refine XW.atr ?_; first | (exact XP.rs rfl))
theorem quote11 (t : S) (ht : t.length ≤ 2 ^ 40) : PCall Tryz.prog 11 [str t] (fun r => r = str (quF t)) := by
 all_goals refine PCall.go 50 (fn := Tryz.f11) Tryz.func11 rfl rfl rfl (by simp) rfl ?_
 all_goals try refine XW.ra0 0 [0] ?_
 all_goals try refine XW.ra0 1 [0, 3] ?_
 all_goals try refine XW.ra2 2 [3, 8, 9, 10] ?_
 all_goals try (refine XW.lp 2 (fun s : Nat × S => ⟨[(3, .osl 0 s.2.length 1), (8, .osl 1 t.length 1), (9, I (t.length : Nat)), (10, I (s.1 : Nat))], [(0, some ⟨5, 1, bytesE s.2⟩), (1, some ⟨5, 1, bytesE t⟩)]⟩) (fun s => s.1 ≤ t.length ∧ s.2 = quO t s.1) (fun s => t.length - s.1) (0, [34]) (mkWk [some 0, some 1] [] (by simp [wkEnv, lk, lkh, I, str, B, U8, U64, U32, bytesE_app9, bytesE_cons9, bytesE_nil9]; first | done | omega) (by simp [wkHp, wkHp1, wkEnt, lkh, I, str, bytesE_app9, bytesE_cons9, bytesE_nil9])) ?_ (h0 := ⟨by simp, rfl⟩); rintro ⟨i, out⟩ hI0 Y0 hY0; skip)
 all_goals try refine XW.ra0 3 [3, 8, 9, 10, 11] ?_
 all_goals try first | refine XW.cT 11 ?_ | refine XW.cF 11 ?_ | refine XW.cB 11 (fun c11 => ?_) (fun c11 => ?_)
 all_goals try (refine XW.at 4 ?_; obtain ⟨m1, m2⟩ := hI0; (try simp only at m1 m2); have hol := quO_len t i m1; rw [← m2] at hol; have hi := ltC c11; obtain ⟨x, hx, hxm⟩ := getx t i hi; have hst := quO_step hx; rw [← m2] at hst)
 all_goals try refine XW.ra1 4 [3, 5, 8, 9, 10] ?_
 all_goals try refine XW.rS 6 ?_
 all_goals try refine XO.r0 3 ?_
 all_goals try first | refine XO.kT 21 ?_ | refine XO.kF 21 ?_ | refine XO.split 21 (fun g21 => ?_) (fun g21 => ?_)
 all_goals try refine XO.r0 4 ?_
 all_goals try refine XO.done [3, 5, 8, 9, 10, 18] ?_
 all_goals try first | refine XW.cT 18 ?_ | refine XW.cF 18 ?_ | refine XW.cB 18 (fun c18 => ?_) (fun c18 => ?_)
 all_goals try refine XW.ra0 7 [3, 8, 9, 10] ?_
 all_goals try refine XW.rS 8 ?_
 all_goals try refine XO.r0 3 ?_
 all_goals try first | refine XO.kT 32 ?_ | refine XO.kF 32 ?_ | refine XO.split 32 (fun g32 => ?_) (fun g32 => ?_)
 all_goals try refine XO.r0 4 ?_
 all_goals try refine XO.done [3, 5, 8, 9, 10, 29] ?_
 all_goals try first | refine XW.cT 29 ?_ | refine XW.cF 29 ?_ | refine XW.cB 29 (fun c29 => ?_) (fun c29 => ?_)
 all_goals try (refine XW.at 9 ?_; have hx := hexHi x; have hx2 := hexLo x; have hx0 := hexHi0 x; have hx9 := hexLo0 x)
 all_goals try refine XW.ra3 9 [3, 8, 9, 10] ?_
 all_goals try refine XW.ra0 5 [3, 8, 9, 10] ?_
 all_goals try refine XW.ra2 10 [3, 8, 9, 10] ?_
 all_goals try (refine XH.le ?_; first | (refine hY0 (i + 1, out ++ [92, x]) ?_ ?_ _ _ (mkWk [some 0, some 1] [] ?_ ?_); (next => (refine ⟨?_, ?_⟩ <;> first | (simp only; omega) | (simp only; rw [hst, quB1 g21]) | (simp only; rw [hst, quB2 c18]))); (next => first | omega | (simp; done) | (simp; omega)); (next => simp [wkEnv, lk, lkh, I, str, B, U8, U64, U32, bytesE_app9, bytesE_cons9, bytesE_nil9]; first | done | omega); (next => simp [wkHp, wkHp1, wkEnt, lkh, I, str, bytesE_app9, bytesE_cons9, bytesE_nil9])) | (refine hY0 (i + 1, out ++ [92, 120, hexS.getD (x.toNat / 16) 0, hexS.getD (x.toNat % 16) 0]) ?_ ?_ _ _ (mkWk [some 0, some 1] [] ?_ ?_); (next => (refine ⟨?_, ?_⟩ <;> first | (simp only; omega) | (simp only; rw [hst, quB3 g21 c18 (.inl g32)]) | (simp only; rw [hst, quB3 g21 c18 (.inr c29)]))); (next => first | omega | (simp; done) | (simp; omega)); (next => simp [wkEnv, lk, lkh, I, str, B, U8, U64, U32, bytesE_app9, bytesE_cons9, bytesE_nil9]; first | done | omega); (next => simp [wkHp, wkHp1, wkEnt, lkh, I, str, bytesE_app9, bytesE_cons9, bytesE_nil9])) | (refine hY0 (i + 1, out ++ [x]) ?_ ?_ _ _ (mkWk [some 0, some 1] [] ?_ ?_); (next => (refine ⟨?_, ?_⟩ <;> first | (simp only; omega) | (simp only; rw [hst, quB4 g21 c18 g32 c29]))); (next => first | omega | (simp; done) | (simp; omega)); (next => simp [wkEnv, lk, lkh, I, str, B, U8, U64, U32, bytesE_app9, bytesE_cons9, bytesE_nil9]; first | done | omega); (next => simp [wkHp, wkHp1, wkEnt, lkh, I, str, bytesE_app9, bytesE_cons9, bytesE_nil9])))
 all_goals try (refine XW.at 11 ?_; obtain ⟨m1, m2⟩ := hI0; (try simp only at m1 m2); have h9 := geC c11; obtain rfl : i = t.length := (by omega); have hol := quO_len t t.length (Nat.le_refl _); rw [← m2] at hol; have hx := b34 out; have hx2 := eB9 (out ++ [34]))
 all_goals try refine XW.ra3 11 [2] ?_
 all_goals try (refine XW.atr ?_; first | (exact XP.rs (by rw [quF, ← m2])))
theorem eq1C {a : Nat} (h : ((a : Int) == 1) = true) : 0 < a := by
 have := eq_of_beq h
 omega
theorem leC2 {a b c : Nat} (h : decide ((a : Int) + (b : Int) ≤ (c : Int)) = true) : a + b ≤ c := by
 have := of_decide_eq_true h
 omega
theorem geC1 {a b : Nat} (h : decide ((a : Int) ≥ (b : Int)) = true) : b ≤ a := by
 have := of_decide_eq_true h
 omega
theorem wordsB (t : S) (h : t.length ≤ 2 ^ 30) : (wordsF t).length ≤ 2 ^ 40 := by
 have h1 := (wTo_len t (t.length + 1) (Nat.le_refl _)).1
 have h2 := distF_len (wTo t (t.length + 1)).1
 unfold wordsF; omega
theorem textB (e : Ev) (h : EvB e) : (textF e).length ≤ 2 ^ 30 := by
 have := txTo_len e.lines h.lt e.lines.length
 have := h.ln
 unfold textF; omega
theorem begins105 (s t : S) : PCall Tryz.prog 105 [str s, str t] (fun r => ∃ b, r = B b) := by
 all_goals refine PCall.go 18 (fn := Tryz.f105) Tryz.func105 rfl rfl rfl (by simp) rfl ?_
 all_goals try refine XW.ra0 0 [0, 1] ?_
 all_goals try refine XW.rS 1 ?_
 all_goals try refine XO.r0 6 ?_
 all_goals try first | refine XO.kT 10 ?_ | refine XO.kF 10 ?_ | refine XO.split 10 (fun g10 => ?_) (fun g10 => ?_)
 all_goals try (have h9 := geC1 g10)
 all_goals try refine XO.r3 8 ?_
 all_goals try refine XO.done [4] ?_
 all_goals try (refine XW.atr ?_; first | (exact XP.rs ⟨_, rfl⟩))
theorem prefix86 (d : List S) (w : S) (hd : d.length ≤ 2 ^ 40) : PCall Tryz.prog 86 [.sl 1 (strE d), str w] (fun r => ∃ a b : Int, r = .tup [I a, I b]) := by
 all_goals refine PCall.go 32 (fn := Tryz.f86) Tryz.func86 rfl rfl rfl (by simp) rfl ?_
 all_goals try refine XW.ra0 0 [0, 1] ?_
 all_goals try refine XW.rS 1 ?_
 all_goals try refine XO.r0 2 ?_
 all_goals try (refine XO.p (PCall.of (index1 d w hd)) ?_; rintro _ rfl)
 all_goals try refine XO.r0 5 ?_
 all_goals try refine XO.done [0, 1, 6] ?_
 all_goals try refine XW.ra0 2 [0, 1, 6, 8] ?_
 all_goals try (refine XW.lp 0 (fun k : Nat => ⟨[(0, .sl 1 (strE d)), (1, str w), (6, I (idxF d w)), (8, I (k : Nat))], []⟩) (fun k => True) (fun k => d.length - k) (idxF d w) (mkWk [] [] (by simp [wkEnv, lk, lkh, I, str, B, U8, U64, U32]; first | done | omega) (by simp [wkHp, wkHp1, wkEnt, lkh, I, str])) ?_; rintro k hI0 Y0 hY0; skip)
 all_goals try refine XW.rS 3 ?_
 all_goals try refine XO.r0 5 ?_
 all_goals try first | refine XO.kT 20 ?_ | refine XO.kF 20 ?_ | refine XO.split 20 (fun g20 => ?_) (fun g20 => ?_)
 all_goals try refine XO.r0 2 ?_
 all_goals try (have hi := ltC g20; obtain ⟨x, hx, hxm⟩ := getx d k hi)
 all_goals try refine XO.r1 3 ?_
 all_goals try first | (refine XO.p (begins105 x w) ?_; rintro _ ⟨b, rfl⟩) | refine XO.r0 1 ?_
 all_goals try refine XO.r0 1 ?_
 all_goals try refine XO.done [0, 1, 6, 8, 27] ?_
 all_goals try first | refine XW.cT 27 ?_ | refine XW.cF 27 ?_ | refine XW.cB 27 (fun c27 => ?_) (fun c27 => ?_)
 all_goals try refine XW.ra2 4 [0, 1, 6, 8] ?_
 all_goals try (refine XH.le ?_; first | (exact eY hY0 (k + 1) (mkWk [] [] (by simp [wkEnv, lk, lkh, I, str, B, U8, U64, U32]; first | done | omega) (by simp [wkHp, wkHp1, wkEnt, lkh, I, str]))))
 all_goals try refine XW.ra0 5 [4, 5] ?_
 all_goals try (refine XW.atr ?_; first | (exact XP.rs ⟨_, _, rfl⟩))
theorem begins62 (d : List S) (w : S) (hd : d.length ≤ 2 ^ 40) : PCall Tryz.prog 62 [.sl 1 (strE d), str w] (fun r => ∃ b, r = B b) := by
 all_goals refine PCall.go 16 (fn := Tryz.f62) Tryz.func62 rfl rfl rfl (by simp) rfl ?_
 all_goals try refine XW.ra0 0 [0, 1] ?_
 all_goals try refine XW.rS 1 ?_
 all_goals try refine XO.r0 2 ?_
 all_goals try (refine XO.p (prefix86 d w hd) ?_; rintro _ ⟨a, b, rfl⟩)
 all_goals try refine XO.r0 5 ?_
 all_goals try refine XO.done [5, 6] ?_
 all_goals try refine XW.ra0 2 [4] ?_
 all_goals try (refine XW.atr ?_; first | (exact XP.rs ⟨_, rfl⟩))
theorem contains63 (s t : S) (hs : s.length ≤ 2 ^ 30) (ht : t.length ≤ 2 ^ 30) : PCall Tryz.prog 63 [str s, str t] (fun r => ∃ b, r = B b) := by
 all_goals refine PCall.go 24 (fn := Tryz.f63) Tryz.func63 rfl rfl rfl (by simp) rfl ?_
 all_goals try refine XW.ra0 0 [0, 1] ?_
 all_goals try refine XW.ra0 1 [0, 1, 5] ?_
 all_goals try (refine XW.lp 0 (fun i : Nat => ⟨[(0, str s), (1, str t), (5, I (i : Nat))], []⟩) (fun i => i ≤ s.length + 1) (fun i => s.length + 1 - i) 0 (mkWk [] [] (by simp [wkEnv, lk, lkh, I, str, B, U8, U64, U32]; first | done | omega) (by simp [wkHp, wkHp1, wkEnt, lkh, I, str])) ?_; rintro i hI0 Y0 hY0; skip)
 all_goals try refine XW.ra2 2 [0, 1, 5, 12] ?_
 all_goals try first | refine XW.cT 12 ?_ | refine XW.cF 12 ?_ | refine XW.cB 12 (fun c12 => ?_) (fun c12 => ?_)
 all_goals try (refine XW.at 4 ?_; have hi := leC2 c12)
 all_goals try refine XW.ra3 4 [0, 1, 5, 23] ?_
 all_goals try first | refine XW.cT 23 ?_ | refine XW.cF 23 ?_ | refine XW.cB 23 (fun c23 => ?_) (fun c23 => ?_)
 all_goals try refine XW.ra0 5 [4] ?_
 all_goals try (refine XW.atr ?_; first | (exact XP.rs ⟨_, rfl⟩))
 all_goals try refine XW.ra2 3 [0, 1, 5] ?_
 all_goals try (refine XH.le ?_; first | (exact eY hY0 (i + 1) (mkWk [] [] (by simp [wkEnv, lk, lkh, I, str, B, U8, U64, U32]; first | done | omega) (by simp [wkHp, wkHp1, wkEnt, lkh, I, str]))))
 all_goals try refine XW.ra0 6 [4] ?_
 all_goals try (refine XW.atr ?_; first | (exact XP.rs ⟨_, rfl⟩))
theorem holdsStep35 (t : Ts) (e : Ev) (he : EvB e) (h1 : t.name.length ≤ 2 ^ 30) (h2 : t.text.length ≤ 2 ^ 30) (h3 : t.kids.length ≤ 2 ^ 30) (hk : ∀ k ∈ t.kids, PCall Tryz.prog 35 [.agg (tsC k), .agg (evC e)] (fun r => ∃ b, r = B b)) : PCall Tryz.prog 35 [.agg (tsC t), .agg (evC e)] (fun r => ∃ b, r = B b) := by
 simp only [tsC_c, evC] at hk
 have qt := PCall.of (text12 e he.ln he.lt)
 have qw := PCall.osl (words27 (textF e) (textB e he)) (by simp) (by simp)
 have qi := PCall.of (index1 (wordsF (textF e)) t.text (wordsB _ (textB e he)))
 have qb := begins62 (wordsF (textF e)) t.text (wordsB _ (textB e he))
 have qc := contains63 (textF e) t.text (textB e he) h2
 have qv := value64 e he t.name
 have qn := number65 e he t.name
 simp only [evC] at qt qv qn
 all_goals refine PCall.go 163 (fn := Tryz.f35) Tryz.func35 rfl rfl rfl (by simp) rfl ?_
 all_goals try refine XW.ra0 0 [2, 3] ?_
 all_goals try refine XW.ra0 1 [2, 3, 16] ?_
 all_goals try refine XW.ra0 2 [2, 3, 16, 17] ?_
 all_goals try first | refine XW.cT 17 ?_ | refine XW.cF 17 ?_ | refine XW.cB 17 (fun c17 => ?_) (fun c17 => ?_)
 all_goals try refine XW.rS 3 ?_
 all_goals try refine XO.r0 1 ?_
 all_goals try (refine XO.p (qt) ?_; rintro _ rfl)
 all_goals try (refine XO.p (qw) ?_; rintro _ rfl)
 all_goals try refine XO.r0 2 ?_
 all_goals try (refine XO.p (qi) ?_; rintro _ rfl)
 all_goals try refine XO.r0 5 ?_
 all_goals try refine XO.done [6] ?_
 all_goals try refine XW.ra0 4 [4] ?_
 all_goals try (refine XW.atr ?_; first | (exact XP.rs ⟨_, rfl⟩))
 all_goals try refine XW.ra0 5 [2, 3, 16, 29] ?_
 all_goals try first | refine XW.cT 29 ?_ | refine XW.cF 29 ?_ | refine XW.cB 29 (fun c29 => ?_) (fun c29 => ?_)
 all_goals try refine XW.rS 6 ?_
 all_goals try refine XO.r0 1 ?_
 all_goals try (refine XO.p (qt) ?_; rintro _ rfl)
 all_goals try (refine XO.p (qw) ?_; rintro _ rfl)
 all_goals try refine XO.r0 2 ?_
 all_goals try (refine XO.p (qb) ?_; rintro _ ⟨b, rfl⟩)
 all_goals try refine XO.r0 1 ?_
 all_goals try refine XO.done [4] ?_
 all_goals try (refine XW.atr ?_; first | (exact XP.rs ⟨_, rfl⟩))
 all_goals try refine XW.ra0 7 [2, 3, 16, 37] ?_
 all_goals try first | refine XW.cT 37 ?_ | refine XW.cF 37 ?_ | refine XW.cB 37 (fun c37 => ?_) (fun c37 => ?_)
 all_goals try refine XW.rS 8 ?_
 all_goals try refine XO.r0 1 ?_
 all_goals try (refine XO.p (qt) ?_; rintro _ rfl)
 all_goals try refine XO.r0 2 ?_
 all_goals try (refine XO.p (qc) ?_; rintro _ ⟨b, rfl⟩)
 all_goals try refine XO.r0 1 ?_
 all_goals try refine XO.done [4] ?_
 all_goals try (refine XW.atr ?_; first | (exact XP.rs ⟨_, rfl⟩))
 all_goals try refine XW.ra0 9 [2, 3, 16, 44] ?_
 all_goals try first | refine XW.cT 44 ?_ | refine XW.cF 44 ?_ | refine XW.cB 44 (fun c44 => ?_) (fun c44 => ?_)
 all_goals try refine XW.rS 10 ?_
 all_goals try refine XO.r0 3 ?_
 all_goals try (refine XO.p (qv) ?_; rintro _ ⟨v, b, rfl, hv⟩)
 all_goals try refine XO.r0 5 ?_
 all_goals try refine XO.done [2, 7, 8] ?_
 all_goals try refine XW.rS 11 ?_
 all_goals try refine XO.r0 2 ?_
 all_goals try first | refine XO.kT 54 ?_ | refine XO.kF 54 ?_ | refine XO.split 54 (fun g54 => ?_) (fun g54 => ?_)
 all_goals try refine XO.r0 6 ?_
 all_goals try refine XO.done [4] ?_
 all_goals try (refine XW.atr ?_; first | (exact XP.rs ⟨_, rfl⟩))
 all_goals try refine XW.ra0 12 [2, 3, 16, 60] ?_
 all_goals try first | refine XW.cT 60 ?_ | refine XW.cF 60 ?_ | refine XW.cB 60 (fun c60 => ?_) (fun c60 => ?_)
 all_goals try refine XW.rS 13 ?_
 all_goals try refine XO.r0 3 ?_
 all_goals try (refine XO.p (qv) ?_; rintro _ ⟨v, b, rfl, hv⟩)
 all_goals try refine XO.r0 5 ?_
 all_goals try refine XO.done [10] ?_
 all_goals try refine XW.ra0 14 [4] ?_
 all_goals try (refine XW.atr ?_; first | (exact XP.rs ⟨_, rfl⟩))
 all_goals try refine XW.ra0 15 [2, 3, 16, 70] ?_
 all_goals try first | refine XW.cT 70 ?_ | refine XW.cF 70 ?_ | refine XW.cB 70 (fun c70 => ?_) (fun c70 => ?_)
 all_goals try refine XW.ra0 16 [2, 3, 16, 70] ?_
 all_goals try first | refine XW.cT 70 ?_ | refine XW.cF 70 ?_ | refine XW.cB 70 (fun c70 => ?_) (fun c70 => ?_)
 all_goals try refine XW.ra0 17 [2, 3, 16, 70] ?_
 all_goals try first | refine XW.cT 70 ?_ | refine XW.cF 70 ?_ | refine XW.cB 70 (fun c70 => ?_) (fun c70 => ?_)
 all_goals try refine XW.rS 18 ?_
 all_goals try refine XO.r0 3 ?_
 all_goals try (refine XO.p (qn) ?_; rintro _ ⟨n, b, rfl, _⟩)
 all_goals try refine XO.r0 5 ?_
 all_goals try refine XO.done [2, 11, 12] ?_
 all_goals try refine XW.rS 19 ?_
 all_goals try refine XO.r0 2 ?_
 all_goals try first | refine XO.kT 82 ?_ | refine XO.kF 82 ?_ | refine XO.split 82 (fun g82 => ?_) (fun g82 => ?_)
 all_goals try refine XO.r0 4 ?_
 all_goals try first | refine XO.kT 86 ?_ | refine XO.kF 86 ?_ | refine XO.split 86 (fun g86 => ?_) (fun g86 => ?_)
 all_goals try refine XO.r0 6 ?_
 all_goals try first | refine XO.kT 92 ?_ | refine XO.kF 92 ?_ | refine XO.split 92 (fun g92 => ?_) (fun g92 => ?_)
 all_goals try refine XO.r0 4 ?_
 all_goals try first | refine XO.kT 96 ?_ | refine XO.kF 96 ?_ | refine XO.split 96 (fun g96 => ?_) (fun g96 => ?_)
 all_goals try refine XO.r0 7 ?_
 all_goals try first | refine XO.kT 103 ?_ | refine XO.kF 103 ?_ | refine XO.split 103 (fun g103 => ?_) (fun g103 => ?_)
 all_goals try refine XO.r0 4 ?_
 all_goals try first | refine XO.kT 107 ?_ | refine XO.kF 107 ?_ | refine XO.split 107 (fun g107 => ?_) (fun g107 => ?_)
 all_goals try refine XO.r0 8 ?_
 all_goals try refine XO.done [4] ?_
 all_goals try (refine XW.atr ?_; first | (exact XP.rs ⟨_, rfl⟩))
 all_goals try refine XW.ra0 20 [2, 3, 16, 115] ?_
 all_goals try first | refine XW.cT 115 ?_ | refine XW.cF 115 ?_ | refine XW.cB 115 (fun c115 => ?_) (fun c115 => ?_)
 all_goals try refine XW.rS 21 ?_
 all_goals try refine XO.r0 5 ?_
 all_goals try first | refine XO.kT 121 ?_ | refine XO.kF 121 ?_ | refine XO.split 121 (fun g121 => ?_) (fun g121 => ?_)
 all_goals try refine XO.r0 2 ?_
 all_goals try (have h0 := eq1C g121; obtain ⟨x, hx, hxm⟩ := getx t.kids 0 h0)
 all_goals try refine XO.r1 3 ?_
 all_goals try first | (refine XO.p (hk x hxm) ?_; rintro _ ⟨b, rfl⟩) | refine XO.r0 1 ?_
 all_goals try refine XO.r0 3 ?_
 all_goals try refine XO.done [4] ?_
 all_goals try (refine XW.atr ?_; first | (exact XP.rs ⟨_, rfl⟩))
 all_goals try refine XW.ra0 22 [2, 3, 16, 130] ?_
 all_goals try first | refine XW.cT 130 ?_ | refine XW.cF 130 ?_ | refine XW.cB 130 (fun c130 => ?_) (fun c130 => ?_)
 all_goals try refine XW.ra0 23 [2, 3, 13] ?_
 all_goals try (refine XW.lp 2 (fun i : Nat => ⟨[(2, .ptr 0 5 0 0), (3, .ptr 1 10 0 0), (13, I (i : Nat))], [(0, some ⟨28, 5, [tsC t]⟩), (1, some ⟨62, 10, [evC e]⟩)]⟩) (fun i => i ≤ t.kids.length) (fun i => t.kids.length - i) 0 (mkWk [some 0, some 1] [] (by simp [wkEnv, lk, lkh, I, str, B, U8, U64, U32, tsC_c, evC]; first | done | omega) (by simp [wkHp, wkHp1, wkEnt, lkh, I, str, tsC_c, evC])) ?_; rintro i hI0 Y0 hY0; skip)
 all_goals try refine XW.ra0 24 [2, 3, 13, 136] ?_
 all_goals try first | refine XW.cT 136 ?_ | refine XW.cF 136 ?_ | refine XW.cB 136 (fun c136 => ?_) (fun c136 => ?_)
 all_goals try (refine XW.at 26 ?_; have hi := ltC c136; obtain ⟨x, hx, hxm⟩ := getx t.kids i hi)
 all_goals try refine XW.rS 26 ?_
 all_goals try refine XO.r1 6 ?_
 all_goals try (refine XO.p (hk x hxm) ?_; rintro _ ⟨b, rfl⟩)
 all_goals try refine XO.r0 1 ?_
 all_goals try refine XO.done [2, 3, 13, 146] ?_
 all_goals try first | refine XW.cT 146 ?_ | refine XW.cF 146 ?_ | refine XW.cB 146 (fun c146 => ?_) (fun c146 => ?_)
 all_goals try refine XW.ra0 27 [4] ?_
 all_goals try (refine XW.atr ?_; first | (exact XP.rs ⟨_, rfl⟩))
 all_goals try refine XW.ra2 25 [2, 3, 13] ?_
 all_goals try (refine XH.le ?_; first | (exact eY hY0 (i + 1) (mkWk [some 0, some 1] [] (by simp [wkEnv, lk, lkh, I, str, B, U8, U64, U32, tsC_c, evC]; first | done | omega) (by simp [wkHp, wkHp1, wkEnt, lkh, I, str, tsC_c, evC]))))
 all_goals try refine XW.ra0 28 [2, 3, 147] ?_
 all_goals try first | refine XW.cT 147 ?_ | refine XW.cF 147 ?_ | refine XW.cB 147 (fun c147 => ?_) (fun c147 => ?_)
 all_goals try refine XW.ra0 29 [2, 3, 14] ?_
 all_goals try (refine XW.lp 2 (fun i : Nat => ⟨[(2, .ptr 0 5 0 0), (3, .ptr 1 10 0 0), (14, I (i : Nat))], [(0, some ⟨28, 5, [tsC t]⟩), (1, some ⟨62, 10, [evC e]⟩)]⟩) (fun i => i ≤ t.kids.length) (fun i => t.kids.length - i) 0 (mkWk [some 0, some 1] [] (by simp [wkEnv, lk, lkh, I, str, B, U8, U64, U32, tsC_c, evC]; first | done | omega) (by simp [wkHp, wkHp1, wkEnt, lkh, I, str, tsC_c, evC])) ?_; rintro i hI1 Y1 hY1; skip)
 all_goals try refine XW.ra0 30 [2, 3, 14, 153] ?_
 all_goals try first | refine XW.cT 153 ?_ | refine XW.cF 153 ?_ | refine XW.cB 153 (fun c153 => ?_) (fun c153 => ?_)
 all_goals try (refine XW.at 32 ?_; have hi := ltC c153; obtain ⟨x, hx, hxm⟩ := getx t.kids i hi)
 all_goals try refine XW.rS 32 ?_
 all_goals try refine XO.r1 6 ?_
 all_goals try (refine XO.p (hk x hxm) ?_; rintro _ ⟨b, rfl⟩)
 all_goals try refine XO.done [2, 3, 14, 162] ?_
 all_goals try first | refine XW.cT 162 ?_ | refine XW.cF 162 ?_ | refine XW.cB 162 (fun c162 => ?_) (fun c162 => ?_)
 all_goals try refine XW.ra0 33 [4] ?_
 all_goals try (refine XW.atr ?_; first | (exact XP.rs ⟨_, rfl⟩))
 all_goals try refine XW.ra2 31 [2, 3, 14] ?_
 all_goals try (refine XH.le ?_; first | (exact eY hY1 (i + 1) (mkWk [some 0, some 1] [] (by simp [wkEnv, lk, lkh, I, str, B, U8, U64, U32, tsC_c, evC]; first | done | omega) (by simp [wkHp, wkHp1, wkEnt, lkh, I, str, tsC_c, evC]))))
 all_goals try refine XW.ra0 34 [4] ?_
 all_goals try (refine XW.atr ?_; first | (exact XP.rs ⟨_, rfl⟩))
 all_goals try refine XW.ra0 35 [4] ?_
 all_goals try (refine XW.atr ?_; first | (exact XP.rs ⟨_, rfl⟩))
theorem holds35 : ∀ (d : Nat) (t : Ts), TsB d t → ∀ e : Ev, EvB e → PCall Tryz.prog 35 [.agg (tsC t), .agg (evC e)] (fun r => ∃ b, r = B b) := by
 intro d
 induction d with
 | zero =>
   intro t h e he
   obtain ⟨h1, h2, _, _, h5⟩ := h
   exact holdsStep35 t e he (by omega) (by omega) (by rw [h5]; simp) (by rw [h5]; intro k hk; simp at hk)
 | succ d ih =>
   intro t h e he
   obtain ⟨h1, h2, _, _, h5, h6⟩ := h
   exact holdsStep35 t e he (by omega) (by omega) (by omega) (fun k hk => ih k (h6 k hk) e he)
theorem mem_snoc {α : Type} {P : α → Prop} {l : List α} {x : α} (h : ∀ y ∈ l, P y) (hx : P x) : ∀ y ∈ l ++ [x], P y := by
 intro y hy
 rcases List.mem_append.1 hy with h1 | h1
 · exact h y h1
 · simp at h1; subst h1; exact hx
theorem select19 (d : Nat) (t : Ts) (ht : TsB d t) (l : List Ev) (hl : ∀ e ∈ l, EvB e) (hn : l.length ≤ 2 ^ 20) : PCall Tryz.prog 19 [.agg (tsC t), .sl 10 (evE l)] (fun r => ∃ out : List Ev, r = .sl 10 (evE out) ∧ out.length ≤ l.length ∧ ∀ e ∈ out, e ∈ l) := by
 have qh := fun e (he : EvB e) => holds35 d t ht e he
 simp only [tsC_c, evC] at qh
 all_goals refine PCall.go 27 (fn := Tryz.f19) Tryz.func19 rfl rfl rfl (by simp) rfl ?_
 all_goals try refine XW.ra0 0 [1, 2] ?_
 all_goals try refine XW.ra0 1 [1, 2, 5] ?_
 all_goals try refine XW.ra0 2 [1, 2, 5, 6] ?_
 all_goals try (refine XW.lp 2 (fun s : Nat × List Ev => ⟨[(1, .sl 10 (evE l)), (2, .ptr 0 5 0 0), (5, .osl 1 s.2.length 10), (6, I (s.1 : Nat))], [(0, some ⟨28, 5, [tsC t]⟩), (1, some ⟨62, 10, evE s.2⟩)]⟩) (fun s => s.1 ≤ l.length ∧ s.2.length ≤ s.1 ∧ ∀ e ∈ s.2, e ∈ l) (fun s => l.length - s.1) (0, []) (mkWk [some 0, none] [] (by simp [wkEnv, lk, lkh, I, str, B, U8, U64, U32, tsC_c]; first | done | omega) (by simp [wkHp, wkHp1, wkEnt, lkh, I, str, tsC_c])) ?_; rintro ⟨i, out⟩ hI0 Y0 hY0; skip)
 all_goals try refine XW.ra0 3 [1, 2, 5, 6, 10] ?_
 all_goals try first | refine XW.cT 10 ?_ | refine XW.cF 10 ?_ | refine XW.cB 10 (fun c10 => ?_) (fun c10 => ?_)
 all_goals try (refine XW.at 5 ?_; have hi := ltC c10; obtain ⟨x, hx, hxm⟩ := getx l i hi; obtain ⟨m1, m2, m3⟩ := hI0; simp only at m1 m2 m3)
 all_goals try refine XW.rS 5 ?_
 all_goals try refine XO.r1 5 ?_
 all_goals try (refine XO.p (qh x (hl x hxm)) ?_; rintro _ ⟨b, rfl⟩)
 all_goals try refine XO.done [1, 2, 5, 6, 18] ?_
 all_goals try first | refine XW.cT 18 ?_ | refine XW.cF 18 ?_ | refine XW.cB 18 (fun c18 => ?_) (fun c18 => ?_)
 all_goals try refine XW.ra1 6 [1, 2, 5, 6] ?_
 all_goals try refine XW.ra2 4 [1, 2, 5, 6] ?_
 all_goals try (refine XH.le ?_; first | (refine hY0 (i + 1, out) ?_ ?_ _ _ (mkWk [some 0, some 1] [] ?_ ?_); (next => exact ⟨by simp only; omega, by simp only; omega, m3⟩); (next => first | omega | (simp; done) | (simp; omega)); (next => simp [wkEnv, lk, lkh, I, str, B, U8, U64, U32, tsC_c]; first | done | omega); (next => simp [wkHp, wkHp1, wkEnt, lkh, I, str, tsC_c])) | (refine hY0 (i + 1, out ++ [x]) ?_ ?_ _ _ (mkWk [some 0, some 1] [] ?_ ?_); (next => exact ⟨by simp only; omega, by simp only [List.length_append, List.length_singleton]; omega, mem_snoc m3 hxm⟩); (next => first | omega | (simp; done) | (simp; omega)); (next => simp [wkEnv, lk, lkh, I, str, B, U8, U64, U32, tsC_c]; first | done | omega); (next => simp [wkHp, wkHp1, wkEnt, lkh, I, str, tsC_c])))
 all_goals try refine XW.ra0 7 [4] ?_
 all_goals try (refine XW.atr ?_; first | (obtain ⟨m1, m2, m3⟩ := hI0; exact XP.ro ⟨out, rfl, by simp only at m2; omega, m3⟩))
attribute [local irreducible] evC
theorem subC1 {a : Nat} : (a : Int) + 1 = ((a + 1 : Nat) : Int) := by omega
theorem key68 (ns : List S) (e : Ev) (he : EvB e) (hn : ns.length ≤ 2 ^ 30) : PCall Tryz.prog 68 [.sl 1 (strE ns), .agg (evC e)] (fun r => ∃ out : List S, r = .sl 1 (strE out) ∧ out.length = ns.length ∧ ∀ x ∈ out, x.length ≤ 2 ^ 20) := by
 have qv := fun nm => value64 e he nm
 simp only [evC] at qv
 all_goals refine PCall.go 29 (fn := Tryz.f68) Tryz.func68 rfl rfl rfl (by simp) rfl ?_
 all_goals try refine XW.ra0 0 [0, 3] ?_
 all_goals try refine XW.ra0 1 [0, 3, 5] ?_
 all_goals try refine XW.ra0 2 [0, 3, 5, 6] ?_
 all_goals try (refine XW.lp 2 (fun s : Nat × List S => ⟨[(0, .sl 1 (strE ns)), (3, .ptr 0 10 0 0), (5, .osl 1 s.2.length 1), (6, I (s.1 : Nat))], [(0, some ⟨62, 10, [evC e]⟩), (1, some ⟨9, 1, strE s.2⟩)]⟩) (fun s => s.1 ≤ ns.length ∧ s.2.length = s.1 ∧ ∀ x ∈ s.2, x.length ≤ 2 ^ 20) (fun s => ns.length - s.1) (0, []) (mkWk [some 0, none] [] (by simp [wkEnv, lk, lkh, I, str, B, U8, U64, U32, evC]; first | done | omega) (by simp [wkHp, wkHp1, wkEnt, lkh, I, str, evC])) ?_; rintro ⟨i, out⟩ hI0 Y0 hY0; skip)
 all_goals try refine XW.ra0 3 [0, 3, 5, 6, 12] ?_
 all_goals try first | refine XW.cT 12 ?_ | refine XW.cF 12 ?_ | refine XW.cB 12 (fun c12 => ?_) (fun c12 => ?_)
 all_goals try (refine XW.at 5 ?_; have hi := ltC c12; obtain ⟨x, hx, hxm⟩ := getx ns i hi; obtain ⟨m1, m2, m3⟩ := hI0; simp only at m1 m2 m3)
 all_goals try refine XW.rS 5 ?_
 all_goals try refine XO.r1 5 ?_
 all_goals try (refine XO.p (qv x) ?_; rintro _ ⟨v, b, rfl, hv⟩)
 all_goals try refine XO.r0 5 ?_
 all_goals try refine XO.done [0, 3, 5, 6, 7] ?_
 all_goals try refine XW.ra0 6 [0, 3, 5, 6] ?_
 all_goals try refine XW.ra2 4 [0, 3, 5, 6] ?_
 all_goals try (refine XH.le ?_; first | (exact hY0 (i + 1, out ++ [v]) (⟨by simp only; omega, by simp only [List.length_append, List.length_singleton]; omega, mem_snoc m3 hv⟩) (by first | omega | (simp; done) | (simp; omega)) _ _ (mkWk [some 0, some 1] [] (by simp [wkEnv, lk, lkh, I, str, B, U8, U64, U32, evC, strE_snoc']; first | done | omega) (by simp [wkHp, wkHp1, wkEnt, lkh, I, str, evC, strE_snoc']))))
 all_goals try (refine XW.at 7 ?_; have h9 := geC c12; obtain ⟨m1, m2, m3⟩ := hI0; simp only at m1 m2 m3)
 all_goals try refine XW.ra0 7 [4] ?_
 all_goals try (refine XW.atr ?_; first | (exact XP.ro ⟨out, rfl, by omega, m3⟩))
theorem compare70 (a b : List S) (ha : a.length ≤ 2 ^ 30) (hb : b.length ≤ 2 ^ 30) : PCall Tryz.prog 70 [.sl 1 (strE a), .sl 1 (strE b)] (fun r => ∃ n : Int, r = I n) := by
 all_goals refine PCall.go 48 (fn := Tryz.f70) Tryz.func70 rfl rfl rfl (by simp) rfl ?_
 all_goals try refine XW.ra0 0 [0, 1] ?_
 all_goals try refine XW.ra0 1 [0, 1, 5] ?_
 all_goals try (refine XW.lp 0 (fun i : Nat => ⟨[(0, .sl 1 (strE a)), (1, .sl 1 (strE b)), (5, I (i : Nat))], []⟩) (fun i => i ≤ a.length) (fun i => a.length - i) 0 (mkWk [] [] (by simp [wkEnv, lk, lkh, I, str, B, U8, U64, U32]; first | done | omega) (by simp [wkHp, wkHp1, wkEnt, lkh, I, str])) ?_; rintro i hI0 Y0 hY0; skip)
 all_goals try refine XW.rS 2 ?_
 all_goals try refine XO.r0 5 ?_
 all_goals try first | refine XO.kT 10 ?_ | refine XO.kF 10 ?_ | refine XO.split 10 (fun g10 => ?_) (fun g10 => ?_)
 all_goals try refine XO.r0 5 ?_
 all_goals try refine XO.done [0, 1, 5, 15] ?_
 all_goals try first | refine XW.cT 15 ?_ | refine XW.cF 15 ?_ | refine XW.cB 15 (fun c15 => ?_) (fun c15 => ?_)
 all_goals try (refine XW.at 4 ?_; have hi := ltC g10; have hj := ltC c15; obtain ⟨x, hx, hxm⟩ := getx a i hi; obtain ⟨y, hx2, hym⟩ := getx b i hj)
 all_goals try refine XW.ra1 4 [0, 1, 5, 26] ?_
 all_goals try first | refine XW.cT 26 ?_ | refine XW.cF 26 ?_ | refine XW.cB 26 (fun c26 => ?_) (fun c26 => ?_)
 all_goals try refine XW.ra0 5 [4] ?_
 all_goals try (refine XW.atr ?_; first | (exact XP.rs ⟨_, rfl⟩))
 all_goals try refine XW.ra1 6 [0, 1, 5, 35] ?_
 all_goals try first | refine XW.cT 35 ?_ | refine XW.cF 35 ?_ | refine XW.cB 35 (fun c35 => ?_) (fun c35 => ?_)
 all_goals try refine XW.ra0 7 [4] ?_
 all_goals try (refine XW.atr ?_; first | (exact XP.rs ⟨_, rfl⟩))
 all_goals try refine XW.ra2 3 [0, 1, 5] ?_
 all_goals try (refine XH.le ?_; first | (exact eY hY0 (i + 1) (mkWk [] [] (by simp [wkEnv, lk, lkh, I, str, B, U8, U64, U32]; first | done | omega) (by simp [wkHp, wkHp1, wkEnt, lkh, I, str]))))
 all_goals try refine XW.ra0 8 [0, 1, 36] ?_
 all_goals try first | refine XW.cT 36 ?_ | refine XW.cF 36 ?_ | refine XW.cB 36 (fun c36 => ?_) (fun c36 => ?_)
 all_goals try refine XW.ra0 9 [4] ?_
 all_goals try (refine XW.atr ?_; first | (exact XP.rs ⟨_, rfl⟩))
 all_goals try refine XW.ra0 10 [42] ?_
 all_goals try first | refine XW.cT 42 ?_ | refine XW.cF 42 ?_ | refine XW.cB 42 (fun c42 => ?_) (fun c42 => ?_)
 all_goals try refine XW.ra0 11 [4] ?_
 all_goals try (refine XW.atr ?_; first | (exact XP.rs ⟨_, rfl⟩))
 all_goals try refine XW.ra0 12 [4] ?_
 all_goals try (refine XW.atr ?_; first | (exact XP.rs ⟨_, rfl⟩))
theorem near66 (x y : Ev) (n : Int) : PCall Tryz.prog 66 [.agg (evC x), .agg (evC y), I n] (fun r => ∃ b, r = B b) := by
 all_goals refine PCall.go 23 (fn := Tryz.f66) Tryz.func66 rfl rfl rfl (by simp) rfl ?_
 all_goals try refine XW.ra0 0 [2, 3, 4] ?_
 all_goals try refine XW.rS 1 ?_
 all_goals try refine XO.r2 8 ?_
 all_goals try first | refine XO.kT 14 ?_ | refine XO.kF 14 ?_ | refine XO.split 14 (fun g14 => ?_) (fun g14 => ?_)
 all_goals try refine XO.r2 9 ?_
 all_goals try refine XO.done [6] ?_
 all_goals try (refine XW.atr ?_; first | (exact XP.rs ⟨_, rfl⟩))
end Go.Proofs.YtffchapiaampmaaGreatDoor
