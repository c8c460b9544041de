/-
  Part 37 of the proof that logtidelaw45.ConsoleAnswer returns true for every list of bytes and every text, and leaves both as they were.
-/
import Derived.Test.YtffchapiaampmaaGreatDoorA17
import Derived.Test.YtffchapiaampmaaGreatDoorA36
set_option linter.unusedSimpArgs false
set_option linter.unusedVariables false
namespace Go.Proofs.YtffchapiaampmaaGreatDoor
open Go.Av
set_option maxHeartbeats 4000000
set_option maxRecDepth 10000
attribute [local irreducible] XH XO PCall ACall
/-- Decimal digits, the last one first put. -/
def decGo : Nat → Nat → S → S
 | 0, _, out => out
 | f + 1, u, out => if u / 10 = 0 then UInt8.ofNat (48 + u % 10) :: out else decGo f (u / 10) (UInt8.ofNat (48 + u % 10) :: out)
def decU (n : Int) : Nat := (if n < 0 then IntKind.u64.wrap (0 - IntKind.u64.wrap n) else IntKind.u64.wrap n).toNat
def decS (n : Int) : S := if n < 0 then 45 :: decGo 20 (decU n) [] else decGo 20 (decU n) []
theorem wrapU_range (n : Int) : 0 ≤ IntKind.u64.wrap n ∧ IntKind.u64.wrap n < 18446744073709551616 := by
 unfold IntKind.wrap
 simp [IntKind.signed, IntKind.bits]
 omega
theorem tmod10 (u : Nat) : (u : Int).tmod 10 = ((u % 10 : Nat) : Int) := by rw [Int.tmod_eq_emod_of_nonneg (by omega)]; omega
theorem tdiv10 (u : Nat) : (u : Int).tdiv 10 = ((u / 10 : Nat) : Int) := by rw [Int.tdiv_eq_ediv_of_nonneg (by omega)]; omega
theorem dec_step {f u : Nat} {out x : S} (h : decGo f u out = x) (h1 : 1 ≤ f) (h2 : u < 10 ^ f) (h3 : u / 10 ≠ 0) : decGo (f - 1) (u / 10) (UInt8.ofNat (48 + u % 10) :: out) = x ∧ 1 ≤ f - 1 ∧ u / 10 < 10 ^ (f - 1) := by
 obtain ⟨g, rfl⟩ : ∃ g, f = g + 1 := ⟨f - 1, by omega⟩
 simp only [decGo, if_neg h3] at h
 have h4 : u / 10 < 10 ^ g := by rw [Nat.div_lt_iff_lt_mul (by omega)]; rw [Nat.pow_succ] at h2; exact h2
 refine ⟨h, ?_, h4⟩
 rcases Nat.eq_zero_or_pos g with h0 | h0
 · subst h0; simp at h4; omega
 · omega
theorem dec_end {f u : Nat} {out x : S} (h : decGo f u out = x) (h1 : 1 ≤ f) (h3 : u / 10 = 0) : UInt8.ofNat (48 + u % 10) :: out = x := by
 obtain ⟨g, rfl⟩ : ∃ g, f = g + 1 := ⟨f - 1, by omega⟩
 simpa only [decGo, if_pos h3] using h
theorem eq0C {a : Nat} (h : ((a : Int) == 0) = true) : a = 0 := by
 have := eq_of_beq h; omega
theorem ne0C {a : Nat} (h : ((a : Int) == 0) = false) : a ≠ 0 := by
 have := beq_eq_false_iff_ne.1 h; omega
theorem bytesE_cons (d : UInt8) (l : S) : bytesE (d :: l) = [AV.val (Value.int IntKind.u8 d.toNat)] :: bytesE l := rfl
theorem dig_toNat (u : Nat) : ((UInt8.ofNat (48 + u % 10)).toNat : Int) = 48 + ((u % 10 : Nat) : Int) := by
 have : (UInt8.ofNat (48 + u % 10)).toNat = 48 + u % 10 := by
   simp [UInt8.toNat_ofNat']; omega
 omega
theorem digE (u : Nat) : ∃ d : UInt8, UInt8.ofNat (48 + u % 10) = d ∧ (d.toNat : Int) = 48 + ((u % 10 : Nat) : Int) := ⟨_, rfl, dig_toNat u⟩
theorem decimal48 (n : Int) : PCall Tryz.prog 48 [I n] (fun r => r = str (decS n)) := by
 obtain ⟨u1, hu1⟩ : ∃ u1 : Nat, (u1 : Int) = IntKind.u64.wrap n := ⟨(IntKind.u64.wrap n).toNat, Int.toNat_of_nonneg (wrapU_range n).1⟩
 obtain ⟨u2, hu2⟩ : ∃ u2 : Nat, (u2 : Int) = IntKind.u64.wrap (0 - IntKind.u64.wrap n) := ⟨_, Int.toNat_of_nonneg (wrapU_range _).1⟩
 have hr1 := (wrapU_range n).2
 have hr2 := (wrapU_range (0 - IntKind.u64.wrap n)).2
 rw [← hu1] at hr1 hu2
 rw [← hu1, ← hu2] at hr2
 have hx := hu1.symm
 have hx2 := hu2.symm
 have hd : decU n = if n < 0 then u2 else u1 := by unfold decU; rw [hx, hx2]; split <;> simp
 all_goals refine PCall.go 29 (fn := Tryz.f48) Tryz.func48 rfl rfl rfl (by simp) rfl ?_
 all_goals try refine XW.ra0 0 [0] ?_
 all_goals try refine XW.ra3 1 [0, 3] ?_
 all_goals try refine XW.ra0 2 [0, 3, 8] ?_
 all_goals try first | refine XW.cT 8 ?_ | refine XW.cF 8 ?_ | refine XW.cB 8 (fun c8 => ?_) (fun c8 => ?_)
 all_goals try refine XW.ra3 3 [0, 3] ?_
 all_goals try refine XW.ra0 4 [0, 3, 4] ?_
 all_goals try ((first | (have hn := of_decide_eq_true c8; rw [if_pos hn] at hd) | (have hn := of_decide_eq_false c8; rw [if_neg hn] at hd)); (first | refine XW.lp 1 (fun s : Nat × S => ⟨[(0, I n), (3, .val (.int .u64 (s.1 : Nat))), (4, .osl 0 s.2.length 1)], [(0, some ⟨5, 1, bytesE s.2⟩)]⟩) (fun s => ∃ f, decGo f s.1 s.2 = decGo 20 (decU n) [] ∧ s.1 < 10 ^ f ∧ f + s.2.length = 20 ∧ s.1 < 2 ^ 64 ∧ 1 ≤ f) (fun s => s.1) (u1, []) (mkWk [none] [] (by simp [wkEnv, lk, lkh, I, str, B, U8, U64, U32]; first | done | omega) (by simp [wkHp, wkHp1, wkEnt, lkh, I, str])) ?_ (h0 := ⟨20, by rw [hd], by simp only; omega, rfl, by simp only; omega, by omega⟩) | refine XW.lp 1 (fun s : Nat × S => ⟨[(0, I n), (3, .val (.int .u64 (s.1 : Nat))), (4, .osl 0 s.2.length 1)], [(0, some ⟨5, 1, bytesE s.2⟩)]⟩) (fun s => ∃ f, decGo f s.1 s.2 = decGo 20 (decU n) [] ∧ s.1 < 10 ^ f ∧ f + s.2.length = 20 ∧ s.1 < 2 ^ 64 ∧ 1 ≤ f) (fun s => s.1) (u2, []) (mkWk [none] [] (by simp [wkEnv, lk, lkh, I, str, B, U8, U64, U32]; first | done | omega) (by simp [wkHp, wkHp1, wkEnt, lkh, I, str])) ?_ (h0 := ⟨20, by rw [hd], by simp only; omega, rfl, by simp only; omega, by omega⟩)); rintro ⟨u, out⟩ hI0 Y0 hY0; obtain ⟨f, hf1, hf2, hf3, hf4, hf5⟩ := hI0; simp only at hf1 hf2 hf3 hf4; obtain ⟨d, hd0, hdg⟩ := digE u; have hx := tmod10 u; have hx2 := tdiv10 u)
 all_goals try refine XW.ra3 5 [0, 3, 4] ?_
 all_goals try (refine XW.at 6 ?_; have he : [AV.val (Value.int IntKind.u8 (48 + ((u % 10 : Nat) : Int)))] :: bytesE out = bytesE (d :: out) := (by rw [bytesE_cons, hdg]); rw [he])
 all_goals try refine XW.ra3 6 [0, 3, 4] ?_
 all_goals try refine XW.ra3 7 [0, 3, 4, 21] ?_
 all_goals try first | refine XW.cT 21 ?_ | refine XW.cF 21 ?_ | refine XW.cB 21 (fun c21 => ?_) (fun c21 => ?_)
 all_goals try (refine XH.le ?_; (have h3 := ne0C c21; obtain ⟨e1, e2, e3⟩ := dec_step hf1 hf5 hf2 h3; rw [hd0] at e1); first | (exact hY0 (u / 10, d :: out) ((by exact ⟨f - 1, e1, e3, by simp only [List.length_cons]; omega, by simp only; omega, e2⟩)) (by first | omega | (simp; done) | (simp; omega)) _ _ (mkWk [some 0] [] (by simp [wkEnv, lk, lkh, I, str, B, U8, U64, U32, List.length_cons]; first | done | omega) (by simp [wkHp, wkHp1, wkEnt, lkh, I, str, List.length_cons]))))
 all_goals try (refine XW.at 8 ?_; have h5 := dec_end hf1 hf5 (eq0C c21); rw [hd0] at h5; have h6 := congrArg List.length h5; rw [List.length_cons] at h6; rw [h5])
 all_goals try refine XW.ra0 8 [4, 23] ?_
 all_goals try first | refine XW.cT 23 ?_ | refine XW.cF 23 ?_ | refine XW.cB 23 (fun c23 => ?_) (fun c23 => ?_)
 all_goals try refine XW.ra0 9 [4] ?_
 all_goals try (refine XW.at 10 ?_; first | (have he2 : ∀ x, [AV.val (Value.int IntKind.u8 45)] :: bytesE x = bytesE (45 :: x) := fun _ => rfl; rw [he2]) | skip)
 all_goals try refine XW.ra2 10 [2] ?_
 all_goals try (refine XW.atr ?_; first | (exact XP.rs (by simp only [decS]; rw [if_pos (of_decide_eq_true c23)])) | (exact XP.rs (by simp only [decS]; rw [if_neg (of_decide_eq_false c23)])))
/-- Events whose texts are of bounded size. -/
structure EvB (e : Ev) : Prop where
 tr : e.trace.length ≤ 2 ^ 20
 sm : e.stream.length ≤ 2 ^ 20
 fn : e.fields.length ≤ 2 ^ 20
 fl : ∀ f ∈ e.fields, f.name.length ≤ 2 ^ 20 ∧ f.val.length ≤ 2 ^ 20
 ln : e.lines.length ≤ 40
 lt : ∀ x ∈ e.lines, x.text.length ≤ 2000
 wt : In64 e.weight
theorem In64w (n : Int) : In64 (IntKind.i64.wrap n) := by
 have e1 : ((2 : Int) ^ IntKind.i64.bits) = 18446744073709551616 := by decide
 have e2 : IntKind.i64.signed = true := rfl
 have e3 : ((2 : Int) ^ (IntKind.i64.bits - 1)) = 9223372036854775808 := by decide
 unfold In64 IntKind.wrap
 simp only [e1, e2, e3, Bool.true_and, ge_iff_le, decide_eq_true_eq]
 split <;> omega
theorem In64z : In64 0 := by unfold In64; omega
theorem In64o : In64 1 := by unfold In64; omega
theorem decGo_len : ∀ (f u : Nat) (out : S), (decGo f u out).length ≤ f + out.length
 | 0, _, out => by simp [decGo]
 | f + 1, u, out => by
   simp only [decGo]
   split
   · simp; omega
   · have := decGo_len f (u / 10) (UInt8.ofNat (48 + u % 10) :: out)
     simp only [List.length_cons] at this; omega
theorem decS_len (n : Int) : (decS n).length ≤ 2 ^ 20 := by
 have := decGo_len 20 (decU n) []
 unfold decS
 split <;> simp at this ⊢ <;> omega
def VR : AV → Prop := fun r => ∃ (v : S) (b : Bool), r = .tup [str v, B b] ∧ v.length ≤ 2 ^ 20
theorem get87 (fs : List Fl) (n : S) (h1 : fs.length ≤ 2 ^ 20) (h2 : ∀ f ∈ fs, f.name.length ≤ 2 ^ 20 ∧ f.val.length ≤ 2 ^ 20) : PCall Tryz.prog 87 [.sl 2 (flE fs), str n] VR := by
 have h := get11 fs n (by omega)
 have hg : VR (getR fs n) := by
   unfold getR VR
   cases hf : getF fs n with
   | none => exact ⟨_, _, rfl, by simp⟩
   | some f => exact ⟨_, _, rfl, (h2 f (List.mem_of_find?_eq_some hf)).2⟩
 obtain ⟨v, b, e, hv⟩ := hg
 exact PCall.mk _ ⟨v, b, e, hv⟩ (by rw [e]; rfl) h
theorem value64 (e : Ev) (h : EvB e) (nm : S) : PCall Tryz.prog 64 [.agg (evC e), str nm] (VR) := by
 all_goals refine PCall.go 41 (fn := Tryz.f64) Tryz.func64 rfl rfl rfl (by simp) rfl ?_
 all_goals try refine XW.ra0 0 [1, 2] ?_
 all_goals try refine XW.ra0 1 [1, 2, 6] ?_
 all_goals try refine XW.ra0 2 [1, 2, 6, 7] ?_
 all_goals try first | refine XW.cT 7 ?_ | refine XW.cF 7 ?_ | refine XW.cB 7 (fun c7 => ?_) (fun c7 => ?_)
 all_goals try refine XW.rS 3 ?_
 all_goals try refine XO.r0 2 ?_
 all_goals try (refine XO.p (decimal48 _) ?_; rintro _ rfl)
 all_goals try refine XO.r0 2 ?_
 all_goals try refine XO.done [4, 5] ?_
 all_goals try (refine XW.atr ?_; first | (exact XP.rs ⟨_, _, rfl, decS_len _⟩) | (exact XP.rs ⟨_, _, rfl, h.tr⟩) | (exact XP.rs ⟨_, _, rfl, h.sm⟩) | (exact XP.rs ⟨_, _, rfl, hv⟩))
 all_goals try refine XW.ra0 4 [1, 2, 6, 12] ?_
 all_goals try first | refine XW.cT 12 ?_ | refine XW.cF 12 ?_ | refine XW.cB 12 (fun c12 => ?_) (fun c12 => ?_)
 all_goals try refine XW.rS 5 ?_
 all_goals try refine XO.r0 2 ?_
 all_goals try (refine XO.p (decimal48 _) ?_; rintro _ rfl)
 all_goals try refine XO.r0 2 ?_
 all_goals try refine XO.done [4, 5] ?_
 all_goals try (refine XW.atr ?_; first | (exact XP.rs ⟨_, _, rfl, decS_len _⟩) | (exact XP.rs ⟨_, _, rfl, h.tr⟩) | (exact XP.rs ⟨_, _, rfl, h.sm⟩) | (exact XP.rs ⟨_, _, rfl, hv⟩))
 all_goals try refine XW.ra0 6 [1, 2, 6, 17] ?_
 all_goals try first | refine XW.cT 17 ?_ | refine XW.cF 17 ?_ | refine XW.cB 17 (fun c17 => ?_) (fun c17 => ?_)
 all_goals try refine XW.rS 7 ?_
 all_goals try refine XO.r0 2 ?_
 all_goals try (refine XO.p (decimal48 _) ?_; rintro _ rfl)
 all_goals try refine XO.r0 2 ?_
 all_goals try refine XO.done [4, 5] ?_
 all_goals try (refine XW.atr ?_; first | (exact XP.rs ⟨_, _, rfl, decS_len _⟩) | (exact XP.rs ⟨_, _, rfl, h.tr⟩) | (exact XP.rs ⟨_, _, rfl, h.sm⟩) | (exact XP.rs ⟨_, _, rfl, hv⟩))
 all_goals try refine XW.ra0 8 [1, 2, 6, 22] ?_
 all_goals try first | refine XW.cT 22 ?_ | refine XW.cF 22 ?_ | refine XW.cB 22 (fun c22 => ?_) (fun c22 => ?_)
 all_goals try refine XW.rS 9 ?_
 all_goals try refine XO.r0 2 ?_
 all_goals try (refine XO.p (decimal48 _) ?_; rintro _ rfl)
 all_goals try refine XO.r0 2 ?_
 all_goals try refine XO.done [4, 5] ?_
 all_goals try (refine XW.atr ?_; first | (exact XP.rs ⟨_, _, rfl, decS_len _⟩) | (exact XP.rs ⟨_, _, rfl, h.tr⟩) | (exact XP.rs ⟨_, _, rfl, h.sm⟩) | (exact XP.rs ⟨_, _, rfl, hv⟩))
 all_goals try refine XW.ra0 10 [1, 2, 6, 27] ?_
 all_goals try first | refine XW.cT 27 ?_ | refine XW.cF 27 ?_ | refine XW.cB 27 (fun c27 => ?_) (fun c27 => ?_)
 all_goals try refine XW.ra0 11 [4, 5] ?_
 all_goals try (refine XW.atr ?_; first | (exact XP.rs ⟨_, _, rfl, decS_len _⟩) | (exact XP.rs ⟨_, _, rfl, h.tr⟩) | (exact XP.rs ⟨_, _, rfl, h.sm⟩) | (exact XP.rs ⟨_, _, rfl, hv⟩))
 all_goals try refine XW.ra0 12 [1, 2, 31] ?_
 all_goals try first | refine XW.cT 31 ?_ | refine XW.cF 31 ?_ | refine XW.cB 31 (fun c31 => ?_) (fun c31 => ?_)
 all_goals try refine XW.ra0 13 [4, 5] ?_
 all_goals try (refine XW.atr ?_; first | (exact XP.rs ⟨_, _, rfl, decS_len _⟩) | (exact XP.rs ⟨_, _, rfl, h.tr⟩) | (exact XP.rs ⟨_, _, rfl, h.sm⟩) | (exact XP.rs ⟨_, _, rfl, hv⟩))
 all_goals try refine XW.rS 14 ?_
 all_goals try refine XO.r0 3 ?_
 all_goals try (refine XO.p (get87 e.fields nm h.fn h.fl) ?_; rintro _ ⟨v, b, rfl, hv⟩)
 all_goals try refine XO.r0 4 ?_
 all_goals try refine XO.done [4, 5] ?_
 all_goals try (refine XW.atr ?_; first | (exact XP.rs ⟨_, _, rfl, decS_len _⟩) | (exact XP.rs ⟨_, _, rfl, h.tr⟩) | (exact XP.rs ⟨_, _, rfl, h.sm⟩) | (exact XP.rs ⟨_, _, rfl, hv⟩))
theorem number106 (s : S) (hs : s.length ≤ 2 ^ 30) : PCall Tryz.prog 106 [str s] (fun r => ∃ (n : Int) (b : Bool), r = .tup [I n, B b] ∧ In64 n) := by
 all_goals refine PCall.go 53 (fn := Tryz.f106) Tryz.func106 rfl rfl rfl (by simp) rfl ?_
 all_goals try refine XW.ra0 0 [0] ?_
 all_goals try refine XW.ra0 1 [0, 4] ?_
 all_goals try refine XW.rS 2 ?_
 all_goals try refine XO.r0 4 ?_
 all_goals try first | refine XO.kT 11 ?_ | refine XO.kF 11 ?_ | refine XO.split 11 (fun g11 => ?_) (fun g11 => ?_)
 all_goals try refine XO.r0 1 ?_
 all_goals try (have h0 := gt0 g11; obtain ⟨x, hx, _⟩ := getx s 0 h0)
 all_goals try refine XO.r1 3 ?_
 all_goals try refine XO.done [0, 4, 15] ?_
 all_goals try first | refine XW.cT 15 ?_ | refine XW.cF 15 ?_ | refine XW.cB 15 (fun c15 => ?_) (fun c15 => ?_)
 all_goals try refine XW.ra3 3 [0, 4] ?_
 all_goals try (refine XW.at 4 ?_; first | (obtain ⟨d, hd, hdl⟩ : ∃ d : S, d = (s.take s.length).drop 1 ∧ d.length ≤ s.length := ⟨_, rfl, by simp⟩; rw [← hd]) | (obtain ⟨d, hd, hdl⟩ : ∃ d : S, d = s ∧ d.length ≤ s.length := ⟨s, rfl, Nat.le_refl _⟩; skip))
 all_goals try refine XW.rS 4 ?_
 all_goals try refine XO.r0 4 ?_
 all_goals try first | refine XO.kT 21 ?_ | refine XO.kF 21 ?_ | refine XO.split 21 (fun g21 => ?_) (fun g21 => ?_)
 all_goals try refine XO.r0 4 ?_
 all_goals try refine XO.done [0, 4, 25] ?_
 all_goals try first | refine XW.cT 25 ?_ | refine XW.cF 25 ?_ | refine XW.cB 25 (fun c25 => ?_) (fun c25 => ?_)
 all_goals try refine XW.ra0 5 [2, 3] ?_
 all_goals try (refine XW.atr ?_; first | (exact XP.rs ⟨_, _, rfl, In64z⟩) | (exact XP.rs ⟨_, _, rfl, In64w _⟩) | (exact XP.rs ⟨_, _, rfl, hI0.2⟩))
 all_goals try refine XW.ra0 6 [0, 4, 5] ?_
 all_goals try refine XW.ra0 7 [0, 4, 5, 6] ?_
 all_goals try (refine XW.lp 0 (fun p : Nat × Int => ⟨[(0, str s), (4, str d), (5, I p.2), (6, I (p.1 : Nat))], []⟩) (fun p => p.1 ≤ d.length ∧ In64 p.2) (fun p => d.length - p.1) (0, 0) (mkWk [] [] (by simp [wkEnv, lk, lkh, I, str, B, U8, U64, U32, hd]; first | done | omega) (by simp [wkHp, wkHp1, wkEnt, lkh, I, str, hd])) ?_ (h0 := ⟨by simp, In64z⟩); rintro ⟨i, v⟩ hI0 Y0 hY0; simp only at hI0)
 all_goals try refine XW.ra0 8 [0, 4, 5, 6, 29] ?_
 all_goals try first | refine XW.cT 29 ?_ | refine XW.cF 29 ?_ | refine XW.cB 29 (fun c29 => ?_) (fun c29 => ?_)
 all_goals try (refine XW.at 10 ?_; have hi9 := hI0.1; have hi := ltC c29; obtain ⟨x, hx, _⟩ := getx d i hi)
 all_goals try refine XW.rS 10 ?_
 all_goals try refine XO.r1 3 ?_
 all_goals try (refine XO.p (digit99 _) ?_; rintro _ ⟨_, rfl⟩)
 all_goals try refine XO.r0 1 ?_
 all_goals try refine XO.done [0, 4, 5, 6, 36] ?_
 all_goals try first | refine XW.cT 36 ?_ | refine XW.cF 36 ?_ | refine XW.cB 36 (fun c36 => ?_) (fun c36 => ?_)
 all_goals try refine XW.ra0 11 [2, 3] ?_
 all_goals try (refine XW.atr ?_; first | (exact XP.rs ⟨_, _, rfl, In64z⟩) | (exact XP.rs ⟨_, _, rfl, In64w _⟩) | (exact XP.rs ⟨_, _, rfl, hI0.2⟩))
 all_goals try refine XW.ra3 12 [0, 4, 5, 6] ?_
 all_goals try (refine XW.at 9 ?_; obtain ⟨v2, hv2, hv3⟩ : ∃ v2, v2 = IntKind.i64.wrap (IntKind.i64.wrap (10 * v) + IntKind.i64.wrap (IntKind.u8.wrap ((x.toNat : Int) - 48))) ∧ In64 v2 := ⟨_, rfl, In64w _⟩; rw [← hv2])
 all_goals try refine XW.ra2 9 [0, 4, 5, 6] ?_
 all_goals try (refine XH.le ?_; first | (exact hY0 (i + 1, v2) (⟨by simp only; omega, hv3⟩) (by first | omega | (simp; done) | (simp; omega)) _ _ (mkWk [] [] (by simp [wkEnv, lk, lkh, I, str, B, U8, U64, U32]; first | done | omega) (by simp [wkHp, wkHp1, wkEnt, lkh, I, str]))))
 all_goals try refine XW.ra0 13 [5, 49] ?_
 all_goals try first | refine XW.cT 49 ?_ | refine XW.cF 49 ?_ | refine XW.cB 49 (fun c49 => ?_) (fun c49 => ?_)
 all_goals try refine XW.ra2 14 [5] ?_
 all_goals try refine XW.ra0 15 [2, 3] ?_
 all_goals try (refine XW.atr ?_; first | (exact XP.rs ⟨_, _, rfl, In64z⟩) | (exact XP.rs ⟨_, _, rfl, In64w _⟩) | (exact XP.rs ⟨_, _, rfl, hI0.2⟩))
theorem parse88 (s : S) (hs : s.length ≤ 2 ^ 30) : PCall Tryz.prog 88 [str s] (fun r => ∃ (n : Int) (b : Bool), r = .tup [I n, B b] ∧ In64 n) := by
 all_goals refine PCall.go 8 (fn := Tryz.f88) Tryz.func88 rfl rfl rfl (by simp) rfl ?_
 all_goals try refine XW.ra0 0 [0] ?_
 all_goals try refine XW.rS 1 ?_
 all_goals try refine XO.r0 1 ?_
 all_goals try (refine XO.p (number106 s hs) ?_; rintro _ ⟨n, b, rfl, hn⟩)
 all_goals try refine XO.r0 4 ?_
 all_goals try refine XO.done [2, 3] ?_
 all_goals try (refine XW.atr ?_; first | (exact XP.rs ⟨_, _, rfl, hn⟩))
theorem number65 (e : Ev) (h : EvB e) (nm : S) : PCall Tryz.prog 65 [.agg (evC e), str nm] (fun r => ∃ (n : Int) (b : Bool), r = .tup [I n, B b] ∧ In64 n) := by
 all_goals refine PCall.go 20 (fn := Tryz.f65) Tryz.func65 rfl rfl rfl (by simp) rfl ?_
 all_goals try refine XW.ra0 0 [1, 2] ?_
 all_goals try refine XW.rS 1 ?_
 all_goals try refine XO.r0 2 ?_
 all_goals try (refine XO.p (value64 e h nm) ?_; rintro _ ⟨v, b, rfl, hv⟩)
 all_goals try refine XO.r0 5 ?_
 all_goals try refine XO.done [6, 7] ?_
 all_goals try refine XW.ra0 2 [6, 15] ?_
 all_goals try first | refine XW.cT 15 ?_ | refine XW.cF 15 ?_ | refine XW.cB 15 (fun c15 => ?_) (fun c15 => ?_)
 all_goals try refine XW.ra0 3 [4, 5] ?_
 all_goals try (refine XW.atr ?_; first | (exact XP.rs ⟨_, _, rfl, In64z⟩) | (exact XP.rs ⟨_, _, rfl, hn⟩))
 all_goals try refine XW.rS 4 ?_
 all_goals try refine XO.r0 1 ?_
 all_goals try (refine XO.p (parse88 v (by omega)) ?_; rintro _ ⟨n, b2, rfl, hn⟩)
 all_goals try refine XO.r0 4 ?_
 all_goals try refine XO.done [4, 5] ?_
 all_goals try (refine XW.atr ?_; first | (exact XP.rs ⟨_, _, rfl, In64z⟩) | (exact XP.rs ⟨_, _, rfl, hn⟩))
end Go.Proofs.YtffchapiaampmaaGreatDoor
