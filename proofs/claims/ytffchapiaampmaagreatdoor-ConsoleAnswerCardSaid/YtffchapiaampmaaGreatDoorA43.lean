/-
  Part 43 of the proof that logtidelaw45.ConsoleAnswer returns true for every list of bytes and every text, and leaves both as they were.
-/
import Derived.Test.YtffchapiaampmaaGreatDoorA41
import Derived.Test.YtffchapiaampmaaGreatDoorA42
set_option linter.unusedSimpArgs false
set_option linter.unusedVariables false
namespace Go.Proofs.YtffchapiaampmaaGreatDoor
open Go.Av
set_option maxHeartbeats 4000000
set_option maxRecDepth 10000
attribute [local irreducible] XH XO PCall ACall
def kd0 : List (List AV) := [[.val (.int .i64 4), .val (.slice none 0 0), .val (.string ⟨#[]⟩), .sl 6 [[.val (.int .i64 1), .sl 2 [[.val (.int .u8 48), .val (.int .u8 57)]], .val (.string ⟨#[]⟩), .val (.slice none 0 0), .val (.int .i64 0), .val (.int .i64 0)]], .val (.int .i64 1), .val (.int .i64 (-1))]]
theorem nd0_eq : nd0 = .agg [I 5, nilV, str [109, 115], .sl 6 kd0, I 0, I 0] := rfl
def pr0 : List In := [⟨12, 0, 0, []⟩, ⟨1, 0, 0, [(48, 57)]⟩, ⟨10, 3, 7, []⟩, ⟨14, 0, 0, []⟩, ⟨1, 0, 0, [(48, 57)]⟩, ⟨15, 0, 0, []⟩, ⟨11, 2, 0, []⟩, ⟨12, 1, 0, []⟩, ⟨13, 0, 0, []⟩]
def pe0 : Nat → Bool := fun n => n == 4
def ps0 : Nat → Nat := fun n => if n = 0 then 0 else if n = 1 then 7 else if n = 2 then 100 else 100
theorem okp0 : OkP pr0 pe0 ps0 := ⟨by decide, by decide, by decide +kernel⟩
theorem prs0 : ∀ i ∈ pr0, i.rs.length ≤ 2 ^ 20 := by decide +kernel
theorem prog101_0 : PCall Tryz.prog 101 [.agg [I 5, nilV, str [109, 115], .sl 6 kd0, I 0, I 0]] (fun r => r = .sl 4 (inE pr0)) := PCall.lo (nd0_eq ▸ program101_0) (by decide +kernel)
theorem chk78_0 : PCall Tryz.prog 78 [.agg [I 5, nilV, str [109, 115], .sl 6 kd0, I 0, I 0]] (fun r => r = I 0) := PCall.of (nd0_eq ▸ check78_0)
theorem cst118_0 : PCall Tryz.prog 118 [.agg [I 5, nilV, str [109, 115], .sl 6 kd0, I 0, I 0]] (fun r => r = I 7) := PCall.of (nd0_eq ▸ cost118_0)
theorem cap121_0 : PCall Tryz.prog 121 [.agg [I 5, nilV, str [109, 115], .sl 6 kd0, I 0, I 0]] (fun r => r = .sl 1 [[str [109, 115]]]) := nd0_eq ▸ captures121_0
def kd1 : List (List AV) := [[.val (.int .i64 5), .val (.slice none 0 0), .val (.string ⟨#[117, 115, 101, 114]⟩), .sl 6 [[.val (.int .i64 4), .val (.slice none 0 0), .val (.string ⟨#[]⟩), .sl 6 [[.val (.int .i64 1), .sl 2 [[.val (.int .u8 97), .val (.int .u8 122)]], .val (.string ⟨#[]⟩), .val (.slice none 0 0), .val (.int .i64 0), .val (.int .i64 0)]], .val (.int .i64 1), .val (.int .i64 (-1))]], .val (.int .i64 0), .val (.int .i64 0)], [.val (.int .i64 1), .sl 2 [[.val (.int .u8 95), .val (.int .u8 95)]], .val (.string ⟨#[]⟩), .val (.slice none 0 0), .val (.int .i64 0), .val (.int .i64 0)], [.val (.int .i64 5), .val (.slice none 0 0), .val (.string ⟨#[99, 111, 100, 101]⟩), .sl 6 [[.val (.int .i64 1), .sl 2 [[.val (.int .u8 48), .val (.int .u8 57)]], .val (.string ⟨#[]⟩), .val (.slice none 0 0), .val (.int .i64 0), .val (.int .i64 0)]], .val (.int .i64 0), .val (.int .i64 0)]]
theorem nd1_eq : nd1 = .agg [I 2, nilV, str [], .sl 6 kd1, I 0, I 0] := rfl
def pr1 : List In := [⟨12, 0, 0, []⟩, ⟨1, 0, 0, [(97, 122)]⟩, ⟨10, 3, 7, []⟩, ⟨14, 0, 0, []⟩, ⟨1, 0, 0, [(97, 122)]⟩, ⟨15, 0, 0, []⟩, ⟨11, 2, 0, []⟩, ⟨12, 1, 0, []⟩, ⟨1, 0, 0, [(95, 95)]⟩, ⟨12, 2, 0, []⟩, ⟨1, 0, 0, [(48, 57)]⟩, ⟨12, 3, 0, []⟩, ⟨13, 0, 0, []⟩]
def pe1 : Nat → Bool := fun n => n == 4
def ps1 : Nat → Nat := fun n => if n = 0 then 0 else if n = 1 then 7 else if n = 2 then 9 else 11
theorem okp1 : OkP pr1 pe1 ps1 := ⟨by decide, by decide, by decide +kernel⟩
theorem prs1 : ∀ i ∈ pr1, i.rs.length ≤ 2 ^ 20 := by decide +kernel
theorem prog101_1 : PCall Tryz.prog 101 [.agg [I 2, nilV, str [], .sl 6 kd1, I 0, I 0]] (fun r => r = .sl 4 (inE pr1)) := PCall.lo (nd1_eq ▸ program101_1) (by decide +kernel)
theorem chk78_1 : PCall Tryz.prog 78 [.agg [I 2, nilV, str [], .sl 6 kd1, I 0, I 0]] (fun r => r = I 0) := PCall.of (nd1_eq ▸ check78_1)
theorem cst118_1 : PCall Tryz.prog 118 [.agg [I 2, nilV, str [], .sl 6 kd1, I 0, I 0]] (fun r => r = I 14) := PCall.of (nd1_eq ▸ cost118_1)
theorem cap121_1 : PCall Tryz.prog 121 [.agg [I 2, nilV, str [], .sl 6 kd1, I 0, I 0]] (fun r => r = .sl 1 [[str [117, 115, 101, 114]], [str [99, 111, 100, 101]]]) := nd1_eq ▸ captures121_1
def rk2 : List (List AV) := [[.val (.int .u8 120), .val (.int .u8 120)]]
theorem nd2_eq : nd2 = .agg [I 1, .sl 2 rk2, str [], nilV, I 0, I 0] := rfl
def pr2 : List In := [⟨1, 0, 0, [(120, 120)]⟩, ⟨13, 0, 0, []⟩]
def pe2 : Nat → Bool := fun n => false
def ps2 : Nat → Nat := fun n => if n = 0 then 100 else if n = 1 then 100 else if n = 2 then 100 else 100
theorem okp2 : OkP pr2 pe2 ps2 := ⟨by decide, by decide, by decide +kernel⟩
theorem prs2 : ∀ i ∈ pr2, i.rs.length ≤ 2 ^ 20 := by decide +kernel
theorem prog101_2 : PCall Tryz.prog 101 [.agg [I 1, .sl 2 rk2, str [], nilV, I 0, I 0]] (fun r => r = .sl 4 (inE pr2)) := PCall.lo (nd2_eq ▸ program101_2) (by decide +kernel)
theorem chk78_2 : PCall Tryz.prog 78 [.agg [I 1, .sl 2 rk2, str [], nilV, I 0, I 0]] (fun r => r = I 0) := PCall.of (nd2_eq ▸ check78_2)
theorem cst118_2 : PCall Tryz.prog 118 [.agg [I 1, .sl 2 rk2, str [], nilV, I 0, I 0]] (fun r => r = I 1) := PCall.of (nd2_eq ▸ cost118_2)
theorem cap121_2 : PCall Tryz.prog 121 [.agg [I 1, .sl 2 rk2, str [], nilV, I 0, I 0]] (fun r => r = nilV) := nd2_eq ▸ captures121_2
def kd3 : List (List AV) := [[.val (.int .i64 3), .val (.slice none 0 0), .val (.string ⟨#[]⟩), .sl 6 [[.val (.int .i64 2), .val (.slice none 0 0), .val (.string ⟨#[]⟩), .sl 6 [[.val (.int .i64 1), .sl 2 [[.val (.int .u8 103), .val (.int .u8 103)]], .val (.string ⟨#[]⟩), .val (.slice none 0 0), .val (.int .i64 0), .val (.int .i64 0)], [.val (.int .i64 1), .sl 2 [[.val (.int .u8 101), .val (.int .u8 101)]], .val (.string ⟨#[]⟩), .val (.slice none 0 0), .val (.int .i64 0), .val (.int .i64 0)], [.val (.int .i64 1), .sl 2 [[.val (.int .u8 116), .val (.int .u8 116)]], .val (.string ⟨#[]⟩), .val (.slice none 0 0), .val (.int .i64 0), .val (.int .i64 0)]], .val (.int .i64 0), .val (.int .i64 0)], [.val (.int .i64 2), .val (.slice none 0 0), .val (.string ⟨#[]⟩), .sl 6 [[.val (.int .i64 1), .sl 2 [[.val (.int .u8 119), .val (.int .u8 119)]], .val (.string ⟨#[]⟩), .val (.slice none 0 0), .val (.int .i64 0), .val (.int .i64 0)], [.val (.int .i64 1), .sl 2 [[.val (.int .u8 97), .val (.int .u8 97)]], .val (.string ⟨#[]⟩), .val (.slice none 0 0), .val (.int .i64 0), .val (.int .i64 0)], [.val (.int .i64 1), .sl 2 [[.val (.int .u8 114), .val (.int .u8 114)]], .val (.string ⟨#[]⟩), .val (.slice none 0 0), .val (.int .i64 0), .val (.int .i64 0)], [.val (.int .i64 1), .sl 2 [[.val (.int .u8 110), .val (.int .u8 110)]], .val (.string ⟨#[]⟩), .val (.slice none 0 0), .val (.int .i64 0), .val (.int .i64 0)]], .val (.int .i64 0), .val (.int .i64 0)]], .val (.int .i64 0), .val (.int .i64 0)]]
theorem nd3_eq : nd3 = .agg [I 5, nilV, str [108, 101, 118, 101, 108], .sl 6 kd3, I 0, I 0] := rfl
def pr3 : List In := [⟨12, 0, 0, []⟩, ⟨10, 2, 6, []⟩, ⟨1, 0, 0, [(103, 103)]⟩, ⟨1, 0, 0, [(101, 101)]⟩, ⟨1, 0, 0, [(116, 116)]⟩, ⟨11, 10, 0, []⟩, ⟨1, 0, 0, [(119, 119)]⟩, ⟨1, 0, 0, [(97, 97)]⟩, ⟨1, 0, 0, [(114, 114)]⟩, ⟨1, 0, 0, [(110, 110)]⟩, ⟨12, 1, 0, []⟩, ⟨13, 0, 0, []⟩]
def pe3 : Nat → Bool := fun n => false
def ps3 : Nat → Nat := fun n => if n = 0 then 0 else if n = 1 then 10 else if n = 2 then 100 else 100
theorem okp3 : OkP pr3 pe3 ps3 := ⟨by decide, by decide, by decide +kernel⟩
theorem prs3 : ∀ i ∈ pr3, i.rs.length ≤ 2 ^ 20 := by decide +kernel
theorem prog101_3 : PCall Tryz.prog 101 [.agg [I 5, nilV, str [108, 101, 118, 101, 108], .sl 6 kd3, I 0, I 0]] (fun r => r = .sl 4 (inE pr3)) := PCall.lo (nd3_eq ▸ program101_3) (by decide +kernel)
theorem chk78_3 : PCall Tryz.prog 78 [.agg [I 5, nilV, str [108, 101, 118, 101, 108], .sl 6 kd3, I 0, I 0]] (fun r => r = I 0) := PCall.of (nd3_eq ▸ check78_3)
theorem cst118_3 : PCall Tryz.prog 118 [.agg [I 5, nilV, str [108, 101, 118, 101, 108], .sl 6 kd3, I 0, I 0]] (fun r => r = I 18) := PCall.of (nd3_eq ▸ cost118_3)
theorem cap121_3 : PCall Tryz.prog 121 [.agg [I 5, nilV, str [108, 101, 118, 101, 108], .sl 6 kd3, I 0, I 0]] (fun r => r = .sl 1 [[str [108, 101, 118, 101, 108]]]) := nd3_eq ▸ captures121_3
structure Gr where
 nm : S
 a : Int
 b : Int
def grC (x : Gr) : List AV := [str x.nm, I x.a, I x.b]
def grE (l : List Gr) : List (List AV) := l.map grC
theorem grE_len (l : List Gr) : (grE l).length = l.length := by simp [grE]
theorem grE_getE (l : List Gr) (i : Nat) : (grE l)[i]? = (l[i]?).map grC := by simp [grE]
@[simp] theorem grE_id (k : Nat) (l : List Gr) : idLtE k (grE l) = true := by
 simp only [idLtE, grE, List.all_map, List.all_eq_true]
 intro x _
 rfl
@[simp] theorem grE_st (l : List Gr) : (grE l).all (fun c => c.all storable) = true := by
 simp only [grE, List.all_map, List.all_eq_true]
 intro x _
 rfl
@[simp] theorem grE_ns (l : List Gr) : noSlE (grE l) = true := by
 simp only [noSlE, grE, List.all_map, List.all_eq_true]
 intro x _
 rfl
theorem grE_drop (l : List Gr) (i : Nat) : (grE l).drop i = grE (l.drop i) := by simp [grE]
theorem grE_take (l : List Gr) (i : Nat) : (grE l).take i = grE (l.take i) := by simp [grE]
theorem grE_ren (L : List Nat) (l : List Gr) : renCE L (grE l) = grE l := by
 simp only [renCE, grE, List.map_map]
 apply List.map_congr_left
 intro x _
 rfl
theorem grE_renE (ρ : Nat → Nat) (l : List Gr) : (grE l).map (renL ρ) = grE l := renE_noid ρ (grE_id 0 l)
theorem grE_snoc (l : List Gr) (x : Gr) : grE l ++ [[.val (.string ⟨x.nm.toArray⟩), .val (.int .i64 x.a), .val (.int .i64 x.b)]] = grE (l ++ [x]) := by simp [grE, grC, I, str]
theorem grE_snoc' (l : List Gr) (x : Gr) : grE l ++ [grC x] = grE (l ++ [x]) := by simp [grE]
theorem grE_app (l m : List Gr) : grE l ++ grE m = grE (l ++ m) := by simp [grE]
@[simp] theorem grE_nil : grE [] = [] := rfl
theorem grE_set (l : List Gr) (i : Nat) (x : Gr) : (grE l).set i [.val (.string ⟨x.nm.toArray⟩), .val (.int .i64 x.a), .val (.int .i64 x.b)] = grE (l.set i x) := by simp [grE, List.map_set, grC, I, str]
attribute [go_sem] grE_len grE_getE grE_drop grE_take grE_ren grE_renE grE_snoc grE_snoc' grE_app grE_set grC
attribute [simp] grE_len
/-- A group that lies in a text of length n. -/
def GrOk (n : Nat) (g : Gr) : Prop := g.nm.length ≤ 20 ∧ 0 ≤ g.a ∧ g.a ≤ g.b ∧ g.b ≤ n
def GsOk (n : Nat) (l : List Gr) : Prop := ∀ g ∈ l, GrOk n g
theorem GsOk.set {n : Nat} {l : List Gr} {i : Nat} {g : Gr} (h : GsOk n l) (hg : GrOk n g) : GsOk n (l.set i g) := by
 intro x hx
 rcases List.mem_or_eq_of_mem_set hx with h1 | rfl
 · exact h x h1
 · exact hg
theorem GsOk.snoc {n : Nat} {l : List Gr} {g : Gr} (h : GsOk n l) (hg : GrOk n g) : GsOk n (l ++ [g]) := mem_snoc h hg
/-- What Find returns. -/
def FindR (n : Nat) : AV → Prop := fun r => r = .tup [.agg [I 0, I 0, nilV], B false] ∨ ∃ (f t : Int) (gs : List Gr), r = .tup [.agg [I f, I t, .sl 3 (grE gs)], B true] ∧ GsOk n gs ∧ gs.length ≤ 2
theorem grE_sn9 (l : List Gr) (g : Gr) : grE (l ++ [g]) = grE l ++ [grC g] := by simp [grE]
theorem i0Z {i : Nat} (h : i = 0) : (i : Int) = 0 := by omega
theorem i1Z {i : Nat} (h : i = 1) : (i : Int) = 1 := by omega
theorem slT {s : Int} {a pc sp : Nat} (h : SlOk s a pc sp) (h0 : decide (s < 0) = false) : 0 ≤ s ∧ s ≤ a := by
 have h1 := of_decide_eq_false h0
 rcases h with h | h <;> omega
theorem small100_0 (s : S) (hs : s.length ≤ 2 ^ 20) : PCall Tryz.prog 100 [.agg [I 5, nilV, str [109, 115], .sl 6 kd0, I 0, I 0], str s] (fun r => ∃ b, r = B b) := by
 all_goals refine PCall.go 18 (fn := Tryz.f100) Tryz.func100 rfl rfl rfl (by simp) rfl ?_
 all_goals try refine XW.ra0 0 [1, 2] ?_
 all_goals try refine XW.rS 1 ?_
 all_goals try refine XO.r0 1 ?_
 all_goals try (refine XO.p (chk78_0) ?_; rintro _ rfl)
 all_goals try refine XO.r0 2 ?_
 all_goals try first | refine XO.kT 8 ?_ | refine XO.kF 8 ?_ | refine XO.split 8 (fun g8 => ?_) (fun g8 => ?_)
 all_goals try refine XO.r0 1 ?_
 all_goals try first | (refine XO.p (cst118_0) ?_; rintro _ rfl) | refine XO.r0 1 ?_
 all_goals try refine XO.r0 3 ?_
 all_goals try first | refine XO.kT 13 ?_ | refine XO.kF 13 ?_ | refine XO.split 13 (fun g13 => ?_) (fun g13 => ?_)
 all_goals try refine XO.r0 5 ?_
 all_goals try refine XO.done [4] ?_
 all_goals try (refine XW.atr ?_; first | (exact XP.rs ⟨_, rfl⟩))
theorem small100_1 (s : S) (hs : s.length ≤ 2 ^ 20) : PCall Tryz.prog 100 [.agg [I 2, nilV, str [], .sl 6 kd1, I 0, I 0], str s] (fun r => ∃ b, r = B b) := by
 all_goals refine PCall.go 18 (fn := Tryz.f100) Tryz.func100 rfl rfl rfl (by simp) rfl ?_
 all_goals try refine XW.ra0 0 [1, 2] ?_
 all_goals try refine XW.rS 1 ?_
 all_goals try refine XO.r0 1 ?_
 all_goals try (refine XO.p (chk78_1) ?_; rintro _ rfl)
 all_goals try refine XO.r0 2 ?_
 all_goals try first | refine XO.kT 8 ?_ | refine XO.kF 8 ?_ | refine XO.split 8 (fun g8 => ?_) (fun g8 => ?_)
 all_goals try refine XO.r0 1 ?_
 all_goals try first | (refine XO.p (cst118_1) ?_; rintro _ rfl) | refine XO.r0 1 ?_
 all_goals try refine XO.r0 3 ?_
 all_goals try first | refine XO.kT 13 ?_ | refine XO.kF 13 ?_ | refine XO.split 13 (fun g13 => ?_) (fun g13 => ?_)
 all_goals try refine XO.r0 5 ?_
 all_goals try refine XO.done [4] ?_
 all_goals try (refine XW.atr ?_; first | (exact XP.rs ⟨_, rfl⟩))
theorem small100_2 (s : S) (hs : s.length ≤ 2 ^ 20) : PCall Tryz.prog 100 [.agg [I 1, .sl 2 rk2, str [], nilV, I 0, I 0], str s] (fun r => ∃ b, r = B b) := by
 all_goals refine PCall.go 18 (fn := Tryz.f100) Tryz.func100 rfl rfl rfl (by simp) rfl ?_
 all_goals try refine XW.ra0 0 [1, 2] ?_
 all_goals try refine XW.rS 1 ?_
 all_goals try refine XO.r0 1 ?_
 all_goals try (refine XO.p (chk78_2) ?_; rintro _ rfl)
 all_goals try refine XO.r0 2 ?_
 all_goals try first | refine XO.kT 8 ?_ | refine XO.kF 8 ?_ | refine XO.split 8 (fun g8 => ?_) (fun g8 => ?_)
 all_goals try refine XO.r0 1 ?_
 all_goals try first | (refine XO.p (cst118_2) ?_; rintro _ rfl) | refine XO.r0 1 ?_
 all_goals try refine XO.r0 3 ?_
 all_goals try first | refine XO.kT 13 ?_ | refine XO.kF 13 ?_ | refine XO.split 13 (fun g13 => ?_) (fun g13 => ?_)
 all_goals try refine XO.r0 5 ?_
 all_goals try refine XO.done [4] ?_
 all_goals try (refine XW.atr ?_; first | (exact XP.rs ⟨_, rfl⟩))
theorem small100_3 (s : S) (hs : s.length ≤ 2 ^ 20) : PCall Tryz.prog 100 [.agg [I 5, nilV, str [108, 101, 118, 101, 108], .sl 6 kd3, I 0, I 0], str s] (fun r => ∃ b, r = B b) := by
 all_goals refine PCall.go 18 (fn := Tryz.f100) Tryz.func100 rfl rfl rfl (by simp) rfl ?_
 all_goals try refine XW.ra0 0 [1, 2] ?_
 all_goals try refine XW.rS 1 ?_
 all_goals try refine XO.r0 1 ?_
 all_goals try (refine XO.p (chk78_3) ?_; rintro _ rfl)
 all_goals try refine XO.r0 2 ?_
 all_goals try first | refine XO.kT 8 ?_ | refine XO.kF 8 ?_ | refine XO.split 8 (fun g8 => ?_) (fun g8 => ?_)
 all_goals try refine XO.r0 1 ?_
 all_goals try first | (refine XO.p (cst118_3) ?_; rintro _ rfl) | refine XO.r0 1 ?_
 all_goals try refine XO.r0 3 ?_
 all_goals try first | refine XO.kT 13 ?_ | refine XO.kF 13 ?_ | refine XO.split 13 (fun g13 => ?_) (fun g13 => ?_)
 all_goals try refine XO.r0 5 ?_
 all_goals try refine XO.done [4] ?_
 all_goals try (refine XW.atr ?_; first | (exact XP.rs ⟨_, rfl⟩))
theorem result103_0 (p : List In) (E : Nat → Bool) (sp : Nat → Nat) (n : Nat) (t : Th) (ht : ThOk p E sp n t) (f : Int) : PCall Tryz.prog 103 [.agg [I 5, nilV, str [109, 115], .sl 6 kd0, I 0, I 0], .agg (thC t), I f] (fun r => ∃ (t9 : Int) (gs : List Gr), r = .agg [I f, I t9, .sl 3 (grE gs)] ∧ GsOk n gs ∧ gs.length ≤ 2) := by
 all_goals refine PCall.go 100 (fn := Tryz.f103) Tryz.func103 rfl rfl rfl (by simp) rfl ?_
 all_goals try refine XW.ra0 0 [2, 3, 4, 6] ?_
 all_goals try refine XW.rS 1 ?_
 all_goals try refine XO.r0 3 ?_
 all_goals try (skip)
 all_goals try refine XO.r0 1 ?_
 all_goals try (skip)
 all_goals try refine XO.r0 1 ?_
 all_goals try (skip)
 all_goals try refine XO.r0 2 ?_
 all_goals try refine XO.done [3, 4, 6, 7] ?_
 all_goals try refine XW.rS 2 ?_
 all_goals try refine XO.r0 1 ?_
 all_goals try (refine XO.p (cap121_0) ?_; rintro _ rfl)
 all_goals try refine XO.r0 1 ?_
 all_goals try refine XO.done [4, 6, 7, 8] ?_
 all_goals try refine XW.ra0 3 [4, 6, 7, 8, 9] ?_
 all_goals try (refine XW.lp 4 (fun s : Nat × List Gr => ⟨[(4, .ptr 0 35 0 0), (6, .ptr 1 3 0 0), (7, .ptr 2 3 0 0), (8, .sl 1 [[str [109, 115]]]), (9, I (s.1 : Nat))], [(0, some ⟨189, 35, [thC t]⟩), (1, some ⟨163, 3, [[I 0, I 0, nilV]]⟩), (2, some ⟨163, 3, [[I f, I t.at_, .osl 3 s.2.length 3]]⟩), (3, some ⟨167, 3, grE s.2⟩)]⟩) (fun s => s.1 ≤ 1 ∧ s.2.length ≤ s.1 ∧ GsOk n s.2) (fun s => 1 - s.1) (0, []) (mkWk [some 0, some 1, some 2, none] [] (by simp [wkEnv, lk, lkh, I, str, B, U8, U64, U32, nilV, thC, thR, mI1]; first | done | omega) (by simp [wkHp, wkHp1, wkEnt, lkh, I, str, nilV, thC, thR, mI1])) ?_ (h0 := ⟨by simp, by simp, fun _ h => by simp at h⟩); rintro ⟨i, gs⟩ hI0 Y0 hY0; skip)
 all_goals try refine XW.ra0 4 [4, 6, 7, 8, 9, 22] ?_
 all_goals try first | refine XW.cT 22 ?_ | refine XW.cF 22 ?_ | refine XW.cB 22 (fun c22 => ?_) (fun c22 => ?_)
 all_goals try (refine XW.at 6 ?_; obtain ⟨m1, m2, m3⟩ := hI0; (try simp only at m1 m2 m3); have hi9 := of_decide_eq_true c22; have hi0 : i = 0 := (by omega); have hx := i0Z hi0; have hxi := hx)
 all_goals try refine XW.rS 6 ?_
 all_goals try refine XO.r3 7 ?_
 all_goals try first | refine XO.kT 31 ?_ | refine XO.kF 31 ?_ | refine XO.split 31 (fun g31 => ?_) (fun g31 => ?_)
 all_goals try refine XO.r3 8 ?_
 all_goals try refine XO.done [4, 6, 7, 8, 9, 39] ?_
 all_goals try first | refine XW.cT 39 ?_ | refine XW.cF 39 ?_ | refine XW.cB 39 (fun c39 => ?_) (fun c39 => ?_)
 all_goals try refine XW.ra3 7 [4, 6, 7, 8, 9, 10] ?_
 all_goals try (refine XW.at 8 ?_; first | (have hg2 : GrOk n ⟨[109, 115], t.s0, t.s1⟩ := ⟨by simp, (slT ht.h0 g31).1, ht.o1 (slT ht.h0 g31).1 (slT ht.h1 c39).1, by have h1 := (slT ht.h1 c39).2; have h2 := ht.at_; simp only at h1 ⊢; omega⟩; obtain ⟨g, hg⟩ : ∃ g : Gr, g = ⟨[109, 115], t.s0, t.s1⟩ := ⟨_, rfl⟩; rw [← hg] at hg2))
 all_goals try refine XW.ra0 8 [4, 6, 7, 8, 9, 10, 11] ?_
 all_goals try refine XW.ra0 9 [4, 6, 7, 8, 9, 10, 11] ?_
 all_goals try (refine XW.lp 5 (fun s : Nat × List Gr => ⟨[(4, .ptr 0 35 0 0), (6, .ptr 1 3 0 0), (7, .ptr 2 3 0 0), (8, .sl 1 [[str [109, 115]]]), (9, I (i : Nat)), (10, .ptr 4 3 0 0), (11, I (s.1 : Nat))], [(0, some ⟨189, 35, [thC t]⟩), (1, some ⟨163, 3, [[I 0, I 0, nilV]]⟩), (2, some ⟨163, 3, [[I f, I t.at_, .osl 3 s.2.length 3]]⟩), (3, some ⟨167, 3, grE s.2⟩), (4, some ⟨167, 3, [grC g]⟩)]⟩) (fun s => s.2.length = gs.length + 1 ∧ s.1 ≤ gs.length ∧ GsOk n s.2) (fun s => s.1) (gs.length, gs ++ [g]) (mkWk [some 0, some 1, some 2, some 3, some 4] [] (by simp [wkEnv, lk, lkh, I, str, B, U8, U64, U32, nilV, thC, thR, mI1, grC, hg, grE_sn9, hxi]; first | done | omega) (by simp [wkHp, wkHp1, wkEnt, lkh, I, str, nilV, thC, thR, mI1, grC, hg, grE_sn9, hxi])) ?_ (h0 := ⟨by simp, by simp, m3.snoc hg2⟩); rintro ⟨k, ar⟩ hI1 Y1 hY1; skip)
 all_goals try (refine XW.at 10 ?_; obtain ⟨n1, n2, n3⟩ := hI1; (try simp only at n1 n2 n3))
 all_goals try refine XW.rS 10 ?_
 all_goals try refine XO.r0 3 ?_
 all_goals try first | refine XO.kT 68 ?_ | refine XO.kF 68 ?_ | refine XO.split 68 (fun g68 => ?_) (fun g68 => ?_)
 all_goals try (have hk0 := gt0C g68; first | (exfalso; omega) | skip; obtain ⟨y, hx2, hym⟩ := getx ar (k - 1) (by omega); obtain ⟨z9, hz9, _⟩ := getx ar k (by omega); have hx : (k : Int) - 1 = ((k - 1 : Nat) : Int) := (by omega))
 all_goals try refine XO.r3 13 ?_
 all_goals try refine XO.done [4, 6, 7, 8, 9, 10, 11, 81] ?_
 all_goals try first | refine XW.cT 81 ?_ | refine XW.cF 81 ?_ | refine XW.cB 81 (fun c81 => ?_) (fun c81 => ?_)
 all_goals try refine XW.rS 11 ?_
 all_goals try refine XO.r3 10 ?_
 all_goals try (have hx := hz9)
 all_goals try refine XO.r3 1 ?_
 all_goals try refine XO.done [4, 6, 7, 8, 9, 10, 11] ?_
 all_goals try refine XW.ra2 12 [4, 6, 7, 8, 9, 10, 11] ?_
 all_goals try (refine XH.le ?_; first | (exact hY1 (k - 1, ar.set k y) (by (refine ⟨?_, ?_, n3.set (n3 y hym)⟩ <;> first | (simp; omega) | (simp only; omega))) (by (simp only; omega)) _ _ (mkWk [some 0, some 1, some 2, some 3, some 4] [] (by simp [wkEnv, lk, lkh, I, str, B, U8, U64, U32, nilV, thC, thR, mI1, grC, hg, hxi]; first | done | omega) (by simp [wkHp, wkHp1, wkEnt, lkh, I, str, nilV, thC, thR, mI1, grC, hg, hxi]))))
 all_goals try (refine XW.at 13 ?_; obtain ⟨z9, hx, _⟩ := getx ar k (by omega))
 all_goals try refine XW.ra3 13 [4, 6, 7, 8, 9] ?_
 all_goals try refine XW.ra2 5 [4, 6, 7, 8, 9] ?_
 all_goals try (refine XH.le ?_; first | (refine hY0 (i + 1, gs) ?_ ?_ _ _ (mkWk [some 0, some 1, some 2, some 3] [] ?_ ?_); (next => (refine ⟨?_, ?_, m3⟩ <;> first | (simp; done) | (simp only; omega))); (next => first | omega | (simp; done) | (simp; omega)); (next => simp [wkEnv, lk, lkh, I, str, B, U8, U64, U32, nilV, thC, thR, mI1, hxi]; first | done | omega); (next => simp [wkHp, wkHp1, wkEnt, lkh, I, str, nilV, thC, thR, mI1, hxi])) | (refine hY0 (i + 1, ar.set k g) ?_ ?_ _ _ (mkWk [some 0, some 1, some 2, some 3] [] ?_ ?_); (next => (refine ⟨?_, ?_, n3.set hg2⟩ <;> first | (simp; done) | (simp; omega))); (next => first | omega | (simp; done) | (simp; omega)); (next => simp [wkEnv, lk, lkh, I, str, B, U8, U64, U32, nilV, thC, thR, mI1, hxi]; first | done | omega); (next => simp [wkHp, wkHp1, wkEnt, lkh, I, str, nilV, thC, thR, mI1, hxi])))
 all_goals try (refine XW.at 14 ?_; obtain ⟨m1, m2, m3⟩ := hI0; (try simp only at m1 m2 m3))
 all_goals try refine XW.ra0 14 [6] ?_
 all_goals try (refine XW.atr ?_; first | (exact XP.ret [1] (.agg [I f, I t.at_, .sl 3 (grE gs)]) ⟨_, gs, rfl, m3, by omega⟩ (hwk := by simp [resOf, lk, lkh, I])))
theorem result103_1 (p : List In) (E : Nat → Bool) (sp : Nat → Nat) (n : Nat) (t : Th) (ht : ThOk p E sp n t) (f : Int) : PCall Tryz.prog 103 [.agg [I 2, nilV, str [], .sl 6 kd1, I 0, I 0], .agg (thC t), I f] (fun r => ∃ (t9 : Int) (gs : List Gr), r = .agg [I f, I t9, .sl 3 (grE gs)] ∧ GsOk n gs ∧ gs.length ≤ 2) := by
 all_goals refine PCall.go 100 (fn := Tryz.f103) Tryz.func103 rfl rfl rfl (by simp) rfl ?_
 all_goals try refine XW.ra0 0 [2, 3, 4, 6] ?_
 all_goals try refine XW.rS 1 ?_
 all_goals try refine XO.r0 3 ?_
 all_goals try (skip)
 all_goals try refine XO.r0 1 ?_
 all_goals try (skip)
 all_goals try refine XO.r0 1 ?_
 all_goals try (skip)
 all_goals try refine XO.r0 2 ?_
 all_goals try refine XO.done [3, 4, 6, 7] ?_
 all_goals try refine XW.rS 2 ?_
 all_goals try refine XO.r0 1 ?_
 all_goals try (refine XO.p (cap121_1) ?_; rintro _ rfl)
 all_goals try refine XO.r0 1 ?_
 all_goals try refine XO.done [4, 6, 7, 8] ?_
 all_goals try refine XW.ra0 3 [4, 6, 7, 8, 9] ?_
 all_goals try (refine XW.lp 4 (fun s : Nat × List Gr => ⟨[(4, .ptr 0 35 0 0), (6, .ptr 1 3 0 0), (7, .ptr 2 3 0 0), (8, .sl 1 [[str [117, 115, 101, 114]], [str [99, 111, 100, 101]]]), (9, I (s.1 : Nat))], [(0, some ⟨189, 35, [thC t]⟩), (1, some ⟨163, 3, [[I 0, I 0, nilV]]⟩), (2, some ⟨163, 3, [[I f, I t.at_, .osl 3 s.2.length 3]]⟩), (3, some ⟨167, 3, grE s.2⟩)]⟩) (fun s => s.1 ≤ 2 ∧ s.2.length ≤ s.1 ∧ GsOk n s.2) (fun s => 2 - s.1) (0, []) (mkWk [some 0, some 1, some 2, none] [] (by simp [wkEnv, lk, lkh, I, str, B, U8, U64, U32, nilV, thC, thR, mI1]; first | done | omega) (by simp [wkHp, wkHp1, wkEnt, lkh, I, str, nilV, thC, thR, mI1])) ?_ (h0 := ⟨by simp, by simp, fun _ h => by simp at h⟩); rintro ⟨i, gs⟩ hI0 Y0 hY0; skip)
 all_goals try refine XW.ra0 4 [4, 6, 7, 8, 9, 22] ?_
 all_goals try first | refine XW.cT 22 ?_ | refine XW.cF 22 ?_ | refine XW.cB 22 (fun c22 => ?_) (fun c22 => ?_)
 all_goals try (refine XW.at 6 ?_; obtain ⟨m1, m2, m3⟩ := hI0; (try simp only at m1 m2 m3); have hi9 := of_decide_eq_true c22; rcases (show i = 0 ∨ i = 1 by omega) with hi0 | hi0 <;> first | (have hx := i0Z hi0; have hxi := hx) | (have hx := i1Z hi0; have hxi := hx))
 all_goals try refine XW.rS 6 ?_
 all_goals try refine XO.r3 7 ?_
 all_goals try first | refine XO.kT 31 ?_ | refine XO.kF 31 ?_ | refine XO.split 31 (fun g31 => ?_) (fun g31 => ?_)
 all_goals try refine XO.r3 8 ?_
 all_goals try refine XO.done [4, 6, 7, 8, 9, 39] ?_
 all_goals try first | refine XW.cT 39 ?_ | refine XW.cF 39 ?_ | refine XW.cB 39 (fun c39 => ?_) (fun c39 => ?_)
 all_goals try refine XW.ra3 7 [4, 6, 7, 8, 9, 10] ?_
 all_goals try (refine XW.at 8 ?_; first | (have hg2 : GrOk n ⟨[117, 115, 101, 114], t.s0, t.s1⟩ := ⟨by simp, (slT ht.h0 g31).1, ht.o1 (slT ht.h0 g31).1 (slT ht.h1 c39).1, by have h1 := (slT ht.h1 c39).2; have h2 := ht.at_; simp only at h1 ⊢; omega⟩; obtain ⟨g, hg⟩ : ∃ g : Gr, g = ⟨[117, 115, 101, 114], t.s0, t.s1⟩ := ⟨_, rfl⟩; rw [← hg] at hg2) | (have hg2 : GrOk n ⟨[99, 111, 100, 101], t.s2, t.s3⟩ := ⟨by simp, (slT ht.h2 g31).1, ht.o2 (slT ht.h2 g31).1 (slT ht.h3 c39).1, by have h1 := (slT ht.h3 c39).2; have h2 := ht.at_; simp only at h1 ⊢; omega⟩; obtain ⟨g, hg⟩ : ∃ g : Gr, g = ⟨[99, 111, 100, 101], t.s2, t.s3⟩ := ⟨_, rfl⟩; rw [← hg] at hg2))
 all_goals try refine XW.ra0 8 [4, 6, 7, 8, 9, 10, 11] ?_
 all_goals try refine XW.ra0 9 [4, 6, 7, 8, 9, 10, 11] ?_
 all_goals try (refine XW.lp 5 (fun s : Nat × List Gr => ⟨[(4, .ptr 0 35 0 0), (6, .ptr 1 3 0 0), (7, .ptr 2 3 0 0), (8, .sl 1 [[str [117, 115, 101, 114]], [str [99, 111, 100, 101]]]), (9, I (i : Nat)), (10, .ptr 4 3 0 0), (11, I (s.1 : Nat))], [(0, some ⟨189, 35, [thC t]⟩), (1, some ⟨163, 3, [[I 0, I 0, nilV]]⟩), (2, some ⟨163, 3, [[I f, I t.at_, .osl 3 s.2.length 3]]⟩), (3, some ⟨167, 3, grE s.2⟩), (4, some ⟨167, 3, [grC g]⟩)]⟩) (fun s => s.2.length = gs.length + 1 ∧ s.1 ≤ gs.length ∧ GsOk n s.2) (fun s => s.1) (gs.length, gs ++ [g]) (mkWk [some 0, some 1, some 2, some 3, some 4] [] (by simp [wkEnv, lk, lkh, I, str, B, U8, U64, U32, nilV, thC, thR, mI1, grC, hg, grE_sn9, hxi]; first | done | omega) (by simp [wkHp, wkHp1, wkEnt, lkh, I, str, nilV, thC, thR, mI1, grC, hg, grE_sn9, hxi])) ?_ (h0 := ⟨by simp, by simp, m3.snoc hg2⟩); rintro ⟨k, ar⟩ hI1 Y1 hY1; skip)
 all_goals try (refine XW.at 10 ?_; obtain ⟨n1, n2, n3⟩ := hI1; (try simp only at n1 n2 n3))
 all_goals try refine XW.rS 10 ?_
 all_goals try refine XO.r0 3 ?_
 all_goals try first | refine XO.kT 68 ?_ | refine XO.kF 68 ?_ | refine XO.split 68 (fun g68 => ?_) (fun g68 => ?_)
 all_goals try (have hk0 := gt0C g68; first | (exfalso; omega) | skip; obtain ⟨y, hx2, hym⟩ := getx ar (k - 1) (by omega); obtain ⟨z9, hz9, _⟩ := getx ar k (by omega); have hx : (k : Int) - 1 = ((k - 1 : Nat) : Int) := (by omega))
 all_goals try refine XO.r3 13 ?_
 all_goals try refine XO.done [4, 6, 7, 8, 9, 10, 11, 81] ?_
 all_goals try first | refine XW.cT 81 ?_ | refine XW.cF 81 ?_ | refine XW.cB 81 (fun c81 => ?_) (fun c81 => ?_)
 all_goals try refine XW.rS 11 ?_
 all_goals try refine XO.r3 10 ?_
 all_goals try (have hx := hz9)
 all_goals try refine XO.r3 1 ?_
 all_goals try refine XO.done [4, 6, 7, 8, 9, 10, 11] ?_
 all_goals try refine XW.ra2 12 [4, 6, 7, 8, 9, 10, 11] ?_
 all_goals try (refine XH.le ?_; first | (exact hY1 (k - 1, ar.set k y) (by (refine ⟨?_, ?_, n3.set (n3 y hym)⟩ <;> first | (simp; omega) | (simp only; omega))) (by (simp only; omega)) _ _ (mkWk [some 0, some 1, some 2, some 3, some 4] [] (by simp [wkEnv, lk, lkh, I, str, B, U8, U64, U32, nilV, thC, thR, mI1, grC, hg, hxi]; first | done | omega) (by simp [wkHp, wkHp1, wkEnt, lkh, I, str, nilV, thC, thR, mI1, grC, hg, hxi]))))
 all_goals try (refine XW.at 13 ?_; obtain ⟨z9, hx, _⟩ := getx ar k (by omega))
 all_goals try refine XW.ra3 13 [4, 6, 7, 8, 9] ?_
 all_goals try refine XW.ra2 5 [4, 6, 7, 8, 9] ?_
 all_goals try (refine XH.le ?_; first | (refine hY0 (i + 1, gs) ?_ ?_ _ _ (mkWk [some 0, some 1, some 2, some 3] [] ?_ ?_); (next => (refine ⟨?_, ?_, m3⟩ <;> first | (simp; done) | (simp only; omega))); (next => first | omega | (simp; done) | (simp; omega)); (next => simp [wkEnv, lk, lkh, I, str, B, U8, U64, U32, nilV, thC, thR, mI1, hxi]; first | done | omega); (next => simp [wkHp, wkHp1, wkEnt, lkh, I, str, nilV, thC, thR, mI1, hxi])) | (refine hY0 (i + 1, ar.set k g) ?_ ?_ _ _ (mkWk [some 0, some 1, some 2, some 3] [] ?_ ?_); (next => (refine ⟨?_, ?_, n3.set hg2⟩ <;> first | (simp; done) | (simp; omega))); (next => first | omega | (simp; done) | (simp; omega)); (next => simp [wkEnv, lk, lkh, I, str, B, U8, U64, U32, nilV, thC, thR, mI1, hxi]; first | done | omega); (next => simp [wkHp, wkHp1, wkEnt, lkh, I, str, nilV, thC, thR, mI1, hxi])))
 all_goals try (refine XW.at 14 ?_; obtain ⟨m1, m2, m3⟩ := hI0; (try simp only at m1 m2 m3))
 all_goals try refine XW.ra0 14 [6] ?_
 all_goals try (refine XW.atr ?_; first | (exact XP.ret [1] (.agg [I f, I t.at_, .sl 3 (grE gs)]) ⟨_, gs, rfl, m3, by omega⟩ (hwk := by simp [resOf, lk, lkh, I])))
theorem result103_2 (p : List In) (E : Nat → Bool) (sp : Nat → Nat) (n : Nat) (t : Th) (ht : ThOk p E sp n t) (f : Int) : PCall Tryz.prog 103 [.agg [I 1, .sl 2 rk2, str [], nilV, I 0, I 0], .agg (thC t), I f] (fun r => ∃ (t9 : Int) (gs : List Gr), r = .agg [I f, I t9, .sl 3 (grE gs)] ∧ GsOk n gs ∧ gs.length ≤ 2) := by
 all_goals refine PCall.go 100 (fn := Tryz.f103) Tryz.func103 rfl rfl rfl (by simp) rfl ?_
 all_goals try refine XW.ra0 0 [2, 3, 4, 6] ?_
 all_goals try refine XW.rS 1 ?_
 all_goals try refine XO.r0 3 ?_
 all_goals try (skip)
 all_goals try refine XO.r0 1 ?_
 all_goals try (skip)
 all_goals try refine XO.r0 1 ?_
 all_goals try (skip)
 all_goals try refine XO.r0 2 ?_
 all_goals try refine XO.done [3, 4, 6, 7] ?_
 all_goals try refine XW.rS 2 ?_
 all_goals try refine XO.r0 1 ?_
 all_goals try (refine XO.p (cap121_2) ?_; rintro _ rfl)
 all_goals try refine XO.r0 1 ?_
 all_goals try refine XO.done [4, 6, 7, 8] ?_
 all_goals try refine XW.ra0 3 [4, 6, 7, 8, 9] ?_
 all_goals try (refine XW.lp 4 (fun s : Nat × List Gr => ⟨[(4, .ptr 0 35 0 0), (6, .ptr 1 3 0 0), (7, .ptr 2 3 0 0), (8, nilV), (9, I (s.1 : Nat))], [(0, some ⟨189, 35, [thC t]⟩), (1, some ⟨163, 3, [[I 0, I 0, nilV]]⟩), (2, some ⟨163, 3, [[I f, I t.at_, .osl 3 s.2.length 3]]⟩), (3, some ⟨167, 3, grE s.2⟩)]⟩) (fun s => s.1 ≤ 0 ∧ s.2.length ≤ s.1 ∧ GsOk n s.2) (fun s => 0 - s.1) (0, []) (mkWk [some 0, some 1, some 2, none] [] (by simp [wkEnv, lk, lkh, I, str, B, U8, U64, U32, nilV, thC, thR, mI1]; first | done | omega) (by simp [wkHp, wkHp1, wkEnt, lkh, I, str, nilV, thC, thR, mI1])) ?_ (h0 := ⟨by simp, by simp, fun _ h => by simp at h⟩); rintro ⟨i, gs⟩ hI0 Y0 hY0; skip)
 all_goals try refine XW.ra0 4 [4, 6, 7, 8, 9, 22] ?_
 all_goals try first | refine XW.cT 22 ?_ | refine XW.cF 22 ?_ | refine XW.cB 22 (fun c22 => ?_) (fun c22 => ?_)
 all_goals try (refine XW.at 6 ?_; exfalso; have hi9 := of_decide_eq_true c22; omega)
 all_goals try refine XW.rS 6 ?_
 all_goals try refine XO.r3 7 ?_
 all_goals try first | refine XO.kT 31 ?_ | refine XO.kF 31 ?_ | refine XO.split 31 (fun g31 => ?_) (fun g31 => ?_)
 all_goals try refine XO.r3 8 ?_
 all_goals try refine XO.done [4, 6, 7, 8, 9, 39] ?_
 all_goals try first | refine XW.cT 39 ?_ | refine XW.cF 39 ?_ | refine XW.cB 39 (fun c39 => ?_) (fun c39 => ?_)
 all_goals try refine XW.ra3 7 [4, 6, 7, 8, 9, 10] ?_
 all_goals try (refine XW.at 8 ?_; skip)
 all_goals try refine XW.ra0 8 [4, 6, 7, 8, 9, 10, 11] ?_
 all_goals try refine XW.ra0 9 [4, 6, 7, 8, 9, 10, 11] ?_
 all_goals try (refine XW.lp 5 (fun s : Nat × List Gr => ⟨[(4, .ptr 0 35 0 0), (6, .ptr 1 3 0 0), (7, .ptr 2 3 0 0), (8, nilV), (9, I (i : Nat)), (10, .ptr 4 3 0 0), (11, I (s.1 : Nat))], [(0, some ⟨189, 35, [thC t]⟩), (1, some ⟨163, 3, [[I 0, I 0, nilV]]⟩), (2, some ⟨163, 3, [[I f, I t.at_, .osl 3 s.2.length 3]]⟩), (3, some ⟨167, 3, grE s.2⟩), (4, some ⟨167, 3, [grC g]⟩)]⟩) (fun s => s.2.length = gs.length + 1 ∧ s.1 ≤ gs.length ∧ GsOk n s.2) (fun s => s.1) (gs.length, gs ++ [g]) (mkWk [some 0, some 1, some 2, some 3, some 4] [] (by simp [wkEnv, lk, lkh, I, str, B, U8, U64, U32, nilV, thC, thR, mI1, grC, hg, grE_sn9, hxi]; first | done | omega) (by simp [wkHp, wkHp1, wkEnt, lkh, I, str, nilV, thC, thR, mI1, grC, hg, grE_sn9, hxi])) ?_ (h0 := ⟨by simp, by simp, m3.snoc hg2⟩); rintro ⟨k, ar⟩ hI1 Y1 hY1; skip)
 all_goals try (refine XW.at 10 ?_; obtain ⟨n1, n2, n3⟩ := hI1; (try simp only at n1 n2 n3))
 all_goals try refine XW.rS 10 ?_
 all_goals try refine XO.r0 3 ?_
 all_goals try first | refine XO.kT 68 ?_ | refine XO.kF 68 ?_ | refine XO.split 68 (fun g68 => ?_) (fun g68 => ?_)
 all_goals try (have hk0 := gt0C g68; first | (exfalso; omega) | skip; obtain ⟨y, hx2, hym⟩ := getx ar (k - 1) (by omega); obtain ⟨z9, hz9, _⟩ := getx ar k (by omega); have hx : (k : Int) - 1 = ((k - 1 : Nat) : Int) := (by omega))
 all_goals try refine XO.r3 13 ?_
 all_goals try refine XO.done [4, 6, 7, 8, 9, 10, 11, 81] ?_
 all_goals try first | refine XW.cT 81 ?_ | refine XW.cF 81 ?_ | refine XW.cB 81 (fun c81 => ?_) (fun c81 => ?_)
 all_goals try refine XW.rS 11 ?_
 all_goals try refine XO.r3 10 ?_
 all_goals try (have hx := hz9)
 all_goals try refine XO.r3 1 ?_
 all_goals try refine XO.done [4, 6, 7, 8, 9, 10, 11] ?_
 all_goals try refine XW.ra2 12 [4, 6, 7, 8, 9, 10, 11] ?_
 all_goals try (refine XH.le ?_; first | (exact hY1 (k - 1, ar.set k y) (by (refine ⟨?_, ?_, n3.set (n3 y hym)⟩ <;> first | (simp; omega) | (simp only; omega))) (by (simp only; omega)) _ _ (mkWk [some 0, some 1, some 2, some 3, some 4] [] (by simp [wkEnv, lk, lkh, I, str, B, U8, U64, U32, nilV, thC, thR, mI1, grC, hg, hxi]; first | done | omega) (by simp [wkHp, wkHp1, wkEnt, lkh, I, str, nilV, thC, thR, mI1, grC, hg, hxi]))))
 all_goals try (refine XW.at 13 ?_; obtain ⟨z9, hx, _⟩ := getx ar k (by omega))
 all_goals try refine XW.ra3 13 [4, 6, 7, 8, 9] ?_
 all_goals try refine XW.ra2 5 [4, 6, 7, 8, 9] ?_
 all_goals try (refine XH.le ?_; first | (exact hY0 (i + 1, gs) (by skip) (by first | omega | (simp; done) | (simp; omega)) _ _ (mkWk [] [] (by simp [wkEnv, lk, lkh, I, str, B, U8, U64, U32]; first | done | omega) (by simp [wkHp, wkHp1, wkEnt, lkh, I, str]))))
 all_goals try (refine XW.at 14 ?_; obtain ⟨m1, m2, m3⟩ := hI0; (try simp only at m1 m2 m3))
 all_goals try refine XW.ra0 14 [6] ?_
 all_goals try (refine XW.atr ?_; first | (exact XP.ret [1] (.agg [I f, I t.at_, .sl 3 (grE gs)]) ⟨_, gs, rfl, m3, by omega⟩ (hwk := by simp [resOf, lk, lkh, I])))
theorem result103_3 (p : List In) (E : Nat → Bool) (sp : Nat → Nat) (n : Nat) (t : Th) (ht : ThOk p E sp n t) (f : Int) : PCall Tryz.prog 103 [.agg [I 5, nilV, str [108, 101, 118, 101, 108], .sl 6 kd3, I 0, I 0], .agg (thC t), I f] (fun r => ∃ (t9 : Int) (gs : List Gr), r = .agg [I f, I t9, .sl 3 (grE gs)] ∧ GsOk n gs ∧ gs.length ≤ 2) := by
 all_goals refine PCall.go 100 (fn := Tryz.f103) Tryz.func103 rfl rfl rfl (by simp) rfl ?_
 all_goals try refine XW.ra0 0 [2, 3, 4, 6] ?_
 all_goals try refine XW.rS 1 ?_
 all_goals try refine XO.r0 3 ?_
 all_goals try (skip)
 all_goals try refine XO.r0 1 ?_
 all_goals try (skip)
 all_goals try refine XO.r0 1 ?_
 all_goals try (skip)
 all_goals try refine XO.r0 2 ?_
 all_goals try refine XO.done [3, 4, 6, 7] ?_
 all_goals try refine XW.rS 2 ?_
 all_goals try refine XO.r0 1 ?_
 all_goals try (refine XO.p (cap121_3) ?_; rintro _ rfl)
 all_goals try refine XO.r0 1 ?_
 all_goals try refine XO.done [4, 6, 7, 8] ?_
 all_goals try refine XW.ra0 3 [4, 6, 7, 8, 9] ?_
 all_goals try (refine XW.lp 4 (fun s : Nat × List Gr => ⟨[(4, .ptr 0 35 0 0), (6, .ptr 1 3 0 0), (7, .ptr 2 3 0 0), (8, .sl 1 [[str [108, 101, 118, 101, 108]]]), (9, I (s.1 : Nat))], [(0, some ⟨189, 35, [thC t]⟩), (1, some ⟨163, 3, [[I 0, I 0, nilV]]⟩), (2, some ⟨163, 3, [[I f, I t.at_, .osl 3 s.2.length 3]]⟩), (3, some ⟨167, 3, grE s.2⟩)]⟩) (fun s => s.1 ≤ 1 ∧ s.2.length ≤ s.1 ∧ GsOk n s.2) (fun s => 1 - s.1) (0, []) (mkWk [some 0, some 1, some 2, none] [] (by simp [wkEnv, lk, lkh, I, str, B, U8, U64, U32, nilV, thC, thR, mI1]; first | done | omega) (by simp [wkHp, wkHp1, wkEnt, lkh, I, str, nilV, thC, thR, mI1])) ?_ (h0 := ⟨by simp, by simp, fun _ h => by simp at h⟩); rintro ⟨i, gs⟩ hI0 Y0 hY0; skip)
 all_goals try refine XW.ra0 4 [4, 6, 7, 8, 9, 22] ?_
 all_goals try first | refine XW.cT 22 ?_ | refine XW.cF 22 ?_ | refine XW.cB 22 (fun c22 => ?_) (fun c22 => ?_)
 all_goals try (refine XW.at 6 ?_; obtain ⟨m1, m2, m3⟩ := hI0; (try simp only at m1 m2 m3); have hi9 := of_decide_eq_true c22; have hi0 : i = 0 := (by omega); have hx := i0Z hi0; have hxi := hx)
 all_goals try refine XW.rS 6 ?_
 all_goals try refine XO.r3 7 ?_
 all_goals try first | refine XO.kT 31 ?_ | refine XO.kF 31 ?_ | refine XO.split 31 (fun g31 => ?_) (fun g31 => ?_)
 all_goals try refine XO.r3 8 ?_
 all_goals try refine XO.done [4, 6, 7, 8, 9, 39] ?_
 all_goals try first | refine XW.cT 39 ?_ | refine XW.cF 39 ?_ | refine XW.cB 39 (fun c39 => ?_) (fun c39 => ?_)
 all_goals try refine XW.ra3 7 [4, 6, 7, 8, 9, 10] ?_
 all_goals try (refine XW.at 8 ?_; first | (have hg2 : GrOk n ⟨[108, 101, 118, 101, 108], t.s0, t.s1⟩ := ⟨by simp, (slT ht.h0 g31).1, ht.o1 (slT ht.h0 g31).1 (slT ht.h1 c39).1, by have h1 := (slT ht.h1 c39).2; have h2 := ht.at_; simp only at h1 ⊢; omega⟩; obtain ⟨g, hg⟩ : ∃ g : Gr, g = ⟨[108, 101, 118, 101, 108], t.s0, t.s1⟩ := ⟨_, rfl⟩; rw [← hg] at hg2))
 all_goals try refine XW.ra0 8 [4, 6, 7, 8, 9, 10, 11] ?_
 all_goals try refine XW.ra0 9 [4, 6, 7, 8, 9, 10, 11] ?_
 all_goals try (refine XW.lp 5 (fun s : Nat × List Gr => ⟨[(4, .ptr 0 35 0 0), (6, .ptr 1 3 0 0), (7, .ptr 2 3 0 0), (8, .sl 1 [[str [108, 101, 118, 101, 108]]]), (9, I (i : Nat)), (10, .ptr 4 3 0 0), (11, I (s.1 : Nat))], [(0, some ⟨189, 35, [thC t]⟩), (1, some ⟨163, 3, [[I 0, I 0, nilV]]⟩), (2, some ⟨163, 3, [[I f, I t.at_, .osl 3 s.2.length 3]]⟩), (3, some ⟨167, 3, grE s.2⟩), (4, some ⟨167, 3, [grC g]⟩)]⟩) (fun s => s.2.length = gs.length + 1 ∧ s.1 ≤ gs.length ∧ GsOk n s.2) (fun s => s.1) (gs.length, gs ++ [g]) (mkWk [some 0, some 1, some 2, some 3, some 4] [] (by simp [wkEnv, lk, lkh, I, str, B, U8, U64, U32, nilV, thC, thR, mI1, grC, hg, grE_sn9, hxi]; first | done | omega) (by simp [wkHp, wkHp1, wkEnt, lkh, I, str, nilV, thC, thR, mI1, grC, hg, grE_sn9, hxi])) ?_ (h0 := ⟨by simp, by simp, m3.snoc hg2⟩); rintro ⟨k, ar⟩ hI1 Y1 hY1; skip)
 all_goals try (refine XW.at 10 ?_; obtain ⟨n1, n2, n3⟩ := hI1; (try simp only at n1 n2 n3))
 all_goals try refine XW.rS 10 ?_
 all_goals try refine XO.r0 3 ?_
 all_goals try first | refine XO.kT 68 ?_ | refine XO.kF 68 ?_ | refine XO.split 68 (fun g68 => ?_) (fun g68 => ?_)
 all_goals try (have hk0 := gt0C g68; first | (exfalso; omega) | skip; obtain ⟨y, hx2, hym⟩ := getx ar (k - 1) (by omega); obtain ⟨z9, hz9, _⟩ := getx ar k (by omega); have hx : (k : Int) - 1 = ((k - 1 : Nat) : Int) := (by omega))
 all_goals try refine XO.r3 13 ?_
 all_goals try refine XO.done [4, 6, 7, 8, 9, 10, 11, 81] ?_
 all_goals try first | refine XW.cT 81 ?_ | refine XW.cF 81 ?_ | refine XW.cB 81 (fun c81 => ?_) (fun c81 => ?_)
 all_goals try refine XW.rS 11 ?_
 all_goals try refine XO.r3 10 ?_
 all_goals try (have hx := hz9)
 all_goals try refine XO.r3 1 ?_
 all_goals try refine XO.done [4, 6, 7, 8, 9, 10, 11] ?_
 all_goals try refine XW.ra2 12 [4, 6, 7, 8, 9, 10, 11] ?_
 all_goals try (refine XH.le ?_; first | (exact hY1 (k - 1, ar.set k y) (by (refine ⟨?_, ?_, n3.set (n3 y hym)⟩ <;> first | (simp; omega) | (simp only; omega))) (by (simp only; omega)) _ _ (mkWk [some 0, some 1, some 2, some 3, some 4] [] (by simp [wkEnv, lk, lkh, I, str, B, U8, U64, U32, nilV, thC, thR, mI1, grC, hg, hxi]; first | done | omega) (by simp [wkHp, wkHp1, wkEnt, lkh, I, str, nilV, thC, thR, mI1, grC, hg, hxi]))))
 all_goals try (refine XW.at 13 ?_; obtain ⟨z9, hx, _⟩ := getx ar k (by omega))
 all_goals try refine XW.ra3 13 [4, 6, 7, 8, 9] ?_
 all_goals try refine XW.ra2 5 [4, 6, 7, 8, 9] ?_
 all_goals try (refine XH.le ?_; first | (refine hY0 (i + 1, gs) ?_ ?_ _ _ (mkWk [some 0, some 1, some 2, some 3] [] ?_ ?_); (next => (refine ⟨?_, ?_, m3⟩ <;> first | (simp; done) | (simp only; omega))); (next => first | omega | (simp; done) | (simp; omega)); (next => simp [wkEnv, lk, lkh, I, str, B, U8, U64, U32, nilV, thC, thR, mI1, hxi]; first | done | omega); (next => simp [wkHp, wkHp1, wkEnt, lkh, I, str, nilV, thC, thR, mI1, hxi])) | (refine hY0 (i + 1, ar.set k g) ?_ ?_ _ _ (mkWk [some 0, some 1, some 2, some 3] [] ?_ ?_); (next => (refine ⟨?_, ?_, n3.set hg2⟩ <;> first | (simp; done) | (simp; omega))); (next => first | omega | (simp; done) | (simp; omega)); (next => simp [wkEnv, lk, lkh, I, str, B, U8, U64, U32, nilV, thC, thR, mI1, hxi]; first | done | omega); (next => simp [wkHp, wkHp1, wkEnt, lkh, I, str, nilV, thC, thR, mI1, hxi])))
 all_goals try (refine XW.at 14 ?_; obtain ⟨m1, m2, m3⟩ := hI0; (try simp only at m1 m2 m3))
 all_goals try refine XW.ra0 14 [6] ?_
 all_goals try (refine XW.atr ?_; first | (exact XP.ret [1] (.agg [I f, I t.at_, .sl 3 (grE gs)]) ⟨_, gs, rfl, m3, by omega⟩ (hwk := by simp [resOf, lk, lkh, I])))
theorem find82_0 (s : S) (hs : s.length ≤ 2 ^ 20) : PCall Tryz.prog 82 [.agg [I 5, nilV, str [109, 115], .sl 6 kd0, I 0, I 0], str s, I 0] (FindR s.length) := by
 all_goals refine PCall.go 49 (fn := Tryz.f82) Tryz.func82 rfl rfl rfl (by simp) rfl ?_
 all_goals try refine XW.ra0 0 [1, 2, 3, 6] ?_
 all_goals try refine XW.rS 1 ?_
 all_goals try refine XO.r0 2 ?_
 all_goals try (refine XO.p (small100_0 s hs) ?_; rintro _ ⟨_, rfl⟩)
 all_goals try refine XO.r0 2 ?_
 all_goals try first | refine XO.kT 16 ?_ | refine XO.kF 16 ?_ | refine XO.split 16 (fun g16 => ?_) (fun g16 => ?_)
 all_goals try refine XO.r0 4 ?_
 all_goals try first | refine XO.kT 20 ?_ | refine XO.kF 20 ?_ | refine XO.split 20 (fun g20 => ?_) (fun g20 => ?_)
 all_goals try refine XO.r0 5 ?_
 all_goals try refine XO.done [1, 2, 3, 6, 25] ?_
 all_goals try first | refine XW.cT 25 ?_ | refine XW.cF 25 ?_ | refine XW.cB 25 (fun c25 => ?_) (fun c25 => ?_)
 all_goals try refine XW.ra0 2 [6, 7] ?_
 all_goals try (refine XW.atr ?_; first | (exact XP.rs (.inl rfl)) | (exact XP.rs (.inr ⟨_, _, gs, rfl, gok, gl⟩)))
 all_goals try refine XW.rS 3 ?_
 all_goals try refine XO.r0 1 ?_
 all_goals try (refine XO.p (prog101_0) ?_; rintro _ rfl)
 all_goals try refine XO.r0 1 ?_
 all_goals try refine XO.done [1, 2, 3, 6, 8] ?_
 all_goals try refine XW.ra0 4 [1, 3, 6, 8, 9] ?_
 all_goals try (refine XW.lp 2 (fun a : Nat => ⟨[(1, str s), (3, .ptr 0 6 0 0), (6, .ptr 1 3 0 0), (8, .sl 4 (inE pr0)), (9, I (a : Nat))], [(0, some ⟨121, 6, [[I 5, nilV, str [109, 115], .sl 6 kd0, I 0, I 0]]⟩), (1, some ⟨163, 3, [[I 0, I 0, nilV]]⟩)]⟩) (fun a => a ≤ s.length + 1) (fun a => s.length + 1 - a) 0 (mkWk [some 0, some 1] [] (by simp [wkEnv, lk, lkh, I, str, B, U8, U64, U32, nilV]; first | done | omega) (by simp [wkHp, wkHp1, wkEnt, lkh, I, str, nilV])) ?_; rintro a hI0 Y0 hY0; skip)
 all_goals try refine XW.ra0 5 [1, 3, 6, 8, 9, 33] ?_
 all_goals try first | refine XW.cT 33 ?_ | refine XW.cF 33 ?_ | refine XW.cB 33 (fun c33 => ?_) (fun c33 => ?_)
 all_goals try (refine XW.at 7 ?_; have hi9 : a ≤ s.length := (by have h := of_decide_eq_true c33; omega))
 all_goals try refine XW.rS 7 ?_
 all_goals try refine XO.r0 3 ?_
 all_goals try (refine XO.p (run102 pr0 pe0 ps0 okp0 prs0 s hs a (by omega)) ?_; rintro _ (⟨t, rfl, ht⟩ | rfl))
 all_goals try refine XO.r0 6 ?_
 all_goals try refine XO.done [1, 3, 6, 8, 9, 10, 11] ?_
 all_goals try refine XW.ra0 8 [1, 3, 6, 8, 9, 10, 43] ?_
 all_goals try first | refine XW.cT 43 ?_ | refine XW.cF 43 ?_ | refine XW.cB 43 (fun c43 => ?_) (fun c43 => ?_)
 all_goals try refine XW.rS 9 ?_
 all_goals try refine XO.r0 3 ?_
 all_goals try (refine XO.p (result103_0 pr0 pe0 ps0 s.length t ht (a : Int)) ?_; rintro _ ⟨t9, gs, rfl, gok, gl⟩)
 all_goals try refine XO.r0 2 ?_
 all_goals try refine XO.done [6, 7] ?_
 all_goals try (refine XW.atr ?_; first | (exact XP.rs (.inl rfl)) | (exact XP.rs (.inr ⟨_, _, gs, rfl, gok, gl⟩)))
 all_goals try refine XW.ra2 6 [1, 3, 6, 8, 9] ?_
 all_goals try (refine XH.le ?_; first | (exact eY hY0 (a + 1) (mkWk [some 0, some 1] [] (by simp [wkEnv, lk, lkh, I, str, B, U8, U64, U32, nilV]; first | done | omega) (by simp [wkHp, wkHp1, wkEnt, lkh, I, str, nilV]))))
 all_goals try refine XW.ra0 10 [6, 7] ?_
 all_goals try (refine XW.atr ?_; first | (exact XP.rs (.inl rfl)) | (exact XP.rs (.inr ⟨_, _, gs, rfl, gok, gl⟩)))
theorem find82_1 (s : S) (hs : s.length ≤ 2 ^ 20) : PCall Tryz.prog 82 [.agg [I 2, nilV, str [], .sl 6 kd1, I 0, I 0], str s, I 0] (FindR s.length) := by
 all_goals refine PCall.go 49 (fn := Tryz.f82) Tryz.func82 rfl rfl rfl (by simp) rfl ?_
 all_goals try refine XW.ra0 0 [1, 2, 3, 6] ?_
 all_goals try refine XW.rS 1 ?_
 all_goals try refine XO.r0 2 ?_
 all_goals try (refine XO.p (small100_1 s hs) ?_; rintro _ ⟨_, rfl⟩)
 all_goals try refine XO.r0 2 ?_
 all_goals try first | refine XO.kT 16 ?_ | refine XO.kF 16 ?_ | refine XO.split 16 (fun g16 => ?_) (fun g16 => ?_)
 all_goals try refine XO.r0 4 ?_
 all_goals try first | refine XO.kT 20 ?_ | refine XO.kF 20 ?_ | refine XO.split 20 (fun g20 => ?_) (fun g20 => ?_)
 all_goals try refine XO.r0 5 ?_
 all_goals try refine XO.done [1, 2, 3, 6, 25] ?_
 all_goals try first | refine XW.cT 25 ?_ | refine XW.cF 25 ?_ | refine XW.cB 25 (fun c25 => ?_) (fun c25 => ?_)
 all_goals try refine XW.ra0 2 [6, 7] ?_
 all_goals try (refine XW.atr ?_; first | (exact XP.rs (.inl rfl)) | (exact XP.rs (.inr ⟨_, _, gs, rfl, gok, gl⟩)))
 all_goals try refine XW.rS 3 ?_
 all_goals try refine XO.r0 1 ?_
 all_goals try (refine XO.p (prog101_1) ?_; rintro _ rfl)
 all_goals try refine XO.r0 1 ?_
 all_goals try refine XO.done [1, 2, 3, 6, 8] ?_
 all_goals try refine XW.ra0 4 [1, 3, 6, 8, 9] ?_
 all_goals try (refine XW.lp 2 (fun a : Nat => ⟨[(1, str s), (3, .ptr 0 6 0 0), (6, .ptr 1 3 0 0), (8, .sl 4 (inE pr1)), (9, I (a : Nat))], [(0, some ⟨121, 6, [[I 2, nilV, str [], .sl 6 kd1, I 0, I 0]]⟩), (1, some ⟨163, 3, [[I 0, I 0, nilV]]⟩)]⟩) (fun a => a ≤ s.length + 1) (fun a => s.length + 1 - a) 0 (mkWk [some 0, some 1] [] (by simp [wkEnv, lk, lkh, I, str, B, U8, U64, U32, nilV]; first | done | omega) (by simp [wkHp, wkHp1, wkEnt, lkh, I, str, nilV])) ?_; rintro a hI0 Y0 hY0; skip)
 all_goals try refine XW.ra0 5 [1, 3, 6, 8, 9, 33] ?_
 all_goals try first | refine XW.cT 33 ?_ | refine XW.cF 33 ?_ | refine XW.cB 33 (fun c33 => ?_) (fun c33 => ?_)
 all_goals try (refine XW.at 7 ?_; have hi9 : a ≤ s.length := (by have h := of_decide_eq_true c33; omega))
 all_goals try refine XW.rS 7 ?_
 all_goals try refine XO.r0 3 ?_
 all_goals try (refine XO.p (run102 pr1 pe1 ps1 okp1 prs1 s hs a (by omega)) ?_; rintro _ (⟨t, rfl, ht⟩ | rfl))
 all_goals try refine XO.r0 6 ?_
 all_goals try refine XO.done [1, 3, 6, 8, 9, 10, 11] ?_
 all_goals try refine XW.ra0 8 [1, 3, 6, 8, 9, 10, 43] ?_
 all_goals try first | refine XW.cT 43 ?_ | refine XW.cF 43 ?_ | refine XW.cB 43 (fun c43 => ?_) (fun c43 => ?_)
 all_goals try refine XW.rS 9 ?_
 all_goals try refine XO.r0 3 ?_
 all_goals try (refine XO.p (result103_1 pr1 pe1 ps1 s.length t ht (a : Int)) ?_; rintro _ ⟨t9, gs, rfl, gok, gl⟩)
 all_goals try refine XO.r0 2 ?_
 all_goals try refine XO.done [6, 7] ?_
 all_goals try (refine XW.atr ?_; first | (exact XP.rs (.inl rfl)) | (exact XP.rs (.inr ⟨_, _, gs, rfl, gok, gl⟩)))
 all_goals try refine XW.ra2 6 [1, 3, 6, 8, 9] ?_
 all_goals try (refine XH.le ?_; first | (exact eY hY0 (a + 1) (mkWk [some 0, some 1] [] (by simp [wkEnv, lk, lkh, I, str, B, U8, U64, U32, nilV]; first | done | omega) (by simp [wkHp, wkHp1, wkEnt, lkh, I, str, nilV]))))
 all_goals try refine XW.ra0 10 [6, 7] ?_
 all_goals try (refine XW.atr ?_; first | (exact XP.rs (.inl rfl)) | (exact XP.rs (.inr ⟨_, _, gs, rfl, gok, gl⟩)))
theorem find82_2 (s : S) (hs : s.length ≤ 2 ^ 20) : PCall Tryz.prog 82 [.agg [I 1, .sl 2 rk2, str [], nilV, I 0, I 0], str s, I 0] (FindR s.length) := by
 all_goals refine PCall.go 49 (fn := Tryz.f82) Tryz.func82 rfl rfl rfl (by simp) rfl ?_
 all_goals try refine XW.ra0 0 [1, 2, 3, 6] ?_
 all_goals try refine XW.rS 1 ?_
 all_goals try refine XO.r0 2 ?_
 all_goals try (refine XO.p (small100_2 s hs) ?_; rintro _ ⟨_, rfl⟩)
 all_goals try refine XO.r0 2 ?_
 all_goals try first | refine XO.kT 16 ?_ | refine XO.kF 16 ?_ | refine XO.split 16 (fun g16 => ?_) (fun g16 => ?_)
 all_goals try refine XO.r0 4 ?_
 all_goals try first | refine XO.kT 20 ?_ | refine XO.kF 20 ?_ | refine XO.split 20 (fun g20 => ?_) (fun g20 => ?_)
 all_goals try refine XO.r0 5 ?_
 all_goals try refine XO.done [1, 2, 3, 6, 25] ?_
 all_goals try first | refine XW.cT 25 ?_ | refine XW.cF 25 ?_ | refine XW.cB 25 (fun c25 => ?_) (fun c25 => ?_)
 all_goals try refine XW.ra0 2 [6, 7] ?_
 all_goals try (refine XW.atr ?_; first | (exact XP.rs (.inl rfl)) | (exact XP.rs (.inr ⟨_, _, gs, rfl, gok, gl⟩)))
 all_goals try refine XW.rS 3 ?_
 all_goals try refine XO.r0 1 ?_
 all_goals try (refine XO.p (prog101_2) ?_; rintro _ rfl)
 all_goals try refine XO.r0 1 ?_
 all_goals try refine XO.done [1, 2, 3, 6, 8] ?_
 all_goals try refine XW.ra0 4 [1, 3, 6, 8, 9] ?_
 all_goals try (refine XW.lp 2 (fun a : Nat => ⟨[(1, str s), (3, .ptr 0 6 0 0), (6, .ptr 1 3 0 0), (8, .sl 4 (inE pr2)), (9, I (a : Nat))], [(0, some ⟨121, 6, [[I 1, .sl 2 rk2, str [], nilV, I 0, I 0]]⟩), (1, some ⟨163, 3, [[I 0, I 0, nilV]]⟩)]⟩) (fun a => a ≤ s.length + 1) (fun a => s.length + 1 - a) 0 (mkWk [some 0, some 1] [] (by simp [wkEnv, lk, lkh, I, str, B, U8, U64, U32, nilV]; first | done | omega) (by simp [wkHp, wkHp1, wkEnt, lkh, I, str, nilV])) ?_; rintro a hI0 Y0 hY0; skip)
 all_goals try refine XW.ra0 5 [1, 3, 6, 8, 9, 33] ?_
 all_goals try first | refine XW.cT 33 ?_ | refine XW.cF 33 ?_ | refine XW.cB 33 (fun c33 => ?_) (fun c33 => ?_)
 all_goals try (refine XW.at 7 ?_; have hi9 : a ≤ s.length := (by have h := of_decide_eq_true c33; omega))
 all_goals try refine XW.rS 7 ?_
 all_goals try refine XO.r0 3 ?_
 all_goals try (refine XO.p (run102 pr2 pe2 ps2 okp2 prs2 s hs a (by omega)) ?_; rintro _ (⟨t, rfl, ht⟩ | rfl))
 all_goals try refine XO.r0 6 ?_
 all_goals try refine XO.done [1, 3, 6, 8, 9, 10, 11] ?_
 all_goals try refine XW.ra0 8 [1, 3, 6, 8, 9, 10, 43] ?_
 all_goals try first | refine XW.cT 43 ?_ | refine XW.cF 43 ?_ | refine XW.cB 43 (fun c43 => ?_) (fun c43 => ?_)
 all_goals try refine XW.rS 9 ?_
 all_goals try refine XO.r0 3 ?_
 all_goals try (refine XO.p (result103_2 pr2 pe2 ps2 s.length t ht (a : Int)) ?_; rintro _ ⟨t9, gs, rfl, gok, gl⟩)
 all_goals try refine XO.r0 2 ?_
 all_goals try refine XO.done [6, 7] ?_
 all_goals try (refine XW.atr ?_; first | (exact XP.rs (.inl rfl)) | (exact XP.rs (.inr ⟨_, _, gs, rfl, gok, gl⟩)))
 all_goals try refine XW.ra2 6 [1, 3, 6, 8, 9] ?_
 all_goals try (refine XH.le ?_; first | (exact eY hY0 (a + 1) (mkWk [some 0, some 1] [] (by simp [wkEnv, lk, lkh, I, str, B, U8, U64, U32, nilV]; first | done | omega) (by simp [wkHp, wkHp1, wkEnt, lkh, I, str, nilV]))))
 all_goals try refine XW.ra0 10 [6, 7] ?_
 all_goals try (refine XW.atr ?_; first | (exact XP.rs (.inl rfl)) | (exact XP.rs (.inr ⟨_, _, gs, rfl, gok, gl⟩)))
theorem find82_3 (s : S) (hs : s.length ≤ 2 ^ 20) : PCall Tryz.prog 82 [.agg [I 5, nilV, str [108, 101, 118, 101, 108], .sl 6 kd3, I 0, I 0], str s, I 0] (FindR s.length) := by
 all_goals refine PCall.go 49 (fn := Tryz.f82) Tryz.func82 rfl rfl rfl (by simp) rfl ?_
 all_goals try refine XW.ra0 0 [1, 2, 3, 6] ?_
 all_goals try refine XW.rS 1 ?_
 all_goals try refine XO.r0 2 ?_
 all_goals try (refine XO.p (small100_3 s hs) ?_; rintro _ ⟨_, rfl⟩)
 all_goals try refine XO.r0 2 ?_
 all_goals try first | refine XO.kT 16 ?_ | refine XO.kF 16 ?_ | refine XO.split 16 (fun g16 => ?_) (fun g16 => ?_)
 all_goals try refine XO.r0 4 ?_
 all_goals try first | refine XO.kT 20 ?_ | refine XO.kF 20 ?_ | refine XO.split 20 (fun g20 => ?_) (fun g20 => ?_)
 all_goals try refine XO.r0 5 ?_
 all_goals try refine XO.done [1, 2, 3, 6, 25] ?_
 all_goals try first | refine XW.cT 25 ?_ | refine XW.cF 25 ?_ | refine XW.cB 25 (fun c25 => ?_) (fun c25 => ?_)
 all_goals try refine XW.ra0 2 [6, 7] ?_
 all_goals try (refine XW.atr ?_; first | (exact XP.rs (.inl rfl)) | (exact XP.rs (.inr ⟨_, _, gs, rfl, gok, gl⟩)))
 all_goals try refine XW.rS 3 ?_
 all_goals try refine XO.r0 1 ?_
 all_goals try (refine XO.p (prog101_3) ?_; rintro _ rfl)
 all_goals try refine XO.r0 1 ?_
 all_goals try refine XO.done [1, 2, 3, 6, 8] ?_
 all_goals try refine XW.ra0 4 [1, 3, 6, 8, 9] ?_
 all_goals try (refine XW.lp 2 (fun a : Nat => ⟨[(1, str s), (3, .ptr 0 6 0 0), (6, .ptr 1 3 0 0), (8, .sl 4 (inE pr3)), (9, I (a : Nat))], [(0, some ⟨121, 6, [[I 5, nilV, str [108, 101, 118, 101, 108], .sl 6 kd3, I 0, I 0]]⟩), (1, some ⟨163, 3, [[I 0, I 0, nilV]]⟩)]⟩) (fun a => a ≤ s.length + 1) (fun a => s.length + 1 - a) 0 (mkWk [some 0, some 1] [] (by simp [wkEnv, lk, lkh, I, str, B, U8, U64, U32, nilV]; first | done | omega) (by simp [wkHp, wkHp1, wkEnt, lkh, I, str, nilV])) ?_; rintro a hI0 Y0 hY0; skip)
 all_goals try refine XW.ra0 5 [1, 3, 6, 8, 9, 33] ?_
 all_goals try first | refine XW.cT 33 ?_ | refine XW.cF 33 ?_ | refine XW.cB 33 (fun c33 => ?_) (fun c33 => ?_)
 all_goals try (refine XW.at 7 ?_; have hi9 : a ≤ s.length := (by have h := of_decide_eq_true c33; omega))
 all_goals try refine XW.rS 7 ?_
 all_goals try refine XO.r0 3 ?_
 all_goals try (refine XO.p (run102 pr3 pe3 ps3 okp3 prs3 s hs a (by omega)) ?_; rintro _ (⟨t, rfl, ht⟩ | rfl))
 all_goals try refine XO.r0 6 ?_
 all_goals try refine XO.done [1, 3, 6, 8, 9, 10, 11] ?_
 all_goals try refine XW.ra0 8 [1, 3, 6, 8, 9, 10, 43] ?_
 all_goals try first | refine XW.cT 43 ?_ | refine XW.cF 43 ?_ | refine XW.cB 43 (fun c43 => ?_) (fun c43 => ?_)
 all_goals try refine XW.rS 9 ?_
 all_goals try refine XO.r0 3 ?_
 all_goals try (refine XO.p (result103_3 pr3 pe3 ps3 s.length t ht (a : Int)) ?_; rintro _ ⟨t9, gs, rfl, gok, gl⟩)
 all_goals try refine XO.r0 2 ?_
 all_goals try refine XO.done [6, 7] ?_
 all_goals try (refine XW.atr ?_; first | (exact XP.rs (.inl rfl)) | (exact XP.rs (.inr ⟨_, _, gs, rfl, gok, gl⟩)))
 all_goals try refine XW.ra2 6 [1, 3, 6, 8, 9] ?_
 all_goals try (refine XH.le ?_; first | (exact eY hY0 (a + 1) (mkWk [some 0, some 1] [] (by simp [wkEnv, lk, lkh, I, str, B, U8, U64, U32, nilV]; first | done | omega) (by simp [wkHp, wkHp1, wkEnt, lkh, I, str, nilV]))))
 all_goals try refine XW.ra0 10 [6, 7] ?_
 all_goals try (refine XW.atr ?_; first | (exact XP.rs (.inl rfl)) | (exact XP.rs (.inr ⟨_, _, gs, rfl, gok, gl⟩)))
end Go.Proofs.YtffchapiaampmaaGreatDoor
