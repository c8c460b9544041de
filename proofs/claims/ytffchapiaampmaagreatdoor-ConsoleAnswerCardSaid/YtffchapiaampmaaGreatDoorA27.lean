/-
  Part 27 of the proof that logtidelaw45.ConsoleAnswer returns true for every list of bytes and every text, and leaves both as they were.
-/
import Derived.Test.YtffchapiaampmaaGreatDoorA10
import Derived.Test.YtffchapiaampmaaGreatDoorA26
set_option linter.unusedSimpArgs false
set_option linter.unusedVariables false
namespace Go.Proofs.YtffchapiaampmaaGreatDoor
open Go.Av
attribute [local irreducible] ACall
def lessF (a b : Ev) : Bool := if a.time ≠ b.time then decide (a.time < b.time) else if a.host ≠ b.host then decide (a.host < b.host) else if a.file ≠ b.file then decide (a.file < b.file) else decide (a.frm < b.frm)
theorem less12 (a b : Ev) : ACall Tryz.prog 32 [.agg (evC a), .agg (evC b)] [] (B (lessF a b)) [] := by
 refine acall 43 0 Tryz.func32 rfl rfl rfl (by simp) rfl rfl ?_
 intro C hN hk
 rcases dqE a.time b.time with ⟨p0, e0, f0⟩ | ⟨p0, e0, f0⟩
 · rcases dqE a.host b.host with ⟨p1, e1, f1⟩ | ⟨p1, e1, f1⟩
   · rcases dqE a.file b.file with ⟨p2, e2, f2⟩ | ⟨p2, e2, f2⟩
     · have e : lessF a b = decide (a.frm < b.frm) := by simp [lessF, p0, p1, p2]
       rw [e]
       refine nx ?_; refine rG hN hk noc [] [2, 3] fun K hK => ?_; simp only [go_sem, seval, f0, f1, f2]; refine hK _ _ ?_
       clear hK K; refine nx ?_
       refine rG hN hk noc [] [2, 3, 5] fun K hK => ?_; simp only [go_sem, seval, f0, f1, f2]
       try simp (disch := omega) only [au]
       refine hK _ _ ?_; clear hK K; refine nx ?_; refine cF ?_; refine nx ?_; refine rG hN hk noc [] [2, 3, 16] fun K hK => ?_; simp only [go_sem, seval, f0, f1, f2]
       try simp (disch := omega) only [au]
       refine hK _ _ ?_; clear hK K; refine nx ?_; refine cF ?_; refine nx ?_; refine rG hN hk noc [] [2, 3, 27] fun K hK => ?_; simp only [go_sem, seval, f0, f1, f2]
       try simp (disch := omega) only [au]
       refine hK _ _ ?_; clear hK K; refine nx ?_; refine cF ?_; refine nx ?_; refine rG hN hk noc [] [4] fun K hK => ?_; simp only [go_sem, seval, f0, f1, f2]
       try simp (disch := omega) only [au]
       refine hK _ _ ?_; clear hK K; refine nx ?_
       refine AW.ret (mkRet [] [] rfl (by simp [resOf, lk, lkh, I, str, B, U8, U64, U32] <;> omega) (by first | (simp [wkHp, wkHp1, wkEnt, lkh]; done) | simp [wkHp, wkHp1, wkEnt, lkh, I, str]))
     · have e : lessF a b = decide (a.file < b.file) := by simp [lessF, p0, p1, p2]
       rw [e]
       refine nx ?_; refine rG hN hk noc [] [2, 3] fun K hK => ?_; simp only [go_sem, seval, f0, f1, f2]; refine hK _ _ ?_
       clear hK K; refine nx ?_
       refine rG hN hk noc [] [2, 3, 5] fun K hK => ?_; simp only [go_sem, seval, f0, f1, f2]
       try simp (disch := omega) only [au]
       refine hK _ _ ?_; clear hK K; refine nx ?_; refine cF ?_; refine nx ?_; refine rG hN hk noc [] [2, 3, 16] fun K hK => ?_; simp only [go_sem, seval, f0, f1, f2]
       try simp (disch := omega) only [au]
       refine hK _ _ ?_; clear hK K; refine nx ?_; refine cF ?_; refine nx ?_; refine rG hN hk noc [] [2, 3, 27] fun K hK => ?_; simp only [go_sem, seval, f0, f1, f2]
       try simp (disch := omega) only [au]
       refine hK _ _ ?_; clear hK K; refine nx ?_; refine cT ?_; refine nx ?_; refine rG hN hk noc [] [4] fun K hK => ?_; simp only [go_sem, seval, f0, f1, f2]
       try simp (disch := omega) only [au]
       refine hK _ _ ?_; clear hK K; refine nx ?_
       refine AW.ret (mkRet [] [] rfl (by simp [resOf, lk, lkh, I, str, B, U8, U64, U32] <;> omega) (by first | (simp [wkHp, wkHp1, wkEnt, lkh]; done) | simp [wkHp, wkHp1, wkEnt, lkh, I, str]))
   · have e : lessF a b = decide (a.host < b.host) := by simp [lessF, p0, p1]
     rw [e]
     refine nx ?_; refine rG hN hk noc [] [2, 3] fun K hK => ?_; simp only [go_sem, seval, f0, f1]; refine hK _ _ ?_
     clear hK K; refine nx ?_
     refine rG hN hk noc [] [2, 3, 5] fun K hK => ?_; simp only [go_sem, seval, f0, f1]
     try simp (disch := omega) only [au]
     refine hK _ _ ?_; clear hK K; refine nx ?_; refine cF ?_; refine nx ?_; refine rG hN hk noc [] [2, 3, 16] fun K hK => ?_; simp only [go_sem, seval, f0, f1]
     try simp (disch := omega) only [au]
     refine hK _ _ ?_; clear hK K; refine nx ?_; refine cT ?_; refine nx ?_; refine rG hN hk noc [] [4] fun K hK => ?_; simp only [go_sem, seval, f0, f1]
     try simp (disch := omega) only [au]
     refine hK _ _ ?_; clear hK K; refine nx ?_
     refine AW.ret (mkRet [] [] rfl (by simp [resOf, lk, lkh, I, str, B, U8, U64, U32] <;> omega) (by first | (simp [wkHp, wkHp1, wkEnt, lkh]; done) | simp [wkHp, wkHp1, wkEnt, lkh, I, str]))
 · have e : lessF a b = decide (a.time < b.time) := by simp [lessF, p0]
   rw [e]
   refine nx ?_; refine rG hN hk noc [] [2, 3] fun K hK => ?_; simp only [go_sem, seval, f0]; refine hK _ _ ?_
   clear hK K; refine nx ?_
   refine rG hN hk noc [] [2, 3, 5] fun K hK => ?_; simp only [go_sem, seval, f0]
   try simp (disch := omega) only [au]
   refine hK _ _ ?_; clear hK K; refine nx ?_; refine cT ?_; refine nx ?_; refine rG hN hk noc [] [4] fun K hK => ?_; simp only [go_sem, seval, f0]
   try simp (disch := omega) only [au]
   refine hK _ _ ?_; clear hK K; refine nx ?_
   refine AW.ret (mkRet [] [] rfl (by simp [resOf, lk, lkh, I, str, B, U8, U64, U32] <;> omega) (by first | (simp [wkHp, wkHp1, wkEnt, lkh]; done) | simp [wkHp, wkHp1, wkEnt, lkh, I, str]))
end Go.Proofs.YtffchapiaampmaaGreatDoor
namespace Go.Proofs.YtffchapiaampmaaGreatDoor
open Go.Av
def Asc (l : List Ev) : Prop := l.Pairwise fun a b => lessF a b = true
end Go.Proofs.YtffchapiaampmaaGreatDoor
namespace Go.Proofs.YtffchapiaampmaaGreatDoor
open Go.Av
attribute [local irreducible] ACall
def insGo (l : List Ev) (e : Ev) : Nat → Nat
 | 0 => 0
 | i + 1 => match l[i]? with
   | some y => if lessF e y then insGo l e i else i + 1
   | none => i + 1
def insF (l : List Ev) (e : Ev) : List Ev := l.take (insGo l e l.length) ++ [e] ++ l.drop (insGo l e l.length)
theorem insGo_le (l : List Ev) (e : Ev) : ∀ i, insGo l e i ≤ i
 | 0 => by simp [insGo]
 | i + 1 => by
   have := insGo_le l e i
   unfold insGo
   split
   · split <;> omega
   · omega
theorem insert29 (l : List Ev) (e : Ev) (hl : l.length ≤ 2 ^ 30) : ACall Tryz.prog 17 [.sl 10 (evE l), .agg (evC e)] [] (.osl 0 (insF l e).length 10) [some ⟨62, 10, evE (insF l e)⟩] := by
 refine acall 34 0 Tryz.func17 rfl rfl rfl (by simp) rfl rfl ?_
 intro C hN hk
 have hle := insGo_le l e l.length
 refine nx ?_; refine rG hN hk noc [] [0, 3] fun K hK => ?_; simp only [go_sem, seval]; refine hK _ _ ?_
 clear hK K; refine nx ?_
 refine rG hN hk noc [] [0, 3, 5] fun K hK => ?_; simp only [go_sem, seval]
 (first | with_reducible refine hK _ _ ?_ | refine obK (hK _ _ ?_)); clear hK K; refine nx ?_
 refine lpF hk 1 (fun i : Nat => ⟨[(0, .sl 10 (evE l)), (3, .ptr 0 10 0 0), (5, I i)], [(0, some ⟨62, 10, [evC e]⟩)]⟩) (fun i => i ≤ l.length ∧ insGo l e i = insGo l e l.length) (fun i => i) l.length (mkWk [some 0] [] (by simp [wkEnv, lk, lkh, I, str, B, U8, U64, U32, evC] <;> omega) (by first | (simp [wkHp, wkHp1, wkEnt, lkh, evC]; done) | simp [wkHp, wkHp1, wkEnt, lkh, I, str, evC])) ?_
 rintro i ⟨h1, h2⟩
 have fin : ∀ k, k = insGo l e l.length → (l.take k ++ [e] ++ l.drop k) = insF l e := by intro k hk; subst hk; rfl
 cases i with
 | zero =>
   have hf := fin 0 h2
   simp only [List.take_zero, List.drop_zero, List.nil_append] at hf
   have d0 : decide (((0 : Nat) : Int) > 0) = false := by simp
   have hfl : (insF l e).length = 1 + l.length := by rw [← hf]; simp; omega
   refine nx ?_
   refine rD hN hk noc [] [0, 3, 5, 19] fun K tok htok hK => ?_
   simp only [go_sem, seval, d0]
   try simp (disch := omega) only [au]
   try simp only [go_sem, seval, d0]
   refine ⟨htok _ (by decide +kernel), ?_⟩
   (first | with_reducible refine hK _ _ ?_ | refine obK (hK _ _ ?_)); clear hK K htok tok
   refine nx ?_; refine cF ?_; refine nx ?_; refine rG hN hk noc [] [0, 3, 5, 6] fun K hK => ?_; simp only [go_sem, seval]
   (first | with_reducible refine hK _ _ ?_ | refine obK (hK _ _ ?_)); clear hK K; refine nx ?_
   refine rD hN hk noc [] [4] fun K tok htok hK => ?_
   simp only [go_sem, seval]
   refine ⟨htok _ (by decide +kernel), ?_⟩
   (first | with_reducible refine hK _ _ ?_ | refine obK (hK _ _ ?_)); clear hK K htok tok
   refine nx ?_
   rw [← hf]
   have hcons : ∀ l, evE (e :: l) = evC e :: evE l := fun _ => rfl
   refine AW.ret (mkRet [some 0] [] rfl (by simp [resOf, lk, lkh, I, str, B, U8, U64, U32, hcons, evC, idLtL, idLt] <;> omega) (by first | (simp [wkHp, wkHp1, wkEnt, lkh, hcons, evC, idLtL, idLt]; done) | simp [wkHp, wkHp1, wkEnt, lkh, I, str, hcons, evC, idLtL, idLt]))
 | succ j =>
   have hj : j < l.length := by omega
   have hx := List.getElem?_eq_getElem hj
   have q := less12 e l[j]
   have h3 : insGo l e (j + 1) = if lessF e l[j] then insGo l e j else j + 1 := by rw [insGo, hx]
   have e1 : (((j + 1 : Nat) : Int) - 1) = (j : Int) := by omega
   have d0 : decide (((j + 1 : Nat) : Int) > 0) = true := by simp
   have w1 := wrap64 (n := (j : Int)) (by omega)
   generalize l[j] = y at *
   cases hb : lessF e y with
   | true =>
     rw [hb] at q h3
     rw [if_pos rfl] at h3
     refine nx ?_
     refine rD hN hk (onc 9 (pcq q) noc) [] [0, 3, 5, 19] fun K tok htok hK => ?_
     simp only [go_sem, seval, d0, e1, w1, hx]
     try simp (disch := omega) only [au]
     try simp only [go_sem, seval, d0, e1, w1, hx]
     refine ⟨htok _ (by decide +kernel), ?_⟩
     refine obK (hK _ _ ?_); clear hK K htok tok
     refine nx ?_; refine cT ?_; refine nx ?_; refine rG hN hk noc [] [0, 3, 5] fun K hK => ?_; simp only [go_sem, seval, e1, w1]
     try simp (disch := omega) only [au]
     refine hK _ _ ?_; clear hK K; refine nx ?_
     refine eE (j) (mkWk [some 0] [] (by simp [wkEnv, lk, lkh, I, str, B, U8, U64, U32, evC] <;> omega) (by first | (simp [wkHp, wkHp1, wkEnt, lkh, evC]; done) | simp [wkHp, wkHp1, wkEnt, lkh, I, str, evC]))
   | false =>
     rw [hb] at q h3
     rw [if_neg (by simp)] at h3
     have hf := fin (j + 1) (by omega)
     have e3 : (((j + 1 : Nat) : Int)).toNat = j + 1 := by omega
     have hfl : (insF l e).length = l.length + 1 := by rw [← hf]; simp; omega
     refine nx ?_
     refine rD hN hk (onc 9 (pcq q) noc) [] [0, 3, 5, 19] fun K tok htok hK => ?_
     simp only [go_sem, seval, d0, e1, w1, hx]
     try simp (disch := omega) only [au]
     try simp only [go_sem, seval, d0, e1, w1, hx]
     refine ⟨htok _ (by decide +kernel), ?_⟩
     refine obK (hK _ _ ?_); clear hK K htok tok
     refine nx ?_; refine cF ?_; refine nx ?_; refine rG hN hk noc [] [0, 3, 5, 6] fun K hK => ?_; simp only [go_sem, seval, e3]
     (first | with_reducible refine hK _ _ ?_ | refine obK (hK _ _ ?_)); clear hK K; refine nx ?_
     refine rD hN hk noc [] [4] fun K tok htok hK => ?_
     simp only [go_sem, seval, e3]
     refine ⟨htok _ (by decide +kernel), ?_⟩
     (first | with_reducible refine hK _ _ ?_ | refine obK (hK _ _ ?_)); clear hK K htok tok
     refine nx ?_
     rw [← hf]
     refine AW.ret (mkRet [some 0] [] rfl (by simp [resOf, lk, lkh, I, str, B, U8, U64, U32] <;> omega) (by first | (simp [wkHp, wkHp1, wkEnt, lkh]; done) | simp [wkHp, wkHp1, wkEnt, lkh, I, str]))
def fnV (g : Nat) : AV := .val (.func (.func g) #[] #[])
attribute [go_sem] fnV
end Go.Proofs.YtffchapiaampmaaGreatDoor
namespace Go.Proofs.YtffchapiaampmaaGreatDoor
open Go.Av
def LOk (b : Nat) (L : List Int) : Prop := L.Pairwise (· < ·) ∧ ∀ x ∈ L, 0 ≤ x ∧ x < (b : Int)
theorem LOk.up {b b' : Nat} {L : List Int} (h : b ≤ b') (hl : LOk b L) : LOk b' L := ⟨hl.1, fun x hx => by have := hl.2 x hx; omega⟩
theorem LOk.snoc {b : Nat} {L : List Int} (hl : LOk b L) : LOk (b + 1) (L ++ [(b : Int)]) := by
 refine ⟨?_, ?_⟩
 · rw [List.pairwise_append]
   exact ⟨hl.1, by simp, fun a ha c hc => by rw [List.mem_singleton.1 hc]; exact (hl.2 a ha).2⟩
 · intro x hx
   rcases List.mem_append.1 hx with hx | hx
   · have := hl.2 x hx; omega
   · rw [List.mem_singleton.1 hx]; omega
end Go.Proofs.YtffchapiaampmaaGreatDoor
namespace Go.Proofs.YtffchapiaampmaaGreatDoor
open Go.Av
attribute [local irreducible] ACall
def nameB (s : S) : Prop := 1 ≤ s.length ∧ s.length ≤ 32 ∧ ∀ c ∈ s, letterB c = true
def atTo (f : Int) (l : List Ln) : Int := f + (l.map Ln.len).sum
theorem atTo_snoc (f : Int) (l : List Ln) (x : Ln) : atTo f (l ++ [x]) = atTo f l + x.len := by
 unfold atTo; simp; omega
/-- An event that passes the check. -/
structure EvG (e : Ev) : Prop where
 host : 0 ≤ e.host ∧ e.host ≤ 999
 file : 0 ≤ e.file ∧ e.file ≤ 2147483646
 frm : 0 ≤ e.frm
 to : e.frm < e.to ∧ e.to ≤ 60000
 time : 0 ≤ e.time ∧ e.time ≤ 253402300799999
 weight : weightB e.weight = true
 nl : 1 ≤ e.lines.length ∧ e.lines.length ≤ 40
 off : ∀ i (h : i < e.lines.length), e.lines[i].off = atTo e.frm (e.lines.take i) ∧ 1 ≤ e.lines[i].len
 all : atTo e.frm e.lines = e.to
 tx : ∀ x ∈ e.lines, x.text.length ≤ 2000
 tr : e.trace.length ≤ 32 ∧ e.stream.length ≤ 32
 nf : e.fields.length ≤ 32
 fn : ∀ f ∈ e.fields, nameB f.name ∧ f.val.length ≤ 2000
 fs : e.fields.Pairwise fun a b => ltS a.name b.name
@[go_sem] theorem E93 : Av.elemOf (tabOf Tryz.prog) 93 = none := by kernel_rfl
/-- The choices that are left. -/
def cdE (L : List UInt8) (a : Nat) : Ent := ⟨48, 2, [[.sl 1 (bytesE L), I a]]⟩
attribute [go_sem] cdE
@[simp] theorem idLtL_cons (k : Nat) (c : AV) (r : List AV) : idLtL k (c :: r) = (idLt k c && idLtL k r) := rfl
@[simp] theorem idLtL_nil (k : Nat) : idLtL k [] = true := rfl
@[simp] theorem idLt_sl (k sz : Nat) (es : List (List AV)) : idLt k (.sl sz es) = true := rfl
@[simp] theorem idLt_val (k : Nat) (v : Value) : idLt k (.val v) = true := rfl
theorem left28 (L : List UInt8) (a : Nat) : ACall Tryz.prog 30 [.ptr 0 2 0 0] [some (cdE L a)] (B (decide ((a : Int) < L.length))) [some (cdE L a)] := by
 refine acall 13 1 Tryz.func30 rfl rfl rfl (by simp) rfl rfl ?_
 intro C hN hk
 refine nx ?_; refine rG hN hk noc [0] [0] fun K hK => ?_; simp only [go_sem, seval]; refine hK _ _ ?_
 clear hK K; refine nx ?_
 refine rD hN hk noc [0] [2] fun K tok htok hK => ?_
 simp only [go_sem, seval]
 try simp (disch := omega) only [au]
 refine ⟨htok _ (by decide +kernel), ?_⟩
 (first | with_reducible refine hK _ _ ?_ | refine obK (hK _ _ ?_)); clear hK K htok tok
 refine nx ?_
 refine AW.ret (mkRet [some 0] [] rfl (by simp [resOf, lk, lkh, I, str, B, U8, U64, U32, cdE] <;> omega) (by first | (simp [wkHp, wkHp1, wkEnt, lkh, cdE]; done) | simp [wkHp, wkHp1, wkEnt, lkh, I, str, cdE]))
theorem next13 (L : List UInt8) (hL : L.length ≤ 2 ^ 20) (a n : Nat) (ha : a ≤ L.length) (hn : n ≤ 2 ^ 30) (hn1 : 1 ≤ n) :
   ∃ v a' : Nat, a' ≤ L.length ∧ v < n ∧ ACall Tryz.prog 14 [.ptr 0 2 0 0, I n] [some (cdE L a)] (I v) [some (cdE L a')] := by
 have q := left28 L a
 have d1 := dLtF (a := (n : Int)) (b := 1) (by omega)
 by_cases h : a < L.length
 · rw [dLtT (by omega)] at q
   have hx := List.getElem?_eq_getElem h
   generalize L[a] = b at *
   have hb := b.toNat_lt
   have hm : b.toNat * n ≤ 255 * n := Nat.mul_le_mul_right _ (by omega)
   have e1 : ((b.toNat : Int) * (n : Int)).tdiv 256 = ((b.toNat * n / 256 : Nat) : Int) := by
     rw [Int.tdiv_eq_ediv_of_nonneg (Int.mul_nonneg (by omega) (by omega)), Int.natCast_ediv, Int.natCast_mul]
     rfl
   have w1 := wrap64 (n := (b.toNat : Int) * (n : Int)) (by
     have : ((b.toNat : Int) * (n : Int)) = ((b.toNat * n : Nat) : Int) := by rw [Int.natCast_mul]
     omega)
   have w2 := wrap64 (n := (b.toNat : Int)) (by omega)
   have w3 := wrap64 (n := ((b.toNat * n / 256 : Nat) : Int)) (by omega)
   refine ⟨b.toNat * n / 256, a + 1, by omega, by omega, ?_⟩
   refine acall 35 1 Tryz.func14 rfl rfl rfl (by simp) rfl rfl ?_
   intro C hN hk
   refine nx ?_; refine rG hN hk noc [0] [0, 1] fun K hK => ?_; simp only [go_sem, seval]; refine hK _ _ ?_
   clear hK K; refine nx ?_
   refine rG hN hk (onc 1 (ocq 0 q) noc) [0] [0, 1, 12] fun K hK => ?_; simp only [go_sem, seval, d1]
   try simp (disch := omega) only [au]
   try simp only [go_sem, seval, d1]
   refine obK (hK _ _ ?_); clear hK K; refine nx ?_; refine cF ?_; refine nx ?_
   refine rD hN hk noc [0] [0, 1, 5] fun K tok htok hK => ?_
   simp only [go_sem, seval, hx, w2]
   try simp (disch := omega) only [au]
   refine ⟨htok _ (by decide +kernel), ?_⟩
   (first | with_reducible refine hK _ _ ?_ | refine obK (hK _ _ ?_)); clear hK K htok tok
   refine nx ?_; refine rG hN hk noc [0] [1, 5] fun K hK => ?_; simp only [go_sem, seval]
   try simp (disch := omega) only [au]
   (first | with_reducible refine hK _ _ ?_ | refine obK (hK _ _ ?_)); clear hK K; refine nx ?_
   refine rG hN hk noc [0] [4] fun K hK => ?_; simp only [go_sem, seval, w1, e1, w3]
   try simp (disch := omega) only [au]
   (first | with_reducible refine hK _ _ ?_ | refine obK (hK _ _ ?_)); clear hK K; refine nx ?_
   refine AW.ret (mkRet [some 0] [] rfl (by simp [resOf, lk, lkh, I, str, B, U8, U64, U32, cdE] <;> omega) (by first | (simp [wkHp, wkHp1, wkEnt, lkh, cdE]; done) | simp [wkHp, wkHp1, wkEnt, lkh, I, str, cdE]))
 · rw [dLtF (by omega)] at q
   refine ⟨0, a, ha, by omega, ?_⟩
   refine acall 35 1 Tryz.func14 rfl rfl rfl (by simp) rfl rfl ?_
   intro C hN hk
   refine nx ?_; refine rG hN hk noc [0] [0, 1] fun K hK => ?_; simp only [go_sem, seval]; refine hK _ _ ?_
   clear hK K; refine nx ?_
   refine rG hN hk (onc 1 (ocq 0 q) noc) [0] [0, 1, 12] fun K hK => ?_; simp only [go_sem, seval]
   try simp (disch := omega) only [au]
   try simp only [go_sem, seval]
   refine obK (hK _ _ ?_); clear hK K; refine nx ?_; refine cT ?_; refine nx ?_; refine rG hN hk noc [0] [4] fun K hK => ?_; simp only [go_sem, seval]; refine hK _ _ ?_
   clear hK K; refine nx ?_
   refine AW.ret (mkRet [some 0] [] rfl (by simp [resOf, lk, lkh, I, str, B, U8, U64, U32, cdE] <;> omega) (by first | (simp [wkHp, wkHp1, wkEnt, lkh, cdE]; done) | simp [wkHp, wkHp1, wkEnt, lkh, I, str, cdE]))
theorem getD_len {l : List S} {b : Nat} (h : ∀ w ∈ l, w.length ≤ b) (i : Nat) : (l.getD i []).length ≤ b := by
 by_cases hi : i < l.length
 · rw [getD_of hi]; exact h _ (List.getElem_mem hi)
 · simp [List.getD, List.getElem?_eq_none (Nat.le_of_not_lt hi)]
def wordL : List S := [[103, 101, 116], [101, 114, 114, 111, 114], [119, 97, 114, 110], [97, 49], [117, 115, 101, 114, 95, 55], [120], [84, 105, 109, 101, 111, 117, 116], [50, 48, 48], [71, 69, 84], [101, 114, 114, 111], [122], [], [255], [97, 46, 98]]
theorem wordL_len (i : Nat) : (wordL.getD i []).length ≤ 19 := getD_len (by decide) i
def nameL : List S := [[108, 101, 118, 101, 108], [109, 115], [117, 115, 101, 114], [99, 111, 100, 101]]
theorem nameL_len (i : Nat) : (nameL.getD i []).length ≤ 19 := getD_len (by decide) i
def valL : List S := [[119, 97, 114, 110], [105, 110, 102, 111], [55], [45, 51], [51, 49], [], [120, 32, 121], [57, 57, 57, 57, 57, 57, 57, 57, 57, 57, 57, 57, 57, 57, 57, 57, 57, 57], [49, 48, 48, 48, 48, 48, 48, 48, 48, 48, 48, 48, 48, 48, 48, 48, 48, 48, 48], [48, 55], [45]]
theorem valL_len (i : Nat) : (valL.getD i []).length ≤ 19 := getD_len (by decide) i
theorem word95 (L : List UInt8) (hL : L.length ≤ 2 ^ 20) (a : Nat) (ha : a ≤ L.length) :
   ∃ v a' : Nat, a' ≤ L.length ∧ ACall Tryz.prog 74 [.ptr 0 2 0 0] [some (cdE L a)] (str (wordL.getD v [])) [some (cdE L a')] := by
 obtain ⟨v, a', h1, h2, q⟩ := next13 L hL a 14 ha (by omega) (by omega)
 refine ⟨v, a', h1, ?_⟩
 obtain rfl | rfl | rfl | rfl | rfl | rfl | rfl | rfl | rfl | rfl | rfl | rfl | rfl | rfl : v = 0 ∨ v = 1 ∨ v = 2 ∨ v = 3 ∨ v = 4 ∨ v = 5 ∨ v = 6 ∨ v = 7 ∨ v = 8 ∨ v = 9 ∨ v = 10 ∨ v = 11 ∨ v = 12 ∨ v = 13 := by omega
 all_goals
   refine acall 12 1 Tryz.func74 rfl rfl rfl (by simp) rfl rfl ?_
   intro C hN hk
   refine nx ?_; refine rG hN hk noc [0] [0] fun K hK => ?_; simp only [go_sem, seval]; refine hK _ _ ?_
   clear hK K; refine nx ?_
   refine rG hN hk noc [0] [0, 3] fun K hK => ?_; simp only [go_sem, seval]
   (first | with_reducible refine hK _ _ ?_ | refine obK (hK _ _ ?_)); clear hK K; refine nx ?_
   refine rG hN hk (onc 4 (ocq 0 q) noc) [0] [2] fun K hK => ?_; simp only [go_sem, seval]; refine obK (hK _ _ ?_)
   clear hK K; refine nx ?_
   refine AW.ret (mkRet [some 0] [] rfl (by simp [resOf, lk, lkh, I, str, B, U8, U64, U32, cdE, wordL] <;> omega) (by first | (simp [wkHp, wkHp1, wkEnt, lkh, cdE, wordL]; done) | simp [wkHp, wkHp1, wkEnt, lkh, I, str, cdE, wordL]))
theorem name45 (L : List UInt8) (hL : L.length ≤ 2 ^ 20) (a : Nat) (ha : a ≤ L.length) :
   ∃ v a' : Nat, a' ≤ L.length ∧ ACall Tryz.prog 28 [.ptr 0 2 0 0] [some (cdE L a)] (str (nameL.getD v [])) [some (cdE L a')] := by
 obtain ⟨v, a', h1, h2, q⟩ := next13 L hL a 4 ha (by omega) (by omega)
 refine ⟨v, a', h1, ?_⟩
 obtain rfl | rfl | rfl | rfl : v = 0 ∨ v = 1 ∨ v = 2 ∨ v = 3 := by omega
 all_goals
   refine acall 8 1 Tryz.func28 rfl rfl rfl (by simp) rfl rfl ?_
   intro C hN hk
   refine nx ?_; refine rG hN hk noc [0] [0] fun K hK => ?_; simp only [go_sem, seval]; refine hK _ _ ?_
   clear hK K; refine nx ?_
   refine rG hN hk (onc 2 (ocq 0 q) noc) [0] [2] fun K hK => ?_; simp only [go_sem, seval]; refine obK (hK _ _ ?_)
   clear hK K; refine nx ?_
   refine AW.ret (mkRet [some 0] [] rfl (by simp [resOf, lk, lkh, I, str, B, U8, U64, U32, cdE, nameL] <;> omega) (by first | (simp [wkHp, wkHp1, wkEnt, lkh, cdE, nameL]; done) | simp [wkHp, wkHp1, wkEnt, lkh, I, str, cdE, nameL]))
theorem value46 (L : List UInt8) (hL : L.length ≤ 2 ^ 20) (a : Nat) (ha : a ≤ L.length) :
   ∃ v a' : Nat, a' ≤ L.length ∧ ACall Tryz.prog 29 [.ptr 0 2 0 0] [some (cdE L a)] (str (valL.getD v [])) [some (cdE L a')] := by
 obtain ⟨v, a', h1, h2, q⟩ := next13 L hL a 11 ha (by omega) (by omega)
 refine ⟨v, a', h1, ?_⟩
 obtain rfl | rfl | rfl | rfl | rfl | rfl | rfl | rfl | rfl | rfl | rfl : v = 0 ∨ v = 1 ∨ v = 2 ∨ v = 3 ∨ v = 4 ∨ v = 5 ∨ v = 6 ∨ v = 7 ∨ v = 8 ∨ v = 9 ∨ v = 10 := by omega
 all_goals
   refine acall 12 1 Tryz.func29 rfl rfl rfl (by simp) rfl rfl ?_
   intro C hN hk
   refine nx ?_; refine rG hN hk noc [0] [0] fun K hK => ?_; simp only [go_sem, seval]; refine hK _ _ ?_
   clear hK K; refine nx ?_
   refine rG hN hk noc [0] [0, 3] fun K hK => ?_; simp only [go_sem, seval]
   (first | with_reducible refine hK _ _ ?_ | refine obK (hK _ _ ?_)); clear hK K; refine nx ?_
   refine rG hN hk (onc 4 (ocq 0 q) noc) [0] [2] fun K hK => ?_; simp only [go_sem, seval]; refine obK (hK _ _ ?_)
   clear hK K; refine nx ?_
   refine AW.ret (mkRet [some 0] [] rfl (by simp [resOf, lk, lkh, I, str, B, U8, U64, U32, cdE, valL] <;> omega) (by first | (simp [wkHp, wkHp1, wkEnt, lkh, cdE, valL]; done) | simp [wkHp, wkHp1, wkEnt, lkh, I, str, cdE, valL]))
def weL : List Int := [1, 1, 2, 5, 10, 5040]
theorem weight71 (L : List UInt8) (hL : L.length ≤ 2 ^ 20) (a : Nat) (ha : a ≤ L.length) :
   ∃ (w : Int) (a' : Nat), weightB w = true ∧ a' ≤ L.length ∧ ACall Tryz.prog 51 [.ptr 0 2 0 0] [some (cdE L a)] (I w) [some (cdE L a')] := by
 obtain ⟨v, a', h1, h2, q⟩ := next13 L hL a 6 ha (by omega) (by omega)
 refine ⟨weL.getD v 1, a', ?_, h1, ?_⟩
 · exact (by decide : ∀ i < 6, weightB (weL.getD i 1) = true) v h2
 obtain rfl | rfl | rfl | rfl | rfl | rfl : v = 0 ∨ v = 1 ∨ v = 2 ∨ v = 3 ∨ v = 4 ∨ v = 5 := by omega
 all_goals
   refine acall 8 1 Tryz.func51 rfl rfl rfl (by simp) rfl rfl ?_
   intro C hN hk
   refine nx ?_; refine rG hN hk noc [0] [0] fun K hK => ?_; simp only [go_sem, seval]; refine hK _ _ ?_
   clear hK K; refine nx ?_
   refine rG hN hk (onc 2 (ocq 0 q) noc) [0] [2] fun K hK => ?_; simp only [go_sem, seval]; refine obK (hK _ _ ?_)
   clear hK K; refine nx ?_
   refine AW.ret (mkRet [some 0] [] rfl (by simp [resOf, lk, lkh, I, str, B, U8, U64, U32, cdE, weL] <;> omega) (by first | (simp [wkHp, wkHp1, wkEnt, lkh, cdE, weL]; done) | simp [wkHp, wkHp1, wkEnt, lkh, I, str, cdE, weL]))
theorem time70 (L : List UInt8) (hL : L.length ≤ 2 ^ 20) (a : Nat) (ha : a ≤ L.length) :
   ∃ (t : Int) (a' : Nat), (0 ≤ t ∧ t ≤ 253402300799999) ∧ a' ≤ L.length ∧ ACall Tryz.prog 50 [.ptr 0 2 0 0] [some (cdE L a)] (I t) [some (cdE L a')] := by
 obtain ⟨v, a', h1, h2, q⟩ := next13 L hL a 4 ha (by omega) (by omega)
 obtain rfl | hv : v = 0 ∨ v ≠ 0 := by omega
 · obtain ⟨v2, a2, g1, g2, q2⟩ := next13 L hL a' 40 h1 (by omega) (by omega)
   have w1 := wrap64 (n := (v2 : Int) * 86400000) (by omega)
   refine ⟨(v2 : Int) * 86400000, a2, by omega, g1, ?_⟩
   refine acall 19 1 Tryz.func50 rfl rfl rfl (by simp) rfl rfl ?_
   intro C hN hk
   refine nx ?_; refine rG hN hk noc [0] [0] fun K hK => ?_; simp only [go_sem, seval]; refine hK _ _ ?_
   clear hK K; refine nx ?_
   refine rG hN hk (onc 1 (ocq 0 q) noc) [0] [0, 4] fun K hK => ?_; simp only [go_sem, seval]; refine obK (hK _ _ ?_)
   clear hK K; refine nx ?_
   refine rG hN hk noc [0] [0, 4, 5] fun K hK => ?_; simp only [go_sem, seval]
   try simp (disch := omega) only [au]
   refine hK _ _ ?_; clear hK K; refine nx ?_; refine cT ?_; refine nx ?_; refine rG hN hk (onc 1 (ocq 0 q2) noc) [0] [2] fun K hK => ?_; simp only [go_sem, seval, w1]
   try simp (disch := omega) only [au]
   refine obK (hK _ _ ?_); clear hK K; refine nx ?_
   refine AW.ret (mkRet [some 0] [] rfl (by simp [resOf, lk, lkh, I, str, B, U8, U64, U32, cdE] <;> omega) (by first | (simp [wkHp, wkHp1, wkEnt, lkh, cdE]; done) | simp [wkHp, wkHp1, wkEnt, lkh, I, str, cdE]))
 · have d0 : ((v : Int) == 0) = false := by simp; omega
   obtain rfl | hv1 : v = 1 ∨ v ≠ 1 := by omega
   · obtain ⟨v2, a2, g1, g2, q2⟩ := next13 L hL a' 3 h1 (by omega) (by omega)
     have w1 := wrap64 (n := (v2 : Int) * 86400000) (by omega)
     have w2 := wrap64 (n := 253402300799999 - (v2 : Int) * 86400000) (by omega)
     refine ⟨253402300799999 - (v2 : Int) * 86400000, a2, by omega, g1, ?_⟩
     refine acall 19 1 Tryz.func50 rfl rfl rfl (by simp) rfl rfl ?_
     intro C hN hk
     refine nx ?_; refine rG hN hk noc [0] [0] fun K hK => ?_; simp only [go_sem, seval]; refine hK _ _ ?_
     clear hK K; refine nx ?_
     refine rG hN hk (onc 1 (ocq 0 q) noc) [0] [0, 4] fun K hK => ?_; simp only [go_sem, seval]; refine obK (hK _ _ ?_)
     clear hK K; refine nx ?_
     refine rG hN hk noc [0] [0, 4, 5] fun K hK => ?_; simp only [go_sem, seval]
     try simp (disch := omega) only [au]
     refine hK _ _ ?_; clear hK K; refine nx ?_; refine cF ?_; refine nx ?_; refine rG hN hk noc [0] [0, 10] fun K hK => ?_; simp only [go_sem, seval]
     try simp (disch := omega) only [au]
     refine hK _ _ ?_; clear hK K; refine nx ?_; refine cT ?_; refine nx ?_; refine rG hN hk (onc 1 (ocq 0 q2) noc) [0] [2] fun K hK => ?_; simp only [go_sem, seval, w1, w2]
     try simp (disch := omega) only [au]
     refine obK (hK _ _ ?_); clear hK K; refine nx ?_
     refine AW.ret (mkRet [some 0] [] rfl (by simp [resOf, lk, lkh, I, str, B, U8, U64, U32, cdE] <;> omega) (by first | (simp [wkHp, wkHp1, wkEnt, lkh, cdE]; done) | simp [wkHp, wkHp1, wkEnt, lkh, I, str, cdE]))
   · obtain ⟨v2, a2, g1, g2, q2⟩ := next13 L hL a' 60 h1 (by omega) (by omega)
     have d1 : ((v : Int) == 1) = false := by simp; omega
     have w1 := wrap64 (n := 1000 + (v2 : Int)) (by omega)
     refine ⟨1000 + (v2 : Int), a2, by omega, g1, ?_⟩
     refine acall 19 1 Tryz.func50 rfl rfl rfl (by simp) rfl rfl ?_
     intro C hN hk
     refine nx ?_; refine rG hN hk noc [0] [0] fun K hK => ?_; simp only [go_sem, seval]; refine hK _ _ ?_
     clear hK K; refine nx ?_
     refine rG hN hk (onc 1 (ocq 0 q) noc) [0] [0, 4] fun K hK => ?_; simp only [go_sem, seval]; refine obK (hK _ _ ?_)
     clear hK K; refine nx ?_
     refine rG hN hk noc [0] [0, 4, 5] fun K hK => ?_; simp only [go_sem, seval, d0]
     try simp (disch := omega) only [au]
     refine hK _ _ ?_; clear hK K; refine nx ?_; refine cF ?_; refine nx ?_; refine rG hN hk noc [0] [0, 10] fun K hK => ?_; simp only [go_sem, seval, d1]
     try simp (disch := omega) only [au]
     refine hK _ _ ?_; clear hK K; refine nx ?_; refine cF ?_; refine nx ?_; refine rG hN hk (onc 1 (ocq 0 q2) noc) [0] [2] fun K hK => ?_; simp only [go_sem, seval, w1]
     try simp (disch := omega) only [au]
     refine obK (hK _ _ ?_); clear hK K; refine nx ?_
     refine AW.ret (mkRet [some 0] [] rfl (by simp [resOf, lk, lkh, I, str, B, U8, U64, U32, cdE] <;> omega) (by first | (simp [wkHp, wkHp1, wkEnt, lkh, cdE]; done) | simp [wkHp, wkHp1, wkEnt, lkh, I, str, cdE]))
def sepL : List S := [[32], [32], [44, 32], [61], []]
theorem sepL_len (i : Nat) : (sepL.getD i []).length ≤ 2 := getD_len (by decide) i
theorem text69 (L : List UInt8) (hL : L.length ≤ 2 ^ 20) (a : Nat) (ha : a ≤ L.length) :
   ACallE Tryz.prog 49 [.ptr 0 2 0 0] [some (cdE L a)] (fun x => ∃ (t : S) (a' : Nat), x = (str t, [some (cdE L a')]) ∧ t.length ≤ 100 ∧ a' ≤ L.length) := by
 obtain ⟨v, a1, h1, q1⟩ := word95 L hL a ha
 obtain ⟨n, a2, h2, h3, q2⟩ := next13 L hL a1 4 h1 (by omega) (by omega)
 have hw := wordL_len v
 generalize wordL.getD v [] = w at *
 refine acallE 24 1 Tryz.func49 rfl rfl rfl (by simp) rfl rfl ?_
 apply EX.step
 · intro xX C hN hk hqX
   refine nx ?_; refine rG hN hk noc [0] [0] fun K hK => ?_; simp only [go_sem, seval]; refine hK _ _ ?_
   clear hK K; refine nx ?_
   exact hqX
 apply EX.step
 · intro xX C hN hk hqX
   refine nx ?_; refine rG hN hk (onc 1 (ocq 0 q1) noc) [0] [0, 3] fun K hK => ?_; simp only [go_sem, seval]; refine obK (hK _ _ ?_)
   clear hK K; refine nx ?_
   exact hqX
 apply EX.step
 · intro xX C hN hk hqX
   refine nx ?_; refine rG hN hk (onc 1 (ocq 0 q2) noc) [0] [0, 3, 4] fun K hK => ?_; simp only [go_sem, seval]; refine obK (hK _ _ ?_)
   clear hK K; refine nx ?_
   exact hqX
 apply EX.step
 · intro xX C hN hk hqX
   refine nx ?_
   exact hqX
 refine lpX 1 (fun s : Nat × S × Nat => ⟨[(0, .ptr 0 2 0 0), (3, str s.2.1), (4, I s.1)], [(0, some ⟨48, 2, [[.sl 1 (bytesE L), I s.2.2]]⟩)]⟩) (fun s => s.1 ≤ 3 ∧ s.2.1.length + 21 * s.1 ≤ 100 ∧ s.2.2 ≤ L.length) (fun s => s.1) (n, w, a2) (mkWk [some 0] [] (by simp [wkEnv, lk, lkh, I, str, B, U8, U64, U32] <;> omega) (by first | (simp [wkHp, wkHp1, wkEnt, lkh]; done) | simp [wkHp, wkHp1, wkEnt, lkh, I, str])) ?_
 intro ⟨j, t, a3⟩ hI Y hY
 obtain ⟨g1, g2, g3⟩ := hI
 simp only at g1 g2 g3
 cases j with
 | zero =>
   have d0 : decide (((0 : Nat) : Int) > 0) = false := by simp
   apply EX.step
   · intro xX C hN hk hqX
     refine nx ?_; refine rG hN hk noc [0] [0, 3, 4, 10] fun K hK => ?_; simp only [go_sem, seval, d0]
     try simp (disch := omega) only [au]
     refine hK _ _ ?_; clear hK K; refine nx ?_
     exact hqX
   apply EX.step
   · intro xX C hN hk hqX
     refine nx ?_; refine cF ?_; refine nx ?_
     exact hqX
   apply EX.step
   · intro xX C hN hk hqX
     refine nx ?_; refine rG hN hk noc [0] [2] fun K hK => ?_; simp only [go_sem, seval]; refine hK _ _ ?_
     clear hK K; refine nx ?_
     exact hqX
   refine EX.ret (str t) [some (cdE L a3)] ?_ (fun C hN hk => AW.ret (mkRet [some 0] [] rfl (by simp [resOf, lk, lkh, I, str, B, U8, U64, U32, cdE] <;> omega) (by first | (simp [wkHp, wkHp1, wkEnt, lkh, cdE]; done) | simp [wkHp, wkHp1, wkEnt, lkh, I, str, cdE])))
   exact ⟨t, a3, rfl, by omega, g3⟩
 | succ j =>
   obtain ⟨v3, a4, k1, k2, q3⟩ := next13 L hL a3 5 g3 (by omega) (by omega)
   obtain ⟨v4, a5, k3, q4⟩ := word95 L hL a4 k1
   have d0 : decide (((j + 1 : Nat) : Int) > 0) = true := by simp
   have e1 : (((j + 1 : Nat) : Int) - 1) = (j : Int) := by omega
   have w1 := wrap64 (n := (j : Int)) (by omega)
   have hw4 := wordL_len v4
   have hs3 := sepL_len v3
   generalize wordL.getD v4 [] = u at *
   obtain ⟨t', ht'⟩ : ∃ t', t' = t ++ (sepL.getD v3 [] ++ u) := ⟨_, rfl⟩
   have hlen : t'.length ≤ t.length + 21 := by rw [ht']; simp only [List.length_append]; omega
   obtain rfl | rfl | rfl | rfl | rfl : v3 = 0 ∨ v3 = 1 ∨ v3 = 2 ∨ v3 = 3 ∨ v3 = 4 := by omega
   all_goals
     apply EX.step
     · intro xX C hN hk hqX
       refine nx ?_; refine rG hN hk noc [0] [0, 3, 4, 10] fun K hK => ?_; simp only [go_sem, seval, d0]
       try simp (disch := omega) only [au]
       refine hK _ _ ?_; clear hK K; refine nx ?_
       exact hqX
     apply EX.step
     · intro xX C hN hk hqX
       refine nx ?_; refine cT ?_; refine nx ?_
       exact hqX
     apply EX.step
     · intro xX C hN hk hqX
       refine nx ?_
       refine rD hN hk (onc 3 (ocq 0 q3) (onc 7 (ocq 0 q4) noc)) [0] [0, 3, 4] fun K tok htok hK => ?_
       simp only [go_sem, seval]
       try simp (disch := omega) only [au]
       refine ⟨htok _ (by decide +kernel), ?_⟩
       refine obK (hK _ _ ?_); clear hK K htok tok
       refine nx ?_
       exact hqX
     apply EX.step
     · intro xX C hN hk hqX
       refine nx ?_; refine rG hN hk noc [0] [0, 3, 4] fun K hK => ?_; simp only [go_sem, seval, e1, w1]
       try simp (disch := omega) only [au]
       refine hK _ _ ?_; clear hK K; refine nx ?_
       exact hqX
     refine eY hY ((j, t', a5)) (mkWk [some 0] [] (by simp [wkEnv, lk, lkh, I, str, B, U8, U64, U32, ht', sepL] <;> omega) (by first | (simp [wkHp, wkHp1, wkEnt, lkh, ht', sepL]; done) | simp [wkHp, wkHp1, wkEnt, lkh, I, str, ht', sepL]))
def fnL : List S := [[99, 111, 100, 101], [108, 101, 118, 101, 108], [109, 115], [117, 115, 101, 114]]
theorem fnL_ok : ∀ n ∈ fnL, nameB n := by
 intro n hn
 refine ⟨?_, ?_, ?_⟩
 · exact (by decide : ∀ n ∈ fnL, 1 ≤ n.length) n hn
 · exact (by decide : ∀ n ∈ fnL, n.length ≤ 32) n hn
 · exact (by decide : ∀ n ∈ fnL, ∀ c ∈ n, letterB c = true) n hn
theorem fnL_asc : fnL.Pairwise ltS := by decide
theorem take_s {α : Type} (l : List α) (i : Nat) (h : i < l.length) : l.take (i + 1) = l.take i ++ [l[i]] := by
 rw [List.take_add_one, List.getElem?_eq_getElem h]; rfl
/-- Fields that are drawn. -/
structure FlG (F : List Fl) : Prop where
 mem : ∀ f ∈ F, f.name ∈ fnL ∧ f.val.length ≤ 19
 asc : F.Pairwise fun a b => ltS a.name b.name
 len : F.length ≤ 4
theorem fields72 (L : List UInt8) (hL : L.length ≤ 2 ^ 20) (a : Nat) (ha : a ≤ L.length) :
   ACallE Tryz.prog 52 [.ptr 0 2 0 0] [some (cdE L a)] (fun x => ∃ (F : List Fl) (a' : Nat), x = (.osl 1 F.length 2, [some (cdE L a'), some ⟨149, 2, flE F⟩]) ∧ FlG F ∧ a' ≤ L.length) := by
 refine acallE 27 1 Tryz.func52 rfl rfl rfl (by simp) rfl rfl ?_
 apply EX.step
 · intro xX C hN hk hqX
   refine nx ?_; refine rG hN hk noc [0] [0] fun K hK => ?_; simp only [go_sem, seval]; refine hK _ _ ?_
   clear hK K; refine nx ?_
   exact hqX
 apply EX.step
 · intro xX C hN hk hqX
   refine nx ?_; refine rG hN hk noc [0] [0, 3] fun K hK => ?_; simp only [go_sem, seval]; refine hK _ _ ?_
   clear hK K; refine nx ?_
   exact hqX
 apply EX.step
 · intro xX C hN hk hqX
   refine nx ?_; refine rG hN hk noc [0] [0, 3, 4] fun K hK => ?_; simp only [go_sem, seval]
   (first | with_reducible refine hK _ _ ?_ | refine obK (hK _ _ ?_)); clear hK K; refine nx ?_
   exact hqX
 apply EX.step
 · intro xX C hN hk hqX
   refine nx ?_; refine rG hN hk noc [0] [0, 3, 4, 5] fun K hK => ?_; simp only [go_sem, seval]; refine hK _ _ ?_
   clear hK K; refine nx ?_
   exact hqX
 have e0 : strE fnL = [[.val (.string ⟨#[99, 111, 100, 101]⟩)], [.val (.string ⟨#[108, 101, 118, 101, 108]⟩)], [.val (.string ⟨#[109, 115]⟩)], [.val (.string ⟨#[117, 115, 101, 114]⟩)]] := rfl
 apply EX.step
 · intro xX C hN hk hqX
   refine nx ?_
   exact hqX
 refine lpX 3 (fun s : Nat × List Fl × Nat => ⟨[(0, .ptr 0 2 0 0), (3, .osl 1 s.2.1.length 2), (4, .osl 2 4 1), (5, I s.1)], [(0, some ⟨48, 2, [[.sl 1 (bytesE L), I s.2.2]]⟩), (1, some ⟨149, 2, flE s.2.1⟩), (2, some ⟨9, 1, strE fnL⟩)]⟩) (fun s => s.1 ≤ 4 ∧ s.2.1.length ≤ s.1 ∧ s.2.2 ≤ L.length ∧ (∀ f ∈ s.2.1, f.name ∈ fnL.take s.1 ∧ f.val.length ≤ 19) ∧ (s.2.1.Pairwise fun a b => ltS a.name b.name)) (fun s => 4 - s.1) (0, [], a) (mkWk [some 0, none, some 1] [] (by simp [wkEnv, lk, lkh, I, str, B, U8, U64, U32, e0] <;> omega) (by first | (simp [wkHp, wkHp1, wkEnt, lkh, e0]; done) | simp [wkHp, wkHp1, wkEnt, lkh, I, str, e0])) ?_
 intro ⟨i, F, a1⟩ hI Y hY
 obtain ⟨g1, g2, g3, g4, g5⟩ := hI
 simp only at g1 g2 g3 g4 g5
 by_cases hi : i < 4
 · have hx : fnL[i]? = some fnL[i] := List.getElem?_eq_getElem (show i < fnL.length from hi)
   have hx4 : fnL.length = 4 := rfl
   obtain ⟨v, a2, k1, k2, q1⟩ := next13 L hL a1 3 g3 (by omega) (by omega)
   have htk : fnL.take (i + 1) = fnL.take i ++ [fnL[i]] := take_s fnL i hi
   have hlt : ∀ n ∈ fnL.take i, ltS n fnL[i] := by
     intro n hn
     obtain ⟨j, hj, rfl⟩ := List.getElem_of_mem hn
     simp only [List.length_take] at hj
     rw [List.getElem_take]
     exact List.pairwise_iff_getElem.1 fnL_asc j i (by omega) (by omega) (by omega)
   generalize fnL[i] = nm at *
   obtain hv | hv : v = 1 ∨ v ≠ 1 := by omega
   · subst hv
     obtain ⟨v2, a3, k3, q2⟩ := value46 L hL a2 k1
     have hw := valL_len v2
     generalize valL.getD v2 [] = w at *
     have hfe : flE (F ++ [(⟨nm, w⟩ : Fl)]) = flE F ++ [[.val (.string ⟨nm.toArray⟩), .val (.string ⟨w.toArray⟩)]] := by simp [flE, flC, str]
     have hA : ∀ f ∈ F ++ [(⟨nm, w⟩ : Fl)], f.name ∈ fnL.take (i + 1) ∧ f.val.length ≤ 19 := by
       intro f hf
       rw [htk]
       rcases List.mem_append.1 hf with hf | hf
       · exact ⟨List.mem_append.2 (.inl (g4 f hf).1), (g4 f hf).2⟩
       · rw [List.mem_singleton.1 hf]; exact ⟨by simp, hw⟩
     have hB : (F ++ [(⟨nm, w⟩ : Fl)]).Pairwise fun a b => ltS a.name b.name := by
       rw [List.pairwise_append]
       refine ⟨g5, by simp, fun f hf g hg => ?_⟩
       rw [List.mem_singleton.1 hg]
       exact hlt _ (g4 f hf).1
     have hC : (F ++ [(⟨nm, w⟩ : Fl)]).length ≤ i + 1 := by simp; omega
     obtain ⟨F2, hF2⟩ : ∃ F2, F2 = F ++ [(⟨nm, w⟩ : Fl)] := ⟨_, rfl⟩
     rw [← hF2] at hA hB hC hfe
     have hlf : F2.length = F.length + 1 := by rw [hF2]; simp
     apply EX.step
     · intro xX C hN hk hqX
       refine nx ?_; refine rG hN hk noc [0] [0, 3, 4, 5, 10] fun K hK => ?_; simp only [go_sem, seval]
       try simp (disch := omega) only [au]
       (first | with_reducible refine hK _ _ ?_ | refine obK (hK _ _ ?_)); clear hK K; refine nx ?_
       exact hqX
     apply EX.step
     · intro xX C hN hk hqX
       refine nx ?_; refine cT ?_; refine nx ?_
       exact hqX
     apply EX.step
     · intro xX C hN hk hqX
       refine nx ?_; refine rG hN hk (onc 1 (ocq 0 q1) noc) [0] [0, 3, 4, 5, 15] fun K hK => ?_; simp only [go_sem, seval]
       try simp (disch := omega) only [au]
       refine obK (hK _ _ ?_); clear hK K; refine nx ?_
       exact hqX
     apply EX.step
     · intro xX C hN hk hqX
       refine nx ?_; refine cT ?_; refine nx ?_
       exact hqX
     apply EX.step
     · intro xX C hN hk hqX
       refine nx ?_
       refine rD hN hk (onc 6 (ocq 0 q2) noc) [0] [0, 3, 4, 5] fun K tok htok hK => ?_
       simp only [go_sem, seval, hx]
       refine ⟨htok _ (by decide +kernel), ?_⟩
       refine obK (hK _ _ ?_); clear hK K htok tok
       refine nx ?_
       exact hqX
     apply EX.step
     · intro xX C hN hk hqX
       refine nx ?_; refine rG hN hk noc [0] [0, 3, 4, 5] fun K hK => ?_; simp only [go_sem, seval]
       try simp (disch := omega) only [au]
       refine hK _ _ ?_; clear hK K; refine nx ?_
       exact hqX
     refine eY hY ((i + 1, F2, a3)) (mkWk [some 0, some 1, some 2] [] (by simp [wkEnv, lk, lkh, I, str, B, U8, U64, U32, hfe, hlf] <;> omega) (by first | (simp [wkHp, wkHp1, wkEnt, lkh, hfe, hlf]; done) | simp [wkHp, wkHp1, wkEnt, lkh, I, str, hfe, hlf]))
   · have d0 : ((v : Int) == 1) = false := by simp; omega
     have hA : ∀ f ∈ F, f.name ∈ fnL.take (i + 1) ∧ f.val.length ≤ 19 := by
       intro f hf
       rw [htk]
       exact ⟨List.mem_append.2 (.inl (g4 f hf).1), (g4 f hf).2⟩
     apply EX.step
     · intro xX C hN hk hqX
       refine nx ?_; refine rG hN hk noc [0] [0, 3, 4, 5, 10] fun K hK => ?_; simp only [go_sem, seval]
       try simp (disch := omega) only [au]
       (first | with_reducible refine hK _ _ ?_ | refine obK (hK _ _ ?_)); clear hK K; refine nx ?_
       exact hqX
     apply EX.step
     · intro xX C hN hk hqX
       refine nx ?_; refine cT ?_; refine nx ?_
       exact hqX
     apply EX.step
     · intro xX C hN hk hqX
       refine nx ?_; refine rG hN hk (onc 1 (ocq 0 q1) noc) [0] [0, 3, 4, 5, 15] fun K hK => ?_; simp only [go_sem, seval, d0]
       try simp (disch := omega) only [au]
       refine obK (hK _ _ ?_); clear hK K; refine nx ?_
       exact hqX
     apply EX.step
     · intro xX C hN hk hqX
       refine nx ?_; refine cF ?_; refine nx ?_
       exact hqX
     apply EX.step
     · intro xX C hN hk hqX
       refine nx ?_; refine rG hN hk noc [0] [0, 3, 4, 5] fun K hK => ?_; simp only [go_sem, seval]
       try simp (disch := omega) only [au]
       refine hK _ _ ?_; clear hK K; refine nx ?_
       exact hqX
     refine eY hY ((i + 1, F, a2)) (mkWk [some 0, some 1, some 2] [] (by simp [wkEnv, lk, lkh, I, str, B, U8, U64, U32] <;> omega) (by first | (simp [wkHp, wkHp1, wkEnt, lkh]; done) | simp [wkHp, wkHp1, wkEnt, lkh, I, str]))
 · apply EX.step
   · intro xX C hN hk hqX
     refine nx ?_; refine rG hN hk noc [0] [0, 3, 4, 5, 10] fun K hK => ?_; simp only [go_sem, seval]
     try simp (disch := omega) only [au]
     (first | with_reducible refine hK _ _ ?_ | refine obK (hK _ _ ?_)); clear hK K; refine nx ?_
     exact hqX
   apply EX.step
   · intro xX C hN hk hqX
     refine nx ?_; refine cF ?_; refine nx ?_
     exact hqX
   apply EX.step
   · intro xX C hN hk hqX
     refine nx ?_; refine rG hN hk noc [0] [2] fun K hK => ?_; simp only [go_sem, seval]; refine hK _ _ ?_
     clear hK K; refine nx ?_
     exact hqX
   refine EX.ret (.osl 1 F.length 2) [some (cdE L a1), some ⟨149, 2, flE F⟩] ?_ (fun C hN hk => AW.ret (mkRet [some 0, some 1] [] rfl (by simp [resOf, lk, lkh, I, str, B, U8, U64, U32, cdE] <;> omega) (by first | (simp [wkHp, wkHp1, wkEnt, lkh, cdE]; done) | simp [wkHp, wkHp1, wkEnt, lkh, I, str, cdE])))
   exact ⟨F, a1, rfl, ⟨fun f hf => ⟨List.mem_of_mem_take (g4 f hf).1, (g4 f hf).2⟩, g5, by omega⟩, g3⟩
structure It where
 rule : S
 ev : Ev
def itC (x : It) : List AV := str x.rule :: evC x.ev
def itE (l : List It) : List (List AV) := l.map itC
theorem itE_len (l : List It) : (itE l).length = l.length := by simp [itE]
theorem itE_getE (l : List It) (i : Nat) : (itE l)[i]? = (l[i]?).map itC := by simp [itE]
@[simp] theorem itE_id (k : Nat) (l : List It) : idLtE k (itE l) = true := by
 simp only [idLtE, itE, List.all_map, List.all_eq_true]
 intro x _
 rfl
@[simp] theorem itE_st (l : List It) : (itE l).all (fun c => c.all storable) = true := by
 simp only [itE, List.all_map, List.all_eq_true]
 intro x _
 rfl
theorem itE_drop (l : List It) (i : Nat) : (itE l).drop i = itE (l.drop i) := by simp [itE]
theorem itE_take (l : List It) (i : Nat) : (itE l).take i = itE (l.take i) := by simp [itE]
theorem itE_ren (L : List Nat) (l : List It) : renCE L (itE l) = itE l := by
 simp only [renCE, itE, List.map_map]
 apply List.map_congr_left
 intro x _
 rfl
theorem itE_renE (ρ : Nat → Nat) (l : List It) : (itE l).map (renL ρ) = itE l := renE_noid ρ (itE_id 0 l)
theorem itE_snoc (l : List It) (x : It) : itE l ++ [[.val (.string ⟨x.rule.toArray⟩), .val (.int .i64 x.ev.host), .val (.int .i64 x.ev.file), .val (.int .i64 x.ev.frm), .val (.int .i64 x.ev.to), .sl 3 (lnE x.ev.lines), .val (.int .i64 x.ev.time), .val (.int .i64 x.ev.weight), .val (.string ⟨x.ev.trace.toArray⟩), .val (.string ⟨x.ev.stream.toArray⟩), .sl 2 (flE x.ev.fields)]] = itE (l ++ [x]) := by simp [itE, itC, evC, I, str]
theorem itE_snoc' (l : List It) (x : It) : itE l ++ [itC x] = itE (l ++ [x]) := by simp [itE]
theorem itE_app (l m : List It) : itE l ++ itE m = itE (l ++ m) := by simp [itE]
@[simp] theorem itE_nil : itE [] = [] := rfl
theorem itE_set (l : List It) (i : Nat) (x : It) : (itE l).set i [.val (.string ⟨x.rule.toArray⟩), .val (.int .i64 x.ev.host), .val (.int .i64 x.ev.file), .val (.int .i64 x.ev.frm), .val (.int .i64 x.ev.to), .sl 3 (lnE x.ev.lines), .val (.int .i64 x.ev.time), .val (.int .i64 x.ev.weight), .val (.string ⟨x.ev.trace.toArray⟩), .val (.string ⟨x.ev.stream.toArray⟩), .sl 2 (flE x.ev.fields)] = itE (l.set i x) := by simp [itE, List.map_set, itC, evC, I, str]
attribute [go_sem] itE_len itE_getE itE_drop itE_take itE_ren itE_renE itE_snoc itE_snoc' itE_app itE_set itC
def jjC (x : List It) : List AV := [.sl 11 (itE x)]
def jjE (l : List (List It)) : List (List AV) := l.map jjC
theorem jjE_len (l : List (List It)) : (jjE l).length = l.length := by simp [jjE]
theorem jjE_getE (l : List (List It)) (i : Nat) : (jjE l)[i]? = (l[i]?).map jjC := by simp [jjE]
@[simp] theorem jjE_id (k : Nat) (l : List (List It)) : idLtE k (jjE l) = true := by
 simp only [idLtE, jjE, List.all_map, List.all_eq_true]
 intro x _
 rfl
@[simp] theorem jjE_st (l : List (List It)) : (jjE l).all (fun c => c.all storable) = true := by
 simp only [jjE, List.all_map, List.all_eq_true]
 intro x _
 rfl
theorem jjE_drop (l : List (List It)) (i : Nat) : (jjE l).drop i = jjE (l.drop i) := by simp [jjE]
theorem jjE_take (l : List (List It)) (i : Nat) : (jjE l).take i = jjE (l.take i) := by simp [jjE]
theorem jjE_ren (L : List Nat) (l : List (List It)) : renCE L (jjE l) = jjE l := by
 simp only [renCE, jjE, List.map_map]
 apply List.map_congr_left
 intro x _
 rfl
theorem jjE_renE (ρ : Nat → Nat) (l : List (List It)) : (jjE l).map (renL ρ) = jjE l := renE_noid ρ (jjE_id 0 l)
theorem jjE_snoc (l : List (List It)) (x : (List It)) : jjE l ++ [[.sl 11 (itE x)]] = jjE (l ++ [x]) := by simp [jjE, jjC, I, str]
theorem jjE_snoc' (l : List (List It)) (x : (List It)) : jjE l ++ [jjC x] = jjE (l ++ [x]) := by simp [jjE]
theorem jjE_app (l m : List (List It)) : jjE l ++ jjE m = jjE (l ++ m) := by simp [jjE]
@[simp] theorem jjE_nil : jjE [] = [] := rfl
theorem jjE_set (l : List (List It)) (i : Nat) (x : (List It)) : (jjE l).set i [.sl 11 (itE x)] = jjE (l.set i x) := by simp [jjE, List.map_set, jjC, I, str]
attribute [go_sem] jjE_len jjE_getE jjE_drop jjE_take jjE_ren jjE_renE jjE_snoc jjE_snoc' jjE_app jjE_set jjC
attribute [simp] itE_len jjE_len
end Go.Proofs.YtffchapiaampmaaGreatDoor
