/-
  Part 21 of the proof that logtidelaw41.PlanCombine returns true for every list of bytes and leaves its argument as it was; no condition.
-/
import Derived.Test.YtceeklfmlheofaaGreatA06
import Derived.Test.YtceeklfmlheofaaGreatA20
set_option linter.unusedSimpArgs false
set_option linter.unusedVariables false
namespace Go.Proofs.YtceeklfmlheofaaGreat
open Go.Av
attribute [local irreducible] ACall
def blockF (x : List UInt8) : List UInt8 := varint x.length ++ x
theorem putBlock (b x : List UInt8) (hb : b.length ≤ 2 ^ 40) (hx : x.length ≤ 2 ^ 40) :
   ACall Tryz.prog 81 [.osl 0 b.length 1, .sl 1 (bytesE x)] [some ⟨5, 1, bytesE b⟩] (.osl 1 (b ++ blockF x).length 1) [none, some ⟨5, 1, bytesE (b ++ blockF x)⟩] := by
 refine acall 12 1 Tryz.func81 rfl rfl rfl (by simp) rfl rfl ?_
 intro C hN hk
 have q := putVarint b x.length (by omega) hb
 have := varint_len x.length
 have e : b ++ blockF x = b ++ varint x.length ++ x := by simp [blockF]
 rw [e]
 generalize varint x.length = v at *
 refine nx ?_; refine rG hN hk noc [0] [0, 1] fun K hK => ?_; simp only [go_sem, seval]; refine hK _ _ ?_
 clear hK K; refine nx ?_
 refine rG hN hk (onc 4 (ocq 0 q) noc) [0] [4] fun K hK => ?_; simp only [go_sem, seval]
 try simp (disch := omega) only [au]
 refine obK (hK _ _ ?_); clear hK K; refine nx ?_
 refine AW.ret (mkRet [some 0, some 1] [] rfl (by simp [resOf, lk, lkh, wk, wkL, wkE, I, str, B, U8, U64, U32] <;> omega) (by first | (simp [wkHp, wkHp1, wkEnt, lkh]; done) | (simp [wkHp, wkHp1, wkEnt, lkh, idLtL, idLt, I, str]; done) | simp [wkHp, wkHp1, wkEnt, wkL, wk, wkE, lkh, I, str]))
theorem putBlockN (x : List UInt8) (hx : x.length ≤ 2 ^ 40) :
   ACall Tryz.prog 81 [.val (.slice none 0 0), .sl 1 (bytesE x)] [] (.osl 0 (blockF x).length 1) [some ⟨5, 1, bytesE (blockF x)⟩] := by
 refine acall 12 0 Tryz.func81 rfl rfl rfl (by simp) rfl rfl ?_
 intro C hN hk
 have q := putVarintN x.length (by omega)
 have := varint_len x.length
 unfold blockF
 generalize varint x.length = v at *
 refine nx ?_; refine rG hN hk noc [] [0, 1] fun K hK => ?_; simp only [go_sem, seval]; refine hK _ _ ?_
 clear hK K; refine nx ?_
 refine rG hN hk (onc 4 (pcq q) noc) [] [4] fun K hK => ?_; simp only [go_sem, seval]
 try simp (disch := omega) only [au]
 refine obK (hK _ _ ?_); clear hK K; refine nx ?_
 refine AW.ret (mkRet [some 0] [] rfl (by simp [resOf, lk, lkh, wk, wkL, wkE, I, str, B, U8, U64, U32] <;> omega) (by first | (simp [wkHp, wkHp1, wkEnt, lkh]; done) | (simp [wkHp, wkHp1, wkEnt, lkh, idLtL, idLt, I, str]; done) | simp [wkHp, wkHp1, wkEnt, wkL, wk, wkE, lkh, I, str]))
theorem column27 (v : List Int) (hl : v.length ≤ 16384) : ACall Tryz.prog 57 [.sl 1 (intE v)] [] (.osl 0 (enc24 v).length 1) [some ⟨5, 1, bytesE (enc24 v)⟩] := by
 refine acall 11 0 Tryz.func57 rfl rfl rfl (by simp) rfl rfl ?_
 intro C hN hk
 have q := encode24 v hl
 refine nx ?_; refine rG hN hk noc [] [0] fun K hK => ?_; simp only [go_sem, seval]; refine hK _ _ ?_
 clear hK K; refine nx ?_
 refine rG hN hk (onc 1 (pcq q) noc) [] [3] fun K hK => ?_; simp only [go_sem, seval]; refine obK (hK _ _ ?_)
 clear hK K; refine nx ?_
 refine rG hN hk noc [] [2] fun K hK => ?_; simp only [go_sem, seval]; refine hK _ _ ?_
 clear hK K; refine nx ?_
 refine AW.ret (mkRet [some 0] [] rfl (by simp [resOf, lk, lkh, wk, wkL, wkE, I, str, B, U8, U64, U32] <;> omega) (by first | (simp [wkHp, wkHp1, wkEnt, lkh]; done) | (simp [wkHp, wkHp1, wkEnt, lkh, idLtL, idLt, I, str]; done) | simp [wkHp, wkHp1, wkEnt, wkL, wk, wkE, lkh, I, str]))
theorem dictionary27 (d : List S) (hc : check23F d = 0) (hd : d.length ≤ 2 ^ 40) (hs : ∀ s ∈ d, s.length ≤ 2 ^ 40) : ACall Tryz.prog 82 [.sl 1 (strE d)] [] (.osl 0 (enc23F d).length 1) [some ⟨5, 1, bytesE (enc23F d)⟩] := by
 refine acall 11 0 Tryz.func82 rfl rfl rfl (by simp) rfl rfl ?_
 intro C hN hk
 have q := encode23 d hd hs
 simp only [enc23R, hc, if_true] at q
 refine nx ?_; refine rG hN hk noc [] [0] fun K hK => ?_; simp only [go_sem, seval]; refine hK _ _ ?_
 clear hK K; refine nx ?_
 refine rG hN hk (onc 1 (pcq q) noc) [] [3] fun K hK => ?_; simp only [go_sem, seval]; refine obK (hK _ _ ?_)
 clear hK K; refine nx ?_
 refine rG hN hk noc [] [2] fun K hK => ?_; simp only [go_sem, seval]; refine hK _ _ ?_
 clear hK K; refine nx ?_
 refine AW.ret (mkRet [some 0] [] rfl (by simp [resOf, lk, lkh, wk, wkL, wkE, I, str, B, U8, U64, U32] <;> omega) (by first | (simp [wkHp, wkHp1, wkEnt, lkh]; done) | (simp [wkHp, wkHp1, wkEnt, lkh, idLtL, idLt, I, str]; done) | simp [wkHp, wkHp1, wkEnt, wkL, wk, wkE, lkh, I, str]))
theorem postings27 (l : List Int) (hp : Post l) : ACall Tryz.prog 84 [.sl 1 (intE l)] [] (.osl 0 (enc25 l).length 1) [some ⟨5, 1, bytesE (enc25 l)⟩] := by
 refine acall 11 0 Tryz.func84 rfl rfl rfl (by simp) rfl rfl ?_
 intro C hN hk
 have q := encode25 l hp
 refine nx ?_; refine rG hN hk noc [] [0] fun K hK => ?_; simp only [go_sem, seval]; refine hK _ _ ?_
 clear hK K; refine nx ?_
 refine rG hN hk (onc 1 (pcq q) noc) [] [3] fun K hK => ?_; simp only [go_sem, seval]; refine obK (hK _ _ ?_)
 clear hK K; refine nx ?_
 refine rG hN hk noc [] [2] fun K hK => ?_; simp only [go_sem, seval]; refine hK _ _ ?_
 clear hK K; refine nx ?_
 refine AW.ret (mkRet [some 0] [] rfl (by simp [resOf, lk, lkh, wk, wkL, wkE, I, str, B, U8, U64, U32] <;> omega) (by first | (simp [wkHp, wkHp1, wkEnt, lkh]; done) | (simp [wkHp, wkHp1, wkEnt, lkh, idLtL, idLt, I, str]; done) | simp [wkHp, wkHp1, wkEnt, wkL, wk, wkE, lkh, I, str]))
def beTo (v : Nat) : Nat → List UInt8
 | 0 => []
 | k + 1 => UInt8.ofNat (v / 2 ^ (8 * k) % 256) :: beTo v k
theorem beTo_len (v : Nat) : ∀ k, (beTo v k).length = k
 | 0 => rfl
 | k + 1 => by simp [beTo, beTo_len v k]
theorem fdivN' (a k : Nat) : (a : Int).fdiv (2 ^ k) = ((a / 2 ^ k : Nat) : Int) := by
 rw [Int.fdiv_eq_ediv_of_nonneg _ (Int.pow_nonneg (by decide))]
 push_cast
 rfl
theorem put27 (b : List UInt8) (v w : Nat) (hb : b.length ≤ 2 ^ 40) (hw : w ≤ 8) :
   ACall Tryz.prog 30 [.osl 0 b.length 1, U64 v, I w] [some ⟨5, 1, bytesE b⟩] (.osl 1 (b ++ beTo v w).length 1) [none, some ⟨5, 1, bytesE (b ++ beTo v w)⟩] := by
 refine acall 23 1 Tryz.func30 rfl rfl rfl (by simp) rfl rfl ?_
 intro C hN hk
 refine nx ?_; refine rG hN hk noc [0] [0, 1, 2] fun K hK => ?_; simp only [go_sem, seval]; refine hK _ _ ?_
 clear hK K; refine nx ?_
 refine rG hN hk noc [0] [0, 1, 7] fun K hK => ?_; simp only [go_sem, seval]
 try simp (disch := omega) only [au]
 refine hK _ _ ?_; clear hK K; refine nx ?_
 refine lpF hk 2 (fun z : Nat × List UInt8 => ⟨[(0, .osl 1 z.2.length 1), (1, U64 v), (7, I ((z.1 : Int) - 1))], [(0, none), (1, some ⟨5, 1, bytesE z.2⟩)]⟩) (fun z => z.1 ≤ w ∧ z.2.length + z.1 = b.length + w ∧ z.2 ++ beTo v z.1 = b ++ beTo v w) (fun z => z.1) (w, b) (mkWk [some 0, some 0] [] (by simp [wkEnv, wk, wkL, wkE, lk, I, str, B, U8, U64, U32] <;> omega) (by first | (simp [wkHp, wkHp1, wkEnt, lkh]; done) | (simp [wkHp, wkHp1, wkEnt, lkh, idLtL, idLt, I, str]; done) | simp [wkHp, wkHp1, wkEnt, wkL, wk, wkE, lkh, I, str])) ?_
 intro ⟨m, d⟩ ⟨h1, h2, h3⟩
 simp only at h1 h2 h3
 cases m with
 | zero =>
   have e : d = b ++ beTo v w := by simpa [beTo] using h3
   refine nx ?_; refine rG hN hk noc [0] [0, 1, 7, 11] fun K hK => ?_; simp only [go_sem, seval]
   try simp (disch := omega) only [au]
   refine hK _ _ ?_; clear hK K; refine nx ?_; refine cF ?_; refine nx ?_; refine rG hN hk noc [0] [6] fun K hK => ?_; simp only [go_sem, seval]; refine hK _ _ ?_
   clear hK K; refine nx ?_
   refine AW.ret (mkRet [some 0, some 1] [] rfl (by simp [resOf, lk, lkh, wk, wkL, wkE, I, str, B, U8, U64, U32, e] <;> omega) (by first | (simp [wkHp, wkHp1, wkEnt, lkh, e]; done) | (simp [wkHp, wkHp1, wkEnt, lkh, idLtL, idLt, I, str, e]; done) | simp [wkHp, wkHp1, wkEnt, wkL, wk, wkE, lkh, I, str, e]))
 | succ k =>
   have e1 : ((((k + 1 : Nat) : Int) - 1)) = k := by omega
   rw [e1]
   have e2 : ((8 * (k : Int))).toNat = 8 * k := by omega
   have e3 : (v : Int).fdiv (2 ^ min (8 * k) 64) = ((v / 2 ^ (8 * k) : Nat) : Int) := by
     rw [Nat.min_eq_left (by omega)]; exact fdivN' v (8 * k)
   have e4 : IntKind.u8.wrap ((v / 2 ^ (8 * k) : Nat) : Int) = ((UInt8.ofNat (v / 2 ^ (8 * k) % 256)).toNat : Int) := by
     rw [wrap8]; simp
   have h4 : (d ++ [UInt8.ofNat (v / 2 ^ (8 * k) % 256)]) ++ beTo v k = b ++ beTo v w := by simpa [beTo] using h3
   refine nx ?_; refine rG hN hk noc [0] [0, 1, 7, 11] fun K hK => ?_; simp only [go_sem, seval]
   try simp (disch := omega) only [au]
   refine hK _ _ ?_; clear hK K; refine nx ?_; refine cT ?_; refine nx ?_; refine rG hN hk noc [0] [0, 1, 7] fun K hK => ?_; simp only [go_sem, seval]
   try simp (disch := omega) only [au, e2, e3, e4]
   (first | with_reducible refine hK _ _ ?_ | refine obK (hK _ _ ?_)); clear hK K; refine nx ?_
   refine rG hN hk noc [0] [0, 1, 7] fun K hK => ?_; simp only [go_sem, seval]
   try simp (disch := omega) only [au]
   refine hK _ _ ?_; clear hK K; refine nx ?_
   refine ⟨(k, d ++ [UInt8.ofNat (v / 2 ^ (8 * k) % 256)]), (by first | assumption | omega | (simp; done) | ((repeat' apply And.intro) <;> first | assumption | omega | (simp; done) | (simp; omega))), (by first | omega | (simp; omega)), ⟨[some 0, some 1], [], ⟨by simp [srcIds], by simp [srcIds], by simp⟩, by simp, by simp [wkEnv, wk, wkL, wkE, lk, I, str, B, U8, U64, U32] <;> omega, by first | (simp [wkHp, wkHp1, wkEnt, lkh]; done) | (simp [wkHp, wkHp1, wkEnt, lkh, idLtL, idLt, I, str]; done) | simp [wkHp, wkHp1, wkEnt, wkL, wk, wkE, lkh, I, str]⟩⟩
def getTo (l : List UInt8) : Nat := l.foldl (fun v b => v * 256 + b.toNat) 0
theorem foldl_lt (l : List UInt8) : ∀ v, l.foldl (fun v b => v * 256 + b.toNat) v < (v + 1) * 256 ^ l.length := by
 induction l with
 | nil => intro v; simp
 | cons b r ih =>
   intro v
   have := ih (v * 256 + b.toNat)
   have hb := b.toNat_lt
   simp only [List.foldl_cons, List.length_cons, Nat.pow_succ]
   refine Nat.lt_of_lt_of_le this ?_
   rw [Nat.mul_comm (256 ^ r.length) 256, ← Nat.mul_assoc]
   exact Nat.mul_le_mul_right _ (by omega)
theorem getTo_snoc (l : List UInt8) (b : UInt8) : getTo (l ++ [b]) = getTo l * 256 + b.toNat := by simp [getTo]
theorem getTo_lt (l : List UInt8) : getTo l < 256 ^ l.length := by simpa [getTo] using foldl_lt l 0
theorem orU64 (a b : Nat) (ha : a < 2 ^ 56) (hb : b < 256) : bitsOf .or .u64 ((a : Int) * 256) b = ((a * 256 + b : Nat) : Int) := by
 have e1 : (BitVec.ofInt 64 ((a : Int) * 256)).toNat = a * 256 := by
   rw [BitVec.toNat_ofInt]; omega
 have e2 : (BitVec.ofInt 64 (b : Int)).toNat = b := by
   rw [BitVec.toNat_ofInt]; omega
 have e3 : a * 256 ||| b = a * 256 + b := by
   have := Nat.shiftLeft_add_eq_or_of_lt (show b < 2 ^ 8 by omega) a
   rw [Nat.shiftLeft_eq] at this
   exact this.symm
 show IntKind.u64.wrap ((BitVec.ofInt 64 ((a : Int) * 256) ||| BitVec.ofInt 64 (b : Int)).toNat : Int) = _
 rw [BitVec.toNat_or, e1, e2, e3]
 exact wrapU64 (by omega)
theorem get27 (l : List UInt8) (hl : l.length ≤ 8) : ACall Tryz.prog 34 [.sl 1 (bytesE l)] [] (U64 (getTo l)) [] := by
 refine acall 20 0 Tryz.func34 rfl rfl rfl (by simp) rfl rfl ?_
 intro C hN hk
 refine nx ?_; refine rG hN hk noc [] [0] fun K hK => ?_; simp only [go_sem, seval]; refine hK _ _ ?_
 clear hK K; refine nx ?_
 refine rG hN hk noc [] [0, 3] fun K hK => ?_; simp only [go_sem, seval]; refine hK _ _ ?_
 clear hK K; refine nx ?_
 refine rG hN hk noc [] [0, 3, 4] fun K hK => ?_; simp only [go_sem, seval]; refine hK _ _ ?_
 clear hK K; refine nx ?_
 refine lpF hk 0 (fun i : Nat => ⟨[(0, .sl 1 (bytesE l)), (3, U64 (getTo (l.take i))), (4, I i)], []⟩) (fun i => i ≤ l.length) (fun i => l.length - i) 0 (mkWk [] [] (by simp [wkEnv, wk, wkL, wkE, lk, I, str, B, U8, U64, U32, getTo] <;> omega) (by first | (simp [wkHp, wkHp1, wkEnt, lkh, getTo]; done) | (simp [wkHp, wkHp1, wkEnt, lkh, idLtL, idLt, I, str, getTo]; done) | simp [wkHp, wkHp1, wkEnt, wkL, wk, wkE, lkh, I, str, getTo])) ?_
 intro i h1
 by_cases hi : i < l.length
 · have hx := List.getElem?_eq_getElem hi
   have h2 := getTo_lt (l.take i)
   have h3 : 256 ^ (l.take i).length ≤ 256 ^ 7 := Nat.pow_le_pow_right (by omega) (by simp; omega)
   have h4 : getTo (l.take (i + 1)) = getTo (l.take i) * 256 + l[i].toNat := by rw [← getTo_snoc]; simp [List.take_append_getElem]
   have h5 := orU64 (getTo (l.take i)) l[i].toNat (by omega) l[i].toNat_lt
   have h6 := l[i].toNat_lt
   generalize getTo (l.take i) = v at *
   generalize l[i] = b at *
   have e1 : (2 : Int) ^ min 8 64 = 256 := by decide
   refine nx ?_; refine rG hN hk noc [] [0, 3, 4, 8] fun K hK => ?_; simp only [go_sem, seval]
   try simp (disch := omega) only [au]
   (first | with_reducible refine hK _ _ ?_ | refine obK (hK _ _ ?_)); clear hK K; refine nx ?_
   refine cT ?_; refine nx ?_; refine rG hN hk noc [] [0, 3, 4] fun K hK => ?_; simp only [go_sem, seval, hx]
   try simp (disch := omega) only [au, e1, h5]
   (first | with_reducible refine hK _ _ ?_ | refine obK (hK _ _ ?_)); clear hK K; refine nx ?_
   refine rG hN hk noc [] [0, 3, 4] fun K hK => ?_; simp only [go_sem, seval]
   try simp (disch := omega) only [au]
   refine hK _ _ ?_; clear hK K; refine nx ?_
   refine ⟨i + 1, (by first | assumption | omega | (simp; done) | ((repeat' apply And.intro) <;> first | assumption | omega | (simp; done) | (simp; omega))), (by first | omega | (simp; omega)), ⟨[], [], ⟨by simp [srcIds], by simp [srcIds], by simp⟩, by simp, by simp [wkEnv, wk, wkL, wkE, lk, I, str, B, U8, U64, U32, h4] <;> omega, by first | (simp [wkHp, wkHp1, wkEnt, lkh, h4]; done) | (simp [wkHp, wkHp1, wkEnt, lkh, idLtL, idLt, I, str, h4]; done) | simp [wkHp, wkHp1, wkEnt, wkL, wk, wkE, lkh, I, str, h4]⟩⟩
 · have : i = l.length := by omega
   subst this
   simp only [List.take_length]
   refine nx ?_; refine rG hN hk noc [] [0, 3, 4, 8] fun K hK => ?_; simp only [go_sem, seval]
   try simp (disch := omega) only [au]
   (first | with_reducible refine hK _ _ ?_ | refine obK (hK _ _ ?_)); clear hK K; refine nx ?_
   refine cF ?_; refine nx ?_; refine rG hN hk noc [] [2] fun K hK => ?_; simp only [go_sem, seval]; refine hK _ _ ?_
   clear hK K; refine nx ?_
   refine AW.ret (mkRet [] [] rfl (by simp [resOf, lk, lkh, wk, wkL, wkE, I, str, B, U8, U64, U32] <;> omega) (by first | (simp [wkHp, wkHp1, wkEnt, lkh]; done) | (simp [wkHp, wkHp1, wkEnt, lkh, idLtL, idLt, I, str]; done) | simp [wkHp, wkHp1, wkEnt, wkL, wk, wkE, lkh, I, str]))
theorem crcE (l : List UInt8) (hl : l.length ≤ 2 ^ 40) : ACallE Tryz.prog 32 [.sl 1 (bytesE l)] [] (fun x => ∃ v : Int, x = (U32 v, []) ∧ 0 ≤ v ∧ v < 2 ^ 32) := by
 refine acallE 33 0 Tryz.func32 rfl rfl rfl (by simp) rfl rfl ?_
 apply EX.step
 · intro xX C hN hk hqX
   refine nx ?_; refine rG hN hk noc [] [0] fun K hK => ?_; simp only [go_sem, seval]; refine hK _ _ ?_
   clear hK K; refine nx ?_
   exact hqX
 apply EX.step
 · intro xX C hN hk hqX
   refine nx ?_; refine rG hN hk noc [] [0, 3] fun K hK => ?_; simp only [go_sem, seval]; refine hK _ _ ?_
   clear hK K; refine nx ?_
   exact hqX
 apply EX.step
 · intro xX C hN hk hqX
   refine nx ?_; refine rG hN hk noc [] [0, 3, 4] fun K hK => ?_; simp only [go_sem, seval]; refine hK _ _ ?_
   clear hK K; refine nx ?_
   exact hqX
 apply EX.step
 · intro xX C hN hk hqX
   refine nx ?_
   exact hqX
 refine lpX 0 (fun z : Nat × Int => ⟨[(0, .sl 1 (bytesE l)), (3, U32 z.2), (4, I z.1)], []⟩) (fun z => z.1 ≤ l.length) (fun z => l.length - z.1) (0, 4294967295) (mkWk [] [] (by simp [wkEnv, wk, wkL, wkE, lk, I, str, B, U8, U64, U32] <;> omega) (by first | (simp [wkHp, wkHp1, wkEnt, lkh]; done) | (simp [wkHp, wkHp1, wkEnt, lkh, idLtL, idLt, I, str]; done) | simp [wkHp, wkHp1, wkEnt, wkL, wk, wkE, lkh, I, str])) ?_
 intro ⟨i, c⟩ h1 Y hY
 simp only at h1
 by_cases hi : i < l.length
 · have hx := List.getElem?_eq_getElem hi
   apply EX.step
   · intro xX C hN hk hqX
     refine nx ?_; refine rG hN hk noc [] [0, 3, 4, 9] fun K hK => ?_; simp only [go_sem, seval]
     try simp (disch := omega) only [au]
     (first | with_reducible refine hK _ _ ?_ | refine obK (hK _ _ ?_)); clear hK K; refine nx ?_
     exact hqX
   apply EX.step
   · intro xX C hN hk hqX
     refine cT ?_; refine nx ?_
     exact hqX
   apply EX.step
   · intro xX C hN hk hqX
     refine nx ?_; refine rG hN hk noc [] [0, 3, 4] fun K hK => ?_; simp only [go_sem, seval, hx]
     try simp (disch := omega) only [au]
     (first | with_reducible refine hK _ _ ?_ | refine obK (hK _ _ ?_)); clear hK K; refine nx ?_
     exact hqX
   obtain ⟨c2, hc2⟩ : ∃ c2, bitsOf BinOp.xor IntKind.u32 c (IntKind.u32.wrap l[i].toNat) = c2 := ⟨_, rfl⟩
   rw [hc2]
   apply EX.step
   · intro xX C hN hk hqX
     refine nx ?_; refine rG hN hk noc [] [0, 3, 4, 5] fun K hK => ?_; simp only [go_sem, seval]; refine hK _ _ ?_
     clear hK K; refine nx ?_
     exact hqX
   apply EX.step
   · intro xX C hN hk hqX
     refine nx ?_
     exact hqX
   refine lpX 0 (fun z : Nat × Int => ⟨[(0, .sl 1 (bytesE l)), (3, U32 z.2), (4, I i), (5, I z.1)], []⟩) (fun z => z.1 ≤ 8) (fun z => 8 - z.1) (0, c2) (mkWk [] [] (by simp [wkEnv, wk, wkL, wkE, lk, I, str, B, U8, U64, U32] <;> omega) (by first | (simp [wkHp, wkHp1, wkEnt, lkh]; done) | (simp [wkHp, wkHp1, wkEnt, lkh, idLtL, idLt, I, str]; done) | simp [wkHp, wkHp1, wkEnt, wkL, wk, wkE, lkh, I, str])) ?_
   intro ⟨j, c3⟩ h2 Y2 hY2
   simp only at h2
   by_cases hj : j < 8
   · rcases dqB (bitsOf BinOp.and IntKind.u32 c3 1 == 1) with e | e
     · apply EX.step
       · intro xX C hN hk hqX
         refine nx ?_; refine rG hN hk noc [] [0, 3, 4, 5, 20] fun K hK => ?_; simp only [go_sem, seval, e]
         try simp (disch := omega) only [au]
         refine hK _ _ ?_; clear hK K; refine nx ?_
         exact hqX
       apply EX.step
       · intro xX C hN hk hqX
         refine cT ?_; refine nx ?_
         exact hqX
       apply EX.step
       · intro xX C hN hk hqX
         refine nx ?_; refine rG hN hk noc [] [0, 3, 4, 5, 25] fun K hK => ?_; simp only [go_sem, seval, e]
         try simp (disch := omega) only [au]
         refine hK _ _ ?_; clear hK K; refine nx ?_
         exact hqX
       apply EX.step
       · intro xX C hN hk hqX
         refine cT ?_; refine nx ?_
         exact hqX
       apply EX.step
       · intro xX C hN hk hqX
         refine nx ?_; refine rG hN hk noc [] [0, 3, 4, 5] fun K hK => ?_; simp only [go_sem, seval, e]
         try simp (disch := omega) only [au]
         (first | with_reducible refine hK _ _ ?_ | refine obK (hK _ _ ?_)); clear hK K; refine nx ?_
         exact hqX
       apply EX.step
       · intro xX C hN hk hqX
         refine nx ?_; refine rG hN hk noc [] [0, 3, 4, 5] fun K hK => ?_; simp only [go_sem, seval, e]
         try simp (disch := omega) only [au]
         refine hK _ _ ?_; clear hK K; refine nx ?_
         exact hqX
       obtain ⟨c4, hc4⟩ : ∃ c4, bitsOf BinOp.xor IntKind.u32 (c3.fdiv (2 ^ min 1 IntKind.u32.bits)) 3988292384 = c4 := ⟨_, rfl⟩
       try rw [hc4]
       refine hY2 (j + 1, c4) (by simp; omega) (by simp; omega) _ _ ⟨[], [], ⟨by simp [srcIds], by simp [srcIds], by simp⟩, by simp, by simp [wkEnv, wk, lk, I, U32]; exact hc4, by simp [wkHp]⟩
     · apply EX.step
       · intro xX C hN hk hqX
         refine nx ?_; refine rG hN hk noc [] [0, 3, 4, 5, 20] fun K hK => ?_; simp only [go_sem, seval, e]
         try simp (disch := omega) only [au]
         refine hK _ _ ?_; clear hK K; refine nx ?_
         exact hqX
       apply EX.step
       · intro xX C hN hk hqX
         refine cT ?_; refine nx ?_
         exact hqX
       apply EX.step
       · intro xX C hN hk hqX
         refine nx ?_; refine rG hN hk noc [] [0, 3, 4, 5, 25] fun K hK => ?_; simp only [go_sem, seval, e]
         try simp (disch := omega) only [au]
         refine hK _ _ ?_; clear hK K; refine nx ?_
         exact hqX
       apply EX.step
       · intro xX C hN hk hqX
         refine cF ?_; refine nx ?_
         exact hqX
       apply EX.step
       · intro xX C hN hk hqX
         refine nx ?_; refine rG hN hk noc [] [0, 3, 4, 5] fun K hK => ?_; simp only [go_sem, seval, e]
         try simp (disch := omega) only [au]
         (first | with_reducible refine hK _ _ ?_ | refine obK (hK _ _ ?_)); clear hK K; refine nx ?_
         exact hqX
       apply EX.step
       · intro xX C hN hk hqX
         refine nx ?_; refine rG hN hk noc [] [0, 3, 4, 5] fun K hK => ?_; simp only [go_sem, seval, e]
         try simp (disch := omega) only [au]
         refine hK _ _ ?_; clear hK K; refine nx ?_
         exact hqX
       refine hY2 (j + 1, c3.fdiv (2 ^ 1)) (by simp; omega) (by simp; omega) _ _ ⟨[], [], ⟨by simp [srcIds], by simp [srcIds], by simp⟩, by simp, by simp [wkEnv, wk, lk, I, U32]; try rfl, by simp [wkHp]⟩
   · apply EX.step
     · intro xX C hN hk hqX
       refine nx ?_; refine rG hN hk noc [] [0, 3, 4, 5, 20] fun K hK => ?_; simp only [go_sem, seval]
       try simp (disch := omega) only [au]
       refine hK _ _ ?_; clear hK K; refine nx ?_
       exact hqX
     apply EX.step
     · intro xX C hN hk hqX
       refine cF ?_; refine nx ?_
       exact hqX
     apply EX.step
     · intro xX C hN hk hqX
       refine nx ?_; refine rG hN hk noc [] [0, 3, 4] fun K hK => ?_; simp only [go_sem, seval]
       try simp (disch := omega) only [au]
       refine hK _ _ ?_; clear hK K; refine nx ?_
       exact hqX
     refine hY (i + 1, c3) (by first | assumption | omega | (simp; done) | ((repeat' apply And.intro) <;> first | assumption | omega | (simp; done) | (simp; omega))) (by first | omega | (simp; omega)) _ _ ⟨[], [], ⟨by simp [srcIds], by simp [srcIds], by simp⟩, by simp, by simp [wkEnv, wk, wkL, wkE, lk, I, str, B, U8, U64, U32] <;> omega, by first | (simp [wkHp, wkHp1, wkEnt, lkh]; done) | (simp [wkHp, wkHp1, wkEnt, lkh, idLtL, idLt, I, str]; done) | simp [wkHp, wkHp1, wkEnt, wkL, wk, wkE, lkh, I, str]⟩
 · apply EX.step
   · intro xX C hN hk hqX
     refine nx ?_; refine rG hN hk noc [] [0, 3, 4, 9] fun K hK => ?_; simp only [go_sem, seval]
     try simp (disch := omega) only [au]
     (first | with_reducible refine hK _ _ ?_ | refine obK (hK _ _ ?_)); clear hK K; refine nx ?_
     exact hqX
   apply EX.step
   · intro xX C hN hk hqX
     refine cF ?_; refine nx ?_
     exact hqX
   apply EX.step
   · intro xX C hN hk hqX
     refine nx ?_; refine rG hN hk noc [] [2] fun K hK => ?_; simp only [go_sem, seval]
     (first | with_reducible refine hK _ _ ?_ | refine obK (hK _ _ ?_)); clear hK K; refine nx ?_
     exact hqX
   refine EX.ret (U32 (bitsOf BinOp.xor IntKind.u32 (if IntKind.u32.signed = true then -1 else IntKind.u32.max) c)) [] ?_ (fun C hN hk => AW.ret (mkRet [] [] rfl (by simp [resOf, lk, lkh, wk, wkL, wkE, I, str, B, U8, U64, U32] <;> omega) (by first | (simp [wkHp, wkHp1, wkEnt, lkh]; done) | (simp [wkHp, wkHp1, wkEnt, lkh, idLtL, idLt, I, str]; done) | simp [wkHp, wkHp1, wkEnt, wkL, wk, wkE, lkh, I, str])))
   exact ⟨_, rfl, (u32rng _).1, (u32rng _).2⟩
theorem crcX (l : List UInt8) (hl : l.length ≤ 2 ^ 40) : ∃ v : Nat, v < 2 ^ 32 ∧ ACall Tryz.prog 32 [.sl 1 (bytesE l)] [] (U32 v) [] := by
 obtain ⟨x, ⟨v, rfl, h1, h2⟩, h⟩ := crcE l hl
 obtain ⟨n, rfl⟩ := Int.eq_ofNat_of_zero_le h1
 exact ⟨n, by omega, h⟩
noncomputable def crcF (l : List UInt8) : Nat := if h : l.length ≤ 2 ^ 40 then (crcX l h).choose else 0
theorem crc27 (l : List UInt8) (hl : l.length ≤ 2 ^ 40) : ACall Tryz.prog 32 [.sl 1 (bytesE l)] [] (U32 (crcF l)) [] := by
 have := (crcX l hl).choose_spec.2
 simpa [crcF, hl] using this
theorem crcF_lt (l : List UInt8) : crcF l < 2 ^ 32 := by
 unfold crcF
 split
 · next h => exact (crcX l h).choose_spec.1
 · decide
def txTo (ls : List Ln) : Nat → S
 | 0 => []
 | i + 1 => txTo ls i ++ (if 0 < i then [10] else []) ++ (match ls[i]? with | some x => x.text | none => [])
def textF (e : Ev) : S := txTo e.lines e.lines.length
theorem txTo_len (ls : List Ln) (h : ∀ x ∈ ls, x.text.length ≤ 2000) : ∀ i, (txTo ls i).length ≤ i * 2001
 | 0 => by simp [txTo]
 | i + 1 => by
   have := txTo_len ls h i
   simp only [txTo, List.length_append]
   have h2 : (if 0 < i then [10] else [] : S).length ≤ 1 := by split <;> simp
   have h3 : (match ls[i]? with | some x => x.text | none => [] : S).length ≤ 2000 := by
     split
     · next x hx => exact h x (List.mem_of_getElem? hx)
     · simp
   omega
theorem text12 (e : Ev) (hn : e.lines.length ≤ 40) (ht : ∀ x ∈ e.lines, x.text.length ≤ 2000) : ACall Tryz.prog 78 [.agg (evC e)] [] (str (textF e)) [] := by
 refine acall 25 0 Tryz.func78 rfl rfl rfl (by simp) rfl rfl ?_
 intro C hN hk
 refine nx ?_; refine rG hN hk noc [] [1] fun K hK => ?_; simp only [go_sem, seval]; refine hK _ _ ?_
 clear hK K; refine nx ?_
 refine rG hN hk noc [] [1, 3] fun K hK => ?_; simp only [go_sem, seval]; refine hK _ _ ?_
 clear hK K; refine nx ?_
 refine rG hN hk noc [] [1, 3, 4] fun K hK => ?_; simp only [go_sem, seval]; refine hK _ _ ?_
 clear hK K; refine nx ?_
 refine lpF hk 1 (fun i : Nat => ⟨[(1, .ptr 0 10 0 0), (3, str (txTo e.lines i)), (4, I i)], [(0, some ⟨48, 10, [evC e]⟩)]⟩) (fun i => i ≤ e.lines.length) (fun i => e.lines.length - i) 0 (mkWk [some 0] [] (by simp [wkEnv, wk, wkL, wkE, lk, I, str, B, U8, U64, U32, evC, txTo] <;> omega) (by first | (simp [wkHp, wkHp1, wkEnt, lkh, evC, txTo]; done) | (simp [wkHp, wkHp1, wkEnt, lkh, idLtL, idLt, I, str, evC, txTo]; done) | simp [wkHp, wkHp1, wkEnt, wkL, wk, wkE, lkh, I, str, evC, txTo])) ?_
 intro i h1
 have hl := txTo_len e.lines ht i
 by_cases hi : i < e.lines.length
 · have hx := List.getElem?_eq_getElem hi
   have hs : txTo e.lines (i + 1) = txTo e.lines i ++ (if 0 < i then [10] else []) ++ e.lines[i].text := by rw [txTo, hx]
   have hy := ht _ (List.getElem_mem hi)
   generalize txTo e.lines i = t at *
   generalize e.lines[i] = x at *
   by_cases h0 : 0 < i
   · rw [if_pos h0] at hs
     refine nx ?_; refine rG hN hk noc [] [1, 3, 4, 9] fun K hK => ?_; simp only [go_sem, seval, hx]
     try simp (disch := omega) only [au]
     (first | with_reducible refine hK _ _ ?_ | refine obK (hK _ _ ?_)); clear hK K; refine nx ?_
     refine cT ?_; refine nx ?_; refine rG hN hk noc [] [1, 3, 4, 13] fun K hK => ?_; simp only [go_sem, seval, hx]
     try simp (disch := omega) only [au]
     refine hK _ _ ?_; clear hK K; refine nx ?_; refine cT ?_; refine nx ?_; refine rG hN hk noc [] [1, 3, 4] fun K hK => ?_; simp only [go_sem, seval, hx]
     try simp (disch := omega) only [au]
     (first | with_reducible refine hK _ _ ?_ | refine obK (hK _ _ ?_)); clear hK K; refine nx ?_
     refine rG hN hk noc [] [1, 3, 4] fun K hK => ?_; simp only [go_sem, seval, hx]
     try simp (disch := omega) only [au]
     (first | with_reducible refine hK _ _ ?_ | refine obK (hK _ _ ?_)); clear hK K; refine nx ?_
     refine rG hN hk noc [] [1, 3, 4] fun K hK => ?_; simp only [go_sem, seval, hx]
     try simp (disch := omega) only [au]
     refine hK _ _ ?_; clear hK K; refine nx ?_
     refine ⟨i + 1, (by first | assumption | omega | (simp; done) | ((repeat' apply And.intro) <;> first | assumption | omega | (simp; done) | (simp; omega))), (by first | omega | (simp; omega)), ⟨[some 0], [], ⟨by simp [srcIds], by simp [srcIds], by simp⟩, by simp, by simp [wkEnv, wk, wkL, wkE, lk, I, str, B, U8, U64, U32, hs, evC] <;> omega, by first | (simp [wkHp, wkHp1, wkEnt, lkh, hs, evC]; done) | (simp [wkHp, wkHp1, wkEnt, lkh, idLtL, idLt, I, str, hs, evC]; done) | simp [wkHp, wkHp1, wkEnt, wkL, wk, wkE, lkh, I, str, hs, evC]⟩⟩
   · rw [if_neg h0] at hs
     refine nx ?_; refine rG hN hk noc [] [1, 3, 4, 9] fun K hK => ?_; simp only [go_sem, seval, hx]
     try simp (disch := omega) only [au]
     (first | with_reducible refine hK _ _ ?_ | refine obK (hK _ _ ?_)); clear hK K; refine nx ?_
     refine cT ?_; refine nx ?_; refine rG hN hk noc [] [1, 3, 4, 13] fun K hK => ?_; simp only [go_sem, seval, hx]
     try simp (disch := omega) only [au]
     refine hK _ _ ?_; clear hK K; refine nx ?_; refine cF ?_; refine nx ?_; refine rG hN hk noc [] [1, 3, 4] fun K hK => ?_; simp only [go_sem, seval, hx]
     try simp (disch := omega) only [au]
     (first | with_reducible refine hK _ _ ?_ | refine obK (hK _ _ ?_)); clear hK K; refine nx ?_
     refine rG hN hk noc [] [1, 3, 4] fun K hK => ?_; simp only [go_sem, seval, hx]
     try simp (disch := omega) only [au]
     refine hK _ _ ?_; clear hK K; refine nx ?_
     refine ⟨i + 1, (by first | assumption | omega | (simp; done) | ((repeat' apply And.intro) <;> first | assumption | omega | (simp; done) | (simp; omega))), (by first | omega | (simp; omega)), ⟨[some 0], [], ⟨by simp [srcIds], by simp [srcIds], by simp⟩, by simp, by simp [wkEnv, wk, wkL, wkE, lk, I, str, B, U8, U64, U32, hs, evC] <;> omega, by first | (simp [wkHp, wkHp1, wkEnt, lkh, hs, evC]; done) | (simp [wkHp, wkHp1, wkEnt, lkh, idLtL, idLt, I, str, hs, evC]; done) | simp [wkHp, wkHp1, wkEnt, wkL, wk, wkE, lkh, I, str, hs, evC]⟩⟩
 · have : i = e.lines.length := by omega
   subst this
   refine nx ?_; refine rG hN hk noc [] [1, 3, 4, 9] fun K hK => ?_; simp only [go_sem, seval]
   try simp (disch := omega) only [au]
   (first | with_reducible refine hK _ _ ?_ | refine obK (hK _ _ ?_)); clear hK K; refine nx ?_
   refine cF ?_; refine nx ?_; refine rG hN hk noc [] [2] fun K hK => ?_; simp only [go_sem, seval]; refine hK _ _ ?_
   clear hK K; refine nx ?_
   refine AW.ret (mkRet [] [] rfl (by simp [resOf, lk, lkh, wk, wkL, wkE, I, str, B, U8, U64, U32, textF] <;> omega) (by first | (simp [wkHp, wkHp1, wkEnt, lkh, textF]; done) | (simp [wkHp, wkHp1, wkEnt, lkh, idLtL, idLt, I, str, textF]; done) | simp [wkHp, wkHp1, wkEnt, wkL, wk, wkE, lkh, I, str, textF]))
def wStep (s : List S × S) (c : UInt8) : List S × S := if c ≠ 0 then (s.1, s.2 ++ [c]) else (if 0 < s.2.length ∧ s.2.length ≤ 40 then s.1 ++ [s.2] else s.1, [])
def lowL (t : S) : S := t.map lowF ++ [0]
def wTo (t : S) (i : Nat) : List S × S := ((lowL t).take i).foldl wStep ([], [])
def wordsF (t : S) : List S := distF (wTo t (t.length + 1)).1
theorem wTo_s (t : S) (i : Nat) (h : i < (lowL t).length) : wTo t (i + 1) = wStep (wTo t i) (lowL t)[i] := by
 unfold wTo
 rw [List.take_add_one, List.getElem?_eq_getElem h, List.foldl_append]
 rfl
theorem wTo_len (t : S) : ∀ i, i ≤ t.length + 1 → (wTo t i).1.length ≤ i ∧ (wTo t i).2.length ≤ i
 | 0, _ => by simp [wTo]
 | i + 1, h => by
   have := wTo_len t i (by omega)
   rw [wTo_s t i (by simp [lowL]; omega)]
   unfold wStep
   split
   · simp; omega
   · split <;> simp <;> omega
theorem words27 (t : S) (ht : t.length ≤ 2 ^ 30) : ACall Tryz.prog 77 [str t] [] (.osl 0 (wordsF t).length 1) [some ⟨9, 1, strE (wordsF t)⟩] := by
 refine acall 42 0 Tryz.func77 rfl rfl rfl (by simp) rfl rfl ?_
 intro C hN hk
 refine nx ?_; refine rG hN hk noc [] [0] fun K hK => ?_; simp only [go_sem, seval]; refine hK _ _ ?_
 clear hK K; refine nx ?_
 refine rG hN hk noc [] [0, 3] fun K hK => ?_; simp only [go_sem, seval]; refine hK _ _ ?_
 clear hK K; refine nx ?_
 refine rG hN hk noc [] [0, 3, 4] fun K hK => ?_; simp only [go_sem, seval]; refine hK _ _ ?_
 clear hK K; refine nx ?_
 refine rG hN hk noc [] [0, 3, 4, 5] fun K hK => ?_; simp only [go_sem, seval]; refine hK _ _ ?_
 clear hK K; refine nx ?_
 refine lpF hk 2 (fun i : Nat => ⟨[(0, str t), (3, .osl 0 (wTo t i).1.length 1), (4, .osl 1 (wTo t i).2.length 1), (5, I i)], [(0, some ⟨9, 1, strE (wTo t i).1⟩), (1, some ⟨5, 1, bytesE (wTo t i).2⟩)]⟩) (fun i => i ≤ t.length + 1) (fun i => t.length + 1 - i) 0 (mkWk [none, none] [] (by simp [wkEnv, wk, wkL, wkE, lk, I, str, B, U8, U64, U32, wTo] <;> omega) (by first | (simp [wkHp, wkHp1, wkEnt, lkh, wTo]; done) | (simp [wkHp, wkHp1, wkEnt, lkh, idLtL, idLt, I, str, wTo]; done) | simp [wkHp, wkHp1, wkEnt, wkL, wk, wkE, lkh, I, str, wTo])) ?_
 intro i h1
 have hl := wTo_len t i h1
 by_cases hi : i ≤ t.length
 · have hs := wTo_s t i (by simp [lowL]; omega)
   by_cases hj : i < t.length
   · have hx := List.getElem?_eq_getElem hj
     have hy : (lowL t)[i]'(by simp [lowL]; omega) = lowF t[i] := by simp [lowL, List.getElem_append, hj]
     rw [hy] at hs
     have q := letter27 t[i]
     generalize wTo t i = z at *
     obtain ⟨o, w⟩ := z
     simp only at hl
     generalize lowF t[i] = c at *
     generalize t[i] = b at *
     rcases dqE (c.toNat : Int) 0 with ⟨p0, e0, f0⟩ | ⟨p0, e0, f0⟩
     · have hc : c = 0 := UInt8.toNat_inj.1 (by simpa using p0)
       subst hc
       by_cases hw : 0 < w.length ∧ w.length ≤ 40
       · have hs : wTo t (i + 1) = (o ++ [w], []) := by simp [hs, wStep, hw]
         have f1 := dGtT (a := w.length) (b := 0) (by omega)
         have f2 := dLeT (a := w.length) (b := 40) (by omega)
         refine nx ?_; refine rG hN hk noc [] [0, 3, 4, 5, 10] fun K hK => ?_; simp only [go_sem, seval, hx, f0, f1, f2]
         try simp (disch := omega) only [au]
         (first | with_reducible refine hK _ _ ?_ | refine obK (hK _ _ ?_)); clear hK K; refine nx ?_
         refine cT ?_; refine nx ?_; refine rG hN hk noc [] [0, 3, 4, 5, 6] fun K hK => ?_; simp only [go_sem, seval, hx, f0, f1, f2]; refine hK _ _ ?_
         clear hK K; refine nx ?_
         refine rG hN hk noc [] [0, 3, 4, 5, 6, 16] fun K hK => ?_; simp only [go_sem, seval, hx, f0, f1, f2]
         try simp (disch := omega) only [au]
         (first | with_reducible refine hK _ _ ?_ | refine obK (hK _ _ ?_)); clear hK K; refine nx ?_
         refine cT ?_; refine nx ?_; refine rG hN hk (onc 3 (pcq q) noc) [] [0, 3, 4, 5, 6] fun K hK => ?_; simp only [go_sem, seval, hx, f0, f1, f2]; refine obK (hK _ _ ?_)
         clear hK K; refine nx ?_
         refine rG hN hk noc [] [0, 3, 4, 5, 6, 22] fun K hK => ?_; simp only [go_sem, seval, hx, f0, f1, f2]
         try simp (disch := omega) only [au]
         refine hK _ _ ?_; clear hK K; refine nx ?_; refine cF ?_; refine nx ?_; refine rG hN hk noc [] [0, 3, 4, 5, 34] fun K hK => ?_; simp only [go_sem, seval, hx, f0, f1, f2]
         try simp (disch := omega) only [au]
         try simp only [go_sem, seval, hx, f0, f1, f2]
         (first | with_reducible refine hK _ _ ?_ | refine obK (hK _ _ ?_)); clear hK K; refine nx ?_
         refine cT ?_; refine nx ?_; refine rG hN hk noc [] [0, 3, 5] fun K hK => ?_; simp only [go_sem, seval, hx, f0, f1, f2]
         try simp (disch := omega) only [au]
         (first | with_reducible refine hK _ _ ?_ | refine obK (hK _ _ ?_)); clear hK K; refine nx ?_
         refine rG hN hk noc [] [0, 3, 4, 5] fun K hK => ?_; simp only [go_sem, seval, hx, f0, f1, f2]; refine hK _ _ ?_
         clear hK K; refine nx ?_
         refine rG hN hk noc [] [0, 3, 4, 5] fun K hK => ?_; simp only [go_sem, seval, hx, f0, f1, f2]
         try simp (disch := omega) only [au]
         refine hK _ _ ?_; clear hK K; refine nx ?_
         refine ⟨i + 1, (by first | assumption | omega | (simp; done) | ((repeat' apply And.intro) <;> first | assumption | omega | (simp; done) | (simp; omega))), (by first | omega | (simp; omega)), ⟨[some 0, none], [], ⟨by simp [srcIds], by simp [srcIds], by simp⟩, by simp, by simp [wkEnv, wk, wkL, wkE, lk, I, str, B, U8, U64, U32, hs] <;> omega, by first | (simp [wkHp, wkHp1, wkEnt, lkh, hs]; done) | (simp [wkHp, wkHp1, wkEnt, lkh, idLtL, idLt, I, str, hs]; done) | simp [wkHp, wkHp1, wkEnt, wkL, wk, wkE, lkh, I, str, hs]⟩⟩
       · have hs : wTo t (i + 1) = (o, []) := by simp only [hs, wStep, hw]; simp
         rcases dq ((w.length : Int) > 0) with ⟨p0, e0⟩ | ⟨p0, e0⟩ <;> (try omega) <;> rcases dq ((w.length : Int) ≤ 40) with ⟨p1, e1⟩ | ⟨p1, e1⟩ <;> try omega
         all_goals
           refine nx ?_; refine rG hN hk noc [] [0, 3, 4, 5, 10] fun K hK => ?_; simp only [go_sem, seval, hx, f0, e0, e1]
           try simp (disch := omega) only [au]
           (first | with_reducible refine hK _ _ ?_ | refine obK (hK _ _ ?_)); clear hK K; refine nx ?_
           refine cT ?_; refine nx ?_; refine rG hN hk noc [] [0, 3, 4, 5, 6] fun K hK => ?_; simp only [go_sem, seval, hx, f0, e0, e1]; refine hK _ _ ?_
           clear hK K; refine nx ?_
           refine rG hN hk noc [] [0, 3, 4, 5, 6, 16] fun K hK => ?_; simp only [go_sem, seval, hx, f0, e0, e1]
           try simp (disch := omega) only [au]
           (first | with_reducible refine hK _ _ ?_ | refine obK (hK _ _ ?_)); clear hK K; refine nx ?_
           refine cT ?_; refine nx ?_; refine rG hN hk (onc 3 (pcq q) noc) [] [0, 3, 4, 5, 6] fun K hK => ?_; simp only [go_sem, seval, hx, f0, e0, e1]; refine obK (hK _ _ ?_)
           clear hK K; refine nx ?_
           refine rG hN hk noc [] [0, 3, 4, 5, 6, 22] fun K hK => ?_; simp only [go_sem, seval, hx, f0, e0, e1]
           try simp (disch := omega) only [au]
           refine hK _ _ ?_; clear hK K; refine nx ?_; refine cF ?_; refine nx ?_; refine rG hN hk noc [] [0, 3, 4, 5, 34] fun K hK => ?_; simp only [go_sem, seval, hx, f0, e0, e1]
           try simp (disch := omega) only [au]
           try simp only [go_sem, seval, hx, f0, e0, e1]
           (first | with_reducible refine hK _ _ ?_ | refine obK (hK _ _ ?_)); clear hK K; refine nx ?_
           refine cF ?_; refine nx ?_; refine rG hN hk noc [] [0, 3, 4, 5] fun K hK => ?_; simp only [go_sem, seval, hx, f0, e0, e1]; refine hK _ _ ?_
           clear hK K; refine nx ?_
           refine rG hN hk noc [] [0, 3, 4, 5] fun K hK => ?_; simp only [go_sem, seval, hx, f0, e0, e1]
           try simp (disch := omega) only [au]
           refine hK _ _ ?_; clear hK K; refine nx ?_
           refine ⟨i + 1, (by first | assumption | omega | (simp; done) | ((repeat' apply And.intro) <;> first | assumption | omega | (simp; done) | (simp; omega))), (by first | omega | (simp; omega)), ⟨[some 0, none], [], ⟨by simp [srcIds], by simp [srcIds], by simp⟩, by simp, by simp [wkEnv, wk, wkL, wkE, lk, I, str, B, U8, U64, U32, hs] <;> omega, by first | (simp [wkHp, wkHp1, wkEnt, lkh, hs]; done) | (simp [wkHp, wkHp1, wkEnt, lkh, idLtL, idLt, I, str, hs]; done) | simp [wkHp, wkHp1, wkEnt, wkL, wk, wkE, lkh, I, str, hs]⟩⟩
     · have hc : c ≠ 0 := fun h => p0 (by rw [h]; rfl)
       have hs : wTo t (i + 1) = (o, w ++ [c]) := by simp [hs, wStep, hc]
       refine nx ?_; refine rG hN hk noc [] [0, 3, 4, 5, 10] fun K hK => ?_; simp only [go_sem, seval, hx, f0]
       try simp (disch := omega) only [au]
       (first | with_reducible refine hK _ _ ?_ | refine obK (hK _ _ ?_)); clear hK K; refine nx ?_
       refine cT ?_; refine nx ?_; refine rG hN hk noc [] [0, 3, 4, 5, 6] fun K hK => ?_; simp only [go_sem, seval, hx, f0]; refine hK _ _ ?_
       clear hK K; refine nx ?_
       refine rG hN hk noc [] [0, 3, 4, 5, 6, 16] fun K hK => ?_; simp only [go_sem, seval, hx, f0]
       try simp (disch := omega) only [au]
       (first | with_reducible refine hK _ _ ?_ | refine obK (hK _ _ ?_)); clear hK K; refine nx ?_
       refine cT ?_; refine nx ?_; refine rG hN hk (onc 3 (pcq q) noc) [] [0, 3, 4, 5, 6] fun K hK => ?_; simp only [go_sem, seval, hx, f0]; refine obK (hK _ _ ?_)
       clear hK K; refine nx ?_
       refine rG hN hk noc [] [0, 3, 4, 5, 6, 22] fun K hK => ?_; simp only [go_sem, seval, hx, f0]
       try simp (disch := omega) only [au]
       refine hK _ _ ?_; clear hK K; refine nx ?_; refine cT ?_; refine nx ?_; refine rG hN hk noc [] [0, 3, 4, 5] fun K hK => ?_; simp only [go_sem, seval, hx, f0]
       (first | with_reducible refine hK _ _ ?_ | refine obK (hK _ _ ?_)); clear hK K; refine nx ?_
       refine rG hN hk noc [] [0, 3, 4, 5] fun K hK => ?_; simp only [go_sem, seval, hx, f0]
       try simp (disch := omega) only [au]
       refine hK _ _ ?_; clear hK K; refine nx ?_
       refine ⟨i + 1, (by first | assumption | omega | (simp; done) | ((repeat' apply And.intro) <;> first | assumption | omega | (simp; done) | (simp; omega))), (by first | omega | (simp; omega)), ⟨[some 0, some 1], [], ⟨by simp [srcIds], by simp [srcIds], by simp⟩, by simp, by simp [wkEnv, wk, wkL, wkE, lk, I, str, B, U8, U64, U32, hs] <;> omega, by first | (simp [wkHp, wkHp1, wkEnt, lkh, hs]; done) | (simp [wkHp, wkHp1, wkEnt, lkh, idLtL, idLt, I, str, hs]; done) | simp [wkHp, wkHp1, wkEnt, wkL, wk, wkE, lkh, I, str, hs]⟩⟩
   · have hj : i = t.length := by omega
     have hy : (lowL t)[i]'(by simp [lowL]; omega) = 0 := by simp [lowL, List.getElem_append, hj]
     rw [hy] at hs
     generalize wTo t i = z at *
     obtain ⟨o, w⟩ := z
     simp only at hl
     by_cases hw : 0 < w.length ∧ w.length ≤ 40
     · have hs : wTo t (i + 1) = (o ++ [w], []) := by simp [hs, wStep, hw]
       have f1 := dGtT (a := w.length) (b := 0) (by omega)
       have f2 := dLeT (a := w.length) (b := 40) (by omega)
       refine nx ?_; refine rG hN hk noc [] [0, 3, 4, 5, 10] fun K hK => ?_; simp only [go_sem, seval, f1, f2, bne_self_eq_false]
       try simp (disch := omega) only [au]
       (first | with_reducible refine hK _ _ ?_ | refine obK (hK _ _ ?_)); clear hK K; refine nx ?_
       refine cT ?_; refine nx ?_; refine rG hN hk noc [] [0, 3, 4, 5, 6] fun K hK => ?_; simp only [go_sem, seval, f1, f2, bne_self_eq_false]; refine hK _ _ ?_
       clear hK K; refine nx ?_
       refine rG hN hk noc [] [0, 3, 4, 5, 6, 16] fun K hK => ?_; simp only [go_sem, seval, f1, f2, bne_self_eq_false]
       try simp (disch := omega) only [au]
       (first | with_reducible refine hK _ _ ?_ | refine obK (hK _ _ ?_)); clear hK K; refine nx ?_
       refine cF ?_; refine nx ?_; refine rG hN hk noc [] [0, 3, 4, 5, 6, 22] fun K hK => ?_; simp only [go_sem, seval, f1, f2, bne_self_eq_false]
       try simp (disch := omega) only [au]
       refine hK _ _ ?_; clear hK K; refine nx ?_; refine cF ?_; refine nx ?_; refine rG hN hk noc [] [0, 3, 4, 5, 34] fun K hK => ?_; simp only [go_sem, seval, f1, f2, bne_self_eq_false]
       try simp (disch := omega) only [au]
       try simp only [go_sem, seval, f1, f2, bne_self_eq_false]
       (first | with_reducible refine hK _ _ ?_ | refine obK (hK _ _ ?_)); clear hK K; refine nx ?_
       refine cT ?_; refine nx ?_; refine rG hN hk noc [] [0, 3, 5] fun K hK => ?_; simp only [go_sem, seval, f1, f2, bne_self_eq_false]
       try simp (disch := omega) only [au]
       (first | with_reducible refine hK _ _ ?_ | refine obK (hK _ _ ?_)); clear hK K; refine nx ?_
       refine rG hN hk noc [] [0, 3, 4, 5] fun K hK => ?_; simp only [go_sem, seval, f1, f2, bne_self_eq_false]; refine hK _ _ ?_
       clear hK K; refine nx ?_
       refine rG hN hk noc [] [0, 3, 4, 5] fun K hK => ?_; simp only [go_sem, seval, f1, f2, bne_self_eq_false]
       try simp (disch := omega) only [au]
       refine hK _ _ ?_; clear hK K; refine nx ?_
       refine ⟨i + 1, (by first | assumption | omega | (simp; done) | ((repeat' apply And.intro) <;> first | assumption | omega | (simp; done) | (simp; omega))), (by first | omega | (simp; omega)), ⟨[some 0, none], [], ⟨by simp [srcIds], by simp [srcIds], by simp⟩, by simp, by simp [wkEnv, wk, wkL, wkE, lk, I, str, B, U8, U64, U32, hs] <;> omega, by first | (simp [wkHp, wkHp1, wkEnt, lkh, hs]; done) | (simp [wkHp, wkHp1, wkEnt, lkh, idLtL, idLt, I, str, hs]; done) | simp [wkHp, wkHp1, wkEnt, wkL, wk, wkE, lkh, I, str, hs]⟩⟩
     · have hs : wTo t (i + 1) = (o, []) := by simp only [hs, wStep, hw]; simp
       rcases dq ((w.length : Int) > 0) with ⟨p0, e0⟩ | ⟨p0, e0⟩ <;> (try omega) <;> rcases dq ((w.length : Int) ≤ 40) with ⟨p1, e1⟩ | ⟨p1, e1⟩ <;> try omega
       all_goals
         refine nx ?_; refine rG hN hk noc [] [0, 3, 4, 5, 10] fun K hK => ?_; simp only [go_sem, seval, e0, e1, bne_self_eq_false]
         try simp (disch := omega) only [au]
         (first | with_reducible refine hK _ _ ?_ | refine obK (hK _ _ ?_)); clear hK K; refine nx ?_
         refine cT ?_; refine nx ?_; refine rG hN hk noc [] [0, 3, 4, 5, 6] fun K hK => ?_; simp only [go_sem, seval, e0, e1, bne_self_eq_false]; refine hK _ _ ?_
         clear hK K; refine nx ?_
         refine rG hN hk noc [] [0, 3, 4, 5, 6, 16] fun K hK => ?_; simp only [go_sem, seval, e0, e1, bne_self_eq_false]
         try simp (disch := omega) only [au]
         (first | with_reducible refine hK _ _ ?_ | refine obK (hK _ _ ?_)); clear hK K; refine nx ?_
         refine cF ?_; refine nx ?_; refine rG hN hk noc [] [0, 3, 4, 5, 6, 22] fun K hK => ?_; simp only [go_sem, seval, e0, e1, bne_self_eq_false]
         try simp (disch := omega) only [au]
         refine hK _ _ ?_; clear hK K; refine nx ?_; refine cF ?_; refine nx ?_; refine rG hN hk noc [] [0, 3, 4, 5, 34] fun K hK => ?_; simp only [go_sem, seval, e0, e1, bne_self_eq_false]
         try simp (disch := omega) only [au]
         try simp only [go_sem, seval, e0, e1, bne_self_eq_false]
         (first | with_reducible refine hK _ _ ?_ | refine obK (hK _ _ ?_)); clear hK K; refine nx ?_
         refine cF ?_; refine nx ?_; refine rG hN hk noc [] [0, 3, 4, 5] fun K hK => ?_; simp only [go_sem, seval, e0, e1, bne_self_eq_false]; refine hK _ _ ?_
         clear hK K; refine nx ?_
         refine rG hN hk noc [] [0, 3, 4, 5] fun K hK => ?_; simp only [go_sem, seval, e0, e1, bne_self_eq_false]
         try simp (disch := omega) only [au]
         refine hK _ _ ?_; clear hK K; refine nx ?_
         refine ⟨i + 1, (by first | assumption | omega | (simp; done) | ((repeat' apply And.intro) <;> first | assumption | omega | (simp; done) | (simp; omega))), (by first | omega | (simp; omega)), ⟨[some 0, none], [], ⟨by simp [srcIds], by simp [srcIds], by simp⟩, by simp, by simp [wkEnv, wk, wkL, wkE, lk, I, str, B, U8, U64, U32, hs] <;> omega, by first | (simp [wkHp, wkHp1, wkEnt, lkh, hs]; done) | (simp [wkHp, wkHp1, wkEnt, lkh, idLtL, idLt, I, str, hs]; done) | simp [wkHp, wkHp1, wkEnt, wkL, wk, wkE, lkh, I, str, hs]⟩⟩
 · have hi : i = t.length + 1 := by omega
   subst hi
   have q := distinct1 _ (wTo t (t.length + 1)).1 (Nat.le_refl _) (by omega)
   have hd := distF_len (wTo t (t.length + 1)).1
   unfold wordsF
   generalize (wTo t (t.length + 1)).1 = o at *
   refine nx ?_; refine rG hN hk noc [] [0, 3, 4, 5, 10] fun K hK => ?_; simp only [go_sem, seval]
   try simp (disch := omega) only [au]
   (first | with_reducible refine hK _ _ ?_ | refine obK (hK _ _ ?_)); clear hK K; refine nx ?_
   refine cF ?_; refine nx ?_; refine rG hN hk (onc 1 (bcq [0] q) noc) [] [2] fun K hK => ?_; simp only [go_sem, seval]; refine obK (hK _ _ ?_)
   clear hK K; refine nx ?_
   refine AW.ret (mkRet [some 0] [] rfl (by simp [resOf, lk, lkh, wk, wkL, wkE, I, str, B, U8, U64, U32] <;> omega) (by first | (simp [wkHp, wkHp1, wkEnt, lkh]; done) | (simp [wkHp, wkHp1, wkEnt, lkh, idLtL, idLt, I, str]; done) | simp [wkHp, wkHp1, wkEnt, wkL, wk, wkE, lkh, I, str]))
structure EvT (e : Ev) : Prop where
 nl : e.lines.length ≤ 40
 tx : ∀ x ∈ e.lines, x.text.length ≤ 2000
 nf : e.fields.length ≤ 32
 fv : ∀ f ∈ e.fields, f.name.length ≤ 32 ∧ f.val.length ≤ 2000
theorem textF_len (e : Ev) (h : EvT e) : (textF e).length ≤ 80040 := by
 have := txTo_len e.lines h.tx e.lines.length
 have := h.nl
 unfold textF; omega
theorem wordsF_len (t : S) : (wordsF t).length ≤ t.length + 1 := by
 have := distF_len (wTo t (t.length + 1)).1
 have := (wTo_len t (t.length + 1) (by omega)).1
 unfold wordsF; omega
def wsTo (l : List Ev) (i : Nat) : List S := (l.take i).flatMap fun e => wordsF (textF e)
theorem wsTo_s (l : List Ev) (i : Nat) (h : i < l.length) : wsTo l (i + 1) = wsTo l i ++ wordsF (textF l[i]) := by
 unfold wsTo
 rw [List.take_add_one, List.getElem?_eq_getElem h, List.flatMap_append]
 simp only [Option.toList, List.flatMap_cons, List.flatMap_nil, List.append_nil]
theorem wsTo_len (l : List Ev) (h : ∀ e ∈ l, EvT e) : ∀ i, i ≤ l.length → (wsTo l i).length ≤ i * 80041
 | 0, _ => by simp [wsTo]
 | i + 1, hi => by
   have := wsTo_len l h i (by omega)
   have := wordsF_len (textF l[i])
   have := textF_len l[i] (h _ (List.getElem_mem _))
   rw [wsTo_s l i (by omega)]
   simp only [List.length_append]; omega
def allWords (l : List Ev) : List S := distF (wsTo l l.length)
theorem words27a (l : List Ev) (hl : l.length ≤ 4096) (h : ∀ e ∈ l, EvT e) : ACall Tryz.prog 49 [.sl 10 (evE l)] [] (.osl 0 (allWords l).length 1) [some ⟨9, 1, strE (allWords l)⟩] := by
 refine acall 21 0 Tryz.func49 rfl rfl rfl (by simp) rfl rfl ?_
 intro C hN hk
 refine nx ?_; refine rG hN hk noc [] [0] fun K hK => ?_; simp only [go_sem, seval]; refine hK _ _ ?_
 clear hK K; refine nx ?_
 refine rG hN hk noc [] [0, 3] fun K hK => ?_; simp only [go_sem, seval]; refine hK _ _ ?_
 clear hK K; refine nx ?_
 refine rG hN hk noc [] [0, 3, 4] fun K hK => ?_; simp only [go_sem, seval]; refine hK _ _ ?_
 clear hK K; refine nx ?_
 refine lpF hk 1 (fun i : Nat => ⟨[(0, .sl 10 (evE l)), (3, .osl 0 (wsTo l i).length 1), (4, I i)], [(0, some ⟨9, 1, strE (wsTo l i)⟩)]⟩) (fun i => i ≤ l.length) (fun i => l.length - i) 0 (mkWk [none] [] (by simp [wkEnv, wk, wkL, wkE, lk, I, str, B, U8, U64, U32, wsTo] <;> omega) (by first | (simp [wkHp, wkHp1, wkEnt, lkh, wsTo]; done) | (simp [wkHp, wkHp1, wkEnt, lkh, idLtL, idLt, I, str, wsTo]; done) | simp [wkHp, wkHp1, wkEnt, wkL, wk, wkE, lkh, I, str, wsTo])) ?_
 intro i h1
 have hl2 := wsTo_len l h i h1
 by_cases hi : i < l.length
 · have hx := List.getElem?_eq_getElem hi
   have hs := wsTo_s l i hi
   have he := h _ (List.getElem_mem hi)
   have q0 := text12 l[i] he.nl he.tx
   have hw := wordsF_len (textF l[i])
   have ht := textF_len l[i] he
   have q1 := words27 (textF l[i]) (by omega)
   generalize wordsF (textF l[i]) = ws at *
   generalize textF l[i] = t at *
   generalize l[i] = e at *
   generalize wsTo l i = o at *
   refine nx ?_; refine rG hN hk noc [] [0, 3, 4, 8] fun K hK => ?_; simp only [go_sem, seval, hx]
   try simp (disch := omega) only [au]
   (first | with_reducible refine hK _ _ ?_ | refine obK (hK _ _ ?_)); clear hK K; refine nx ?_
   refine cT ?_; refine nx ?_; refine rG hN hk (onc 5 (pcq q0) (onc 6 (pcq q1) noc)) [] [0, 3, 4] fun K hK => ?_; simp only [go_sem, seval, hx]; refine obK (hK _ _ ?_)
   clear hK K; refine nx ?_
   refine rG hN hk noc [] [0, 3, 4] fun K hK => ?_; simp only [go_sem, seval, hx]
   try simp (disch := omega) only [au]
   refine hK _ _ ?_; clear hK K; refine nx ?_
   refine ⟨i + 1, (by first | assumption | omega | (simp; done) | ((repeat' apply And.intro) <;> first | assumption | omega | (simp; done) | (simp; omega))), (by first | omega | (simp; omega)), ⟨[some 0], [], ⟨by simp [srcIds], by simp [srcIds], by simp⟩, by simp, by simp [wkEnv, wk, wkL, wkE, lk, I, str, B, U8, U64, U32, hs] <;> omega, by first | (simp [wkHp, wkHp1, wkEnt, lkh, hs]; done) | (simp [wkHp, wkHp1, wkEnt, lkh, idLtL, idLt, I, str, hs]; done) | simp [wkHp, wkHp1, wkEnt, wkL, wk, wkE, lkh, I, str, hs]⟩⟩
 · have : i = l.length := by omega
   subst this
   have q := distinct1 _ (wsTo l l.length) (Nat.le_refl _) (by omega)
   unfold allWords
   generalize wsTo l l.length = o at *
   refine nx ?_; refine rG hN hk noc [] [0, 3, 4, 8] fun K hK => ?_; simp only [go_sem, seval]
   try simp (disch := omega) only [au]
   (first | with_reducible refine hK _ _ ?_ | refine obK (hK _ _ ?_)); clear hK K; refine nx ?_
   refine cF ?_; refine nx ?_; refine rG hN hk (onc 1 (bcq [0] q) noc) [] [2] fun K hK => ?_; simp only [go_sem, seval]; refine obK (hK _ _ ?_)
   clear hK K; refine nx ?_
   refine AW.ret (mkRet [some 0] [] rfl (by simp [resOf, lk, lkh, wk, wkL, wkE, I, str, B, U8, U64, U32] <;> omega) (by first | (simp [wkHp, wkHp1, wkEnt, lkh]; done) | (simp [wkHp, wkHp1, wkEnt, lkh, idLtL, idLt, I, str]; done) | simp [wkHp, wkHp1, wkEnt, wkL, wk, wkE, lkh, I, str]))
def nmTo (l : List Ev) (i : Nat) : List S := (l.take i).flatMap fun e => e.fields.map Fl.name
theorem nmTo_s (l : List Ev) (i : Nat) (h : i < l.length) : nmTo l (i + 1) = nmTo l i ++ l[i].fields.map Fl.name := by
 unfold nmTo
 rw [List.take_add_one, List.getElem?_eq_getElem h, List.flatMap_append]
 simp only [Option.toList, List.flatMap_cons, List.flatMap_nil, List.append_nil]
theorem nmTo_len (l : List Ev) (h : ∀ e ∈ l, EvT e) : ∀ i, i ≤ l.length → (nmTo l i).length ≤ i * 32
 | 0, _ => by simp [nmTo]
 | i + 1, hi => by
   have := nmTo_len l h i (by omega)
   have := (h _ (List.getElem_mem (l := l) (n := i) (by omega))).nf
   rw [nmTo_s l i (by omega)]
   simp only [List.length_append, List.length_map]; omega
def fnTo (o : List S) (fs : List Fl) (k : Nat) : List S := o ++ (fs.take k).map Fl.name
def allNames (l : List Ev) : List S := distF (nmTo l l.length)
theorem names27 (l : List Ev) (hl : l.length ≤ 4096) (h : ∀ e ∈ l, EvT e) : ACall Tryz.prog 50 [.sl 10 (evE l)] [] (.osl 0 (allNames l).length 1) [some ⟨9, 1, strE (allNames l)⟩] := by
 refine acall 36 0 Tryz.func50 rfl rfl rfl (by simp) rfl rfl ?_
 intro C hN hk
 refine nx ?_; refine rG hN hk noc [] [0] fun K hK => ?_; simp only [go_sem, seval]; refine hK _ _ ?_
 clear hK K; refine nx ?_
 refine rG hN hk noc [] [0, 3] fun K hK => ?_; simp only [go_sem, seval]; refine hK _ _ ?_
 clear hK K; refine nx ?_
 refine rG hN hk noc [] [0, 3, 4] fun K hK => ?_; simp only [go_sem, seval]; refine hK _ _ ?_
 clear hK K; refine nx ?_
 refine lpF hk 1 (fun i : Nat => ⟨[(0, .sl 10 (evE l)), (3, .osl 0 (nmTo l i).length 1), (4, I i)], [(0, some ⟨9, 1, strE (nmTo l i)⟩)]⟩) (fun i => i ≤ l.length) (fun i => l.length - i) 0 (mkWk [none] [] (by simp [wkEnv, wk, wkL, wkE, lk, I, str, B, U8, U64, U32, nmTo] <;> omega) (by first | (simp [wkHp, wkHp1, wkEnt, lkh, nmTo]; done) | (simp [wkHp, wkHp1, wkEnt, lkh, idLtL, idLt, I, str, nmTo]; done) | simp [wkHp, wkHp1, wkEnt, wkL, wk, wkE, lkh, I, str, nmTo])) ?_
 intro i h1
 have hl2 := nmTo_len l h i h1
 by_cases hi : i < l.length
 · have hx := List.getElem?_eq_getElem hi
   have hs := nmTo_s l i hi
   have he := h _ (List.getElem_mem hi)
   generalize nmTo l i = o at *
   generalize l[i] = e at *
   have hnf := he.nf
   refine nx ?_; refine rG hN hk noc [] [0, 3, 4, 9] fun K hK => ?_; simp only [go_sem, seval]
   try simp (disch := omega) only [au]
   (first | with_reducible refine hK _ _ ?_ | refine obK (hK _ _ ?_)); clear hK K; refine nx ?_
   refine cT ?_; refine nx ?_; refine rG hN hk noc [] [0, 3, 4, 5] fun K hK => ?_; simp only [go_sem, seval]; refine hK _ _ ?_
   clear hK K; refine nx ?_
   refine lpF hk 1 (fun k : Nat => ⟨[(0, .sl 10 (evE l)), (3, .osl 0 (fnTo o e.fields k).length 1), (4, I i), (5, I k)], [(0, some ⟨9, 1, strE (fnTo o e.fields k)⟩)]⟩) (fun k => k ≤ e.fields.length) (fun k => e.fields.length - k) 0 (mkWk [some 0] [] (by simp [wkEnv, wk, wkL, wkE, lk, I, str, B, U8, U64, U32, fnTo] <;> omega) (by first | (simp [wkHp, wkHp1, wkEnt, lkh, fnTo]; done) | (simp [wkHp, wkHp1, wkEnt, lkh, idLtL, idLt, I, str, fnTo]; done) | simp [wkHp, wkHp1, wkEnt, wkL, wk, wkE, lkh, I, str, fnTo])) ?_
   intro k h2
   by_cases hk2 : k < e.fields.length
   · have hy := List.getElem?_eq_getElem hk2
     have hs2 : fnTo o e.fields (k + 1) = (fnTo o e.fields k) ++ [e.fields[k].name] := by
       unfold fnTo
       rw [List.take_add_one, hy]
       simp only [Option.toList, List.map_append, List.map_cons, List.map_nil, List.append_assoc]
     have hz : (fnTo o e.fields k).length ≤ o.length + 32 := by simp [fnTo]; omega
     generalize fnTo o e.fields k = o2 at *
     generalize e.fields[k] = f at *
     refine nx ?_; refine rG hN hk noc [] [0, 3, 4, 5, 19] fun K hK => ?_; simp only [go_sem, seval, hx, hy]
     try simp (disch := omega) only [au]
     (first | with_reducible refine hK _ _ ?_ | refine obK (hK _ _ ?_)); clear hK K; refine nx ?_
     refine cT ?_; refine nx ?_; refine rG hN hk noc [] [0, 3, 4, 5] fun K hK => ?_; simp only [go_sem, seval, hx, hy]
     (first | with_reducible refine hK _ _ ?_ | refine obK (hK _ _ ?_)); clear hK K; refine nx ?_
     refine rG hN hk noc [] [0, 3, 4, 5] fun K hK => ?_; simp only [go_sem, seval, hx, hy]
     try simp (disch := omega) only [au]
     refine hK _ _ ?_; clear hK K; refine nx ?_
     refine ⟨k + 1, (by first | assumption | omega | (simp; done) | ((repeat' apply And.intro) <;> first | assumption | omega | (simp; done) | (simp; omega))), (by first | omega | (simp; omega)), ⟨[some 0], [], ⟨by simp [srcIds], by simp [srcIds], by simp⟩, by simp, by simp [wkEnv, wk, wkL, wkE, lk, I, str, B, U8, U64, U32, hs2] <;> omega, by first | (simp [wkHp, wkHp1, wkEnt, lkh, hs2]; done) | (simp [wkHp, wkHp1, wkEnt, lkh, idLtL, idLt, I, str, hs2]; done) | simp [wkHp, wkHp1, wkEnt, wkL, wk, wkE, lkh, I, str, hs2]⟩⟩
   · have : k = e.fields.length := by omega
     subst this
     have hs3 : fnTo o e.fields e.fields.length = nmTo l (i + 1) := by rw [hs]; simp [fnTo]
     rw [hs3]
     refine nx ?_; refine rG hN hk noc [] [0, 3, 4, 5, 19] fun K hK => ?_; simp only [go_sem, seval, hx]
     try simp (disch := omega) only [au]
     (first | with_reducible refine hK _ _ ?_ | refine obK (hK _ _ ?_)); clear hK K; refine nx ?_
     refine cF ?_; refine nx ?_; refine rG hN hk noc [] [0, 3, 4] fun K hK => ?_; simp only [go_sem, seval, hx]
     try simp (disch := omega) only [au]
     refine hK _ _ ?_; clear hK K; refine nx ?_
     refine ⟨i + 1, (by first | assumption | omega | (simp; done) | ((repeat' apply And.intro) <;> first | assumption | omega | (simp; done) | (simp; omega))), (by first | omega | (simp; omega)), ⟨[some 0], [], ⟨by simp [srcIds], by simp [srcIds], by simp⟩, by simp, by simp [wkEnv, wk, wkL, wkE, lk, I, str, B, U8, U64, U32] <;> omega, by first | (simp [wkHp, wkHp1, wkEnt, lkh]; done) | (simp [wkHp, wkHp1, wkEnt, lkh, idLtL, idLt, I, str]; done) | simp [wkHp, wkHp1, wkEnt, wkL, wk, wkE, lkh, I, str]⟩⟩
 · have : i = l.length := by omega
   subst this
   have q := distinct1 _ (nmTo l l.length) (Nat.le_refl _) (by omega)
   unfold allNames
   generalize nmTo l l.length = o at *
   refine nx ?_; refine rG hN hk noc [] [0, 3, 4, 9] fun K hK => ?_; simp only [go_sem, seval]
   try simp (disch := omega) only [au]
   (first | with_reducible refine hK _ _ ?_ | refine obK (hK _ _ ?_)); clear hK K; refine nx ?_
   refine cF ?_; refine nx ?_; refine rG hN hk (onc 1 (bcq [0] q) noc) [] [2] fun K hK => ?_; simp only [go_sem, seval]; refine obK (hK _ _ ?_)
   clear hK K; refine nx ?_
   refine AW.ret (mkRet [some 0] [] rfl (by simp [resOf, lk, lkh, wk, wkL, wkE, I, str, B, U8, U64, U32] <;> omega) (by first | (simp [wkHp, wkHp1, wkEnt, lkh]; done) | (simp [wkHp, wkHp1, wkEnt, lkh, idLtL, idLt, I, str]; done) | simp [wkHp, wkHp1, wkEnt, wkL, wk, wkE, lkh, I, str]))
def ltS (x y : S) : Prop := Op.bytesLess x y = true
instance (x y : S) : Decidable (ltS x y) := inferInstanceAs (Decidable (_ = true))
theorem ltS_irrefl : ∀ x : S, ¬ ltS x x
 | [] => by simp [ltS, Op.bytesLess]
 | a :: x => by
   have := ltS_irrefl x
   simp only [ltS] at *
   simp [Op.bytesLess, this]
theorem ltS_trans : ∀ {x y z : S}, ltS x y → ltS y z → ltS x z
 | _, [], _, h, _ => by simp [ltS, Op.bytesLess] at h
 | _, _ :: _, [], _, h => by simp [ltS, Op.bytesLess] at h
 | [], _ :: _, _ :: _, _, _ => by simp [ltS, Op.bytesLess]
 | a :: x, b :: y, c :: z, h, k => by
   simp only [ltS, Op.bytesLess, Bool.or_eq_true, Bool.and_eq_true, decide_eq_true_eq, beq_iff_eq] at h k ⊢
   rcases h with h | ⟨rfl, h⟩ <;> rcases k with k | ⟨rfl, k⟩
   · exact .inl (UInt8.lt_trans h k)
   · exact .inl h
   · exact .inl k
   · exact .inr ⟨rfl, ltS_trans h k⟩
theorem ltS_tri : ∀ x y : S, ltS x y ∨ x = y ∨ ltS y x
 | [], [] => .inr (.inl rfl)
 | [], _ :: _ => .inl (by simp [ltS, Op.bytesLess])
 | _ :: _, [] => .inr (.inr (by simp [ltS, Op.bytesLess]))
 | a :: x, b :: y => by
   simp only [ltS, Op.bytesLess, Bool.or_eq_true, Bool.and_eq_true, decide_eq_true_eq, beq_iff_eq]
   have g : a < b ∨ a = b ∨ b < a := by
     simp only [UInt8.lt_iff_toNat_lt, ← UInt8.toNat_inj]; omega
   rcases g with g | rfl | g
   · exact .inl (.inl g)
   · rcases ltS_tri x y with h | rfl | h
     · exact .inl (.inr ⟨rfl, h⟩)
     · exact .inr (.inl rfl)
     · exact .inr (.inr (.inr ⟨rfl, h⟩))
   · exact .inr (.inr (.inl g))
theorem ltS_asymm {x y : S} (h : ltS x y) : ¬ ltS y x := fun k => ltS_irrefl x (ltS_trans h k)
def mrg : List S → List S → List S
 | [], b => b
 | x :: a, [] => x :: a
 | x :: a, y :: b => if ltS x y then x :: mrg a (y :: b) else if ltS y x then y :: mrg (x :: a) b else x :: mrg a b
termination_by a b => a.length + b.length
theorem mrg_nil (a : List S) : mrg a [] = a := by cases a <;> simp [mrg]
theorem getD_of {l : List S} {i : Nat} (h : i < l.length) : l.getD i [] = l[i] := by simp [List.getD, h]
theorem unGo_mrg (a b : List S) : ∀ f (s : Un), s.i ≤ a.length → s.k ≤ b.length → (a.length - s.i) + (b.length - s.k) ≤ f → (unGo a b f s).out = s.out ++ mrg (a.drop s.i) (b.drop s.k)
 | 0, s, h1, h2, h3 => by
   have e1 : a.drop s.i = [] := List.drop_eq_nil_of_le (by omega)
   have e2 : b.drop s.k = [] := List.drop_eq_nil_of_le (by omega)
   simp [unGo, e1, e2, mrg]
 | f + 1, s, h1, h2, h3 => by
   by_cases hs : s.i < a.length ∨ s.k < b.length
   · rw [unGo, if_pos hs]
     by_cases hk : s.k = b.length
     · have hi : s.i < a.length := by omega
       rw [unStep, if_pos (.inl hk), unGo_mrg a b f _ (by simp; omega) (by simp; omega) (by simp; omega)]
       have e2 : b.drop s.k = [] := List.drop_eq_nil_of_le (by omega)
       simp only [e2, mrg_nil, List.drop_eq_getElem_cons hi, getD_of hi]
       simp
     · have hk2 : s.k < b.length := by omega
       by_cases hi : s.i = a.length
       · have e1 : a.drop s.i = [] := List.drop_eq_nil_of_le (by omega)
         rw [unStep, if_neg (by omega), if_pos (.inl hi), unGo_mrg a b f _ (by simp; omega) (by simp; omega) (by simp; omega)]
         simp only [e1, mrg, List.drop_eq_getElem_cons hk2, getD_of hk2]
         simp
       · have hi2 : s.i < a.length := by omega
         by_cases c1 : ltS a[s.i] b[s.k]
         · rw [unStep, if_pos (.inr ⟨hi2, by rw [getD_of hi2, getD_of hk2]; exact c1⟩), unGo_mrg a b f _ (by simp; omega) (by simp; omega) (by simp; omega)]
           simp only [List.drop_eq_getElem_cons hi2, List.drop_eq_getElem_cons hk2, mrg, if_pos c1, getD_of hi2]
           simp
         · have n1 : ¬ (s.k = b.length ∨ s.i < a.length ∧ Op.bytesLess (a.getD s.i []) (b.getD s.k []) = true) := by
             rw [getD_of hi2, getD_of hk2]; rintro (h | ⟨_, h⟩)
             · omega
             · exact c1 h
           by_cases c2 : ltS b[s.k] a[s.i]
           · rw [unStep, if_neg n1, if_pos (.inr (by rw [getD_of hi2, getD_of hk2]; exact c2)), unGo_mrg a b f _ (by simp; omega) (by simp; omega) (by simp; omega)]
             simp only [List.drop_eq_getElem_cons hi2, List.drop_eq_getElem_cons hk2, mrg, if_neg c1, if_pos c2, getD_of hk2]
             simp
           · have n2 : ¬ (s.i = a.length ∨ Op.bytesLess (b.getD s.k []) (a.getD s.i []) = true) := by
               rw [getD_of hi2, getD_of hk2]; rintro (h | h)
               · omega
               · exact c2 h
             rw [unStep, if_neg n1, if_neg n2, unGo_mrg a b f _ (by simp; omega) (by simp; omega) (by simp; omega)]
             simp only [List.drop_eq_getElem_cons hi2, List.drop_eq_getElem_cons hk2, mrg, if_neg c1, if_neg c2, getD_of hi2]
             simp
   · rw [unGo, if_neg hs]
     have e1 : a.drop s.i = [] := List.drop_eq_nil_of_le (by omega)
     have e2 : b.drop s.k = [] := List.drop_eq_nil_of_le (by omega)
     simp [e1, e2, mrg]
theorem unF_mrg (a b : List S) : (unF a b).out = mrg a b := by
 have := unGo_mrg a b (a.length + b.length) ⟨0, 0, [], [], []⟩ (by simp) (by simp) (by simp)
 simpa [unF] using this
theorem mrg_mem (a b : List S) (z : S) : z ∈ mrg a b ↔ z ∈ a ∨ z ∈ b := by
 fun_induction mrg a b with
 | case1 => simp
 | case2 => simp
 | case3 x a y b h ih => simp [ih, or_assoc]
 | case4 x a y b h k ih => simp [ih]; grind
 | case5 x a y b h k ih =>
   have : x = y := by rcases ltS_tri x y with t | t | t <;> simp_all
   simp [ih]; grind
theorem mrg_sorted (a b : List S) (ha : a.Pairwise ltS) (hb : b.Pairwise ltS) : (mrg a b).Pairwise ltS := by
 fun_induction mrg a b with
 | case1 => exact hb
 | case2 => exact ha
 | case3 x a y b h ih =>
   rw [List.pairwise_cons] at ha ⊢
   have hb' := List.pairwise_cons.1 hb
   refine ⟨fun z hz => ?_, ih ha.2 hb⟩
   rcases (mrg_mem _ _ _).1 hz with hz | hz
   · exact ha.1 z hz
   · rcases List.mem_cons.1 hz with rfl | hz
     · exact h
     · exact ltS_trans h (hb'.1 z hz)
 | case4 x a y b h k ih =>
   have ha' := List.pairwise_cons.1 ha
   rw [List.pairwise_cons] at hb ⊢
   refine ⟨fun z hz => ?_, ih ha hb.2⟩
   rcases (mrg_mem _ _ _).1 hz with hz | hz
   · rcases List.mem_cons.1 hz with rfl | hz
     · exact k
     · exact ltS_trans k (ha'.1 z hz)
   · exact hb.1 z hz
 | case5 x a y b h k ih =>
   have : x = y := by rcases ltS_tri x y with t | t | t <;> simp_all
   subst this
   rw [List.pairwise_cons] at ha hb ⊢
   refine ⟨fun z hz => ?_, ih ha.2 hb.2⟩
   rcases (mrg_mem _ _ _).1 hz with hz | hz
   · exact ha.1 z hz
   · exact hb.1 z hz
theorem distF_ok : ∀ (n : Nat) (l : List S), l.length ≤ n → (distF l).Pairwise ltS ∧ ∀ z, z ∈ distF l ↔ z ∈ l := by
 intro n
 induction n with
 | zero => intro l h; rw [distF_small l (by omega)]; have : l = [] := List.length_eq_zero_iff.1 (by omega); simp [this]
 | succ n ih =>
   intro l h
   by_cases hl : l.length < 2
   · rw [distF_small l hl]
     match l, hl with
     | [], _ => simp
     | [x], _ => simp
     | _ :: _ :: _, h => simp at h; omega
   · rw [distF_eq l hl, unF_mrg]
     have h1 := ih (l.take (l.length / 2)) (by simp; omega)
     have h2 := ih (l.drop (l.length / 2)) (by simp; omega)
     refine ⟨mrg_sorted _ _ h1.1 h2.1, fun z => ?_⟩
     rw [mrg_mem, h1.2, h2.2, ← List.mem_append, List.take_append_drop]
theorem distF_sorted (l : List S) : (distF l).Pairwise ltS := (distF_ok _ l (Nat.le_refl _)).1
theorem distF_mem (l : List S) (z : S) : z ∈ distF l ↔ z ∈ l := (distF_ok _ l (Nat.le_refl _)).2 z
theorem unord_of_sorted : ∀ l : List S, l.Pairwise ltS → unord l = false
 | [], _ => rfl
 | [_], _ => rfl
 | a :: b :: r, h => by
   rw [List.pairwise_cons] at h
   have h1 := h.1 b (by simp)
   have h2 := ltS_asymm h1
   have h3 : b ≠ a := fun e => ltS_irrefl a (e ▸ h1)
   simp only [ltS, Bool.not_eq_true] at h2
   simp [unord, leS, h2, h3, unord_of_sorted (b :: r) h.2]
theorem idxGo_ok (d : List S) (w : S) (hd : d.Pairwise ltS) : ∀ f a b, b ≤ d.length → b - a ≤ f → a ≤ b → (∀ i (h : i < d.length), i < a → ltS d[i] w) → (∀ i (h : i < d.length), b ≤ i → ¬ ltS d[i] w) →
   idxGo d w f a b ≤ b ∧ (∀ i (h : i < d.length), i < idxGo d w f a b → ltS d[i] w) ∧ (∀ i (h : i < d.length), idxGo d w f a b ≤ i → ¬ ltS d[i] w)
 | 0, a, b, h0, h1, h2, h3, h4 => by
   have : a = b := by omega
   subst this
   exact ⟨Nat.le_refl _, h3, h4⟩
 | f + 1, a, b, h0, h1, h2, h3, h4 => by
   have hp := List.pairwise_iff_getElem.1 hd
   rw [idxGo]
   by_cases hab : a < b
   · rw [if_pos hab]
     have hm : (a + b) / 2 < d.length := by omega
     rw [getD_of hm]
     by_cases c : Op.bytesLess d[(a + b) / 2] w = true
     · rw [if_pos c]
       refine idxGo_ok d w hd f _ b h0 (by omega) (by omega) (fun i h hi => ?_) h4
       by_cases e : i = (a + b) / 2
       · subst e; exact c
       · exact ltS_trans (hp i _ h hm (by omega)) c
     · rw [if_neg c]
       have := idxGo_ok d w hd f a ((a + b) / 2) (by omega) (by omega) (by omega) h3 (fun i h hi hlt => ?_)
       · exact ⟨by omega, this.2⟩
       · by_cases e : i = (a + b) / 2
         · subst e; exact c hlt
         · exact c (ltS_trans (hp _ i hm h (by omega)) hlt)
   · rw [if_neg hab]
     have : a = b := by omega
     subst this
     exact ⟨Nat.le_refl _, h3, h4⟩
theorem idxF_get (d : List S) (w : S) (hd : d.Pairwise ltS) (hw : w ∈ d) : d[idxF d w]? = some w ∧ idxF d w < d.length := by
 obtain ⟨h1, h2, h3⟩ := idxGo_ok d w hd d.length 0 d.length (Nat.le_refl _) (by omega) (by omega) (fun i h hi => by omega) (fun i h hi => by omega)
 obtain ⟨p, hp, rfl⟩ := List.getElem_of_mem hw
 have hr : idxGo d d[p] d.length 0 d.length = p := by
   rcases Nat.lt_trichotomy (idxGo d d[p] d.length 0 d.length) p with h | h | h
   · exact absurd (List.pairwise_iff_getElem.1 hd _ _ (by omega) hp h) (h3 _ (by omega) (Nat.le_refl _))
   · exact h
   · exact absurd (h2 p hp h) (ltS_irrefl _)
 unfold idxF
 rw [hr]
 exact ⟨List.getElem?_eq_getElem hp, hp⟩
end Go.Proofs.YtceeklfmlheofaaGreat
