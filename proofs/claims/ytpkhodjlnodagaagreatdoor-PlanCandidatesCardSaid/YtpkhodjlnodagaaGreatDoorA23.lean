/- Part 23 of the proof of PlanCandidates. -/
import Derived.Test.YtpkhodjlnodagaaGreatDoorA14
import Derived.Test.YtpkhodjlnodagaaGreatDoorA22
set_option linter.unusedSimpArgs false
set_option linter.unusedVariables false
set_option linter.unusedSectionVars false
namespace Go.Proofs.YtpkhodjlnodagaaGreatDoor
open Go.Av
set_option maxHeartbeats 4000000
set_option maxRecDepth 10000
attribute [local irreducible] XH XO Ad Af A0
def KX(c:Nat):Nat:=if c%2=1 then(c / 2) ^^^ 3988292384 else c / 2
def J5(c:Nat):Nat→Nat
 |0=>c
 |k+1=>KX (J5 c k)
def Pk(c:Nat)(b:UInt8):Nat:=J5 (c ^^^ b.toNat) 8
def Gk(l:List UInt8):Nat:=l.foldl Pk 4294967295
def Dm(l:List UInt8):Nat:=4294967295-Gk l
theorem LB(a b:Nat)(ha:a<2^32)(hb:b<2^32):AN .xor .u32 (a:Int) (b:Int)=((a ^^^ b:Nat):Int):=by
 simp only[AN]
 have e:IntKind.u32.bits=32:=rfl
 rw[BitVec.toNat_xor,BitVec.ofInt_natCast,BitVec.ofInt_natCast,BitVec.toNat_ofNat,BitVec.toNat_ofNat,e,Nat.mod_eq_of_lt ha,Nat.mod_eq_of_lt hb]
 have:=Nat.xor_lt_two_pow ha hb
 exact IntWalk.u32_in _ (by omega)
theorem Aeu(a b:Nat)(ha:a<2^32)(hb:b<2^32):AN .and .u32 (a:Int) (b:Int)=((a &&& b:Nat):Int):=by
 simp only[AN]
 have e:IntKind.u32.bits=32:=rfl
 rw[BitVec.toNat_and,BitVec.ofInt_natCast,BitVec.ofInt_natCast,BitVec.toNat_ofNat,BitVec.toNat_ofNat,e,Nat.mod_eq_of_lt ha,Nat.mod_eq_of_lt hb]
 have:=Nat.and_lt_two_pow a hb
 exact IntWalk.u32_in _ (by omega)
theorem S7(a:Nat)(ha:a<2^32):AN .and .u32 (a:Int) 1=((a%2:Nat):Int):=by
 rw[show(1:Int)=((1:Nat):Int)from rfl,Aeu a 1 ha (by decide),Nat.and_one_is_mod]
theorem fdN(a m:Nat):((a:Int)).fdiv (2^m)=((a / 2^m:Nat):Int):=by
 rw[Int.fdiv_eq_ediv_of_nonneg _ (by exact_mod_cast Nat.zero_le _)]
 push_cast;rfl
theorem fdM(a m w:Nat)(h:m≤w):((a:Int)).fdiv (2^min m w)=((a / 2^m:Nat):Int):=by
 rw[Nat.min_eq_left h,fdN]
theorem Aa1{c:Nat}(h:c<2^32):KX c<2^32:=by
 unfold KX
 split
 · exact Nat.xor_lt_two_pow (by omega) (by decide)
 · omega
theorem MK{c:Nat}(h:c<2^32): ∀ k,J5 c k<2^32
 |0=>h
 |k+1=>Aa1 (MK h k)
theorem Aa6{c:Nat}(h:c<2^32)(b:UInt8):Pk c b<2^32:=MK (Nat.xor_lt_two_pow h (Nat.lt_of_lt_of_le b.toNat_lt (by decide))) 8
theorem Uy: ∀ (l:List UInt8) (c:Nat),c<2^32→l.foldl Pk c<2^32
 | [],c,h=>h
 |b::l,c,h=>by rw[List.foldl_cons];exact Uy l _ (Aa6 h b)
theorem UJ(l:List UInt8):Gk l<2^32:=Uy l _ (by decide)
theorem HQ(l:List UInt8):Dm l<2^32:=by unfold Dm;omega
theorem W6(l:List UInt8)(i:Nat)(x:UInt8)(h:l[i]? =some x):Gk (l.take (i+1))=Pk (Gk (l.take i)) x:=by
 rw[List.take_add_one,h]
 simp[Gk,List.foldl_append]
theorem Afr{c:Nat}(h:c%2=1):KX c=(c / 2) ^^^ 3988292384:=by rw[KX,if_pos h]
theorem Afk{c:Nat}(h: ¬ c%2=1):KX c=c / 2:=by rw[KX,if_neg h]
theorem Aau(c:Nat)(h:c<2^32):AN .xor .u32 (if IntKind.u32.signed=true then-1 else IntKind.u32.max) (c:Int)=((4294967295-c:Nat):Int):=by
 rw[show(if IntKind.u32.signed=true then-1 else IntKind.u32.max:Int)=((4294967295:Nat):Int)from by decide,LB _ _ (by decide) h]
 have:4294967295 ^^^ c=4294967295-c:=by
   have h2:=BitVec.toNat_not (x:=BitVec.ofNat 32 c)
   have h3:(~~~ (BitVec.ofNat 32 c))=BitVec.ofNat 32 4294967295 ^^^ BitVec.ofNat 32 c:=by
     rw[show BitVec.ofNat 32 4294967295=BitVec.allOnes 32 from by decide,BitVec.allOnes_xor]
   rw[h3,BitVec.toNat_xor,BitVec.toNat_ofNat,BitVec.toNat_ofNat,Nat.mod_eq_of_lt (by decide),Nat.mod_eq_of_lt (by omega)]at h2
   omega
 rw[this]
theorem Aft(l:List UInt8)(hl:l.length≤2^40):Ad Tryz.prog 23 [.sl 1 (Ab l)] (fun r=>r=U32 (Dm l)):=by
 all_goals refine Nl 33 (fn:=Tryz.f23) Tryz.func23 rfl rfl rfl (by simp) rfl ?_
 all_goals try refine Aa 0 [0] ?_
 all_goals try refine Aa 1 [0,3] ?_
 all_goals try refine Aa 2 [0,3,4] ?_
 all_goals try(refine AX 0 (fun s:Nat×Nat=>⟨[(0,.sl 1 (Ab l)),(3,U32 s.2),(4,I s.1)],[]⟩) (fun s=>s.1≤l.length∧s.2=Gk (l.take s.1)) (fun s=>l.length-s.1) (0,4294967295) ⟨[],[],⟨by simp[Al],by simp[Al],by first|(simp;done)|rfl⟩,by simp,by first|(simp[AR,lk,lkh,I,str,B,U8,U64,U32];done)|(simp[AR,lk,lkh,I,str,B,U8,U64,U32];omega),by first|(simp[Am,Ai,Aj,lkh];done)|simp[Am,Ai,Aj,lkh,I,str]⟩ ?_ (h0:=⟨by simp,by simp[Gk]⟩);rintro⟨i,c⟩ hI0 Y0 hY0;simp only at hI0)
 all_goals try(refine XW.at 3 ?_;obtain⟨m1,rfl⟩:=hI0;have hlt:=UJ (l.take i))
 all_goals try refine Aa 3 [0,3,4,9] ?_
 all_goals try first|refine Cd 9 ?_|refine AM 9 ?_|refine Az 9 (fun c9=>?_) (fun c9=>?_)|refine By 9 (fun c9=>?_) (fun c9=>?_)
 all_goals try(exfalso;omega)
 all_goals try(refine XW.at 5 ?_;obtain⟨x,hx2,_⟩:=Bd l i (by omega);have hb:=x.toNat_lt;have hx:=LB (Gk (l.take i)) x.toNat hlt (by omega);have hs:=W6 l i x hx2;have hc2:=Nat.xor_lt_two_pow hlt (show x.toNat<2^32 by omega);have hx3:=Pa (n:=(x.toNat:Int)) (by omega))
 all_goals try refine Ba 5 [0,3,4] ?_
 all_goals try refine Aa 6 [0,3,4,5] ?_
 all_goals try(refine AX 0 (fun s:Nat×Nat=>⟨[(0,.sl 1 (Ab l)),(3,U32 s.2),(4,I i),(5,I s.1)],[]⟩) (fun s=>s.1≤8∧s.2=J5 (Gk (l.take i) ^^^ x.toNat) s.1) (fun s=>8-s.1) (0,Gk (l.take i) ^^^ x.toNat) ⟨[],[],⟨by simp[Al],by simp[Al],by first|(simp;done)|rfl⟩,by simp,by first|(simp[AR,lk,lkh,I,str,B,U8,U64,U32];done)|(simp[AR,lk,lkh,I,str,B,U8,U64,U32];omega),by first|(simp[Am,Ai,Aj,lkh];done)|simp[Am,Ai,Aj,lkh,I,str]⟩ ?_ (h0:=⟨by simp,rfl⟩);rintro⟨j,c⟩ hI1 Y1 hY1;simp only at hI1)
 all_goals try(refine XW.at 7 ?_;obtain⟨n1,rfl⟩:=hI1;have h3:=MK hc2 j;generalize hcc:J5 (Gk (List.take i l) ^^^ x.toNat) j=c3 at*)
 all_goals try refine Aa 7 [0,3,4,5,20] ?_
 all_goals try first|refine Cd 20 ?_|refine AM 20 ?_|refine Az 20 (fun c20=>?_) (fun c20=>?_)|refine By 20 (fun c20=>?_) (fun c20=>?_)
 all_goals try(exfalso;omega)
 all_goals try(refine XW.at 9 ?_;have hx:=S7 c3 h3)
 all_goals try refine Ba 9 [0,3,4,5,25] ?_
 all_goals try first|refine Cd 25 ?_|refine AM 25 ?_|refine Az 25 (fun c25=>?_) (fun c25=>?_)|refine By 25 (fun c25=>?_) (fun c25=>?_)
 all_goals try(exfalso;omega)
 all_goals try(refine XW.at 10 ?_;have hx:(c3:Int).fdiv (2^min 1 32)=((c3 / 2:Nat):Int):=fdM c3 1 32 (by decide);have hx2:AN .xor .u32 ((c3 / 2:Nat):Int) 3988292384=_:=LB (c3 / 2) 3988292384 (by omega) (by decide))
 all_goals try refine Ba 10 [0,3,4,5] ?_
 all_goals try(refine XW.at 11 ?_;have hx:(c3:Int).fdiv (2^min 1 32)=((c3 / 2:Nat):Int):=fdM c3 1 32 (by decide))
 all_goals try refine Ba 11 [0,3,4,5] ?_
 all_goals try refine AJ 8 [0,3,4,5] ?_
 all_goals try(refine XH.le ?_;first|(refine hY1 (j+1,(c3 / 2) ^^^ 3988292384) ?_ ?_ _ _ ⟨[],[],⟨?_,?_,?_⟩,?_,?_,?_⟩;(next=>exact⟨by simp only;omega,by simp only;rw[J5,hcc,Afr (by omega)]⟩);(next=>first|omega|(simp;done)|(simp;omega));(next=>simp[Al]);(next=>simp[Al]);(next=>first|(simp;done)|rfl);(next=>simp);(next=>first|(simp[AR,lk,lkh,I,str,B,U8,U64,U32];done)|(simp[AR,lk,lkh,I,str,B,U8,U64,U32];omega));(next=>first|(simp[Am,Ai,Aj,lkh];done)|(simp[Am,Ai,Aj,lkh,I,str];done)))|(refine hY1 (j+1,c3 / 2) ?_ ?_ _ _ ⟨[],[],⟨?_,?_,?_⟩,?_,?_,?_⟩;(next=>exact⟨by simp only;omega,by simp only;rw[J5,hcc,Afk (by omega)]⟩);(next=>first|omega|(simp;done)|(simp;omega));(next=>simp[Al]);(next=>simp[Al]);(next=>first|(simp;done)|rfl);(next=>simp);(next=>first|(simp[AR,lk,lkh,I,str,B,U8,U64,U32];done)|(simp[AR,lk,lkh,I,str,B,U8,U64,U32];omega));(next=>first|(simp[Am,Ai,Aj,lkh];done)|(simp[Am,Ai,Aj,lkh,I,str];done))))
 all_goals try refine AJ 4 [0,3,4] ?_
 all_goals try(refine XH.le ?_;first|(exact hY0 (i+1,c3) (⟨by simp only;omega,by simp only;rw[hs,Pk,← hcc,show j=8 by omega]⟩) (by first|omega|(simp;done)|(simp;omega)) _ _ ⟨[],[],⟨by simp[Al],by simp[Al],by first|(simp;done)|rfl⟩,by simp,by first|(simp[AR,lk,lkh,I,str,B,U8,U64,U32];done)|(simp[AR,lk,lkh,I,str,B,U8,U64,U32];omega),by first|(simp[Am,Ai,Aj,lkh];done)|simp[Am,Ai,Aj,lkh,I,str]⟩))
 all_goals try(refine XW.at 12 ?_;obtain rfl:i=l.length:=(by omega);rw[List.take_length]at*;have hx:=Aau _ hlt)
 all_goals try refine Bl 12 [2] ?_
 all_goals try(refine Ap ?_;first|(exact BT rfl)|fail)
end Go.Proofs.YtpkhodjlnodagaaGreatDoor
