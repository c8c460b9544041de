/- Part 23 of the proof of PlanSkipsOnlyWhatCannotMatch. -/
import Derived.Test.YtpkhodjlnodagaaGreatDoorB14
import Derived.Test.YtpkhodjlnodagaaGreatDoorB22
set_option linter.unusedSimpArgs false
set_option linter.unusedVariables false
set_option linter.unusedSectionVars false
namespace Go.Proofs.YtpkhodjlnodagaaGreatDoor
open Go.Av
set_option maxHeartbeats 4000000
set_option maxRecDepth 10000
attribute [local irreducible] XH XO Ae Ad AU
def KK(c:Nat):Nat:=if c%2=1 then(c / 2) ^^^ 3988292384 else c / 2
def Kh(c:Nat):Nat→Nat
 |0=>c
 |k+1=>KK (Kh c k)
def PC(c:Nat)(b:UInt8):Nat:=Kh (c ^^^ b.toNat) 8
def Gn(l:List UInt8):Nat:=l.foldl PC 4294967295
def Dq(l:List UInt8):Nat:=4294967295-Gn l
theorem LF(a b:Nat)(ha:a<2^32)(hb:b<2^32):AP .xor .u32 (a:Int) (b:Int)=((a ^^^ b:Nat):Int):=by
 simp only[AP]
 have e:IntKind.u32.bits=32:=rfl
 rw[BitVec.toNat_xor,BitVec.ofInt_natCast,BitVec.ofInt_natCast,BitVec.toNat_ofNat,BitVec.toNat_ofNat,e,Nat.mod_eq_of_lt ha,Nat.mod_eq_of_lt hb]
 have:=Nat.xor_lt_two_pow ha hb
 exact IntWalk.u32_in _ oM
theorem AeK(a b:Nat)(ha:a<2^32)(hb:b<2^32):AP .and .u32 (a:Int) (b:Int)=((a &&& b:Nat):Int):=by
 simp only[AP]
 have e:IntKind.u32.bits=32:=rfl
 rw[BitVec.toNat_and,BitVec.ofInt_natCast,BitVec.ofInt_natCast,BitVec.toNat_ofNat,BitVec.toNat_ofNat,e,Nat.mod_eq_of_lt ha,Nat.mod_eq_of_lt hb]
 have:=Nat.and_lt_two_pow a hb
 exact IntWalk.u32_in _ oM
theorem UG(a:Nat)(ha:a<2^32):AP .and .u32 (a:Int) 1=((a%2:Nat):Int):=by
 rw[show(1:Int)=((1:Nat):Int)from rfl,AeK a 1 ha dC,Nat.and_one_is_mod]
theorem fdN(a m:Nat):((a:Int)).fdiv (2^m)=((a / 2^m:Nat):Int):=by
 rw[Int.fdiv_eq_ediv_of_nonneg _ (by exact_mod_cast Nat.zero_le _)]
 push_cast;rfl
theorem fdM(a m w:Nat)(h:m≤w):((a:Int)).fdiv (2^min m w)=((a / 2^m:Nat):Int):=by
 rw[Nat.min_eq_left h,fdN]
theorem Ace{c:Nat}(h:c<2^32):KK c<2^32:=by
 unfold KK
 split
 · exact Nat.xor_lt_two_pow oM dC
 · omega
theorem MI{c:Nat}(h:c<2^32): ∀ k,Kh c k<2^32
 |0=>h
 |k+1=>Ace (MI h k)
theorem Adl{c:Nat}(h:c<2^32)(b:UInt8):PC c b<2^32:=MI (Nat.xor_lt_two_pow h (Nat.lt_of_lt_of_le b.toNat_lt dC)) 8
theorem Vd: ∀ (l:List UInt8) (c:Nat),c<2^32→l.foldl PC c<2^32
 | [],c,h=>h
 |b::l,c,h=>by rw[List.foldl_cons];exact Vd l _ (Adl h b)
theorem TQ(l:List UInt8):Gn l<2^32:=Vd l _ dC
theorem H4(l:List UInt8):Dq l<2^32:=by unfold Dq;omega
theorem Wy(l:List UInt8)(i:Nat)(x:UInt8)(h:l[i]? =some x):Gn (l.take (i+1))=PC (Gn (l.take i)) x:=by
 rw[List.take_add_one,h]
 simp[Gn,List.foldl_append]
theorem Ag0{c:Nat}(h:c%2=1):KK c=(c / 2) ^^^ 3988292384:=by rw[KK,if_pos h]
theorem Ahd{c:Nat}(h: ¬ c%2=1):KK c=c / 2:=by rw[KK,if_neg h]
theorem AbW(c:Nat)(h:c<2^32):AP .xor .u32 (if IntKind.u32.signed=true then-1 else IntKind.u32.max) (c:Int)=((4294967295-c:Nat):Int):=by
 rw[show(if IntKind.u32.signed=true then-1 else IntKind.u32.max:Int)=((4294967295:Nat):Int)from by decide,LF _ _ dC h]
 have:4294967295 ^^^ c=4294967295-c:=by
   have h2:=BitVec.toNat_not (x:=BitVec.ofNat 32 c)
   have h3:(~~~ (BitVec.ofNat 32 c))=BitVec.ofNat 32 4294967295 ^^^ BitVec.ofNat 32 c:=by
     rw[show BitVec.ofNat 32 4294967295=BitVec.allOnes 32 from by decide,BitVec.allOnes_xor]
   rw[h3,BitVec.toNat_xor,BitVec.toNat_ofNat,BitVec.toNat_ofNat,Nat.mod_eq_of_lt dC,Nat.mod_eq_of_lt oM]at h2
   omega
 rw[this]
theorem Ag4(l:List UInt8)(hl:l.length≤2^40):Ae Tryz.prog 23 [.sl 1 (Ab l)] (fun r=>r=U32 (Dq l)):=by
 all_goals refine NX 33 (fn:=Tryz.f23) Tryz.func23 rfl rfl rfl sP rfl ?_
 all_goals try refine Aa 0 [0] ?_
 all_goals try refine Aa 1 [0,3] ?_
 all_goals try refine Aa 2 [0,3,4] ?_
 all_goals try(refine A8 0 (fun s:Nat×Nat=>⟨[(0,.sl 1 (Ab l)),(3,U32 s.2),(4,I s.1)],[]⟩) (fun s=>s.1≤l.length∧s.2=Gn (l.take s.1)) (fun s=>l.length-s.1) (0,4294967295) ⟨[],[],⟨by simp[Al],by simp[Al],by first|(simp;done)|rfl⟩,sP,by first|(simp[AK,lk,lkh,I,str,B,U8,U64,U32];done)|(simp[AK,lk,lkh,I,str,B,U8,U64,U32];omega),by first|(simp[Am,Ai,Ak,lkh];done)|simp[Am,Ai,Ak,lkh,I,str]⟩ ?_ (h0:=⟨sP,by simp[Gn]⟩);rintro⟨i,c⟩ hI0 Y0 hY0;simp only at hI0)
 all_goals try(refine XW.at 3 ?_;obtain⟨m1,rfl⟩:=hI0;have hlt:=TQ (l.take i))
 all_goals try refine Aa 3 [0,3,4,9] ?_
 all_goals try first|refine CF 9 ?_|refine A3 9 ?_|refine AC 9 (fun c9=>?_) (fun c9=>?_)|refine Bx 9 (fun c9=>?_) (fun c9=>?_)
 all_goals try(exfalso;omega)
 all_goals try(refine XW.at 5 ?_;obtain⟨x,hx2,_⟩:=Bm l i oM;have hb:=x.toNat_lt;have hx:=LF (Gn (l.take i)) x.toNat hlt oM;have hs:=Wy l i x hx2;have hc2:=Nat.xor_lt_two_pow hlt (show x.toNat<2^32 by omega);have hx3:=PI (n:=(x.toNat:Int)) oM)
 all_goals try refine A4 5 [0,3,4] ?_
 all_goals try refine Aa 6 [0,3,4,5] ?_
 all_goals try(refine A8 0 (fun s:Nat×Nat=>⟨[(0,.sl 1 (Ab l)),(3,U32 s.2),(4,I i),(5,I s.1)],[]⟩) (fun s=>s.1≤8∧s.2=Kh (Gn (l.take i) ^^^ x.toNat) s.1) (fun s=>8-s.1) (0,Gn (l.take i) ^^^ x.toNat) ⟨[],[],⟨by simp[Al],by simp[Al],by first|(simp;done)|rfl⟩,sP,by first|(simp[AK,lk,lkh,I,str,B,U8,U64,U32];done)|(simp[AK,lk,lkh,I,str,B,U8,U64,U32];omega),by first|(simp[Am,Ai,Ak,lkh];done)|simp[Am,Ai,Ak,lkh,I,str]⟩ ?_ (h0:=⟨sP,rfl⟩);rintro⟨j,c⟩ hI1 Y1 hY1;simp only at hI1)
 all_goals try(refine XW.at 7 ?_;obtain⟨n1,rfl⟩:=hI1;have h3:=MI hc2 j;generalize hcc:Kh (Gn (List.take i l) ^^^ x.toNat) j=c3 at*)
 all_goals try refine Aa 7 [0,3,4,5,20] ?_
 all_goals try first|refine CF 20 ?_|refine A3 20 ?_|refine AC 20 (fun c20=>?_) (fun c20=>?_)|refine Bx 20 (fun c20=>?_) (fun c20=>?_)
 all_goals try(exfalso;omega)
 all_goals try(refine XW.at 9 ?_;have hx:=UG c3 h3)
 all_goals try refine A4 9 [0,3,4,5,25] ?_
 all_goals try first|refine CF 25 ?_|refine A3 25 ?_|refine AC 25 (fun c25=>?_) (fun c25=>?_)|refine Bx 25 (fun c25=>?_) (fun c25=>?_)
 all_goals try(exfalso;omega)
 all_goals try(refine XW.at 10 ?_;have hx:(c3:Int).fdiv (2^min 1 32)=((c3 / 2:Nat):Int):=fdM c3 1 32 dC;have hx2:AP .xor .u32 ((c3 / 2:Nat):Int) 3988292384=_:=LF (c3 / 2) 3988292384 oM dC)
 all_goals try refine A4 10 [0,3,4,5] ?_
 all_goals try(refine XW.at 11 ?_;have hx:(c3:Int).fdiv (2^min 1 32)=((c3 / 2:Nat):Int):=fdM c3 1 32 dC)
 all_goals try refine A4 11 [0,3,4,5] ?_
 all_goals try refine AQ 8 [0,3,4,5] ?_
 all_goals try(refine XH.le ?_;first|(refine hY1 (j+1,(c3 / 2) ^^^ 3988292384) ?_ ?_ _ _ ⟨[],[],⟨?_,?_,?_⟩,?_,?_,?_⟩;(next=>exact⟨by simp only;omega,by simp only;rw[Kh,hcc,Ag0 oM]⟩);(next=>first|omega|(simp;done)|(simp;omega));(next=>simp[Al]);(next=>simp[Al]);(next=>first|(simp;done)|rfl);(next=>simp);(next=>first|(simp[AK,lk,lkh,I,str,B,U8,U64,U32];done)|(simp[AK,lk,lkh,I,str,B,U8,U64,U32];omega));(next=>first|(simp[Am,Ai,Ak,lkh];done)|(simp[Am,Ai,Ak,lkh,I,str];done)))|(refine hY1 (j+1,c3 / 2) ?_ ?_ _ _ ⟨[],[],⟨?_,?_,?_⟩,?_,?_,?_⟩;(next=>exact⟨by simp only;omega,by simp only;rw[Kh,hcc,Ahd oM]⟩);(next=>first|omega|(simp;done)|(simp;omega));(next=>simp[Al]);(next=>simp[Al]);(next=>first|(simp;done)|rfl);(next=>simp);(next=>first|(simp[AK,lk,lkh,I,str,B,U8,U64,U32];done)|(simp[AK,lk,lkh,I,str,B,U8,U64,U32];omega));(next=>first|(simp[Am,Ai,Ak,lkh];done)|(simp[Am,Ai,Ak,lkh,I,str];done))))
 all_goals try refine AQ 4 [0,3,4] ?_
 all_goals try(refine XH.le ?_;first|(exact hY0 (i+1,c3) (⟨by simp only;omega,by simp only;rw[hs,PC,← hcc,show j=8 by omega]⟩) (by first|omega|(simp;done)|(simp;omega)) _ _ ⟨[],[],⟨by simp[Al],by simp[Al],by first|(simp;done)|rfl⟩,sP,by first|(simp[AK,lk,lkh,I,str,B,U8,U64,U32];done)|(simp[AK,lk,lkh,I,str,B,U8,U64,U32];omega),by first|(simp[Am,Ai,Ak,lkh];done)|simp[Am,Ai,Ak,lkh,I,str]⟩))
 all_goals try(refine XW.at 12 ?_;obtain rfl:i=l.length:=oM;rw[List.take_length]at*;have hx:=AbW _ hlt)
 all_goals try refine BJ 12 [2] ?_
 all_goals try(refine Aq ?_;first|(exact Bi rfl)|fail)
end Go.Proofs.YtpkhodjlnodagaaGreatDoor
