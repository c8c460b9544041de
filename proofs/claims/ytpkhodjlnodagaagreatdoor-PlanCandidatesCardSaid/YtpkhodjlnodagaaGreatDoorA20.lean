/- Part 20 of the proof of PlanCandidates. -/
import Derived.Test.YtpkhodjlnodagaaGreatDoorA19
set_option linter.unusedSimpArgs false
set_option linter.unusedVariables false
set_option linter.unusedSectionVars false
namespace Go.Proofs.YtpkhodjlnodagaaGreatDoor
open Go.Av
set_option maxHeartbeats 4000000
attribute [local irreducible] Af
theorem AfP(b:List UInt8):Af Tryz.prog 187 [.osl 0 b.length 1,.sl 1 []] [some ⟨5,1,Ab b⟩] (.osl 0 b.length 1) [some ⟨5,1,Ab b⟩]:=by
 refine acN 83 1 Tryz.func187 fun C hN hk=>?_
 have e1:((([]:List (List AV)).length:Int)==0)=true:=by decide
 refine Dh [0,1] ?_ noc [0]
 have F:=e1;refine BA [0,1,16] ?_ noc [0];clear F
 refine cT ?_;refine Dh [4] ?_ noc [0]
 exact AW.ret (BX trivial [some 0] [])
theorem UO(v:List Int)(h0:v=[]):
   Af Tryz.prog 130 [I 3,.sl 1 (Ak v)] [] (.tup [.osl 0 (E6 v).length 1,I 0]) [some ⟨5,1,Ab (E6 v)⟩]:=by
 have hl:v.length≤16384:=by rw[h0];simp
 have hpf:EL v=[]:=by unfold EL;rw[h0];rfl
 refine acN 95 0 Tryz.func130 fun C hN hk=>?_
 have a1:decide ((3:Int)<0)=false:=by decide
 have a2:decide ((3:Int)>3)=false:=by decide
 have a3:decide ((v.length:Int)>16384)=false:=by simp;omega
 have a4:IntKind.u8.wrap (3:Int)=3:=by decide
 have a5:IntKind.u64.wrap (v.length:Int)=v.length:=IntWalk.u64_in _ (by omega)
 have a6:((3:Int)==3)=true:=by decide
 have a7:((3:Int)==2)=false:=by decide
 have a8:((3:Int)==1)=false:=by decide
 have q1:=C7 [UInt8.ofNat 3] v.length (by omega) (by simp)
 refine Dh [0,1] ?_
 have F:=And.intro a1 a2;refine BA [0,1,14] ?_;clear F
 refine Ar rfl (AW.skip (Aw ?_))
 have F:=a3;refine BA [0,1,17] ?_;clear F
 refine Ar rfl (AW.skip (Aw ?_))
 have F:=And.intro a4 a5;refine BA [0,1,6] ?_ (onc 6 (oc 16 ⟨5,1,Ab [UInt8.ofNat 3]⟩ [.osl 0 [UInt8.ofNat 3].length 1,U64 v.length] (.osl 1 ([UInt8.ofNat 3]++An v.length).length 1) [none,some ⟨5,1,Ab ([UInt8.ofNat 3]++An v.length)⟩]) noc) (hp:=by exact⟨by simp,DJ q1 rfl (by simp) (by simp) rfl (by simp) (by simp) rfl⟩);clear F
 rw[show(An v.length).length+1=(BD 3 v).length from rfl,show UInt8.ofNat 3::An v.length=BD 3 v from rfl]
 clear q1
 have F:=a6;refine BA [0,1,6,26] ?_;clear F
 refine cT ?_
 have q2:=AfP (BD 3 v)
 unfold E6
 rw[hpf,List.append_nil]
 rw[show Ak v=[] by rw[h0];rfl]
 generalize BD 3 v=o at*
 refine Dh [4,5] ?_ (onc 2 (oc 0 ⟨5,1,Ab o⟩ [.osl 0 o.length 1,.sl 1 []] (.osl 0 o.length 1) [some ⟨5,1,Ab o⟩]) noc) (hp:=by exact DJ q2 rfl (by simp) (by simp) rfl (by simp) (by simp) rfl)
 exact AW.ret (BX trivial [some 0] [])
def C6(v:List Int):Nat→Nat→Nat
 |0,i=>i
 |f+1,i=>if i+1<v.length∧v.getD (i+1) 0=v.getD i 0 then C6 v f (i+1)else i
theorem JP(v:List Int): ∀ f i,i<v.length→i≤C6 v f i∧C6 v f i<v.length
 |0,i,h=>⟨Nat.le_refl _,h⟩
 |f+1,i,h=>by
   rw[C6]
   split
   · next hh=>have:=JP v f (i+1) hh.1;omega
   · exact⟨Nat.le_refl _,h⟩
def ruG(v:List Int):Nat→Nat→List UInt8
 |0,_=>[]
 |f+1,i=>if i<v.length then Be (v.getD (C6 v (v.length-i) i) 0)++An (C6 v (v.length-i) i-i+1)++ruG v f (C6 v (v.length-i) i+1)else []
def FA(v:List Int):List UInt8:=BD 2 v++ruG v v.length 0
theorem Acr(v:List Int)(hl:v.length≤16384):
   Af Tryz.prog 130 [I 2,.sl 1 (Ak v)] [] (.tup [.osl 0 (FA v).length 1,I 0]) [some ⟨5,1,Ab (FA v)⟩]:=by
 refine acN 95 0 Tryz.func130 fun C hN hk=>?_
 have a1:decide ((2:Int)<0)=false:=by decide
 have a2:decide ((2:Int)>3)=false:=by decide
 have a3:decide ((v.length:Int)>16384)=false:=by simp;omega
 have a4:IntKind.u8.wrap (2:Int)=2:=by decide
 have a5:IntKind.u64.wrap (v.length:Int)=v.length:=IntWalk.u64_in _ (by omega)
 have a6:((2:Int)==3)=false:=by decide
 have a7:((2:Int)==2)=true:=by decide
 have a8:((2:Int)==1)=false:=by decide
 have q1:=C7 [UInt8.ofNat 2] v.length (by omega) (by simp)
 refine Dh [0,1] ?_
 have F:=And.intro a1 a2;refine BA [0,1,14] ?_;clear F
 refine Ar rfl (AW.skip (Aw ?_))
 have F:=a3;refine BA [0,1,17] ?_;clear F
 refine Ar rfl (AW.skip (Aw ?_))
 have F:=And.intro a4 a5;refine BA [0,1,6] ?_ (onc 6 (oc 16 ⟨5,1,Ab [UInt8.ofNat 2]⟩ [.osl 0 [UInt8.ofNat 2].length 1,U64 v.length] (.osl 1 ([UInt8.ofNat 2]++An v.length).length 1) [none,some ⟨5,1,Ab ([UInt8.ofNat 2]++An v.length)⟩]) noc) (hp:=by exact⟨by simp,DJ q1 rfl (by simp) (by simp) rfl (by simp) (by simp) rfl⟩);clear F
 rw[show(An v.length).length+1=(BD 2 v).length from rfl,show UInt8.ofNat 2::An v.length=BD 2 v from rfl]
 clear q1
 have F:=a6;refine BA [0,1,6,26] ?_;clear F
 refine Ar rfl (AW.skip (Aw ?_))
 refine Dh [0,1,6,7] ?_
 have hhl:=Fw 2 v
 refine Bw hk 1 (fun a:Nat×List UInt8=>⟨[(0,I 2),(1,.sl 1 (Ak v)),(6,.osl 0 a.2.length 1),(7,I a.1)],[(0,some ⟨5,1,Ab a.2⟩)]⟩) (fun a=>a.1≤v.length∧a.2.length≤12+a.1*22∧ ∃ f,v.length-a.1≤f∧a.2++ruG v f a.1=FA v) (fun a=>v.length-a.1) (0,BD 2 v) ⟨by omega,by simp only;omega,v.length,by simp,rfl⟩ (Bk trivial [some 0] []) ?_
 rintro⟨i,o⟩ ⟨h1,h2,f,h3,h4⟩
 simp only at h1 h2 h3 h4 ⊢
 by_cases hi:i<v.length
 · have b1:decide ((i:Int)<v.length)=true:=by simp;omega
   obtain⟨f,rfl⟩: ∃ f',f=f'+1:=⟨f-1,by omega⟩
   rw[ruG,if_pos hi]at h4
   have F:=b1;refine BA [0,1,6,7,33] ?_;clear F
   refine AI rfl (AW.skip (Aw ?_))
   have F:=a7;refine BA [0,1,6,7,42] ?_;clear F
   refine cT ?_;refine Dh [0,1,6,7,8] ?_
   refine Bw hk 1 (fun j:Nat=>⟨[(0,I 2),(1,.sl 1 (Ak v)),(6,.osl 0 o.length 1),(7,I j),(8,I ((j-i+1:Nat):Int))],[(0,some ⟨5,1,Ab o⟩)]⟩) (fun j=>i≤j∧j<v.length∧C6 v (v.length-j) j=C6 v (v.length-i) i) (fun j=>v.length-j) i ⟨by omega,hi,rfl⟩ (Bk trivial [some 0] []) ?_
   rintro j ⟨g1,g2,g3⟩
   have hy:=List.getElem?_eq_getElem g2
   have hy2:v.getD j 0=v[j]:=by simp[List.getD,g2]
   have c1:=As (n:=(j:Int)+1) (by omega)
   rw[show v.length-j=(v.length-j-1)+1 by omega,C6]at g3
   by_cases hj:j+1<v.length
   · have hx:=List.getElem?_eq_getElem hj
     have hx2:v.getD (j+1) 0=v[j+1]:=by simp[List.getD,hj]
     have c2:decide ((j:Int)+1<v.length)=true:=by simp;omega
     have c3:((j:Int)+1).toNat=j+1:=by omega
     rw[hx2,hy2]at g3
     by_cases hxy:v[j+1]=v[j]
     · have c4:(v[j+1]==v[j])=true:=by simp[hxy]
       rw[if_pos ⟨hj,hxy⟩,show v.length-j-1=v.length- (j+1) by omega]at g3
       clear hy2 hx2
       generalize v[j+1]=x at*
       generalize v[j]=y at*
       have F:=And.intro hx (And.intro hy (And.intro c1 (And.intro c2 (And.intro c3 c4))));refine OV [0,1,6,7,8,61] ?_;clear F
       refine AI rfl (AW.skip (Aw ?_))
       have c5:=As (n:=((j-i+1:Nat):Int)+1) (by omega)
       have F:=c1;refine BA [0,1,6,7,8] ?_;clear F
       have F:=c5;refine BA [0,1,6,7,8] ?_;clear F
       exact⟨j+1,⟨by omega,hj,g3⟩,by omega,(Cy [some 0] [] (by simp[AR,wk,lk,I];omega) (by simp[Am,Ai,Aj,lkh]))⟩
     · have c4:(v[j+1]==v[j])=false:=by simp[hxy]
       rw[if_neg (fun h=>hxy h.2)]at g3
       clear hx2
       generalize v[j+1]=x at hx c4
       have F:=And.intro hx (And.intro hy (And.intro c1 (And.intro c2 (And.intro c3 c4))));refine OV [0,1,6,7,8,61] ?_;clear F
       clear c4 hx
       refine Ar rfl (AW.exit (A8 (A8 (BW (Aw ?_)))))
       rw[← g3,hy2]at h4
       clear hy2
       generalize v[j]=y at*
       have q2:=Kb o y (by omega)
       have hpl:=CV y
       have q3:=C7 (o++Be y) (j-i+1) (by omega) (by simp;omega)
       have hvl:=Bh (j-i+1)
       have c6:IntKind.u64.wrap ((j-i+1:Nat):Int)=((j-i+1:Nat):Int):=IntWalk.u64_in _ (by omega)
       generalize Be y=px at*
       generalize An (j-i+1)=vv at*
       refine nx ?_;refine rG hN hk (onc 5 (oc 0 ⟨5,1,Ab o⟩ [.osl 0 o.length 1,I y] (.osl 1 (o++px).length 1) [none,some ⟨5,1,Ab (o++px)⟩]) (onc 8 (oc 41 ⟨5,1,Ab (o++px)⟩ [.osl 0 (o++px).length 1,U64 ((j-i+1:Nat):Int)] (.osl 1 (o++px++vv).length 1) [none,some ⟨5,1,Ab (o++px++vv)⟩]) noc)) [] [0,1,6,7] fun K hK=>?_;simp only[go_sem,reduceIte,Nat.reduceAdd,Nat.reduceMul,Nat.reduceEqDiff,reduceCtorEq,Nat.reduceSub,Nat.reduceLeDiff,Nat.reducePow,hy,c6]
       refine⟨⟨DJ q2 rfl (by simp) (by simp) rfl (by simp) (by simp) rfl,DJ q3 rfl (by simp) (by simp) rfl (by simp) (by simp) rfl⟩,hK _ _ ?_⟩
       clear hK K;have F:=c1;refine BA [0,1,6,7] ?_;clear F
       exact⟨(j+1,o++px++vv),⟨by simp only;omega,by simp;omega,f,by simp only;omega,by simp only;rw[← h4];simp[List.append_assoc]⟩,by simp only;omega,(Bk trivial [some 0] [])⟩
   · have c2:decide ((j:Int)+1<v.length)=false:=by simp;omega
     rw[if_neg (fun h=>hj h.1)]at g3
     have F:=And.intro c1 c2;refine OV [0,1,6,7,8,61] ?_;clear F
     refine Ar rfl (AW.exit (A8 (A8 (BW (Aw ?_)))))
     rw[← g3,hy2]at h4
     clear hy2
     generalize v[j]=y at*
     have q2:=Kb o y (by omega)
     have hpl:=CV y
     have q3:=C7 (o++Be y) (j-i+1) (by omega) (by simp;omega)
     have hvl:=Bh (j-i+1)
     have c6:IntKind.u64.wrap ((j-i+1:Nat):Int)=((j-i+1:Nat):Int):=IntWalk.u64_in _ (by omega)
     generalize Be y=px at*
     generalize An (j-i+1)=vv at*
     refine nx ?_;refine rG hN hk (onc 5 (oc 0 ⟨5,1,Ab o⟩ [.osl 0 o.length 1,I y] (.osl 1 (o++px).length 1) [none,some ⟨5,1,Ab (o++px)⟩]) (onc 8 (oc 41 ⟨5,1,Ab (o++px)⟩ [.osl 0 (o++px).length 1,U64 ((j-i+1:Nat):Int)] (.osl 1 (o++px++vv).length 1) [none,some ⟨5,1,Ab (o++px++vv)⟩]) noc)) [] [0,1,6,7] fun K hK=>?_;simp only[go_sem,reduceIte,Nat.reduceAdd,Nat.reduceMul,Nat.reduceEqDiff,reduceCtorEq,Nat.reduceSub,Nat.reduceLeDiff,Nat.reducePow,hy,c6]
     refine⟨⟨DJ q2 rfl (by simp) (by simp) rfl (by simp) (by simp) rfl,DJ q3 rfl (by simp) (by simp) rfl (by simp) (by simp) rfl⟩,hK _ _ ?_⟩
     clear hK K;have F:=c1;refine BA [0,1,6,7] ?_;clear F
     exact⟨(j+1,o++px++vv),⟨by simp only;omega,by simp;omega,f,by simp only;omega,by simp only;rw[← h4];simp[List.append_assoc]⟩,by simp only;omega,(Bk trivial [some 0] [])⟩
 · have b1:decide ((i:Int)<v.length)=false:=by simp;omega
   have h5:FA v=o:=by
     rw[← h4]
     cases f with
     |zero=>simp[ruG]
     |succ f=>rw[ruG,if_neg hi,List.append_nil]
   rw[h5]
   have F:=b1;refine BA [6,33] ?_;clear F
   refine Ar rfl (AW.exit (A8 (A8 (BW (Aw ?_)))))
   refine Dh [4,5] ?_
   exact AW.ret (BX trivial [some 0] [])
def B7(v:List Int):Nat→List UInt8
 |0=>Cq v v.length
 |1=>B3 v v.length
 |2=>FA v
 |_=>E6 v
theorem Q0(v:List Int)(k:Nat)(hk:k≤3)(hl:v.length≤16384):
   Af Tryz.prog 130 [I k,.sl 1 (Ak v)] [] (.tup [.osl 0 (B7 v k).length 1,I 0]) [some ⟨5,1,Ab (B7 v k)⟩]:=by
 match k,hk with
 |0,_=>exact ZL v hl
 |1,_=>exact YY v hl
 |2,_=>exact Acr v hl
 |3,_=>
   by_cases h:v=[]
   · exact UO v h
   · exact VX v (List.length_pos_iff.2 h) hl
def EE(v:List Int):Nat→Nat
 |0=>0
 |k+1=>if(B7 v (k+1)).length<(B7 v (EE v k)).length then k+1 else EE v k
theorem JJ(v:List Int): ∀ k,EE v k≤k
 |0=>Nat.le_refl _
 |k+1=>by have:=JJ v k;rw[EE];split<;>omega
def BF(v:List Int):List UInt8:=B7 v (EE v 3)
theorem Aad(v:List Int)(hl:v.length≤16384):
   Af Tryz.prog 165 [.sl 1 (Ak v)] [] (.tup [.osl 0 (BF v).length 1,I 0]) [some ⟨5,1,Ab (BF v)⟩]:=by
 refine acN 34 0 Tryz.func165 fun C hN hk=>?_
 have q0:=Q0 v 0 (by omega) hl
 refine Ah [0] ?_
 generalize he0:B7 v 0=o at*
 refine Ah [0,4,5] ?_ (onc 1 (pc [I 0,.sl 1 (Ak v)] (.tup [.osl 0 o.length 1,I 0]) [some ⟨5,1,Ab o⟩]) noc) (hp:=by exact BN q0 rfl (by simp))
 refine rG hN hk noc [] [0,4,15] fun K hK=>?_;simp only[go_sem,seval,bne_self_eq_false];refine hK _ _ ?_
 clear hK K;refine nx ?_
 refine Ar rfl (AW.skip (Aw ?_))
 refine Ah [0,4,6] ?_
 refine Bw hk 1 (fun k:Nat=>⟨[(0,.sl 1 (Ak v)),(4,.osl 0 (B7 v (EE v k)).length 1),(6,I ((k:Int)+1))],[(0,some ⟨5,1,Ab (B7 v (EE v k))⟩)]⟩) (fun k=>k≤3) (fun k=>3-k) 0 (by omega) (Bk (And.intro (And.intro EE.eq_1 EE.eq_2) he0) [some 0] []) ?_
 intro k h1
 by_cases h3:k<3
 · have b1:decide ((k:Int)+1≤3)=true:=by simp;omega
   have b2:=As (n:=(k:Int)+1+1) (by omega)
   have q1:=Q0 v (k+1) (by omega) hl
   have hb:EE v (k+1)=if(B7 v (k+1)).length<(B7 v (EE v k)).length then k+1 else EE v k:=rfl
   rw[show((k+1:Nat):Int)=(k:Int)+1 by omega]at q1
   generalize hx:B7 v (k+1)=x at*
   generalize hy:B7 v (EE v k)=y at*
   have F:=b1;refine AB [0,4,6,18] ?_;clear F
   refine AI rfl (AW.skip (Aw ?_))
   refine Ah [0,4,6,7] ?_ (onc 2 (pc [I ((k:Int)+1),.sl 1 (Ak v)] (.tup [.osl 0 x.length 1,I 0]) [some ⟨5,1,Ab x⟩]) noc) (hp:=by exact BN q1 rfl (by simp))
   refine Ah [0,4,6,7,31] ?_
   refine C8 rfl (fun h=>?_) (fun h=>AW.skip ?_)
   · simp only[decide_eq_true_eq]at h
     rw[if_pos (by omega)]at hb
     refine Ah [0,4,6] ?_
     have F:=b2;refine AB [0,4,6] ?_;clear F
     exact⟨k+1,by omega,by omega,(Bk (And.intro hb hx) [some 0] [])⟩
   · simp only[decide_eq_false_iff_not]at h
     rw[if_neg (by omega)]at hb
     have F:=b2;refine AB [0,4,6] ?_;clear F
     exact⟨k+1,by omega,by omega,(Bk (And.intro hb hy) [some 0] [])⟩
 · have b1:decide ((k:Int)+1≤3)=false:=by simp;omega
   have:k=3:=by omega
   subst this
   have F:=b1;refine AB [4,18] ?_;clear F
   refine Ar rfl (AW.exit (A8 (A8 (BW (Aw ?_)))))
   refine Ah [2,3] ?_
   exact AW.ret (BX BF.eq_1 [some 0] [])
end Go.Proofs.YtpkhodjlnodagaaGreatDoor
namespace Go.Proofs.YtpkhodjlnodagaaGreatDoor
open Go.Av
theorem xorU(k:IntKind)(hk:k.bits=64)(a:Nat)(ha:a<2^64):AN .xor k (a:Int) 0=k.wrap (a:Int):=by
 simp only[AN]
 rw[BitVec.toNat_xor,BitVec.ofInt_natCast,BitVec.toNat_ofNat,hk,Nat.mod_eq_of_lt ha]
 rw[show(BitVec.ofInt 64 0).toNat=0 by rfl,Nat.xor_zero]
theorem Uu(k:IntKind)(hk:k.bits=64)(a:Nat)(b:Int)(ha:a<2^64)(hb:BitVec.ofInt 64 b=BitVec.allOnes 64):AN .xor k (a:Int) b=k.wrap ((2^64-1-a:Nat):Int):=by
 simp only[AN]
 rw[hk,hb,BitVec.xor_allOnes,BitVec.toNat_not,BitVec.ofInt_natCast,BitVec.toNat_ofNat,Nat.mod_eq_of_lt ha]
theorem Dx(n:Int):IntKind.u64.wrap n=n%18446744073709551616:=by
 have e1:((2:Int)^IntKind.u64.bits)=18446744073709551616:=by decide
 have e3:IntKind.u64.signed=false:=rfl
 unfold IntKind.wrap
 simp only[e1,e3,Bool.false_and,Bool.false_eq_true,if_false]
theorem Aa5(x:Nat)(hx:x<2^63):Dn (x:Int)=((2*x:Nat):Int):=by
 unfold Dn
 have h1:(x:Int).fdiv (2^63)=0:=by rw[Int.fdiv_eq_ediv_of_nonneg _ (by decide)];omega
 rw[h1,Dx,Dx,Dx]
 rw[show(((x:Int)%18446744073709551616)*2^1)%18446744073709551616=((2*x:Nat):Int) by omega,show(0:Int)%18446744073709551616=0 by decide,xorU .u64 rfl _ (by omega),Dx]
 omega
theorem AbI(x:Nat)(hx:x<2^63):Dn (-(x:Int)-1)=((2*x+1:Nat):Int):=by
 unfold Dn
 have h1:(-(x:Int)-1).fdiv (2^63)= -1:=by rw[Int.fdiv_eq_ediv_of_nonneg _ (by decide)];omega
 rw[h1,Dx,Dx,Dx]
 rw[show(((-(x:Int)-1)%18446744073709551616)*2^1)%18446744073709551616=((2^64-2*x-2:Nat):Int) by omega,Uu .u64 rfl _ _ (by omega) (by decide),Dx]
 omega
theorem VP(x:Nat)(hx:x<2^63):HC ((2*x:Nat):Int)=x:=by
 unfold HC
 have h1:((2*x:Nat):Int).fdiv (2^1)=(x:Int):=by rw[Int.fdiv_eq_ediv_of_nonneg _ (by decide)];omega
 rw[h1,Ql _ (by omega),show((2*x%2:Nat):Int)=0 by omega,As (n:=(x:Int)) (by omega),show IntKind.i64.wrap (0-IntKind.i64.wrap 0)=0 by decide,xorU .i64 rfl _ (by omega),As (by omega)]
theorem Xn(x:Nat)(hx:x<2^63):HC ((2*x+1:Nat):Int)= -(x:Int)-1:=by
 unfold HC
 have h1:((2*x+1:Nat):Int).fdiv (2^1)=(x:Int):=by rw[Int.fdiv_eq_ediv_of_nonneg _ (by decide)];omega
 rw[h1,Ql _ (by omega),show(((2*x+1)%2:Nat):Int)=1 by omega,As (n:=(x:Int)) (by omega),Uu .i64 rfl _ _ (by omega) (by decide)]
 have e1:((2:Int)^IntKind.i64.bits)=18446744073709551616:=by decide
 unfold IntKind.wrap
 simp only[e1]
 have e2:IntKind.i64.signed=true:=rfl
 simp only[e2,Bool.true_and]
 have e3:((2:Int)^(IntKind.i64.bits-1))=9223372036854775808:=by decide
 simp only[e3,ge_iff_le,decide_eq_true_eq]
 split<;>omega
def Ce(x:Int):Prop:= -9223372036854775808≤x∧x<9223372036854775808
theorem JG(x:Int)(hx:Ce x):HC (Dn x)=x:=by
 obtain⟨h1,h2⟩:=hx
 by_cases h:0≤x
 · obtain⟨y,rfl⟩: ∃ y:Nat,x=y:=⟨x.toNat,by omega⟩
   rw[Aa5 y (by omega),VP y (by omega)]
 · obtain⟨y,rfl⟩: ∃ y:Nat,x= -(y:Int)-1:=⟨(-x-1).toNat,by omega⟩
   rw[AbI y (by omega),Xn y (by omega)]
theorem Hn(pre post e:List UInt8)(x:Int)(hx:Ce x)(he:e=pre++Be x++post)(hl:e.length≤2^40):
   Af Tryz.prog 186 [.sl 1 (Ab e),I pre.length] [] (.tup [I x,I ((pre++Be x).length:Nat),B true]) []:=by
 have hz:=Gp x
 have h:=CO pre post (Dn x).toNat (by omega)
 rw[show pre++An (Dn x).toNat++post=e from he.symm]at h
 have:=Acw e pre.length _ _ hl (by subst he;simp at hl;omega) h
 rw[show(((Dn x).toNat:Nat):Int)=Dn x by omega,JG x hx]at this
 rw[List.length_append]
 exact this
end Go.Proofs.YtpkhodjlnodagaaGreatDoor
namespace Go.Proofs.YtpkhodjlnodagaaGreatDoor
open Go.Av
set_option maxHeartbeats 4000000
attribute [local irreducible] Af
theorem MR(n:Int):Ce (IntKind.i64.wrap n):=by
 have e1:((2:Int)^IntKind.i64.bits)=18446744073709551616:=by decide
 have e2:IntKind.i64.signed=true:=rfl
 have e3:((2:Int)^(IntKind.i64.bits-1))=9223372036854775808:=by decide
 unfold Ce IntKind.wrap
 simp only[e1,e2,e3,Bool.true_and,ge_iff_le,decide_eq_true_eq]
 split<;>omega
theorem PF(x y:Int)(hx:Ce x):IntKind.i64.wrap (y+IntKind.i64.wrap (x-y))=x:=by
 obtain⟨h1,h2⟩:=hx
 have e1:((2:Int)^IntKind.i64.bits)=18446744073709551616:=by decide
 have e2:IntKind.i64.signed=true:=rfl
 have e3:((2:Int)^(IntKind.i64.bits-1))=9223372036854775808:=by decide
 unfold IntKind.wrap
 simp only[e1,e2,e3,Bool.true_and,ge_iff_le,decide_eq_true_eq]
 split<;>split<;>omega
theorem NJ(v:List Int)(i:Nat): ∀ j,∃ t,Cq v (i+j)=Cq v i++t
 |0=>⟨[],by simp⟩
 |j+1=>by
   obtain⟨t,ht⟩:=NJ v i j
   exact⟨t++Be (v.getD (i+j) 0),by rw[← Nat.add_assoc,Cq,ht,List.append_assoc]⟩
theorem PN(v:List Int)(i:Nat)(h:i≤v.length): ∃ t,Cq v v.length=Cq v i++t:=by
 obtain⟨t,ht⟩:=NJ v i (v.length-i)
 rw[show i+(v.length-i)=v.length by omega]at ht
 exact⟨t,ht⟩
theorem SN(v:List Int)(hl:v.length≤16384)(hv: ∀ x∈v,Ce x):
   Af Tryz.prog 129 [.sl 1 (Ab (Cq v v.length)),I (BD 0 v).length,I v.length,I 0] [] (.tup [.osl 0 v.length 1,B true]) [some ⟨3,1,Ak v⟩]:=by
 refine acN 89 0 Tryz.func129 fun C hN hk=>?_
 have a7:((0:Int)==2)=false:=by decide
 have a8:((0:Int)==1)=false:=by decide
 have hel:=I9 v v.length
 refine Ah [0,1,2,3] ?_
 refine Ah [0,1,2,3,10] ?_
 refine Bw hk 1 (fun i:Nat=>⟨[(0,.sl 1 (Ab (Cq v v.length))),(1,I (Cq v i).length),(2,I v.length),(3,I 0),(10,.osl 0 i 1)],[(0,some ⟨3,1,Ak (v.take i)⟩)]⟩) (fun i=>i≤v.length) (fun i=>v.length-i) 0 (by omega) (Bk (And.intro (And.intro Cq.eq_1 Cq.eq_2) Ak.eq_1) [none] []) ?_
 intro i h1
 by_cases hi:i<v.length
 · have b1:decide ((i:Int)<v.length)=true:=by simp;omega
   have hx:=List.getElem?_eq_getElem hi
   have hx2:v.getD i 0=v[i]:=by simp[List.getD,hi]
   have hxr:=hv _ (List.getElem_mem hi)
   have htk:v.take (i+1)=v.take i++[v[i]]:=List.take_succ_eq_append_getElem hi
   have htl:(v.take i).length=i:=by simp;omega
   obtain⟨t1,ht1⟩:=PN v (i+1) (by omega)
   have hpk:Cq v (i+1)=Cq v i++Be (v.getD i 0):=rfl
   rw[hpk]at ht1
   rw[hx2]at hpk ht1
   generalize v[i]=x at*
   have q:=Hn (Cq v i) t1 (Cq v v.length) (x) hxr ht1 (by omega)
   rw[← hpk]at q
   have F:=b1;refine AB [0,1,2,3,10,20] ?_;clear F
   refine AI rfl (AW.skip (Aw ?_))
   generalize Cq v v.length=e at*
   refine nx ?_;refine rG hN hk (onc 2 (pc [.sl 1 (Ab e),I (Cq v i).length] (.tup [I (x),I (Cq v (i+1)).length,B true]) []) noc) [] [0,2,3,10,11,12,13] fun K hK=>?_;simp only[go_sem,seval]
   first|with_reducible refine hK _ _ ?_|refine⟨by exact BN q rfl (by simp),hK _ _ ?_⟩|refine obK (hK _ _ ?_)
   clear hK K;refine Ah [0,2,3,10,11,12,29] ?_
   refine Ar rfl (AW.skip (Aw ?_))
   refine Ah [0,1,2,3,10,11] ?_
   have F:=a7;refine AB [0,1,2,3,10,11,35] ?_;clear F
   refine cF ?_;have F:=a8;refine AB [0,1,2,3,10,11,69] ?_;clear F
   refine cF ?_;refine Ah [0,1,2,3,10] ?_ (hp:=by exact⟨by simp,by omega,htl⟩)
   exact⟨i+1,by omega,by omega,(Bk htk [some 0] [])⟩
 · have b1:decide ((i:Int)<v.length)=false:=by simp;omega
   have:i=v.length:=by omega
   subst this
   rw[List.take_length]
   have F:=b1;refine AB [10,20] ?_;clear F
   refine Ar rfl (AW.exit (A8 (A8 (BW (Aw ?_)))))
   refine Ah [8,9] ?_
   exact AW.ret (BX trivial [some 0] [])
theorem NX(v:List Int)(i:Nat): ∀ j,∃ t,B3 v (i+j)=B3 v i++t
 |0=>⟨[],by simp⟩
 |j+1=>by
   obtain⟨t,ht⟩:=NX v i j
   exact⟨t++Be (EV v (i+j)),by rw[← Nat.add_assoc,B3,ht,List.append_assoc]⟩
theorem P4(v:List Int)(i:Nat)(h:i≤v.length): ∃ t,B3 v v.length=B3 v i++t:=by
 obtain⟨t,ht⟩:=NX v i (v.length-i)
 rw[show i+(v.length-i)=v.length by omega]at ht
 exact⟨t,ht⟩
theorem SR(v:List Int)(hl:v.length≤16384)(hv: ∀ x∈v,Ce x):
   Af Tryz.prog 129 [.sl 1 (Ab (B3 v v.length)),I (BD 1 v).length,I v.length,I 1] [] (.tup [.osl 0 v.length 1,B true]) [some ⟨3,1,Ak v⟩]:=by
 refine acN 89 0 Tryz.func129 fun C hN hk=>?_
 have a7:((1:Int)==2)=false:=by decide
 have a8:((1:Int)==1)=true:=by decide
 have hel:=I2 v v.length
 refine Ah [0,1,2,3] ?_
 refine Ah [0,1,2,3,10] ?_
 refine Bw hk 1 (fun i:Nat=>⟨[(0,.sl 1 (Ab (B3 v v.length))),(1,I (B3 v i).length),(2,I v.length),(3,I 1),(10,.osl 0 i 1)],[(0,some ⟨3,1,Ak (v.take i)⟩)]⟩) (fun i=>i≤v.length) (fun i=>v.length-i) 0 (by omega) (Bk (And.intro (And.intro B3.eq_1 B3.eq_2) Ak.eq_1) [none] []) ?_
 intro i h1
 by_cases hi:i<v.length
 · have b1:decide ((i:Int)<v.length)=true:=by simp;omega
   have hx:=List.getElem?_eq_getElem hi
   have hx2:v.getD i 0=v[i]:=by simp[List.getD,hi]
   have hxr:=hv _ (List.getElem_mem hi)
   have htk:v.take (i+1)=v.take i++[v[i]]:=List.take_succ_eq_append_getElem hi
   have htl:(v.take i).length=i:=by simp;omega
   obtain⟨t1,ht1⟩:=P4 v (i+1) (by omega)
   have hpk:B3 v (i+1)=B3 v i++Be (EV v i):=rfl
   rw[hpk]at ht1
   by_cases hi0:0<i
   · have b3:decide ((i:Int)>0)=true:=by simp;omega
     have hy:=List.getElem?_eq_getElem (show i-1<v.length by omega)
     have hyr:=hv _ (List.getElem_mem (show i-1<v.length by omega))
     have hy2:v.getD (i-1) 0=v[i-1]:=by simp[List.getD,show i-1<v.length by omega]
     have hy3:(v.take i)[i-1]? =some v[i-1]:=by rw[List.getElem?_take_of_lt (by omega)];exact hy
     rw[EV,if_pos hi0,hx2,hy2]at hpk ht1
     generalize v[i]=x at*
     generalize v[i-1]=y at*
     have hzr:=MR (x-y)
     have hzz:=PF x y hxr
     generalize IntKind.i64.wrap (x-y)=z at*
     have b4:=As (n:=(i:Int)-1) (by omega)
     have b5:((i:Int)-1).toNat=i-1:=by omega
     have q:=Hn (B3 v i) t1 (B3 v v.length) (z) hzr ht1 (by omega)
     rw[← hpk]at q
     have F:=b1;refine AB [0,1,2,3,10,20] ?_;clear F
     refine AI rfl (AW.skip (Aw ?_))
     generalize B3 v v.length=e at*
     refine nx ?_;refine rG hN hk (onc 2 (pc [.sl 1 (Ab e),I (B3 v i).length] (.tup [I (z),I (B3 v (i+1)).length,B true]) []) noc) [] [0,2,3,10,11,12,13] fun K hK=>?_;simp only[go_sem,seval]
     first|with_reducible refine hK _ _ ?_|refine⟨by exact BN q rfl (by simp),hK _ _ ?_⟩|refine obK (hK _ _ ?_)
     clear hK K;refine Ah [0,2,3,10,11,12,29] ?_
     refine Ar rfl (AW.skip (Aw ?_))
     refine Ah [0,1,2,3,10,11] ?_
     have F:=a7;refine AB [0,1,2,3,10,11,35] ?_;clear F
     refine cF ?_;have F:=And.intro a8 b3;refine AB [0,1,2,3,10,11,69] ?_;clear F
     refine cT ?_;have F:=And.intro b4 (And.intro b5 (And.intro hy3 hzz));refine AB [0,1,2,3,10] ?_ (hp:=by exact⟨⟨by omega,by simp⟩,by omega,htl⟩);clear F
     exact⟨i+1,by omega,by omega,(Bk htk [some 0] [])⟩
   · have b3:decide ((i:Int)>0)=false:=by simp;omega
     rw[EV,if_neg hi0,hx2]at hpk ht1
     generalize v[i]=x at*
     have q:=Hn (B3 v i) t1 (B3 v v.length) (x) hxr ht1 (by omega)
     rw[← hpk]at q
     have F:=b1;refine AB [0,1,2,3,10,20] ?_;clear F
     refine AI rfl (AW.skip (Aw ?_))
     generalize B3 v v.length=e at*
     refine nx ?_;refine rG hN hk (onc 2 (pc [.sl 1 (Ab e),I (B3 v i).length] (.tup [I (x),I (B3 v (i+1)).length,B true]) []) noc) [] [0,2,3,10,11,12,13] fun K hK=>?_;simp only[go_sem,seval]
     first|with_reducible refine hK _ _ ?_|refine⟨by exact BN q rfl (by simp),hK _ _ ?_⟩|refine obK (hK _ _ ?_)
     clear hK K;refine Ah [0,2,3,10,11,12,29] ?_
     refine Ar rfl (AW.skip (Aw ?_))
     refine Ah [0,1,2,3,10,11] ?_
     have F:=a7;refine AB [0,1,2,3,10,11,35] ?_;clear F
     refine cF ?_;have F:=And.intro a8 b3;refine AB [0,1,2,3,10,11,69] ?_;clear F
     refine cF ?_;refine Ah [0,1,2,3,10] ?_ (hp:=by exact⟨by simp,by omega,htl⟩)
     exact⟨i+1,by omega,by omega,(Bk htk [some 0] [])⟩
 · have b1:decide ((i:Int)<v.length)=false:=by simp;omega
   have:i=v.length:=by omega
   subst this
   rw[List.take_length]
   have F:=b1;refine AB [10,20] ?_;clear F
   refine Ar rfl (AW.exit (A8 (A8 (BW (Aw ?_)))))
   refine Ah [8,9] ?_
   exact AW.ret (BX trivial [some 0] [])
theorem Qa(v:List Int): ∀ f i k,i≤k→k≤C6 v f i→i<v.length→v.getD k 0=v.getD i 0
 |0,i,k,h1,h2,h3=>by simp only[C6]at h2;rw[show k=i by omega]
 |f+1,i,k,h1,h2,h3=>by
   rw[C6]at h2
   split at h2
   · next hh=>
     by_cases hk:k=i
     · rw[hk]
     · rw[Qa v f (i+1) k (by omega) h2 hh.1,hh.2]
   · rw[show k=i by omega]
theorem Mh(v:List Int): ∀ f i,(ruG v f i).length≤(v.length-i)*22
 |0,i=>by simp[ruG]
 |f+1,i=>by
   rw[ruG]
   split
   · next h=>
     have h1:=JP v (v.length-i) i h
     have h2:=Mh v f (C6 v (v.length-i) i+1)
     have h3:=CV (v.getD (C6 v (v.length-i) i) 0)
     have h4:=Bh (C6 v (v.length-i) i-i+1)
     simp only[List.length_append]
     omega
   · simp
theorem Q5(v:List Int):(FA v).length≤12+v.length*22:=by
 have:=Mh v v.length 0
 have:=Fw 2 v
 simp only[FA,List.length_append]
 omega
theorem UU(v:List Int)(hl:v.length≤16384)(hv: ∀ x∈v,Ce x):
   Af Tryz.prog 129 [.sl 1 (Ab (FA v)),I (BD 2 v).length,I v.length,I 2] [] (.tup [.osl 0 v.length 1,B true]) [some ⟨3,1,Ak v⟩]:=by
 refine acN 89 0 Tryz.func129 fun C hN hk=>?_
 have a7:((2:Int)==2)=true:=by decide
 have hel:=Q5 v
 refine Ah [0,1,2,3] ?_
 refine Ah [0,1,2,3,10] ?_
 refine Bw hk 1 (fun a:Nat×List UInt8=>⟨[(0,.sl 1 (Ab (FA v))),(1,I a.2.length),(2,I v.length),(3,I 2),(10,.osl 0 a.1 1)],[(0,some ⟨3,1,Ak (v.take a.1)⟩)]⟩) (fun a=>a.1≤v.length∧ ∃ f,v.length-a.1≤f∧a.2++ruG v f a.1=FA v) (fun a=>v.length-a.1) (0,BD 2 v) ⟨by omega,v.length,by simp,rfl⟩ (Bk Ak.eq_1 [none] []) ?_
 rintro⟨i,p⟩ ⟨h1,f,h2,h3⟩
 simp only at h1 h2 h3 ⊢
 by_cases hi:i<v.length
 · have b1:decide ((i:Int)<v.length)=true:=by simp;omega
   obtain⟨f,rfl⟩: ∃ f',f=f'+1:=⟨f-1,by omega⟩
   rw[ruG,if_pos hi]at h3
   have hre:=JP v (v.length-i) i hi
   have hrq:=Qa v (v.length-i) i
   generalize C6 v (v.length-i) i=j at*
   have hjx:v.getD j 0=v[j]'hre.2:=by simp[List.getD,hre.2]
   have hxr:=hv _ (List.getElem_mem hre.2)
   have hall: ∀ k,i≤k→k≤j→v[k]? =some (v[j]'hre.2):=by
     intro k g1 g2
     have hkl:k<v.length:=by omega
     have e1:=hrq k g1 g2 hi
     have e2:=hrq j hre.1 (Nat.le_refl _) hi
     rw[← e2,hjx]at e1
     rw[List.getElem?_eq_getElem hkl]
     simp[List.getD,hkl]at e1
     rw[e1]
   rw[hjx]at h3
   generalize v[j]'hre.2=x at*
   have q:=Hn p (An (j-i+1)++ruG v f (j+1)) (FA v) x hxr (by rw[← h3];simp[List.append_assoc]) (by omega)
   have hpl:(p++Be x).length≤2^40:=by
     have:=congrArg List.length h3
     simp only[List.length_append]at this ⊢
     omega
   have q2:=DH (FA v) (p++Be x).length (by omega) (by omega)
   have hgv:=CO (p++Be x) (ruG v f (j+1)) (j-i+1) (by omega)
   rw[show p++Be x++An (j-i+1)++ruG v f (j+1)=FA v by rw[← h3];simp[List.append_assoc]]at hgv
   rw[hgv]at q2
   simp only[Ds]at q2
   rw[← List.length_append]at q2
   have h5:p++Be x++An (j-i+1)++ruG v f (j+1)=FA v:=by rw[← h3];simp[List.append_assoc]
   generalize hp1:p++Be x=p1 at*
   generalize hp2:p1++An (j-i+1)=p2 at*
   generalize FA v=e at*
   have F:=b1;refine AB [0,1,2,3,10,20] ?_;clear F
   refine AI rfl (AW.skip (Aw ?_))
   refine Ah [0,2,3,10,11,12,13] ?_ (onc 2 (pc [.sl 1 (Ab e),I p.length] (.tup [I x,I p1.length,B true]) []) noc) (hp:=by exact BN q rfl (by simp))
   refine Ah [0,2,3,10,11,12,29] ?_
   refine Ar rfl (AW.skip (Aw ?_))
   refine Ah [0,1,2,3,10,11] ?_
   have F:=a7;refine AB [0,1,2,3,10,11,35] ?_;clear F
   refine cT ?_;refine nx ?_;refine rG hN hk (onc 2 (pc [.sl 1 (Ab e),I p1.length] (.tup [U64 ((j-i+1:Nat):Int),I p2.length,B true]) []) noc) [] [0,1,2,3,10,11,14,15,16] fun K hK=>?_;simp only[go_sem,seval]
   first|with_reducible refine hK _ _ ?_|refine⟨by exact BN q2 rfl (by simp),hK _ _ ?_⟩|refine obK (hK _ _ ?_)
   clear hK K;refine nx ?_
   have c1:decide (((j-i+1:Nat):Int)<1)=false:=by simp;omega
   have c2:=As (n:=(v.length:Int)- (i:Int)) (by omega)
   have c3:=IntWalk.u64_in ((v.length:Int)- (i:Int)) (by omega)
   have c4:decide (((j-i+1:Nat):Int)>(v.length:Int)- (i:Int))=false:=by simp;omega
   have F:=And.intro c1 (And.intro c2 (And.intro c3 c4));refine AB [0,2,3,10,11,14,15,59] ?_;clear F
   refine Ar rfl (AW.skip (Aw ?_))
   refine nx ?_
   refine Bw hk 1 (fun k:Nat=>⟨[(0,.sl 1 (Ab e)),(2,I v.length),(3,I 2),(10,.osl 0 k 1),(11,I x),(14,U64 ((j+1-k:Nat):Int)),(15,I p2.length)],[(0,some ⟨3,1,Ak (v.take k)⟩)]⟩) (fun k=>i≤k∧k≤j+1) (fun k=>j+1-k) i ⟨by omega,by omega⟩ (Cy [some 0] [] (by simp[AR,wk,lk,I,U64];omega) (by simp[Am,Ai,Aj,lkh])) ?_
   rintro k ⟨g1,g2⟩
   by_cases hkj:k<j+1
   · have d1:decide (((j+1-k:Nat):Int)>0)=true:=by simp;omega
     have d2:=IntWalk.u64_in (((j+1-k:Nat):Int)-1) (by omega)
     have hkx:=hall k g1 (by omega)
     have htk:v.take (k+1)=v.take k++[x]:=by rw[List.take_add_one,hkx];rfl
     have htl:(v.take k).length=k:=by simp;omega
     have F:=d1;refine AB [0,2,3,10,11,14,15,61] ?_;clear F
     refine AI rfl (AW.skip (Aw ?_))
     refine Ah [0,2,3,10,11,14,15] ?_ (hp:=by exact⟨by simp,by omega,htl⟩)
     have F:=d2;refine AB [0,2,3,10,11,14,15] ?_;clear F
     exact⟨k+1,⟨by omega,by omega⟩,by omega,(Cy [some 0] [] (by simp[AR,wk,lk,I,U64];omega) (by simp[Am,Ai,Aj,lkh,htk]))⟩
   · have d1:decide (((j+1-k:Nat):Int)>0)=false:=by simp;omega
     have hkk:k=j+1:=by omega
     have F:=d1;refine AB [0,2,3,10,15,61] ?_;clear F
     refine Ar rfl (AW.exit (A8 (A8 (BW (Aw ?_)))))
     refine Ah [0,1,2,3,10] ?_
     exact⟨(j+1,p2),⟨by simp only;omega,f,by simp only;omega,h5⟩,by simp only;omega,(Bk hkk [some 0] [])⟩
 · have b1:decide ((i:Int)<v.length)=false:=by simp;omega
   have:i=v.length:=by omega
   subst this
   rw[List.take_length]
   have F:=b1;refine AB [10,20] ?_;clear F
   refine Ar rfl (AW.exit (A8 (A8 (BW (Aw ?_)))))
   refine Ah [8,9] ?_
   exact AW.ret (BX trivial [some 0] [])
end Go.Proofs.YtpkhodjlnodagaaGreatDoor
namespace Go.Proofs.YtpkhodjlnodagaaGreatDoor
open Go.Av
def Gu(o:List UInt8)(q:Nat):Bool:=(o.getD (q / 8) 0).toNat.testBit (q%8)
theorem Tm(o:List UInt8)(p q:Nat)(hp:p / 8<o.length):Gu (Hh o p) q=(decide (q=p)||Gu o q):=by
 unfold Gu Hh
 by_cases h:q / 8=p / 8
 · have h1:(o.set (p / 8) (UInt8.ofNat ((o.getD (p / 8) 0).toNat ||| 2^(p%8)))).getD (q / 8) 0=UInt8.ofNat ((o.getD (p / 8) 0).toNat ||| 2^(p%8)):=by
     rw[h];simp[List.getD,hp]
   have h2:=(Yn (o.getD (p / 8) 0).toNat (p%8) (UInt8.toNat_lt _) (by omega)).2
   rw[h1,ofNat_toNat _ h2,Nat.testBit_or,Nat.testBit_two_pow,h]
   rw[Bool.or_comm]
   congr 1
   rw[Bool.eq_iff_iff]
   simp only[decide_eq_true_eq]
   omega
 · have h1:(o.set (p / 8) (UInt8.ofNat ((o.getD (p / 8) 0).toNat ||| 2^(p%8)))).getD (q / 8) 0=o.getD (q / 8) 0:=by
     simp[List.getD,Ne.symm h]
   rw[h1,show decide (q=p)=false by simp;intro hh;exact h (by rw[hh]),Bool.false_or]
theorem Qe(d a:Nat)(o:List UInt8)(q:Nat): ∀ k,(a+k+7) / 8≤o.length→Gu (Dd d a k o) q=(Gu o q||(decide (a≤q∧q<a+k)&&d.testBit (q-a)))
 |0,_=>by simp[Dd];omega
 |k+1,h=>by
   have ih:=Qe d a o q k (by omega)
   rw[Dd]
   by_cases hq:q=a+k
   · subst hq
     rw[show decide (a≤a+k∧a+k<a+k)=false by simp]at ih
     rw[show decide (a≤a+k∧a+k<a+(k+1))=true by simp,Nat.add_sub_cancel_left]
     split
     · next ht=>
       rw[Tm _ _ _ (by rw[Ig];omega),ht]
       simp
     · next ht=>rw[ih];simp[ht]
   · have hd:decide (a≤q∧q<a+(k+1))=decide (a≤q∧q<a+k):=by
       rw[Bool.eq_iff_iff];simp only[decide_eq_true_eq];omega
     rw[hd,← ih]
     split
     · rw[Tm _ _ _ (by rw[Ig];omega)];simp[hq]
     · rfl
theorem YR(n q:Nat):Gu (List.replicate n 0) q=false:=by
 unfold Gu
 have:(List.replicate n (0:UInt8)).getD (q / 8) 0=0:=by
   simp[List.getD,List.getElem?_replicate];split<;>rfl
 rw[this];simp
theorem Oh(v:List Int)(lo:Int)(w:Nat): ∀ n,n≤v.length→ ∀ q,Gu (Bz v lo w n) q=(decide (q<n*w)&&(dU lo (v.getD (q / w) 0)).testBit (q%w))
 |0,_,q=>by rw[Bz,YR];simp
 |n+1,hn,q=>by
   have hnw:n*w+w≤v.length*w:=by rw[← Nat.succ_mul];exact Nat.mul_le_mul_right _ hn
   rw[Bz,Qe _ _ _ _ _ (by rw[ET];omega),Oh v lo w n (by omega) q,Nat.succ_mul]
   by_cases h1:q<n*w
   · rw[show decide (q<n*w)=true by simp[h1],show decide (n*w≤q∧q<n*w+w)=false by simp;omega,show decide (q<n*w+w)=true by simp;omega]
     simp
   · rw[show decide (q<n*w)=false by simp;omega]
     by_cases h2:q<n*w+w
     · have h3:q / w=n:=by
         rw[Nat.div_eq_of_lt_le]
         · omega
         · rw[Nat.succ_mul];omega
       have h4:q%w=q-n*w:=by
         have:=Nat.div_add_mod q w
         rw[h3,Nat.mul_comm]at this
         omega
       rw[h3,h4,show decide (n*w≤q∧q<n*w+w)=true by simp;omega,show decide (q<n*w+w)=true by simp;omega]
       simp
     · rw[show decide (n*w≤q∧q<n*w+w)=false by simp;omega,show decide (q<n*w+w)=false by simp;omega]
       simp
theorem Rz(v:List Int)(lo:Int)(w i k:Nat)(hi:i<v.length)(hk:k<w):Gu (Bz v lo w v.length) (i*w+k)=(dU lo (v.getD i 0)).testBit k:=by
 have h1:(i*w+k) / w=i:=by rw[Nat.mul_comm,Nat.mul_add_div (by omega),Nat.div_eq_of_lt hk];rfl
 have h2:(i*w+k)%w=k:=by rw[Nat.mul_comm,Nat.mul_add_mod,Nat.mod_eq_of_lt hk]
 have h3:i*w+w≤v.length*w:=by rw[← Nat.succ_mul];exact Nat.mul_le_mul_right _ hi
 rw[Oh v lo w _ (Nat.le_refl _),h1,h2,show decide (i*w+k<v.length*w)=true by simp;omega,Bool.true_and]
theorem WU(v:List Int): ∀ n i,i<n→DG v n≤v.getD i 0
 |0,i,h=>by omega
 |n+1,i,h=>by
   rw[DG]
   by_cases hi:i=n
   · subst hi;split<;>omega
   · have:=WU v n i (by omega);split<;>omega
theorem UC(v:List Int): ∀ n i,i<n→v.getD i 0≤B9 v n
 |0,i,h=>by omega
 |n+1,i,h=>by
   rw[B9]
   by_cases hi:i=n
   · subst hi;split<;>omega
   · have:=UC v n i (by omega);split<;>omega
theorem My(v:List Int)(h0:0<v.length): ∀ n,n≤v.length→DG v n∈v
 |0,_=>by simp only[DG];have:v.getD 0 0=v[0]:=by simp[List.getD,h0]
          rw[this];exact List.getElem_mem _
 |n+1,h=>by
   rw[DG]
   split
   · have:v.getD n 0=v[n]:=by simp[List.getD,show n<v.length by omega]
     rw[this];exact List.getElem_mem _
   · exact My v h0 n (by omega)
theorem QD(v:List Int)(h0:0<v.length): ∀ n,n≤v.length→B9 v n∈v
 |0,_=>by simp only[B9];have:v.getD 0 0=v[0]:=by simp[List.getD,h0]
          rw[this];exact List.getElem_mem _
 |n+1,h=>by
   rw[B9]
   split
   · have:v.getD n 0=v[n]:=by simp[List.getD,show n<v.length by omega]
     rw[this];exact List.getElem_mem _
   · exact QD v h0 n (by omega)
theorem Xt(lo x:Int)(h1:Ce lo)(h2:Ce x)(h:lo≤x):(dU lo x:Int)=x-lo:=by
 rw[← Mk,Dx,Dx,Dx]
 unfold Ce at h1 h2
 omega
theorem Nd(w x b:Nat)(hb:BH w x<2^b):x<2^(CX w x+b):=by
 unfold BH at hb
 unfold CX
 split at hb
 · next h=>
   rw[if_pos h,Nat.pow_add,Nat.mul_comm]
   exact(Nat.div_lt_iff_lt_mul (Nat.two_pow_pos w)).1 hb
 · next h=>rw[if_neg h,Nat.zero_add];exact hb
theorem ZW(x:Nat)(hx:x<2^64):x<2^GF x:=by
 have h1:BH 32 x<2^32:=Gy (w:=32) hx (by omega)
 have h2:BH 16 (BH 32 x)<2^16:=Gy (w:=16) h1 (by omega)
 have h3:BH 8 (BH 16 (BH 32 x))<2^8:=Gy (w:=8) h2 (by omega)
 have h4:=(OZ _ h3).2
 have:=Nd 32 x _ (Nd 16 (BH 32 x) _ (Nd 8 _ _ h4))
 unfold GF
 rw[show CX 32 x+CX 16 (BH 32 x)+CX 8 (BH 16 (BH 32 x))+Iz (BH 8 (BH 16 (BH 32 x)))=CX 32 x+(CX 16 (BH 32 x)+(CX 8 (BH 16 (BH 32 x))+Iz (BH 8 (BH 16 (BH 32 x))))) by omega]
 exact this
theorem XX(v:List Int)(hv: ∀ x∈v,Ce x)(i:Nat)(hi:i<v.length):dU (loF v) (v.getD i 0)<2^Bg v:=by
 have h0:0<v.length:=by omega
 have hx:Ce (v.getD i 0):=by rw[show v.getD i 0=v[i] by simp[List.getD,hi]];exact hv _ (List.getElem_mem hi)
 have hlo:=hv _ (My v h0 v.length (Nat.le_refl _))
 have hhi:=hv _ (QD v h0 v.length (Nat.le_refl _))
 have a1:=WU v v.length i hi
 have a2:=UC v v.length i hi
 have e1:=Xt _ _ hlo hx a1
 have e2:=Xt _ _ hlo hhi (Int.le_trans a1 a2)
 have:=ZW (dU (loF v) (B9 v v.length)) (GQ _ _)
 unfold Bg
 refine Nat.lt_of_le_of_lt ?_ this
 unfold loF
 omega
theorem Ut(lo x:Int)(hx:Ce x):IntKind.i64.wrap (IntKind.u64.wrap (IntKind.u64.wrap lo+(dU lo x:Int)))=x:=by
 obtain⟨h1,h2⟩:=hx
 rw[← Mk,Dx,Dx,Dx,Dx]
 have e1:((2:Int)^IntKind.i64.bits)=18446744073709551616:=by decide
 have e2:IntKind.i64.signed=true:=rfl
 have e3:((2:Int)^(IntKind.i64.bits-1))=9223372036854775808:=by decide
 unfold IntKind.wrap
 simp only[e1,e2,e3,Bool.true_and,ge_iff_le,decide_eq_true_eq]
 split<;>omega
end Go.Proofs.YtpkhodjlnodagaaGreatDoor
namespace Go.Proofs.YtpkhodjlnodagaaGreatDoor
open Go.Av
set_option maxHeartbeats 4000000
attribute [local irreducible] Af
theorem XN(v x j:Nat)(hv:v<2^j)(ht:v+x*2^j<2^64):
   AN .or .u64 (v:Int) (IntKind.u64.wrap ((x:Int)*2^j))=((v+x*2^j:Nat):Int):=by
 have e:((x:Int)*2^j)=((x*2^j:Nat):Int):=by push_cast;rfl
 rw[e,IntWalk.u64_in _ (by omega),orU _ _ (by omega) (by omega)]
 have:=Nat.two_pow_add_eq_or_of_lt hv x
 rw[Nat.or_comm,Nat.mul_comm x,← this,Nat.add_comm]
theorem Aas(a r:Nat)(ha:a<256)(hr:r<8):AN .and .u8 ((a:Int).fdiv (2^min r 8)) 1=((a / 2^r%2:Nat):Int):=by
 have h2: ∀ (x:Fin 256) (y:Fin 8),AN .and .u8 (((x.val:Nat):Int).fdiv (2^min y.val 8)) 1=((x.val / 2^y.val%2:Nat):Int):=by decide+kernel
 exact h2 ⟨a,ha⟩ ⟨r,hr⟩
theorem bitN(o:List UInt8)(q:Nat)(b:Bool)(h:Gu o q=b):(o.getD (q / 8) 0).toNat / 2^(q%8)%2=b.toNat:=by
 unfold Gu at h
 rw[Nat.testBit_eq_decide_div_mod_eq]at h
 generalize (o.getD (q / 8) 0).toNat / 2^(q%8)=m at*
 cases b<;>simp at h ⊢ <;>omega
theorem Ace(e:List UInt8)(a:Int):Af Tryz.prog 128 [.sl 1 (Ab e),I a,I 0] [] (.tup [.val (.slice none 0 0),B true]) []:=by
 refine acN 93 0 Tryz.func128 fun C hN hk=>?_
 have a1:((0:Int)==0)=true:=by decide
 refine Ah [0,1,2] ?_
 have F:=a1;refine AB [0,1,2,17] ?_;clear F
 refine cT ?_;refine Ah [6,7] ?_
 exact AW.ret (BX trivial [] [])
theorem Acm(v:List Int)(h0:0<v.length):E6 v=BD 3 v++Be (loF v)++([UInt8.ofNat (Bg v)]++Bz v (loF v) (Bg v) v.length):=by
 unfold E6 EL
 rw[if_neg (by omega)]
 simp[List.append_assoc]
theorem AbO(v:List Int)(h0:0<v.length)(hl:v.length≤16384)(hv: ∀ x∈v,Ce x):
   Af Tryz.prog 128 [.sl 1 (Ab (E6 v)),I (BD 3 v).length,I v.length] [] (.tup [.osl 0 v.length 1,B true]) [some ⟨3,1,Ak v⟩]:=by
 refine acN 93 0 Tryz.func128 fun C hN hk=>?_
 have a1:((v.length:Int)==0)=false:=by simp;intro h;rw[h]at h0;simp at h0
 have he:=Acm v h0
 have hlo:Ce (loF v):=hv _ (My v h0 v.length (Nat.le_refl _))
 have hw:Bg v≤64:=HT _ (GQ _ _)
 have hbit:=Rz v (loF v) (Bg v)
 have hwid:=XX v hv
 have hpl:=ET v (loF v) (Bg v) v.length
 have hhl:=Fw 3 v
 have hil:=CV (loF v)
 generalize Bg v=w at*
 generalize loF v=lo at*
 have hvw:v.length*w≤16384*64:=Nat.mul_le_mul hl hw
 have hel:(E6 v).length=(BD 3 v++Be lo).length+1+(v.length*w+7) / 8:=by rw[he];simp[hpl];omega
 have hel2:(BD 3 v++Be lo).length≤23:=by simp;omega
 have q1:=Hn (BD 3 v) ([UInt8.ofNat w]++Bz v lo w v.length) (E6 v) lo hlo he (by omega)
 have hwb:(E6 v)[(BD 3 v++Be lo).length]? =some (UInt8.ofNat w):=by
   rw[he,List.getElem?_append_right (Nat.le_refl _)];simp
 have hob: ∀ j,j<(v.length*w+7) / 8→(E6 v)[(BD 3 v++Be lo).length+1+j]? =some ((Bz v lo w v.length).getD j 0):=by
   intro j hj
   rw[he,List.getElem?_append_right (by omega),show(BD 3 v++Be lo).length+1+j- (BD 3 v++Be lo).length=j+1 by omega]
   simp[List.getD,hpl,hj]
 generalize Bz v lo w v.length=o at*
 generalize (BD 3 v++Be lo).length=p1 at*
 generalize (BD 3 v).length=p0 at*
 generalize E6 v=e at*
 clear he hpl
 refine Ah [0,1,2] ?_
 have F:=a1;refine AB [0,1,2,17] ?_;clear F
 refine Ar rfl (AW.skip (Aw ?_))
 refine Ah [0,1,2,8,9] ?_ (onc 2 (pc [.sl 1 (Ab e),I p0] (.tup [I lo,I p1,B true]) []) noc) (hp:=by exact BN q1 rfl (by simp))
 have b1:decide ((p1:Int)≥e.length)=false:=by simp;omega
 have b2:=ofNat_toNat w (by omega)
 have b3:decide ((w:Int)>64)=false:=by simp;omega
 generalize UInt8.ofNat w=wb at*
 have F:=And.intro b1 (And.intro hwb (And.intro b2 b3));refine AB [0,1,2,8,39] ?_;clear F
 refine Ar rfl (AW.skip (Aw ?_))
 have b4:=As (n:=(w:Int)) (by omega)
 have F:=And.intro hwb (And.intro b2 b4);refine AB [0,1,2,8,10] ?_;clear F
 have b5:=As (n:=(p1:Int)+1) (by omega)
 have F:=b5;refine AB [0,1,2,8,10] ?_;clear F
 have hvw2:((v.length*w:Nat):Int)=(v.length:Int)*w:=by push_cast;rfl
 have b6:=As (n:=(e.length:Int)- ((p1:Int)+1)) (by omega)
 have b7:=As (n:=((e.length:Int)- ((p1:Int)+1))*8) (by omega)
 have b8:=As (n:=(v.length:Int)*(w:Int)) (by omega)
 have b9:decide (((e.length:Int)- ((p1:Int)+1))*8<(v.length:Int)*(w:Int))=false:=by simp;omega
 have F:=And.intro b6 (And.intro b7 (And.intro b8 b9));refine AB [0,1,2,8,10,55] ?_;clear F
 refine Ar rfl (AW.skip (Aw ?_))
 refine Ah [0,1,2,8,10,11] ?_
 refine Ah [0,1,2,8,10,11,12] ?_
 refine Ah [0,1,2,8,10,11,12,13] ?_
 refine Bw hk 1 (fun i:Nat=>⟨[(0,.sl 1 (Ab e)),(1,I ((p1:Int)+1)),(2,I v.length),(8,I lo),(10,I w),(11,.osl 0 i 1),(12,I ((i*w:Nat):Int)),(13,I i)],[(0,some ⟨3,1,Ak (v.take i)⟩)]⟩) (fun i=>i≤v.length) (fun i=>v.length-i) 0 (by omega) (Bk Ak.eq_1 [none] []) ?_
 intro i h1
 by_cases hi:i<v.length
 · have c1:decide ((i:Int)<v.length)=true:=by simp;omega
   have hx2:v.getD i 0=v[i]:=by simp[List.getD,hi]
   have hxr:=hv _ (List.getElem_mem hi)
   have htk:v.take (i+1)=v.take i++[v[i]]:=List.take_succ_eq_append_getElem hi
   have htl:(v.take i).length=i:=by simp;omega
   have hD:=hwid i hi
   have hB:=fun k=>hbit i k hi
   rw[hx2]at hD
   simp only[hx2]at hB
   have hback:=Ut lo v[i] hxr
   have hDl:=GQ lo v[i]
   generalize v[i]=x at*
   generalize dU lo x=D at*
   have hiw:i*w+w≤v.length*w:=by rw[← Nat.succ_mul];exact Nat.mul_le_mul_right _ hi
   have F:=c1;refine AB [0,1,2,8,10,11,12,13,58] ?_;clear F
   refine AI rfl (AW.skip (Aw ?_))
   refine Ah [0,1,2,8,10,11,12,13,14] ?_
   refine Ah [0,1,2,8,10,11,12,13,14,15] ?_
   refine Bw hk 1 (fun k:Nat=>⟨[(0,.sl 1 (Ab e)),(1,I ((p1:Int)+1)),(2,I v.length),(8,I lo),(10,I w),(11,.osl 0 i 1),(12,I ((i*w+k:Nat):Int)),(13,I i),(14,U64 ((D%2^k:Nat):Int)),(15,I k)],[(0,some ⟨3,1,Ak (v.take i)⟩)]⟩) (fun k=>k≤w) (fun k=>w-k) 0 (by omega) (Bk @Nat.mod_one [some 0] []) ?_
   intro k h2
   by_cases hkw:k<w
   · have d1:decide ((k:Int)<w)=true:=by simp;omega
     have hb:=bitN o (i*w+k) _ (hB k hkw)
     have hms:=Nat.mod_pow_succ (b:=2) (x:=D) (k:=k)
     have htb:(D.testBit k).toNat=D / 2^k%2:=by
       rw[Nat.testBit_eq_decide_div_mod_eq]
       have:D / 2^k%2<2:=Nat.mod_lt _ (by omega)
       by_cases h:D / 2^k%2=1
       · simp[h]
       · simp[h];omega
     rw[htb]at hb
     have hmlt:=Nat.mod_lt D (Nat.two_pow_pos k)
     have hmle:=Nat.mod_le D (2^(k+1))
     rw[Nat.mul_comm]at hms
     have hor:=XN (D%2^k) (D / 2^k%2) k hmlt (by omega)
     rw[← hms]at hor
     have hm2:D / 2^k%2<2:=Nat.mod_lt _ (by omega)
     generalize D / 2^k%2=m at*
     generalize hp:i*w+k=p at*
     have hy:=hob (p / 8) (by omega)
     generalize o.getD (p / 8) 0=y at*
     have d2:(p:Int).tdiv 8=((p / 8:Nat):Int):=by rw[Int.tdiv_eq_ediv_of_nonneg (by omega)];omega
     have d3:(p:Int).tmod 8=((p%8:Nat):Int):=by rw[Int.tmod_eq_emod_of_nonneg (by omega)];omega
     have d4:=As (n:=((p / 8:Nat):Int)) (by omega)
     have d5:=As (n:=(p1:Int)+1+((p / 8:Nat):Int)) (by omega)
     have d6:((p1:Int)+1+((p / 8:Nat):Int)).toNat=p1+1+p / 8:=by omega
     have d7:=Aas y.toNat (p%8) y.toNat_lt (by omega)
     rw[hb]at d7
     have d8:=IntWalk.u64_in (m:Int) (by omega)
     have d9:min k 64=k:=by omega
     have d10:=As (n:=(p:Int)+1) (by omega)
     have d11:=As (n:=(k:Int)+1) (by omega)
     have F:=d1;refine AB [0,1,2,8,10,11,12,13,14,15,63] ?_;clear F
     refine AI rfl (AW.skip (Aw ?_))
     have F:=And.intro d2 (And.intro d3 (And.intro d4 (And.intro d5 (And.intro d6 (And.intro hy (And.intro d7 (And.intro d8 (And.intro d9 hor))))))));refine AB [0,1,2,8,10,11,12,13,14,15] ?_;clear F
     have F:=d10;refine AB [0,1,2,8,10,11,12,13,14,15] ?_;clear F
     have F:=d11;refine AB [0,1,2,8,10,11,12,13,14,15] ?_;clear F
     exact⟨k+1,by omega,by omega,(Bk (And.intro (Eq.symm hp) @Int.add_assoc) [some 0] [])⟩
   · have d1:decide ((k:Int)<w)=false:=by simp;omega
     have:k=w:=by omega
     subst this
     rw[Nat.mod_eq_of_lt hD]
     have d2:=As (n:=(i:Int)+1) (by omega)
     have F:=d1;refine AB [0,1,2,8,10,11,12,13,14,63] ?_;clear F
     refine Ar rfl (AW.exit (A8 (A8 (BW ?_))))
     have F:=hback;refine AB [0,1,2,8,10,11,12,13] ?_ (hp:=by exact⟨by simp,by omega,htl⟩);clear F
     have F:=d2;refine AB [0,1,2,8,10,11,12,13] ?_;clear F
     exact⟨i+1,by omega,by omega,(Bk (And.intro @Int.add_mul htk) [some 0] [])⟩
 · have c1:decide ((i:Int)<v.length)=false:=by simp;omega
   have:i=v.length:=by omega
   subst this
   rw[List.take_length]
   have F:=c1;refine AB [11,58] ?_;clear F
   refine Ar rfl (AW.exit (A8 (A8 (BW (Aw ?_)))))
   refine Ah [6,7] ?_
   exact AW.ret (BX trivial [some 0] [])
theorem ZT(v:List Int)(k:Nat)(hk:k≤3): ∃ t,B7 v k=UInt8.ofNat k::An v.length++t:=by
 match k,hk with
 |0,_=>obtain⟨t,ht⟩:=PN v 0 (by omega);exact⟨t,ht⟩
 |1,_=>obtain⟨t,ht⟩:=P4 v 0 (by omega);exact⟨t,ht⟩
 |2,_=>exact⟨_,rfl⟩
 |3,_=>exact⟨_,rfl⟩
theorem V1(v:List Int)(hl:v.length≤16384):(EL v).length≤12+v.length*8:=by
 unfold EL
 split
 · simp
 · have hw:Bg v≤64:=HT _ (GQ _ _)
   have h1:=CV (loF v)
   have h2:=ET v (loF v) (Bg v) v.length
   have h3:v.length*Bg v≤v.length*64:=Nat.mul_le_mul_left _ hw
   simp only[List.length_append,List.length_cons,List.length_nil,h2]
   omega
theorem PH(v:List Int)(k:Nat)(hk:k≤3)(hl:v.length≤16384):(B7 v k).length≤24+v.length*22:=by
 match k,hk with
 |0,_=>have:=I9 v v.length;simp only[B7];omega
 |1,_=>have:=I2 v v.length;simp only[B7];omega
 |2,_=>have:=Q5 v;simp only[B7];omega
 |3,_=>
   have h1:=V1 v hl
   have h2:=Fw 3 v
   simp only[B7,E6,List.length_append];omega
theorem W4(k:Nat)(v:List Int):(BD k v).length=1+(An v.length).length:=by simp[BD];omega
theorem Aa7(v:List Int)(k:Nat)(hk:k≤2)(hl:v.length≤16384)(hv: ∀ x∈v,Ce x):
   Af Tryz.prog 129 [.sl 1 (Ab (B7 v k)),I ((1+(An v.length).length:Nat):Int),I v.length,I k] [] (.tup [.osl 0 v.length 1,B true]) [some ⟨3,1,Ak v⟩]:=by
 rw[← W4 k v]
 match k,hk with
 |0,_=>exact SN v hl hv
 |1,_=>exact SR v hl hv
 |2,_=>exact UU v hl hv
theorem ZS(v:List Int)(k:Nat)(hk3:k≤3)(hl:v.length≤16384)(hv: ∀ x∈v,Ce x):
   Af Tryz.prog 74 [.sl 1 (Ab (B7 v k))] [] (.tup [.osl 0 v.length 1,I 0]) [some ⟨3,1,Ak v⟩]:=by
 refine acN 69 0 Tryz.func74 fun C hN hk=>?_
 obtain⟨t,ht⟩:=ZT v k hk3
 have hel:=PH v k hk3 hl
 have q1:=Agu k hk3 (An v.length++t)
 rw[show UInt8.ofNat k::(An v.length++t)=B7 v k from ht.symm]at q1
 have q2:=DH (B7 v k) 1 (by omega) (by omega)
 have hgv:=CO [UInt8.ofNat k] t v.length (by omega)
 rw[show [UInt8.ofNat k]++An v.length++t=B7 v k from ht.symm]at hgv
 rw[show([UInt8.ofNat k]:List UInt8).length=1 from rfl]at hgv
 rw[hgv]at q2
 simp only[Ds]at q2
 have q3:=Q0 v k hk3 hl
 have q4:=LL (B7 v k) (B7 v k) (by omega) (by omega)
 rw[decide_eq_true rfl]at q4
 have a1:decide ((v.length:Int)>16384)=false:=by simp;omega
 have a2:=As (n:=(v.length:Int)) (by omega)
 refine Ah [0] ?_
 generalize he:B7 v k=e at*
 refine Ah [0,4,5] ?_ (onc 1 (pc [.sl 1 (Ab e)] (.tup [I k,B true]) []) noc) (hp:=by exact BN q1 rfl (by simp))
 refine rG hN hk (onc 1 (pc [.sl 1 (Ab e),I 1] (.tup [U64 v.length,I ((1+(An v.length).length:Nat):Int),B true]) []) noc) [] [0,4,5,6,7,8] fun K hK=>?_;simp only[go_sem,seval]
 first|with_reducible refine hK _ _ ?_|refine⟨by exact BN q2 rfl (by simp),hK _ _ ?_⟩|refine obK (hK _ _ ?_)
 clear hK K;have F:=a1;refine AB [0,4,6,7,32] ?_;clear F
 refine Ar rfl (AW.skip (Aw ?_))
 refine Ah [0,4,6,7,9] ?_
 generalize hp0:(1+(An v.length).length:Nat)=p0 at*
 by_cases hk2:k=3
 · have a3:((k:Int)==3)=true:=by simp;omega
   have F:=a3;refine AB [0,4,6,7,34] ?_;clear F
   refine AW.join hk 1 ⟨[(0,.sl 1 (Ab e)),(4,I k),(5,B true),(9,.osl 0 v.length 1)],[(0,some ⟨3,1,Ak v⟩)]⟩ ?_ ?_
   · refine cT ?_
     by_cases h0:v=[]
     · have q5:=Ace e p0
       have hv0:v.length=0:=by rw[h0];rfl
       rw[show((0:Int))=(v.length:Int) by omega]at q5
       have F:=a2;refine AB [0,4,5,9] ?_ (onc 4 (pc [.sl 1 (Ab e),I p0,I v.length] (.tup [.val (.slice none 0 0),B true]) []) noc) (hp:=by exact BN q5 rfl (by simp));clear F
       exact Bk (And.intro hv0 (And.intro h0 Ak.eq_1)) [none] []
     · have q5:=AbO v (List.length_pos_iff.2 h0) hl hv
       rw[W4,hp0,show E6 v=e by rw[← he,hk2];rfl]at q5
       have F:=a2;refine AB [0,4,5,9] ?_ (onc 4 (pc [.sl 1 (Ab e),I p0,I v.length] (.tup [.osl 0 v.length 1,B true]) [some ⟨3,1,Ak v⟩]) noc) (hp:=by exact BN q5 rfl (by simp));clear F
       exact Bk trivial [some 0] []
   refine Ah [0,4,9,53] ?_
   refine Ar rfl (AW.skip (Aw ?_))
   refine Ah [0,9,10,11] ?_ (onc 2 (bc [0] [I k,.sl 1 (Ak v)] (.tup [.osl 0 e.length 1,I 0]) [some ⟨5,1,Ab e⟩]) noc) (hp:=by exact E5 q3 rfl (by simp) ⟨Jy,F6 (by simp) rfl rfl (by simp[Ak]) rfl,trivial⟩ rfl (by simp) (by simp[DI]))
   refine rG hN hk (onc 5 (bc [1] [.sl 1 (Ab e),.sl 1 (Ab e)] (B true) []) noc) [] [9,67] fun K hK=>?_;simp only[go_sem,seval,bne_self_eq_false]
   first|with_reducible refine hK _ _ ?_|refine⟨by exact E5 q4 rfl (by simp) ⟨F6 (by simp) rfl rfl (by simp[Ab]) rfl,Jy,trivial⟩ rfl (by simp) (by simp[DI]),hK _ _ ?_⟩|refine obK (hK _ _ ?_)
   clear hK K;refine nx ?_
   refine Ar rfl (AW.skip (Aw ?_))
   refine Ah [2,3] ?_
   exact AW.ret (BX trivial [some 0] [])
 · have a3:((k:Int)==3)=false:=by simp;omega
   have q5:=Aa7 v k (by omega) hl hv
   rw[he,hp0]at q5
   have F:=a3;refine AB [0,4,6,7,34] ?_;clear F
   refine cF ?_;have F:=a2;refine AB [0,4,5,9] ?_ (onc 5 (pc [.sl 1 (Ab e),I p0,I v.length,I k] (.tup [.osl 0 v.length 1,B true]) [some ⟨3,1,Ak v⟩]) noc) (hp:=by exact BN q5 rfl (by simp));clear F
   refine Ah [0,4,9,53] ?_
   refine Ar rfl (AW.skip (Aw ?_))
   refine Ah [0,9,10,11] ?_ (onc 2 (bc [0] [I k,.sl 1 (Ak v)] (.tup [.osl 0 e.length 1,I 0]) [some ⟨5,1,Ab e⟩]) noc) (hp:=by exact E5 q3 rfl (by simp) ⟨Jy,F6 (by simp) rfl rfl (by simp[Ak]) rfl,trivial⟩ rfl (by simp) (by simp[DI]))
   refine rG hN hk (onc 5 (bc [1] [.sl 1 (Ab e),.sl 1 (Ab e)] (B true) []) noc) [] [9,67] fun K hK=>?_;simp only[go_sem,seval,bne_self_eq_false]
   first|with_reducible refine hK _ _ ?_|refine⟨by exact E5 q4 rfl (by simp) ⟨F6 (by simp) rfl rfl (by simp[Ab]) rfl,Jy,trivial⟩ rfl (by simp) (by simp[DI]),hK _ _ ?_⟩|refine obK (hK _ _ ?_)
   clear hK K;refine nx ?_
   refine Ar rfl (AW.skip (Aw ?_))
   refine Ah [2,3] ?_
   exact AW.ret (BX trivial [some 0] [])
structure Post(l:List Int):Prop where
 len:l.length≤4096
 rng: ∀ i (h:i<l.length),0≤l[i]∧l[i]<4096
 asc: ∀ i (h:i+1<l.length),l[i]<l[i+1]
theorem Abq(l:List Int)(hp:Post l):Af Tryz.prog 185 [.sl 1 (Ak l)] [] (I 0) []:=by
 have hl:=hp.len
 refine acN 42 0 Tryz.func185 fun C hN hk=>?_
 have a1:decide ((l.length:Int)>4096)=false:=by simp;omega
 refine Ah [0] ?_
 have F:=a1;refine AB [0,7] ?_;clear F
 refine Ar rfl (AW.skip (Aw ?_))
 refine Ah [0,3] ?_
 refine Bw hk 0 (fun i:Nat=>⟨[(0,.sl 1 (Ak l)),(3,I i)],[]⟩) (fun i=>i≤l.length) (fun i=>l.length-i) 0 (by omega) (Bk trivial [] []) ?_
 intro i h1
 by_cases hi:i<l.length
 · have b1:decide ((i:Int)<l.length)=true:=by simp;omega
   have hx:=List.getElem?_eq_getElem hi
   have hr:=hp.rng i hi
   generalize l[i]=x at*
   have b2:decide (x<0)=false:=by simp;omega
   have b3:decide (x≥4096)=false:=by simp;omega
   have b4:=As (n:=(i:Int)+1) (by omega)
   have F:=b1;refine AB [0,3,11] ?_;clear F
   refine AI rfl (AW.skip (Aw ?_))
   have F:=And.intro hx (And.intro b2 b3);refine AB [0,3,25] ?_;clear F
   refine Ar rfl (AW.skip (CC (Aw ?_)))
   have F:=b4;refine AB [0,3] ?_;clear F
   exact⟨i+1,by omega,by omega,(Bk trivial [] [])⟩
 · have b1:decide ((i:Int)<l.length)=false:=by simp;omega
   have F:=b1;refine AB [0,11] ?_;clear F
   refine Ar rfl (AW.exit (A8 (A8 (BW (Aw ?_)))))
   refine Ah [0,4] ?_
   refine Bw hk 0 (fun i:Nat=>⟨[(0,.sl 1 (Ak l)),(4,I ((i:Int)+1))],[]⟩) (fun i=>i≤l.length) (fun i=>l.length-i) 0 (by omega) (Bk trivial [] []) ?_
   clear h1 hi b1 i
   intro i h1
   by_cases hi:i+1<l.length
   · have b1:decide ((i:Int)+1<l.length)=true:=by simp;omega
     have hx:=List.getElem?_eq_getElem hi
     have hy:=List.getElem?_eq_getElem (show i<l.length by omega)
     have hr:=hp.asc i hi
     generalize l[i+1]=x at*
     generalize l[i]=y at*
     have b2:decide (x≤y)=false:=by simp;omega
     have e2:((i:Int)+1).toNat=i+1:=by omega
     have e3:=As (n:=(i:Int)+1-1) (by omega)
     have e4:((i:Int)+1-1).toNat=i:=by omega
     have e5:=As (n:=(i:Int)+1+1) (by omega)
     have F:=b1;refine AB [0,4,29] ?_;clear F
     refine AI rfl (AW.skip (Aw ?_))
     have F:=And.intro hx (And.intro hy (And.intro e2 (And.intro e3 (And.intro e4 b2))));refine DV [0,4,41] ?_;clear F
     refine Ar rfl (AW.skip (CC (Aw ?_)))
     have F:=e5;refine AB [0,4] ?_;clear F
     exact⟨i+1,by omega,by omega,(Bk trivial [] [])⟩
   · have b1:decide ((i:Int)+1<l.length)=false:=by simp;omega
     have F:=b1;refine AB [0,29] ?_;clear F
     refine Ar rfl (AW.exit (A8 (A8 (BW (Aw ?_)))))
     refine Ah [2] ?_
     exact AW.ret (BX trivial [] [])
def AT(l:List Int)(j:Nat):List Int:=(l.take (32*j+32)).drop (32*j)
def D1(p:List Int)(k:Nat):Int:=if 0<k then p.getD k 0-p.getD (k-1) 0 else p.getD k 0
def Di(p:List Int):Nat→List UInt8
 |0=>[]
 |k+1=>Di p k++An (D1 p k).toNat
def GA(l:List Int)(j:Nat):List UInt8:=Di (AT l j) (AT l j).length
def F5(l:List Int)(j:Nat):Nat:=((AT l j).getD ((AT l j).length-1) 0).toNat
def Co(l:List Int):Nat→List UInt8
 |0=>An l.length
 |j+1=>Co l j++An (F5 l j)++An (GA l j).length
def B1(l:List Int):Nat→List UInt8
 |0=>[]
 |j+1=>B1 l j++GA l j
def Bp(l:List Int):Nat:=(l.length+31) / 32
def Bq(l:List Int):List UInt8:=Co l (Bp l)++B1 l (Bp l)
theorem JQ(p:List Int): ∀ k,(Di p k).length≤k*11
 |0=>by simp[Di]
 |k+1=>by
   have:=JQ p k
   have:=Bh (D1 p k).toNat
   simp only[Di,List.length_append];omega
theorem ER(l:List Int)(j:Nat):(AT l j).length=min (32*j+32) l.length-32*j:=by simp[AT]
theorem Ft(l:List Int)(j k:Nat)(hk:k<(AT l j).length): ∃ h:32*j+k<l.length,(AT l j)[k]=l[32*j+k]:=by
 have:=ER l j
 exact⟨by omega,by simp[AT]⟩
theorem Jp(l:List Int)(j:Nat):(GA l j).length≤352:=by
 have h1:=JQ (AT l j) (AT l j).length
 have h2:=ER l j
 unfold GA;omega
theorem IQ(l:List Int): ∀ j,(Co l j).length≤11+j*22
 |0=>by have:=Bh l.length;simp only[Co];omega
 |j+1=>by
   have:=IQ l j
   have:=Bh (F5 l j)
   have:=Bh (GA l j).length
   simp only[Co,List.length_append];omega
theorem IL(l:List Int): ∀ j,(B1 l j).length≤j*352
 |0=>by simp[B1]
 |j+1=>by
   have:=IL l j
   have:=Jp l j
   simp only[B1,List.length_append];omega
theorem Xj(l:List Int)(n:Nat):List.take n (Ak l)=Ak (List.take n l):=by simp[Ak,List.map_take]
theorem Xk(l:List Int)(n:Nat):List.drop n (Ak l)=Ak (List.drop n l):=by simp[Ak,List.map_drop]
theorem Td(l:List Int)(hp:Post l)(j k:Nat)(hk:k<(AT l j).length):0≤D1 (AT l j) k∧D1 (AT l j) k<4096:=by
 obtain⟨h1,e1⟩:=Ft l j k hk
 have r1:=hp.rng _ h1
 have d1:(AT l j).getD k 0=(AT l j)[k]:=by simp[List.getD,hk]
 unfold D1
 split
 · next h0=>
   obtain⟨h2,e2⟩:=Ft l j (k-1) (by omega)
   have r2:=hp.rng _ h2
   have d2:(AT l j).getD (k-1) 0=(AT l j)[k-1]:=by simp[List.getD,show k-1<(AT l j).length by omega]
   have asc:=hp.asc (32*j+(k-1)) (by omega)
   have e3:l[32*j+(k-1)+1]'(by omega)=l[32*j+k]:=by congr 1;omega
   rw[d1,d2,e1,e2]
   omega
 · rw[d1,e1];omega
theorem Ri(l:List Int)(hp:Post l):
   Af Tryz.prog 126 [.sl 1 (Ak l)] [] (.tup [.osl 0 (Bq l).length 1,I 0]) [some ⟨5,1,Ab (Bq l)⟩]:=by
 have hl:=hp.len
 refine acN 77 0 Tryz.func126 fun C hN hk=>?_
 have q0:=Abq l hp
 have q1:=K7 l.length (by omega)
 have a1:IntKind.u64.wrap (l.length:Int)=l.length:=IntWalk.u64_in _ (by omega)
 refine Ah [0] ?_
 refine Ah [0,4] ?_ (onc 1 (pc [.sl 1 (Ak l)] (I 0) []) noc) (hp:=by exact BN q0 rfl (by simp))
 refine rG hN hk noc [] [0,15] fun K hK=>?_;simp only[go_sem,seval,bne_self_eq_false];refine hK _ _ ?_
 clear hK K;refine nx ?_
 refine Ar rfl (AW.skip (Aw ?_))
 have F:=a1;refine AB [0,5] ?_ (onc 3 (pc [.val (.slice none 0 0),U64 l.length] (.osl 0 (An l.length).length 1) [some ⟨5,1,Ab (An l.length)⟩]) noc) (hp:=by exact BN q1 rfl (by simp));clear F
 clear q0 q1 a1
 refine Ah [0,5,6] ?_
 refine Ah [0,5,6,7] ?_
 refine Bw hk 2 (fun j:Nat=>⟨[(0,.sl 1 (Ak l)),(5,.osl 0 (Co l j).length 1),(6,.osl 1 (B1 l j).length 1),(7,I ((32*j:Nat):Int))],[(0,some ⟨5,1,Ab (Co l j)⟩),(1,some ⟨5,1,Ab (B1 l j)⟩)]⟩) (fun j=>j≤Bp l) (fun j=>Bp l-j) 0 (by omega) (Cy [some 0,none] [] (by simp[AR,wk,lk,I,Co,B1]) (by simp[Am,Ai,Aj,lkh,Co,B1];rfl)) ?_
 intro j h1
 have hhl:=IQ l j
 have hbl:=IL l j
 have hnb:Bp l≤128:=by unfold Bp;omega
 by_cases hj:32*j<l.length
 · have b1:decide (((32*j:Nat):Int)<l.length)=true:=by simp;omega
   have F:=b1;refine AB [0,5,6,7,24] ?_;clear F
   refine AI rfl (AW.skip (Aw ?_))
   have b2:=As (n:=((32*j:Nat):Int)+32) (by omega)
   have hm:(if((32*j:Nat):Int)+32<(l.length:Int)then((32*j:Nat):Int)+32 else(l.length:Int))=((min (32*j+32) l.length:Nat):Int):=by split<;>omega
   have hq:List.drop (32*j) (List.take (min (32*j+32) l.length) l)=AT l j:=by
     unfold AT
     rw[← List.take_take,List.take_length]
   have hpl:=ER l j
   have hgr:=Td l hp j
   have hget: ∀ k (hk:k<(AT l j).length),0≤(AT l j)[k]∧(AT l j)[k]<4096:=by
     intro k hk
     obtain⟨h2,e2⟩:=Ft l j k hk
     rw[e2];exact hp.rng _ h2
   have hH:Co l (j+1)=Co l j++An (F5 l j)++An (GA l j).length:=rfl
   have hB:B1 l (j+1)=B1 l j++GA l j:=rfl
   have hbk:=Jp l j
   unfold F5 at hH
   unfold GA at hH hB hbk
   have F:=And.intro b2 (And.intro hm (And.intro Xj (And.intro Xk hq)));refine AB [0,5,6,7,8] ?_;clear F
   generalize AT l j=p at*
   generalize Co l j=hd at*
   generalize B1 l j=bd at*
   refine Ah [0,5,6,7,8,9] ?_
   refine Ah [0,5,6,7,8,9,10] ?_
   refine Bw hk 3 (fun k:Nat=>⟨[(0,.sl 1 (Ak l)),(5,.osl 0 hd.length 1),(6,.osl 1 bd.length 1),(7,I ((32*j:Nat):Int)),(8,.sl 1 (Ak p)),(9,.osl 2 (Di p k).length 1),(10,I k)],[(0,some ⟨5,1,Ab hd⟩),(1,some ⟨5,1,Ab bd⟩),(2,some ⟨5,1,Ab (Di p k)⟩)]⟩) (fun k=>k≤p.length) (fun k=>p.length-k) 0 (by omega) (Cy [some 0,some 1,none] [] (by simp[AR,wk,lk,I,Di]) (by simp[Am,Ai,Aj,lkh,Di];rfl)) ?_
   intro k h2
   have hkl:=JQ p k
   by_cases hkp:k<p.length
   · have c1:decide ((k:Int)<p.length)=true:=by simp;omega
     have hx:=List.getElem?_eq_getElem hkp
     have hx2:p.getD k 0=p[k]:=by simp[List.getD,hkp]
     have hg:=hgr k hkp
     have hxr:=hget k hkp
     have hbs:Di p (k+1)=Di p k++An (D1 p k).toNat:=rfl
     have c2:=As (n:=(k:Int)+1) (by omega)
     have q2:=C7 (Di p k) (D1 p k).toNat (by omega) (by omega)
     have c3:(((D1 p k).toNat:Nat):Int)=D1 p k:=by omega
     have c4:IntKind.u64.wrap (D1 p k)=D1 p k:=IntWalk.u64_in _ (by omega)
     have hgu:D1 p k=if 0<k then p.getD k 0-p.getD (k-1) 0 else p.getD k 0:=rfl
     rw[hx2]at hgu
     rw[c3]at q2
     generalize An (D1 p k).toNat=vv at*
     generalize Di p k=bk at*
     generalize p[k]=x at*
     generalize D1 p k=g at*
     have F:=c1;refine AB [0,5,6,7,8,9,10,38] ?_;clear F
     refine AI rfl (AW.skip (Aw ?_))
     refine Dw [0,5,6,7,8,9,10,11] ?_
     refine Ah [0,5,6,7,8,9,10,11,46] ?_
     refine AW.join hk 3 ⟨[(0,.sl 1 (Ak l)),(5,.osl 0 hd.length 1),(6,.osl 1 bd.length 1),(7,I ((32*j:Nat):Int)),(8,.sl 1 (Ak p)),(9,.osl 2 bk.length 1),(10,I k),(11,I g)],[(0,some ⟨5,1,Ab hd⟩),(1,some ⟨5,1,Ab bd⟩),(2,some ⟨5,1,Ab bk⟩)]⟩ ?_ ?_
     · refine C8 rfl (fun h=>?_) (fun h=>AW.skip (Aw ?_))
       · simp only[gt_iff_lt,decide_eq_true_eq]at h
         have hy:=List.getElem?_eq_getElem (show k-1<p.length by omega)
         have hy2:p.getD (k-1) 0=p[k-1]:=by simp[List.getD,show k-1<p.length by omega]
         rw[if_pos (by omega),hy2]at hgu
         have d1:=As (n:=(k:Int)-1) (by omega)
         have d2:((k:Int)-1).toNat=k-1:=by omega
         generalize p[k-1]=y at*
         have d3:=As (n:=x-y) (by omega)
         rw[← hgu]at d3
         have F:=And.intro hy (And.intro d1 (And.intro d2 (And.intro (Eq.symm hgu) d3)));refine AB [0,5,6,7,8,9,10,11] ?_;clear F
         exact Bk trivial [some 0,some 1,some 2] []
       · simp only[gt_iff_lt,decide_eq_false_iff_not]at h
         rw[if_neg (by omega)]at hgu
         rw[hgu]
         exact Bk trivial [some 0,some 1,some 2] []
     have F:=c4;refine AB [0,5,6,7,8,9,10] ?_ (onc 3 (oc 2 ⟨5,1,Ab bk⟩ [.osl 0 bk.length 1,U64 g] (.osl 1 (bk++vv).length 1) [none,some ⟨5,1,Ab (bk++vv)⟩]) noc) (hp:=by exact DJ q2 rfl (by simp) (by simp) rfl (by simp) (by simp) rfl);clear F
     have F:=c2;refine AB [0,5,6,7,8,9,10] ?_;clear F
     exact⟨k+1,by omega,by omega,(Bk hbs [some 0,some 1,some 2] [])⟩
   · have c1:decide ((k:Int)<p.length)=false:=by simp;omega
     have:k=p.length:=by omega
     subst this
     have hlast:p.length-1<p.length:=by omega
     have hx:=List.getElem?_eq_getElem hlast
     have hx2:p.getD (p.length-1) 0=p[p.length-1]:=by simp[List.getD,hlast]
     have hxr:=hget _ hlast
     rw[hx2]at hH
     generalize p[p.length-1]=x at*
     have c2:=As (n:=(p.length:Int)-1) (by omega)
     have c3:((p.length:Int)-1).toNat=p.length-1:=by omega
     have c4:IntKind.u64.wrap x=((x.toNat:Nat):Int):=by rw[IntWalk.u64_in _ (by omega)];omega
     generalize Di p p.length=bk at*
     have c5:IntKind.u64.wrap (bk.length:Int)=bk.length:=IntWalk.u64_in _ (by omega)
     have q2:=C7 hd x.toNat (by omega) (by omega)
     have hv1:=Bh x.toNat
     have q3:=C7 (hd++An x.toNat) bk.length (by omega) (by simp;omega)
     generalize An x.toNat=v1 at*
     generalize An bk.length=v2 at*
     have F:=c1;refine AB [0,5,6,7,8,9,38] ?_;clear F
     refine Ar rfl (AW.exit (A8 (A8 (BW (Aw ?_)))))
     refine nx ?_;refine rG hN hk (onc 8 (oc 0 ⟨5,1,Ab hd⟩ [.osl 0 hd.length 1,U64 ((x.toNat:Nat):Int)] (.osl 1 (hd++v1).length 1) [none,some ⟨5,1,Ab (hd++v1)⟩]) (onc 12 (oc 67 ⟨5,1,Ab (hd++v1)⟩ [.osl 0 (hd++v1).length 1,U64 bk.length] (.osl 1 (hd++v1++v2).length 1) [none,some ⟨5,1,Ab (hd++v1++v2)⟩]) noc)) [] [0,5,6,7,9] fun K hK=>?_;simp only[go_sem,seval,hx,c2,c3,c4,c5]
     refine⟨⟨⟨by omega,DJ q2 rfl (by simp) (by simp) rfl (by simp) (by simp) rfl⟩,DJ q3 rfl (by simp) (by simp) rfl (by simp) (by simp) rfl⟩,hK _ _ ?_⟩
     clear hK K;refine Ah [0,5,6,7] ?_ (hp:=by exact⟨LD bk,by omega⟩)
     have F:=b2;refine AB [0,5,6,7] ?_;clear F
     exact⟨j+1,by unfold Bp;omega,by unfold Bp;omega,(Bk (And.intro hH (And.intro hB @Int.mul_add)) [some 0,some 1] [])⟩
 · have b1:decide (((32*j:Nat):Int)<l.length)=false:=by simp;omega
   have hjn:j=Bp l:=by unfold Bp at*;omega
   subst hjn
   unfold Bq
   generalize Co l (Bp l)=hd at*
   generalize B1 l (Bp l)=bd at*
   have F:=b1;refine AB [5,6,24] ?_;clear F
   refine Ar rfl (AW.exit (A8 (A8 (BW (Aw ?_)))))
   refine Ah [2,3] ?_ (hp:=by exact⟨LD bd,by omega⟩)
   exact AW.ret (BX trivial [some 0] [])
end Go.Proofs.YtpkhodjlnodagaaGreatDoor
namespace Go.Proofs.YtpkhodjlnodagaaGreatDoor
open Go.Av
def Et(l:List Int)(n:Nat):Nat:=if n%2=0 then F5 l (n / 2)else(GA l (n / 2)).length
def C3(l:List Int):Nat→List UInt8
 |0=>An l.length
 |n+1=>C3 l n++An (Et l n)
def g25(l:List Int)(i:Nat):Int:=if i%32=0 then l.getD i 0 else l.getD i 0-l.getD (i-1) 0
def Ck(l:List Int):Nat→List UInt8
 |0=>[]
 |i+1=>Ck l i++An (g25 l i).toNat
theorem Xg(l:List Int): ∀ j,Co l j=C3 l (2*j)
 |0=>rfl
 |j+1=>by
   rw[Co,Xg l j,show 2*(j+1)=2*j+1+1 by omega,C3,C3]
   have e1:Et l (2*j)=F5 l j:=by unfold Et;rw[if_pos (by omega)];congr 1;omega
   have e2:Et l (2*j+1)=(GA l j).length:=by unfold Et;rw[if_neg (by omega)];congr 2;omega
   rw[e1,e2]
theorem LF(l:List Int)(j k:Nat)(hk:k<(AT l j).length):(AT l j).getD k 0=l.getD (32*j+k) 0:=by
 obtain⟨h,e⟩:=Ft l j k hk
 rw[show(AT l j).getD k 0=(AT l j)[k] by simp[List.getD,hk],e]
 simp[List.getD,h]
theorem AfN(l:List Int)(j k:Nat)(hk:k<(AT l j).length):D1 (AT l j) k=g25 l (32*j+k):=by
 have hl:=ER l j
 unfold D1 g25
 rw[LF l j k hk]
 by_cases h:0<k
 · rw[if_pos h,if_neg (by omega),LF l j (k-1) (by omega),show 32*j+(k-1)=32*j+k-1 by omega]
 · rw[if_neg h,if_pos (by omega)]
theorem AaA(l:List Int)(j:Nat): ∀ k,k≤(AT l j).length→Ck l (32*j)++Di (AT l j) k=Ck l (32*j+k)
 |0,_=>by simp[Di]
 |k+1,h=>by
   rw[Di,← List.append_assoc,AaA l j k (by omega),AfN l j k (by omega)]
   rfl
theorem Ww(l:List Int): ∀ j,j≤Bp l→B1 l j=Ck l (min (32*j) l.length)
 |0,_=>by simp[B1,Ck]
 |j+1,h=>by
   have hl:=ER l j
   unfold Bp at h
   rw[B1,Ww l j (by unfold Bp;omega),show min (32*j) l.length=32*j by omega,GA,AaA l j _ (Nat.le_refl _)]
   congr 1
   omega
theorem KQ(l:List Int):Bq l=C3 l (2*Bp l)++Ck l l.length:=by
 unfold Bq
 rw[Xg,Ww l _ (Nat.le_refl _),show min (32*Bp l) l.length=l.length by unfold Bp;omega]
theorem MN(l:List Int)(i:Nat): ∀ j,∃ t,C3 l (i+j)=C3 l i++t
 |0=>⟨[],by simp⟩
 |j+1=>by
   obtain⟨t,ht⟩:=MN l i j
   exact⟨t++An (Et l (i+j)),by rw[← Nat.add_assoc,C3,ht,List.append_assoc]⟩
theorem J0(l:List Int)(i:Nat): ∀ j,∃ t,Ck l (i+j)=Ck l i++t
 |0=>⟨[],by simp⟩
 |j+1=>by
   obtain⟨t,ht⟩:=J0 l i j
   exact⟨t++An (g25 l (i+j)).toNat,by rw[← Nat.add_assoc,Ck,ht,List.append_assoc]⟩
theorem KJ(l:List Int)(n:Nat)(h:n≤2*Bp l): ∃ t,Bq l=C3 l n++t:=by
 obtain⟨t,ht⟩:=MN l n (2*Bp l-n)
 rw[show n+(2*Bp l-n)=2*Bp l by omega]at ht
 exact⟨t++Ck l l.length,by rw[KQ,ht,List.append_assoc]⟩
theorem Vd(l:List Int)(i:Nat)(h:i≤l.length): ∃ t,Bq l=C3 l (2*Bp l)++Ck l i++t:=by
 obtain⟨t,ht⟩:=J0 l i (l.length-i)
 rw[show i+(l.length-i)=l.length by omega]at ht
 exact⟨t,by rw[KQ,ht,List.append_assoc]⟩
theorem DA(l:List Int)(hp:Post l):(Bq l).length≤100000:=by
 have h1:=IQ l (Bp l)
 have h2:=IL l (Bp l)
 have h3:Bp l≤128:=by have:=hp.len;unfold Bp;omega
 simp only[Bq,List.length_append]
 omega
theorem Abw(l:List Int)(hp:Post l)(n:Nat)(hn:n<2*Bp l):Et l n<2^64:=by
 unfold Et
 split
 · unfold F5
   have hl:=ER l (n / 2)
   have hnb:32*(n / 2)<l.length:=by unfold Bp at hn;omega
   obtain⟨h,e⟩:=Ft l (n / 2) ((AT l (n / 2)).length-1) (by omega)
   rw[LF _ _ _ (by omega)]
   have:=hp.rng _ h
   rw[show l.getD (32*(n / 2)+((AT l (n / 2)).length-1)) 0=l[32*(n / 2)+((AT l (n / 2)).length-1)] by simp[List.getD,h]]
   omega
 · have:=Jp l (n / 2);omega
end Go.Proofs.YtpkhodjlnodagaaGreatDoor
namespace Go.Proofs.YtpkhodjlnodagaaGreatDoor
open Go.Av
set_option maxHeartbeats 4000000
attribute [local irreducible] Af
theorem RZ(l:List Int)(hp:Post l):
   Af Tryz.prog 73 [.sl 1 (Ab (Bq l))] [] (.tup [.osl 0 l.length 1,I 0]) [some ⟨3,1,Ak l⟩]:=by
 have hl:=hp.len
 have hel:=DA l hp
 refine acN 95 0 Tryz.func73 fun C hN hk=>?_
 have q0:=DH (Bq l) 0 (by omega) (by omega)
 obtain⟨t0,ht0⟩:=KJ l 0 (by omega)
 rw[show G9 (Bq l) 0=some ((l.length:Int),(C3 l 0).length) by
   have:=CO [] t0 l.length (by omega)
   simp only[List.nil_append,List.length_nil,Nat.zero_add]at this
   rw[ht0];exact this]at q0
 simp only[Ds]at q0
 have q8:=Ri l hp
 have q9:=LL (Bq l) (Bq l) (by omega) (by omega)
 rw[decide_eq_true rfl]at q9
 have hhd:=KJ l
 have hbd:=Vd l
 generalize Bq l=e at*
 have a1:decide ((l.length:Int)>4096)=false:=by simp;omega
 have a2:=As (n:=(l.length:Int)) (by omega)
 refine Ah [0] ?_
 refine Ah [0,4,5,6] ?_ (onc 1 (pc [.sl 1 (Ab e),I 0] (.tup [U64 l.length,I (C3 l 0).length,B true]) []) noc) (hp:=by exact BN q0 rfl (by simp))
 have F:=a1;refine AB [0,4,5,26] ?_;clear F
 refine Ar rfl (AW.skip (Aw ?_))
 have F:=a2;refine AB [0,5,7] ?_;clear F
 refine Ah [0,5,7,8] ?_
 have b1:=As (n:=(l.length:Int)+32) (by omega)
 have b2:=As (n:=(l.length:Int)+32-1) (by omega)
 have b3:((l.length:Int)+32-1).tdiv 32=((Bp l:Nat):Int):=by rw[Int.tdiv_eq_ediv_of_nonneg (by omega)];unfold Bp;omega
 have hnb:Bp l≤128:=by unfold Bp;omega
 have b4:=As (n:=((Bp l:Nat):Int)) (by omega)
 have b5:=As (n:=2*((Bp l:Nat):Int)) (by omega)
 refine Bw hk 0 (fun n:Nat=>⟨[(0,.sl 1 (Ab e)),(5,I (C3 l n).length),(7,I l.length),(8,I n)],[]⟩) (fun n=>n≤2*Bp l) (fun n=>2*Bp l-n) 0 (by omega) (Bk trivial [] []) ?_
 intro n h1
 by_cases hn:n<2*Bp l
 · have c1:decide ((n:Int)<2*((Bp l:Nat):Int))=true:=by simp;omega
   have c2:=As (n:=(n:Int)+1) (by omega)
   obtain⟨t,ht⟩:=hhd (n+1) (by omega)
   have hlen:(C3 l n).length≤e.length:=by rw[ht,C3];simp
   have q:=DH e (C3 l n).length (by omega) (by omega)
   have hgv:=CO (C3 l n) t (Et l n) (Abw l hp n hn)
   rw[show C3 l n++An (Et l n)++t=e from ht.symm]at hgv
   rw[hgv]at q
   simp only[Ds]at q
   have hH:(C3 l (n+1)).length=(C3 l n).length+(An (Et l n)).length:=by rw[C3];simp
   rw[← hH]at q
   generalize Et l n=hv at*
   have F:=And.intro b1 (And.intro b2 (And.intro b3 (And.intro b4 (And.intro b5 c1))));refine AB [0,5,7,8,35] ?_;clear F
   refine AI rfl (AW.skip (Aw ?_))
   refine nx ?_;refine rG hN hk (onc 2 (pc [.sl 1 (Ab e),I (C3 l n).length] (.tup [U64 hv,I (C3 l (n+1)).length,B true]) []) noc) [] [0,5,6,7,8] fun K hK=>?_;simp only[go_sem,seval]
   first|with_reducible refine hK _ _ ?_|refine⟨by exact BN q rfl (by simp),hK _ _ ?_⟩|refine obK (hK _ _ ?_)
   clear hK K;refine Ah [0,5,7,8,46] ?_
   refine Ar rfl (AW.skip (CC (Aw ?_)))
   have F:=c2;refine AB [0,5,7,8] ?_;clear F
   exact⟨n+1,by omega,by omega,(Bk trivial [] [])⟩
 · have c1:decide ((n:Int)<2*((Bp l:Nat):Int))=false:=by simp;omega
   have:n=2*Bp l:=by omega
   subst this
   have F:=And.intro b1 (And.intro b2 (And.intro b3 (And.intro b4 (And.intro b5 c1))));refine AB [0,5,7,35] ?_;clear F
   refine Ar rfl (AW.exit (A8 (A8 (BW (Aw ?_)))))
   generalize C3 l (2*Bp l)=hd at*
   refine Ah [0,5,7,9] ?_
   refine Ah [0,5,7,9,10] ?_
   refine Bw hk 1 (fun i:Nat=>⟨[(0,.sl 1 (Ab e)),(5,I (hd++Ck l i).length),(7,I l.length),(9,.osl 0 i 1),(10,I i)],[(0,some ⟨3,1,Ak (l.take i)⟩)]⟩) (fun i=>i≤l.length) (fun i=>l.length-i) 0 (by omega) (Bk (And.intro (And.intro Ck.eq_1 Ck.eq_2) Ak.eq_1) [none] []) ?_
   intro i h2
   by_cases hi:i<l.length
   · have d1:decide ((i:Int)<l.length)=true:=by simp;omega
     have d2:=As (n:=(i:Int)+1) (by omega)
     obtain⟨t,ht⟩:=hbd (i+1) (by omega)
     have hlen:(hd++Ck l i).length≤e.length:=by rw[ht,Ck];simp
     have hx2:l.getD i 0=l[i]:=by simp[List.getD,hi]
     have hxr:=hp.rng i hi
     have htk:l.take (i+1)=l.take i++[l[i]]:=List.take_succ_eq_append_getElem hi
     have htl:(l.take i).length=i:=by simp;omega
     have hg:0≤g25 l i∧g25 l i<4096∧(i%32=0→g25 l i=l[i])∧(i%32≠0→ ∃ y,(l.take i)[i-1]? =some y∧g25 l i+y=l[i]∧0≤y∧y<4096):=by
       unfold g25
       by_cases h:i%32=0
       · rw[if_pos h,hx2];exact⟨hxr.1,hxr.2,fun _=>rfl,fun h'=>absurd h h'⟩
       · have hi1:i-1<l.length:=by omega
         have hy2:l.getD (i-1) 0=l[i-1]:=by simp[List.getD,hi1]
         have hyr:=hp.rng (i-1) hi1
         have asc:=hp.asc (i-1) (by omega)
         have e3:l[i-1+1]'(by omega)=l[i]:=by congr 1;omega
         rw[if_neg h,hx2,hy2]
         refine⟨by omega,by omega,fun h'=>absurd h' h,fun _=>⟨l[i-1],?_,by omega,by omega,by omega⟩⟩
         rw[List.getElem?_take_of_lt (by omega),List.getElem?_eq_getElem hi1]
     have q:=DH e (hd++Ck l i).length (by omega) (by omega)
     have hgv:=CO (hd++Ck l i) t (g25 l i).toNat (by omega)
     rw[show hd++Ck l i++An (g25 l i).toNat++t=e by rw[ht,Ck];simp[List.append_assoc]]at hgv
     rw[hgv]at q
     simp only[Ds]at q
     have hB:(hd++Ck l (i+1)).length=(hd++Ck l i).length+(An (g25 l i).toNat).length:=by rw[Ck];simp[Nat.add_assoc]
     rw[← hB,show(((g25 l i).toNat:Nat):Int)=g25 l i by omega]at q
     generalize g25 l i=g at*
     generalize l[i]=x at*
     have F:=d1;refine AB [0,5,7,9,10,49] ?_;clear F
     refine AI rfl (AW.skip (Aw ?_))
     refine Ah [0,5,7,9,10,11] ?_
     refine rG hN hk (onc 2 (pc [.sl 1 (Ab e),I (hd++Ck l i).length] (.tup [U64 g,I (hd++Ck l (i+1)).length,B true]) []) noc) [] [0,5,6,7,9,10,11] fun K hK=>?_;simp only[go_sem,seval]
     first|with_reducible refine hK _ _ ?_|refine⟨by exact BN q rfl (by simp),hK _ _ ?_⟩|refine obK (hK _ _ ?_)
     clear hK K;refine nx ?_
     have d3:decide (g≥4096)=false:=by simp;omega
     have F:=d3;refine AB [0,5,7,9,10,11,64] ?_;clear F
     refine Ar rfl (AW.skip (Aw ?_))
     have d4:=As (n:=g) (by omega)
     have F:=d4;refine AB [0,5,7,9,10,12] ?_;clear F
     have e3:(i:Int).tmod 32=((i%32:Nat):Int):=by rw[Int.tmod_eq_emod_of_nonneg (by omega)];omega
     have F:=e3;refine AB [0,5,7,9,10,12,69] ?_;clear F
     refine AW.join hk 1 ⟨[(0,.sl 1 (Ab e)),(5,I (hd++Ck l (i+1)).length),(7,I l.length),(9,.osl 0 i 1),(10,I i),(12,I x)],[(0,some ⟨3,1,Ak (l.take i)⟩)]⟩ ?_ ?_
     · refine C8 rfl (fun h=>?_) (fun h=>AW.skip (Aw ?_))
       · simp only[bne_iff_ne,ne_eq]at h
         obtain⟨y,hy,hyx,hy0,hy1⟩:=hg.2.2.2 (by omega)
         have f1:=As (n:=(i:Int)-1) (by omega)
         have f2:((i:Int)-1).toNat=i-1:=by omega
         have f3:=As (n:=g+y) (by omega)
         rw[hyx]at f3
         have F:=And.intro hy (And.intro f1 (And.intro f2 (And.intro hyx f3)));refine AB [0,5,7,9,10,12] ?_;clear F
         exact Bk trivial [some 0] []
       · have h':i%32=0:=by simp at h;omega
         rw[hg.2.2.1 h']
         exact Bk trivial [some 0] []
     refine Ah [0,5,7,9,10] ?_ (hp:=by exact⟨by simp,by omega,htl⟩)
     have F:=d2;refine AB [0,5,7,9,10] ?_;clear F
     exact⟨i+1,by omega,by omega,(Bk htk [some 0] [])⟩
   · have d1:decide ((i:Int)<l.length)=false:=by simp;omega
     have:i=l.length:=by omega
     subst this
     rw[List.take_length]
     have F:=d1;refine AB [0,9,49] ?_;clear F
     refine Ar rfl (AW.exit (A8 (A8 (BW (Aw ?_)))))
     refine Ah [0,9,13,14] ?_ (onc 1 (bc [0] [.sl 1 (Ak l)] (.tup [.osl 0 e.length 1,I 0]) [some ⟨5,1,Ab e⟩]) noc) (hp:=by exact E5 q8 rfl (by simp) ⟨F6 (by simp) rfl rfl (by simp[Ak]) rfl,trivial⟩ rfl (by simp) (by simp[DI]))
     refine rG hN hk (onc 5 (bc [1] [.sl 1 (Ab e),.sl 1 (Ab e)] (B true) []) noc) [] [9,93] fun K hK=>?_;simp only[go_sem,seval,bne_self_eq_false]
     first|with_reducible refine hK _ _ ?_|refine⟨by exact E5 q9 rfl (by simp) ⟨F6 (by simp) rfl rfl (by simp[Ab]) rfl,Jy,trivial⟩ rfl (by simp) (by simp[DI]),hK _ _ ?_⟩|refine obK (hK _ _ ?_)
     clear hK K;refine nx ?_
     refine Ar rfl (AW.skip (Aw ?_))
     refine Ah [2,3] ?_
     exact AW.ret (BX trivial [some 0] [])
def Ge(s:Int)(w:S):Nat→Int
 |0=>AN .xor .u32 2166136261 s
 |i+1=>IntKind.u32.wrap (AN .xor .u32 (Ge s w i) (IntKind.u32.wrap ((w.getD i 0).toNat:Int))*16777619)
def Aaq(h:Int):Int:=AN .xor .u32 h (h.fdiv (2^min (Int.toNat 15) 32))
def VJ(h:Int):Int:=IntKind.u32.wrap (Aaq h*2246822519)
def Aaj(h:Int):Int:=AN .xor .u32 (VJ h) ((VJ h).fdiv (2^min (Int.toNat 13) 32))
def Mx(s:Int)(w:S):Int:=Aaj (Ge s w w.length)
theorem AaS(s:Int)(w:S)(hw:w.length≤2^40):Af Tryz.prog 202 [U32 s,str w] [] (U32 (Mx s w)) []:=by
 refine acN 32 0 Tryz.func202 fun C hN hk=>?_
 refine Ah [0,1] ?_
 refine Ah [1,5] ?_
 refine Ah [1,5,6] ?_
 refine Bw hk 0 (fun i:Nat=>⟨[(1,str w),(5,U32 (Ge s w i)),(6,I i)],[]⟩) (fun i=>i≤w.length) (fun i=>w.length-i) 0 (by omega) (Bk (And.intro U32.eq_1 (And.intro Ge.eq_1 Ge.eq_2)) [] []) ?_
 intro i h1
 by_cases hi:i<w.length
 · have b1:decide ((i:Int)<w.length)=true:=by simp;omega
   have b2:=As (n:=(i:Int)+1) (by omega)
   have hx:=List.getElem?_eq_getElem hi
   have hx2:w.getD i 0=w[i]:=by simp[List.getD,hi]
   have hs:Ge s w (i+1)=IntKind.u32.wrap (AN .xor .u32 (Ge s w i) (IntKind.u32.wrap ((w[i]).toNat:Int))*16777619):=by rw[Ge,hx2]
   generalize w[i]=x at*
   have F:=b1;refine AB [1,5,6,12] ?_;clear F
   refine AI rfl (AW.skip (Aw ?_))
   refine Dw [1,5,6] ?_
   have F:=b2;refine AB [1,5,6] ?_;clear F
   exact⟨i+1,by omega,by omega,(Bk hs [] [])⟩
 · have b1:decide ((i:Int)<w.length)=false:=by simp;omega
   have:i=w.length:=by omega
   subst this
   generalize hh:Ge s w w.length=h at*
   have F:=b1;refine AB [5,12] ?_;clear F
   refine Ar rfl (AW.exit (A8 (A8 (BW (Aw ?_)))))
   refine Ah [5] ?_
   refine Ah [5] ?_
   refine Ah [4] ?_
   exact AW.ret (BX (And.intro Mx.eq_1 (And.intro Aaj.eq_1 (And.intro VJ.eq_1 (And.intro Aaq.eq_1 hh)))) [] [])
end Go.Proofs.YtpkhodjlnodagaaGreatDoor
