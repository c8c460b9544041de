/- Part 20 of the proof of PlanSkipsOnlyWhatCannotMatch. -/
import Derived.Test.YtpkhodjlnodagaaGreatDoorB19
set_option linter.unusedSimpArgs false
set_option linter.unusedVariables false
set_option linter.unusedSectionVars false
namespace Go.Proofs.YtpkhodjlnodagaaGreatDoor
open Go.Av
set_option maxHeartbeats 4000000
attribute [local irreducible] Ad
theorem AhD(b:List UInt8):Ad Tryz.prog 187 [.osl 0 b.length 1,.sl 1 []] [some ⟨5,1,Ab b⟩] (.osl 0 b.length 1) [some ⟨5,1,Ab b⟩]:=by
 refine acN 83 1 Tryz.func187 fun C hN hk=>?_
 have e1:((([]:List (List AV)).length:Int)==0)=true:=by decide
 refine Dg [0,1] ?_ noc [0]
 have F:=e1;refine BB [0,1,16] ?_ noc [0];clear F
 refine cT ?_;refine Dg [4] ?_ noc [0]
 exact AW.ret (B0 trivial [some 0] [])
theorem Wq(v:List Int)(h0:v=[]):
   Ad Tryz.prog 130 [I 3,.sl 1 (An v)] [] (.tup [.osl 0 (E8 v).length 1,I 0]) [some ⟨5,1,Ab (E8 v)⟩]:=by
 have hl:v.length≤16384:=by rw[h0];simp
 have hpf:EO v=[]:=by unfold EO;rw[h0];rfl
 refine acN 95 0 Tryz.func130 fun C hN hk=>?_
 have a1:decide ((3:Int)<0)=false:=by decide
 have a2:decide ((3:Int)>3)=false:=by decide
 have a3:decide ((v.length:Int)>16384)=false:=by simp;omega
 have a4:IntKind.u8.wrap (3:Int)=3:=by decide
 have a5:IntKind.u64.wrap (v.length:Int)=v.length:=IntWalk.u64_in _ oM
 have a6:((3:Int)==3)=true:=by decide
 have a7:((3:Int)==2)=false:=by decide
 have a8:((3:Int)==1)=false:=by decide
 have q1:=Db [UInt8.ofNat 3] v.length oM sP
 refine Dg [0,1] ?_
 have F:=And.intro a1 a2;refine BB [0,1,14] ?_;clear F
 refine Ay rfl (AW.skip (As ?_))
 have F:=a3;refine BB [0,1,17] ?_;clear F
 refine Ay rfl (AW.skip (As ?_))
 have F:=And.intro a4 a5;refine BB [0,1,6] ?_ (onc 6 (oc 16 ⟨5,1,Ab [UInt8.ofNat 3]⟩ [.osl 0 [UInt8.ofNat 3].length 1,U64 v.length] (.osl 1 ([UInt8.ofNat 3]++Ap v.length).length 1) [none,some ⟨5,1,Ab ([UInt8.ofNat 3]++Ap v.length)⟩]) noc) (hp:=by exact⟨sP,DJ q1 rfl sP sP rfl sP sP rfl⟩);clear F
 rw[show(Ap v.length).length+1=(BG 3 v).length from rfl,show UInt8.ofNat 3::Ap v.length=BG 3 v from rfl]
 clear q1
 have F:=a6;refine BB [0,1,6,26] ?_;clear F
 refine cT ?_
 have q2:=AhD (BG 3 v)
 unfold E8
 rw[hpf,List.append_nil]
 rw[show An v=[] by rw[h0];rfl]
 generalize BG 3 v=o at*
 refine Dg [4,5] ?_ (onc 2 (oc 0 ⟨5,1,Ab o⟩ [.osl 0 o.length 1,.sl 1 []] (.osl 0 o.length 1) [some ⟨5,1,Ab o⟩]) noc) (hp:=by exact DJ q2 rfl sP sP rfl sP sP rfl)
 exact AW.ret (B0 trivial [some 0] [])
def C9(v:List Int):Nat→Nat→Nat
 |0,i=>i
 |f+1,i=>if i+1<v.length∧v.getD (i+1) 0=v.getD i 0 then C9 v f (i+1)else i
theorem J9(v:List Int): ∀ f i,i<v.length→i≤C9 v f i∧C9 v f i<v.length
 |0,i,h=>⟨Nat.le_refl _,h⟩
 |f+1,i,h=>by
   rw[C9]
   split
   · next hh=>have:=J9 v f (i+1) hh.1;omega
   · exact⟨Nat.le_refl _,h⟩
def ruG(v:List Int):Nat→Nat→List UInt8
 |0,_=>[]
 |f+1,i=>if i<v.length then Bc (v.getD (C9 v (v.length-i) i) 0)++Ap (C9 v (v.length-i) i-i+1)++ruG v f (C9 v (v.length-i) i+1)else []
def FJ(v:List Int):List UInt8:=BG 2 v++ruG v v.length 0
theorem AcI(v:List Int)(hl:v.length≤16384):
   Ad Tryz.prog 130 [I 2,.sl 1 (An v)] [] (.tup [.osl 0 (FJ v).length 1,I 0]) [some ⟨5,1,Ab (FJ v)⟩]:=by
 refine acN 95 0 Tryz.func130 fun C hN hk=>?_
 have a1:decide ((2:Int)<0)=false:=by decide
 have a2:decide ((2:Int)>3)=false:=by decide
 have a3:decide ((v.length:Int)>16384)=false:=by simp;omega
 have a4:IntKind.u8.wrap (2:Int)=2:=by decide
 have a5:IntKind.u64.wrap (v.length:Int)=v.length:=IntWalk.u64_in _ oM
 have a6:((2:Int)==3)=false:=by decide
 have a7:((2:Int)==2)=true:=by decide
 have a8:((2:Int)==1)=false:=by decide
 have q1:=Db [UInt8.ofNat 2] v.length oM sP
 refine Dg [0,1] ?_
 have F:=And.intro a1 a2;refine BB [0,1,14] ?_;clear F
 refine Ay rfl (AW.skip (As ?_))
 have F:=a3;refine BB [0,1,17] ?_;clear F
 refine Ay rfl (AW.skip (As ?_))
 have F:=And.intro a4 a5;refine BB [0,1,6] ?_ (onc 6 (oc 16 ⟨5,1,Ab [UInt8.ofNat 2]⟩ [.osl 0 [UInt8.ofNat 2].length 1,U64 v.length] (.osl 1 ([UInt8.ofNat 2]++Ap v.length).length 1) [none,some ⟨5,1,Ab ([UInt8.ofNat 2]++Ap v.length)⟩]) noc) (hp:=by exact⟨sP,DJ q1 rfl sP sP rfl sP sP rfl⟩);clear F
 rw[show(Ap v.length).length+1=(BG 2 v).length from rfl,show UInt8.ofNat 2::Ap v.length=BG 2 v from rfl]
 clear q1
 have F:=a6;refine BB [0,1,6,26] ?_;clear F
 refine Ay rfl (AW.skip (As ?_))
 refine Dg [0,1,6,7] ?_
 have hhl:=FU 2 v
 refine Bw hk 1 (fun a:Nat×List UInt8=>⟨[(0,I 2),(1,.sl 1 (An v)),(6,.osl 0 a.2.length 1),(7,I a.1)],[(0,some ⟨5,1,Ab a.2⟩)]⟩) (fun a=>a.1≤v.length∧a.2.length≤12+a.1*22∧ ∃ f,v.length-a.1≤f∧a.2++ruG v f a.1=FJ v) (fun a=>v.length-a.1) (0,BG 2 v) ⟨oM,by simp only;omega,v.length,sP,rfl⟩ (Bk trivial [some 0] []) ?_
 rintro⟨i,o⟩ ⟨h1,h2,f,h3,h4⟩
 simp only at h1 h2 h3 h4 ⊢
 by_cases hi:i<v.length
 · have b1:decide ((i:Int)<v.length)=true:=by simp;omega
   obtain⟨f,rfl⟩: ∃ f',f=f'+1:=⟨f-1,oM⟩
   rw[ruG,if_pos hi]at h4
   have F:=b1;refine BB [0,1,6,7,33] ?_;clear F
   refine AX rfl (AW.skip (As ?_))
   have F:=a7;refine BB [0,1,6,7,42] ?_;clear F
   refine cT ?_;refine Dg [0,1,6,7,8] ?_
   refine Bw hk 1 (fun j:Nat=>⟨[(0,I 2),(1,.sl 1 (An v)),(6,.osl 0 o.length 1),(7,I j),(8,I ((j-i+1:Nat):Int))],[(0,some ⟨5,1,Ab o⟩)]⟩) (fun j=>i≤j∧j<v.length∧C9 v (v.length-j) j=C9 v (v.length-i) i) (fun j=>v.length-j) i ⟨oM,hi,rfl⟩ (Bk trivial [some 0] []) ?_
   rintro j ⟨g1,g2,g3⟩
   have hy:=List.getElem?_eq_getElem g2
   have hy2:v.getD j 0=v[j]:=by simp[List.getD,g2]
   have c1:=Ar (n:=(j:Int)+1) oM
   rw[show v.length-j=(v.length-j-1)+1 by omega,C9]at g3
   by_cases hj:j+1<v.length
   · have hx:=List.getElem?_eq_getElem hj
     have hx2:v.getD (j+1) 0=v[j+1]:=by simp[List.getD,hj]
     have c2:decide ((j:Int)+1<v.length)=true:=by simp;omega
     have c3:((j:Int)+1).toNat=j+1:=by omega
     rw[hx2,hy2]at g3
     by_cases hxy:v[j+1]=v[j]
     · have c4:(v[j+1]==v[j])=true:=by simp[hxy]
       rw[if_pos ⟨hj,hxy⟩,show v.length-j-1=v.length- (j+1) by omega]at g3
       clear hy2 hx2
       generalize v[j+1]=x at*
       generalize v[j]=y at*
       have F:=And.intro hx (And.intro hy (And.intro c1 (And.intro c2 (And.intro c3 c4))));refine PR [0,1,6,7,8,61] ?_;clear F
       refine AX rfl (AW.skip (As ?_))
       have c5:=Ar (n:=((j-i+1:Nat):Int)+1) oM
       have F:=c1;refine BB [0,1,6,7,8] ?_;clear F
       have F:=c5;refine BB [0,1,6,7,8] ?_;clear F
       exact⟨j+1,⟨oM,hj,g3⟩,oM,(CL [some 0] [] (by simp[AK,wk,lk,I];omega) (by simp[Am,Ai,Ak,lkh]))⟩
     · have c4:(v[j+1]==v[j])=false:=by simp[hxy]
       rw[if_neg (fun h=>hxy h.2)]at g3
       clear hx2
       generalize v[j+1]=x at hx c4
       have F:=And.intro hx (And.intro hy (And.intro c1 (And.intro c2 (And.intro c3 c4))));refine PR [0,1,6,7,8,61] ?_;clear F
       clear c4 hx
       refine Ay rfl (AW.exit (Ba (Ba (BZ (As ?_)))))
       rw[← g3,hy2]at h4
       clear hy2
       generalize v[j]=y at*
       have q2:=KB o y oM
       have hpl:=C1 y
       have q3:=Db (o++Bc y) (j-i+1) oM sO
       have hvl:=Bf (j-i+1)
       have c6:IntKind.u64.wrap ((j-i+1:Nat):Int)=((j-i+1:Nat):Int):=IntWalk.u64_in _ oM
       generalize Bc y=px at*
       generalize Ap (j-i+1)=vv at*
       refine nx ?_;refine rG hN hk (onc 5 (oc 0 ⟨5,1,Ab o⟩ [.osl 0 o.length 1,I y] (.osl 1 (o++px).length 1) [none,some ⟨5,1,Ab (o++px)⟩]) (onc 8 (oc 41 ⟨5,1,Ab (o++px)⟩ [.osl 0 (o++px).length 1,U64 ((j-i+1:Nat):Int)] (.osl 1 (o++px++vv).length 1) [none,some ⟨5,1,Ab (o++px++vv)⟩]) noc)) [] [0,1,6,7] fun K hK=>?_;simp only[go_sem,reduceIte,Nat.reduceAdd,Nat.reduceMul,Nat.reduceEqDiff,reduceCtorEq,Nat.reduceSub,Nat.reduceLeDiff,Nat.reducePow,hy,c6]
       refine⟨⟨DJ q2 rfl sP sP rfl sP sP rfl,DJ q3 rfl sP sP rfl sP sP rfl⟩,hK _ _ ?_⟩
       clear hK K;have F:=c1;refine BB [0,1,6,7] ?_;clear F
       exact⟨(j+1,o++px++vv),⟨by simp only;omega,sO,f,by simp only;omega,by simp only;rw[← h4];simp[List.append_assoc]⟩,by simp only;omega,(Bk trivial [some 0] [])⟩
   · have c2:decide ((j:Int)+1<v.length)=false:=by simp;omega
     rw[if_neg (fun h=>hj h.1)]at g3
     have F:=And.intro c1 c2;refine PR [0,1,6,7,8,61] ?_;clear F
     refine Ay rfl (AW.exit (Ba (Ba (BZ (As ?_)))))
     rw[← g3,hy2]at h4
     clear hy2
     generalize v[j]=y at*
     have q2:=KB o y oM
     have hpl:=C1 y
     have q3:=Db (o++Bc y) (j-i+1) oM sO
     have hvl:=Bf (j-i+1)
     have c6:IntKind.u64.wrap ((j-i+1:Nat):Int)=((j-i+1:Nat):Int):=IntWalk.u64_in _ oM
     generalize Bc y=px at*
     generalize Ap (j-i+1)=vv at*
     refine nx ?_;refine rG hN hk (onc 5 (oc 0 ⟨5,1,Ab o⟩ [.osl 0 o.length 1,I y] (.osl 1 (o++px).length 1) [none,some ⟨5,1,Ab (o++px)⟩]) (onc 8 (oc 41 ⟨5,1,Ab (o++px)⟩ [.osl 0 (o++px).length 1,U64 ((j-i+1:Nat):Int)] (.osl 1 (o++px++vv).length 1) [none,some ⟨5,1,Ab (o++px++vv)⟩]) noc)) [] [0,1,6,7] fun K hK=>?_;simp only[go_sem,reduceIte,Nat.reduceAdd,Nat.reduceMul,Nat.reduceEqDiff,reduceCtorEq,Nat.reduceSub,Nat.reduceLeDiff,Nat.reducePow,hy,c6]
     refine⟨⟨DJ q2 rfl sP sP rfl sP sP rfl,DJ q3 rfl sP sP rfl sP sP rfl⟩,hK _ _ ?_⟩
     clear hK K;have F:=c1;refine BB [0,1,6,7] ?_;clear F
     exact⟨(j+1,o++px++vv),⟨by simp only;omega,sO,f,by simp only;omega,by simp only;rw[← h4];simp[List.append_assoc]⟩,by simp only;omega,(Bk trivial [some 0] [])⟩
 · have b1:decide ((i:Int)<v.length)=false:=by simp;omega
   have h5:FJ v=o:=by
     rw[← h4]
     cases f with
     |zero=>simp[ruG]
     |succ f=>rw[ruG,if_neg hi,List.append_nil]
   rw[h5]
   have F:=b1;refine BB [6,33] ?_;clear F
   refine Ay rfl (AW.exit (Ba (Ba (BZ (As ?_)))))
   refine Dg [4,5] ?_
   exact AW.ret (B0 trivial [some 0] [])
def B9(v:List Int):Nat→List UInt8
 |0=>Cv v v.length
 |1=>B6 v v.length
 |2=>FJ v
 |_=>E8 v
theorem SI(v:List Int)(k:Nat)(hk:k≤3)(hl:v.length≤16384):
   Ad Tryz.prog 130 [I k,.sl 1 (An v)] [] (.tup [.osl 0 (B9 v k).length 1,I 0]) [some ⟨5,1,Ab (B9 v k)⟩]:=by
 match k,hk with
 |0,_=>exact ZO v hl
 |1,_=>exact Aal v hl
 |2,_=>exact AcI v hl
 |3,_=>
   by_cases h:v=[]
   · exact Wq v h
   · exact Yn v (List.length_pos_iff.2 h) hl
def DO(v:List Int):Nat→Nat
 |0=>0
 |k+1=>if(B9 v (k+1)).length<(B9 v (DO v k)).length then k+1 else DO v k
theorem Hu(v:List Int): ∀ k,DO v k≤k
 |0=>Nat.le_refl _
 |k+1=>by have:=Hu v k;rw[DO];split<;>omega
def AZ(v:List Int):List UInt8:=B9 v (DO v 3)
theorem AaQ(v:List Int)(hl:v.length≤16384):
   Ad Tryz.prog 165 [.sl 1 (An v)] [] (.tup [.osl 0 (AZ v).length 1,I 0]) [some ⟨5,1,Ab (AZ v)⟩]:=by
 refine acN 34 0 Tryz.func165 fun C hN hk=>?_
 have q0:=SI v 0 oM hl
 refine Af [0] ?_
 generalize he0:B9 v 0=o at*
 refine Af [0,4,5] ?_ (onc 1 (pc [I 0,.sl 1 (An v)] (.tup [.osl 0 o.length 1,I 0]) [some ⟨5,1,Ab o⟩]) noc) (hp:=by exact BR q0 rfl sP)
 refine rG hN hk noc [] [0,4,15] fun K hK=>?_;simp only[go_sem,seval,bne_self_eq_false];refine hK _ _ ?_
 clear hK K;refine nx ?_
 refine Ay rfl (AW.skip (As ?_))
 refine Af [0,4,6] ?_
 refine Bw hk 1 (fun k:Nat=>⟨[(0,.sl 1 (An v)),(4,.osl 0 (B9 v (DO v k)).length 1),(6,I ((k:Int)+1))],[(0,some ⟨5,1,Ab (B9 v (DO v k))⟩)]⟩) (fun k=>k≤3) (fun k=>3-k) 0 oM (Bk (And.intro (And.intro DO.eq_1 DO.eq_2) he0) [some 0] []) ?_
 intro k h1
 by_cases h3:k<3
 · have b1:decide ((k:Int)+1≤3)=true:=by simp;omega
   have b2:=Ar (n:=(k:Int)+1+1) oM
   have q1:=SI v (k+1) oM hl
   have hb:DO v (k+1)=if(B9 v (k+1)).length<(B9 v (DO v k)).length then k+1 else DO v k:=rfl
   rw[show((k+1:Nat):Int)=(k:Int)+1 by omega]at q1
   generalize hx:B9 v (k+1)=x at*
   generalize hy:B9 v (DO v k)=y at*
   have F:=b1;refine AD [0,4,6,18] ?_;clear F
   refine AX rfl (AW.skip (As ?_))
   refine Af [0,4,6,7] ?_ (onc 2 (pc [I ((k:Int)+1),.sl 1 (An v)] (.tup [.osl 0 x.length 1,I 0]) [some ⟨5,1,Ab x⟩]) noc) (hp:=by exact BR q1 rfl sP)
   refine Af [0,4,6,7,31] ?_
   refine De rfl (fun h=>?_) (fun h=>AW.skip ?_)
   · simp only[decide_eq_true_eq]at h
     rw[if_pos oM]at hb
     refine Af [0,4,6] ?_
     have F:=b2;refine AD [0,4,6] ?_;clear F
     exact⟨k+1,oM,oM,(Bk (And.intro hb hx) [some 0] [])⟩
   · simp only[decide_eq_false_iff_not]at h
     rw[if_neg oM]at hb
     have F:=b2;refine AD [0,4,6] ?_;clear F
     exact⟨k+1,oM,oM,(Bk (And.intro hb hy) [some 0] [])⟩
 · have b1:decide ((k:Int)+1≤3)=false:=by simp;omega
   have:k=3:=by omega
   subst this
   have F:=b1;refine AD [4,18] ?_;clear F
   refine Ay rfl (AW.exit (Ba (Ba (BZ (As ?_)))))
   refine Af [2,3] ?_
   exact AW.ret (B0 AZ.eq_1 [some 0] [])
end Go.Proofs.YtpkhodjlnodagaaGreatDoor
namespace Go.Proofs.YtpkhodjlnodagaaGreatDoor
open Go.Av
theorem xorU(k:IntKind)(hk:k.bits=64)(a:Nat)(ha:a<2^64):AP .xor k (a:Int) 0=k.wrap (a:Int):=by
 simp only[AP]
 rw[BitVec.toNat_xor,BitVec.ofInt_natCast,BitVec.toNat_ofNat,hk,Nat.mod_eq_of_lt ha]
 rw[show(BitVec.ofInt 64 0).toNat=0 by rfl,Nat.xor_zero]
theorem Ua(k:IntKind)(hk:k.bits=64)(a:Nat)(b:Int)(ha:a<2^64)(hb:BitVec.ofInt 64 b=BitVec.allOnes 64):AP .xor k (a:Int) b=k.wrap ((2^64-1-a:Nat):Int):=by
 simp only[AP]
 rw[hk,hb,BitVec.xor_allOnes,BitVec.toNat_not,BitVec.ofInt_natCast,BitVec.toNat_ofNat,Nat.mod_eq_of_lt ha]
theorem Dy(n:Int):IntKind.u64.wrap n=n%18446744073709551616:=by
 have e1:((2:Int)^IntKind.u64.bits)=18446744073709551616:=by decide
 have e3:IntKind.u64.signed=false:=rfl
 unfold IntKind.wrap
 simp only[e1,e3,Bool.false_and,Bool.false_eq_true,if_false]
theorem Adm(x:Nat)(hx:x<2^63):Dp (x:Int)=((2*x:Nat):Int):=by
 unfold Dp
 have h1:(x:Int).fdiv (2^63)=0:=by rw[Int.fdiv_eq_ediv_of_nonneg _ dC];omega
 rw[h1,Dy,Dy,Dy]
 rw[show(((x:Int)%18446744073709551616)*2^1)%18446744073709551616=((2*x:Nat):Int) by omega,show(0:Int)%18446744073709551616=0 by decide,xorU .u64 rfl _ oM,Dy]
 omega
theorem Ado(x:Nat)(hx:x<2^63):Dp (-(x:Int)-1)=((2*x+1:Nat):Int):=by
 unfold Dp
 have h1:(-(x:Int)-1).fdiv (2^63)= -1:=by rw[Int.fdiv_eq_ediv_of_nonneg _ dC];omega
 rw[h1,Dy,Dy,Dy]
 rw[show(((-(x:Int)-1)%18446744073709551616)*2^1)%18446744073709551616=((2^64-2*x-2:Nat):Int) by omega,Ua .u64 rfl _ _ oM dC,Dy]
 omega
theorem Wm(x:Nat)(hx:x<2^63):HJ ((2*x:Nat):Int)=x:=by
 unfold HJ
 have h1:((2*x:Nat):Int).fdiv (2^1)=(x:Int):=by rw[Int.fdiv_eq_ediv_of_nonneg _ dC];omega
 rw[h1,QH _ oM,show((2*x%2:Nat):Int)=0 by omega,Ar (n:=(x:Int)) oM,show IntKind.i64.wrap (0-IntKind.i64.wrap 0)=0 by decide,xorU .i64 rfl _ oM,Ar oM]
theorem YF(x:Nat)(hx:x<2^63):HJ ((2*x+1:Nat):Int)= -(x:Int)-1:=by
 unfold HJ
 have h1:((2*x+1:Nat):Int).fdiv (2^1)=(x:Int):=by rw[Int.fdiv_eq_ediv_of_nonneg _ dC];omega
 rw[h1,QH _ oM,show(((2*x+1)%2:Nat):Int)=1 by omega,Ar (n:=(x:Int)) oM,Ua .i64 rfl _ _ oM dC]
 have e1:((2:Int)^IntKind.i64.bits)=18446744073709551616:=by decide
 unfold IntKind.wrap
 simp only[e1]
 have e2:IntKind.i64.signed=true:=rfl
 simp only[e2,Bool.true_and]
 have e3:((2:Int)^(IntKind.i64.bits-1))=9223372036854775808:=by decide
 simp only[e3,ge_iff_le,decide_eq_true_eq]
 split<;>omega
def BE(x:Int):Prop:= -9223372036854775808≤x∧x<9223372036854775808
theorem JT(x:Int)(hx:BE x):HJ (Dp x)=x:=by
 obtain⟨h1,h2⟩:=hx
 by_cases h:0≤x
 · obtain⟨y,rfl⟩: ∃ y:Nat,x=y:=⟨x.toNat,oM⟩
   rw[Adm y oM,Wm y oM]
 · obtain⟨y,rfl⟩: ∃ y:Nat,x= -(y:Int)-1:=⟨(-x-1).toNat,oM⟩
   rw[Ado y oM,YF y oM]
theorem HM(pre post e:List UInt8)(x:Int)(hx:BE x)(he:e=pre++Bc x++post)(hl:e.length≤2^40):
   Ad Tryz.prog 186 [.sl 1 (Ab e),I pre.length] [] (.tup [I x,I ((pre++Bc x).length:Nat),B true]) []:=by
 have hz:=Gw x
 have h:=CV pre post (Dp x).toNat oM
 rw[show pre++Ap (Dp x).toNat++post=e from he.symm]at h
 have:=Aco e pre.length _ _ hl (by subst he;simp at hl;omega) h
 rw[show(((Dp x).toNat:Nat):Int)=Dp x by omega,JT x hx]at this
 rw[List.length_append]
 exact this
end Go.Proofs.YtpkhodjlnodagaaGreatDoor
namespace Go.Proofs.YtpkhodjlnodagaaGreatDoor
open Go.Av
set_option maxHeartbeats 4000000
attribute [local irreducible] Ad
theorem M9(n:Int):BE (IntKind.i64.wrap n):=by
 have e1:((2:Int)^IntKind.i64.bits)=18446744073709551616:=by decide
 have e2:IntKind.i64.signed=true:=rfl
 have e3:((2:Int)^(IntKind.i64.bits-1))=9223372036854775808:=by decide
 unfold BE IntKind.wrap
 simp only[e1,e2,e3,Bool.true_and,ge_iff_le,decide_eq_true_eq]
 split<;>omega
theorem Qa(x y:Int)(hx:BE x):IntKind.i64.wrap (y+IntKind.i64.wrap (x-y))=x:=by
 obtain⟨h1,h2⟩:=hx
 have e1:((2:Int)^IntKind.i64.bits)=18446744073709551616:=by decide
 have e2:IntKind.i64.signed=true:=rfl
 have e3:((2:Int)^(IntKind.i64.bits-1))=9223372036854775808:=by decide
 unfold IntKind.wrap
 simp only[e1,e2,e3,Bool.true_and,ge_iff_le,decide_eq_true_eq]
 split<;>split<;>omega
theorem N4(v:List Int)(i:Nat): ∀ j,∃ t,Cv v (i+j)=Cv v i++t
 |0=>⟨[],sP⟩
 |j+1=>by
   obtain⟨t,ht⟩:=N4 v i j
   exact⟨t++Bc (v.getD (i+j) 0),by rw[← Nat.add_assoc,Cv,ht,List.append_assoc]⟩
theorem Qf(v:List Int)(i:Nat)(h:i≤v.length): ∃ t,Cv v v.length=Cv v i++t:=by
 obtain⟨t,ht⟩:=N4 v i (v.length-i)
 rw[show i+(v.length-i)=v.length by omega]at ht
 exact⟨t,ht⟩
theorem Tn(v:List Int)(hl:v.length≤16384)(hv: ∀ x∈v,BE x):
   Ad Tryz.prog 129 [.sl 1 (Ab (Cv v v.length)),I (BG 0 v).length,I v.length,I 0] [] (.tup [.osl 0 v.length 1,B true]) [some ⟨3,1,An v⟩]:=by
 refine acN 89 0 Tryz.func129 fun C hN hk=>?_
 have a7:((0:Int)==2)=false:=by decide
 have a8:((0:Int)==1)=false:=by decide
 have hel:=Ji v v.length
 refine Af [0,1,2,3] ?_
 refine Af [0,1,2,3,10] ?_
 refine Bw hk 1 (fun i:Nat=>⟨[(0,.sl 1 (Ab (Cv v v.length))),(1,I (Cv v i).length),(2,I v.length),(3,I 0),(10,.osl 0 i 1)],[(0,some ⟨3,1,An (v.take i)⟩)]⟩) (fun i=>i≤v.length) (fun i=>v.length-i) 0 oM (Bk (And.intro (And.intro Cv.eq_1 Cv.eq_2) An.eq_1) [none] []) ?_
 intro i h1
 by_cases hi:i<v.length
 · have b1:decide ((i:Int)<v.length)=true:=by simp;omega
   have hx:=List.getElem?_eq_getElem hi
   have hx2:v.getD i 0=v[i]:=by simp[List.getD,hi]
   have hxr:=hv _ (List.getElem_mem hi)
   have htk:v.take (i+1)=v.take i++[v[i]]:=List.take_succ_eq_append_getElem hi
   have htl:(v.take i).length=i:=by simp;omega
   obtain⟨t1,ht1⟩:=Qf v (i+1) oM
   have hpk:Cv v (i+1)=Cv v i++Bc (v.getD i 0):=rfl
   rw[hpk]at ht1
   rw[hx2]at hpk ht1
   generalize v[i]=x at*
   have q:=HM (Cv v i) t1 (Cv v v.length) (x) hxr ht1 oM
   rw[← hpk]at q
   have F:=b1;refine AD [0,1,2,3,10,20] ?_;clear F
   refine AX rfl (AW.skip (As ?_))
   generalize Cv v v.length=e at*
   refine nx ?_;refine rG hN hk (onc 2 (pc [.sl 1 (Ab e),I (Cv v i).length] (.tup [I (x),I (Cv v (i+1)).length,B true]) []) noc) [] [0,2,3,10,11,12,13] fun K hK=>?_;simp only[go_sem,seval]
   first|with_reducible refine hK _ _ ?_|refine⟨by exact BR q rfl sP,hK _ _ ?_⟩|refine obK (hK _ _ ?_)
   clear hK K;refine Af [0,2,3,10,11,12,29] ?_
   refine Ay rfl (AW.skip (As ?_))
   refine Af [0,1,2,3,10,11] ?_
   have F:=a7;refine AD [0,1,2,3,10,11,35] ?_;clear F
   refine cF ?_;have F:=a8;refine AD [0,1,2,3,10,11,69] ?_;clear F
   refine cF ?_;refine Af [0,1,2,3,10] ?_ (hp:=by exact⟨sP,oM,htl⟩)
   exact⟨i+1,oM,oM,(Bk htk [some 0] [])⟩
 · have b1:decide ((i:Int)<v.length)=false:=by simp;omega
   have:i=v.length:=by omega
   subst this
   rw[List.take_length]
   have F:=b1;refine AD [10,20] ?_;clear F
   refine Ay rfl (AW.exit (Ba (Ba (BZ (As ?_)))))
   refine Af [8,9] ?_
   exact AW.ret (B0 trivial [some 0] [])
theorem O5(v:List Int)(i:Nat): ∀ j,∃ t,B6 v (i+j)=B6 v i++t
 |0=>⟨[],sP⟩
 |j+1=>by
   obtain⟨t,ht⟩:=O5 v i j
   exact⟨t++Bc (E2 v (i+j)),by rw[← Nat.add_assoc,B6,ht,List.append_assoc]⟩
theorem Qv(v:List Int)(i:Nat)(h:i≤v.length): ∃ t,B6 v v.length=B6 v i++t:=by
 obtain⟨t,ht⟩:=O5 v i (v.length-i)
 rw[show i+(v.length-i)=v.length by omega]at ht
 exact⟨t,ht⟩
theorem Tm(v:List Int)(hl:v.length≤16384)(hv: ∀ x∈v,BE x):
   Ad Tryz.prog 129 [.sl 1 (Ab (B6 v v.length)),I (BG 1 v).length,I v.length,I 1] [] (.tup [.osl 0 v.length 1,B true]) [some ⟨3,1,An v⟩]:=by
 refine acN 89 0 Tryz.func129 fun C hN hk=>?_
 have a7:((1:Int)==2)=false:=by decide
 have a8:((1:Int)==1)=true:=by decide
 have hel:=JB v v.length
 refine Af [0,1,2,3] ?_
 refine Af [0,1,2,3,10] ?_
 refine Bw hk 1 (fun i:Nat=>⟨[(0,.sl 1 (Ab (B6 v v.length))),(1,I (B6 v i).length),(2,I v.length),(3,I 1),(10,.osl 0 i 1)],[(0,some ⟨3,1,An (v.take i)⟩)]⟩) (fun i=>i≤v.length) (fun i=>v.length-i) 0 oM (Bk (And.intro (And.intro B6.eq_1 B6.eq_2) An.eq_1) [none] []) ?_
 intro i h1
 by_cases hi:i<v.length
 · have b1:decide ((i:Int)<v.length)=true:=by simp;omega
   have hx:=List.getElem?_eq_getElem hi
   have hx2:v.getD i 0=v[i]:=by simp[List.getD,hi]
   have hxr:=hv _ (List.getElem_mem hi)
   have htk:v.take (i+1)=v.take i++[v[i]]:=List.take_succ_eq_append_getElem hi
   have htl:(v.take i).length=i:=by simp;omega
   obtain⟨t1,ht1⟩:=Qv v (i+1) oM
   have hpk:B6 v (i+1)=B6 v i++Bc (E2 v i):=rfl
   rw[hpk]at ht1
   by_cases hi0:0<i
   · have b3:decide ((i:Int)>0)=true:=by simp;omega
     have hy:=List.getElem?_eq_getElem (show i-1<v.length by omega)
     have hyr:=hv _ (List.getElem_mem (show i-1<v.length by omega))
     have hy2:v.getD (i-1) 0=v[i-1]:=by simp[List.getD,show i-1<v.length by omega]
     have hy3:(v.take i)[i-1]? =some v[i-1]:=by rw[List.getElem?_take_of_lt oM];exact hy
     rw[E2,if_pos hi0,hx2,hy2]at hpk ht1
     generalize v[i]=x at*
     generalize v[i-1]=y at*
     have hzr:=M9 (x-y)
     have hzz:=Qa x y hxr
     generalize IntKind.i64.wrap (x-y)=z at*
     have b4:=Ar (n:=(i:Int)-1) oM
     have b5:((i:Int)-1).toNat=i-1:=by omega
     have q:=HM (B6 v i) t1 (B6 v v.length) (z) hzr ht1 oM
     rw[← hpk]at q
     have F:=b1;refine AD [0,1,2,3,10,20] ?_;clear F
     refine AX rfl (AW.skip (As ?_))
     generalize B6 v v.length=e at*
     refine nx ?_;refine rG hN hk (onc 2 (pc [.sl 1 (Ab e),I (B6 v i).length] (.tup [I (z),I (B6 v (i+1)).length,B true]) []) noc) [] [0,2,3,10,11,12,13] fun K hK=>?_;simp only[go_sem,seval]
     first|with_reducible refine hK _ _ ?_|refine⟨by exact BR q rfl sP,hK _ _ ?_⟩|refine obK (hK _ _ ?_)
     clear hK K;refine Af [0,2,3,10,11,12,29] ?_
     refine Ay rfl (AW.skip (As ?_))
     refine Af [0,1,2,3,10,11] ?_
     have F:=a7;refine AD [0,1,2,3,10,11,35] ?_;clear F
     refine cF ?_;have F:=And.intro a8 b3;refine AD [0,1,2,3,10,11,69] ?_;clear F
     refine cT ?_;have F:=And.intro b4 (And.intro b5 (And.intro hy3 hzz));refine AD [0,1,2,3,10] ?_ (hp:=by exact⟨⟨oM,sP⟩,oM,htl⟩);clear F
     exact⟨i+1,oM,oM,(Bk htk [some 0] [])⟩
   · have b3:decide ((i:Int)>0)=false:=by simp;omega
     rw[E2,if_neg hi0,hx2]at hpk ht1
     generalize v[i]=x at*
     have q:=HM (B6 v i) t1 (B6 v v.length) (x) hxr ht1 oM
     rw[← hpk]at q
     have F:=b1;refine AD [0,1,2,3,10,20] ?_;clear F
     refine AX rfl (AW.skip (As ?_))
     generalize B6 v v.length=e at*
     refine nx ?_;refine rG hN hk (onc 2 (pc [.sl 1 (Ab e),I (B6 v i).length] (.tup [I (x),I (B6 v (i+1)).length,B true]) []) noc) [] [0,2,3,10,11,12,13] fun K hK=>?_;simp only[go_sem,seval]
     first|with_reducible refine hK _ _ ?_|refine⟨by exact BR q rfl sP,hK _ _ ?_⟩|refine obK (hK _ _ ?_)
     clear hK K;refine Af [0,2,3,10,11,12,29] ?_
     refine Ay rfl (AW.skip (As ?_))
     refine Af [0,1,2,3,10,11] ?_
     have F:=a7;refine AD [0,1,2,3,10,11,35] ?_;clear F
     refine cF ?_;have F:=And.intro a8 b3;refine AD [0,1,2,3,10,11,69] ?_;clear F
     refine cF ?_;refine Af [0,1,2,3,10] ?_ (hp:=by exact⟨sP,oM,htl⟩)
     exact⟨i+1,oM,oM,(Bk htk [some 0] [])⟩
 · have b1:decide ((i:Int)<v.length)=false:=by simp;omega
   have:i=v.length:=by omega
   subst this
   rw[List.take_length]
   have F:=b1;refine AD [10,20] ?_;clear F
   refine Ay rfl (AW.exit (Ba (Ba (BZ (As ?_)))))
   refine Af [8,9] ?_
   exact AW.ret (B0 trivial [some 0] [])
theorem Qk(v:List Int): ∀ f i k,i≤k→k≤C9 v f i→i<v.length→v.getD k 0=v.getD i 0
 |0,i,k,h1,h2,h3=>by simp only[C9]at h2;rw[show k=i by omega]
 |f+1,i,k,h1,h2,h3=>by
   rw[C9]at h2
   split at h2
   · next hh=>
     by_cases hk:k=i
     · rw[hk]
     · rw[Qk v f (i+1) k oM h2 hh.1,hh.2]
   · rw[show k=i by omega]
theorem MJ(v:List Int): ∀ f i,(ruG v f i).length≤(v.length-i)*22
 |0,i=>by simp[ruG]
 |f+1,i=>by
   rw[ruG]
   split
   · next h=>
     have h1:=J9 v (v.length-i) i h
     have h2:=MJ v f (C9 v (v.length-i) i+1)
     have h3:=C1 (v.getD (C9 v (v.length-i) i) 0)
     have h4:=Bf (C9 v (v.length-i) i-i+1)
     simp only[List.length_append]
     omega
   · simp
theorem R4(v:List Int):(FJ v).length≤12+v.length*22:=by
 have:=MJ v v.length 0
 have:=FU 2 v
 simp only[FJ,List.length_append]
 omega
theorem VX(v:List Int)(hl:v.length≤16384)(hv: ∀ x∈v,BE x):
   Ad Tryz.prog 129 [.sl 1 (Ab (FJ v)),I (BG 2 v).length,I v.length,I 2] [] (.tup [.osl 0 v.length 1,B true]) [some ⟨3,1,An v⟩]:=by
 refine acN 89 0 Tryz.func129 fun C hN hk=>?_
 have a7:((2:Int)==2)=true:=by decide
 have hel:=R4 v
 refine Af [0,1,2,3] ?_
 refine Af [0,1,2,3,10] ?_
 refine Bw hk 1 (fun a:Nat×List UInt8=>⟨[(0,.sl 1 (Ab (FJ v))),(1,I a.2.length),(2,I v.length),(3,I 2),(10,.osl 0 a.1 1)],[(0,some ⟨3,1,An (v.take a.1)⟩)]⟩) (fun a=>a.1≤v.length∧ ∃ f,v.length-a.1≤f∧a.2++ruG v f a.1=FJ v) (fun a=>v.length-a.1) (0,BG 2 v) ⟨oM,v.length,sP,rfl⟩ (Bk An.eq_1 [none] []) ?_
 rintro⟨i,p⟩ ⟨h1,f,h2,h3⟩
 simp only at h1 h2 h3 ⊢
 by_cases hi:i<v.length
 · have b1:decide ((i:Int)<v.length)=true:=by simp;omega
   obtain⟨f,rfl⟩: ∃ f',f=f'+1:=⟨f-1,oM⟩
   rw[ruG,if_pos hi]at h3
   have hre:=J9 v (v.length-i) i hi
   have hrq:=Qk v (v.length-i) i
   generalize C9 v (v.length-i) i=j at*
   have hjx:v.getD j 0=v[j]'hre.2:=by simp[List.getD,hre.2]
   have hxr:=hv _ (List.getElem_mem hre.2)
   have hall: ∀ k,i≤k→k≤j→v[k]? =some (v[j]'hre.2):=by
     intro k g1 g2
     have hkl:k<v.length:=by omega
     have e1:=hrq k g1 g2 hi
     have e2:=hrq j hre.1 (Nat.le_refl _) hi
     rw[← e2,hjx]at e1
     rw[List.getElem?_eq_getElem hkl]
     simp[List.getD,hkl]at e1
     rw[e1]
   rw[hjx]at h3
   generalize v[j]'hre.2=x at*
   have q:=HM p (Ap (j-i+1)++ruG v f (j+1)) (FJ v) x hxr (by rw[← h3];simp[List.append_assoc]) oM
   have hpl:(p++Bc x).length≤2^40:=by
     have:=congrArg List.length h3
     simp only[List.length_append]at this ⊢
     omega
   have q2:=DM (FJ v) (p++Bc x).length oM oM
   have hgv:=CV (p++Bc x) (ruG v f (j+1)) (j-i+1) oM
   rw[show p++Bc x++Ap (j-i+1)++ruG v f (j+1)=FJ v by rw[← h3];simp[List.append_assoc]]at hgv
   rw[hgv]at q2
   simp only[Ds]at q2
   rw[← List.length_append]at q2
   have h5:p++Bc x++Ap (j-i+1)++ruG v f (j+1)=FJ v:=by rw[← h3];simp[List.append_assoc]
   generalize hp1:p++Bc x=p1 at*
   generalize hp2:p1++Ap (j-i+1)=p2 at*
   generalize FJ v=e at*
   have F:=b1;refine AD [0,1,2,3,10,20] ?_;clear F
   refine AX rfl (AW.skip (As ?_))
   refine Af [0,2,3,10,11,12,13] ?_ (onc 2 (pc [.sl 1 (Ab e),I p.length] (.tup [I x,I p1.length,B true]) []) noc) (hp:=by exact BR q rfl sP)
   refine Af [0,2,3,10,11,12,29] ?_
   refine Ay rfl (AW.skip (As ?_))
   refine Af [0,1,2,3,10,11] ?_
   have F:=a7;refine AD [0,1,2,3,10,11,35] ?_;clear F
   refine cT ?_;refine nx ?_;refine rG hN hk (onc 2 (pc [.sl 1 (Ab e),I p1.length] (.tup [U64 ((j-i+1:Nat):Int),I p2.length,B true]) []) noc) [] [0,1,2,3,10,11,14,15,16] fun K hK=>?_;simp only[go_sem,seval]
   first|with_reducible refine hK _ _ ?_|refine⟨by exact BR q2 rfl sP,hK _ _ ?_⟩|refine obK (hK _ _ ?_)
   clear hK K;refine nx ?_
   have c1:decide (((j-i+1:Nat):Int)<1)=false:=by simp;omega
   have c2:=Ar (n:=(v.length:Int)- (i:Int)) oM
   have c3:=IntWalk.u64_in ((v.length:Int)- (i:Int)) oM
   have c4:decide (((j-i+1:Nat):Int)>(v.length:Int)- (i:Int))=false:=by simp;omega
   have F:=And.intro c1 (And.intro c2 (And.intro c3 c4));refine AD [0,2,3,10,11,14,15,59] ?_;clear F
   refine Ay rfl (AW.skip (As ?_))
   refine nx ?_
   refine Bw hk 1 (fun k:Nat=>⟨[(0,.sl 1 (Ab e)),(2,I v.length),(3,I 2),(10,.osl 0 k 1),(11,I x),(14,U64 ((j+1-k:Nat):Int)),(15,I p2.length)],[(0,some ⟨3,1,An (v.take k)⟩)]⟩) (fun k=>i≤k∧k≤j+1) (fun k=>j+1-k) i ⟨oM,oM⟩ (CL [some 0] [] (by simp[AK,wk,lk,I,U64];omega) (by simp[Am,Ai,Ak,lkh])) ?_
   rintro k ⟨g1,g2⟩
   by_cases hkj:k<j+1
   · have d1:decide (((j+1-k:Nat):Int)>0)=true:=by simp;omega
     have d2:=IntWalk.u64_in (((j+1-k:Nat):Int)-1) oM
     have hkx:=hall k g1 oM
     have htk:v.take (k+1)=v.take k++[x]:=by rw[List.take_add_one,hkx];rfl
     have htl:(v.take k).length=k:=by simp;omega
     have F:=d1;refine AD [0,2,3,10,11,14,15,61] ?_;clear F
     refine AX rfl (AW.skip (As ?_))
     refine Af [0,2,3,10,11,14,15] ?_ (hp:=by exact⟨sP,oM,htl⟩)
     have F:=d2;refine AD [0,2,3,10,11,14,15] ?_;clear F
     exact⟨k+1,⟨oM,oM⟩,oM,(CL [some 0] [] (by simp[AK,wk,lk,I,U64];omega) (by simp[Am,Ai,Ak,lkh,htk]))⟩
   · have d1:decide (((j+1-k:Nat):Int)>0)=false:=by simp;omega
     have hkk:k=j+1:=by omega
     have F:=d1;refine AD [0,2,3,10,15,61] ?_;clear F
     refine Ay rfl (AW.exit (Ba (Ba (BZ (As ?_)))))
     refine Af [0,1,2,3,10] ?_
     exact⟨(j+1,p2),⟨by simp only;omega,f,by simp only;omega,h5⟩,by simp only;omega,(Bk hkk [some 0] [])⟩
 · have b1:decide ((i:Int)<v.length)=false:=by simp;omega
   have:i=v.length:=by omega
   subst this
   rw[List.take_length]
   have F:=b1;refine AD [10,20] ?_;clear F
   refine Ay rfl (AW.exit (Ba (Ba (BZ (As ?_)))))
   refine Af [8,9] ?_
   exact AW.ret (B0 trivial [some 0] [])
end Go.Proofs.YtpkhodjlnodagaaGreatDoor
namespace Go.Proofs.YtpkhodjlnodagaaGreatDoor
open Go.Av
def GG(o:List UInt8)(q:Nat):Bool:=(o.getD (q / 8) 0).toNat.testBit (q%8)
theorem TO(o:List UInt8)(p q:Nat)(hp:p / 8<o.length):GG (Hy o p) q=(decide (q=p)||GG o q):=by
 unfold GG Hy
 by_cases h:q / 8=p / 8
 · have h1:(o.set (p / 8) (UInt8.ofNat ((o.getD (p / 8) 0).toNat ||| 2^(p%8)))).getD (q / 8) 0=UInt8.ofNat ((o.getD (p / 8) 0).toNat ||| 2^(p%8)):=by
     rw[h];simp[List.getD,hp]
   have h2:=(Zw (o.getD (p / 8) 0).toNat (p%8) (UInt8.toNat_lt _) oM).2
   rw[h1,ofNat_toNat _ h2,Nat.testBit_or,Nat.testBit_two_pow,h]
   rw[Bool.or_comm]
   congr 1
   rw[Bool.eq_iff_iff]
   simp only[decide_eq_true_eq]
   omega
 · have h1:(o.set (p / 8) (UInt8.ofNat ((o.getD (p / 8) 0).toNat ||| 2^(p%8)))).getD (q / 8) 0=o.getD (q / 8) 0:=by
     simp[List.getD,Ne.symm h]
   rw[h1,show decide (q=p)=false by simp;intro hh;exact h (by rw[hh]),Bool.false_or]
theorem QA(d a:Nat)(o:List UInt8)(q:Nat): ∀ k,(a+k+7) / 8≤o.length→GG (Dk d a k o) q=(GG o q||(decide (a≤q∧q<a+k)&&d.testBit (q-a)))
 |0,_=>by simp[Dk];omega
 |k+1,h=>by
   have ih:=QA d a o q k oM
   rw[Dk]
   by_cases hq:q=a+k
   · subst hq
     rw[show decide (a≤a+k∧a+k<a+k)=false by simp]at ih
     rw[show decide (a≤a+k∧a+k<a+(k+1))=true by simp,Nat.add_sub_cancel_left]
     split
     · next ht=>
       rw[TO _ _ _ (by rw[Io];omega),ht]
       simp
     · next ht=>rw[ih];simp[ht]
   · have hd:decide (a≤q∧q<a+(k+1))=decide (a≤q∧q<a+k):=by
       rw[Bool.eq_iff_iff];simp only[decide_eq_true_eq];omega
     rw[hd,← ih]
     split
     · rw[TO _ _ _ (by rw[Io];omega)];simp[hq]
     · rfl
theorem Aa0(n q:Nat):GG (List.replicate n 0) q=false:=by
 unfold GG
 have:(List.replicate n (0:UInt8)).getD (q / 8) 0=0:=by
   simp[List.getD,List.getElem?_replicate];split<;>rfl
 rw[this];simp
theorem Oc(v:List Int)(lo:Int)(w:Nat): ∀ n,n≤v.length→ ∀ q,GG (BA v lo w n) q=(decide (q<n*w)&&(dU lo (v.getD (q / w) 0)).testBit (q%w))
 |0,_,q=>by rw[BA,Aa0];simp
 |n+1,hn,q=>by
   have hnw:n*w+w≤v.length*w:=by rw[← Nat.succ_mul];exact Nat.mul_le_mul_right _ hn
   rw[BA,QA _ _ _ _ _ (by rw[EZ];omega),Oc v lo w n oM q,Nat.succ_mul]
   by_cases h1:q<n*w
   · rw[show decide (q<n*w)=true by simp[h1],show decide (n*w≤q∧q<n*w+w)=false by simp;omega,show decide (q<n*w+w)=true by simp;omega]
     simp
   · rw[show decide (q<n*w)=false by simp;omega]
     by_cases h2:q<n*w+w
     · have h3:q / w=n:=by
         rw[Nat.div_eq_of_lt_le]
         · omega
         · rw[Nat.succ_mul];omega
       have h4:q%w=q-n*w:=by
         have:=Nat.div_add_mod q w
         rw[h3,Nat.mul_comm]at this
         omega
       rw[h3,h4,show decide (n*w≤q∧q<n*w+w)=true by simp;omega,show decide (q<n*w+w)=true by simp;omega]
       simp
     · rw[show decide (n*w≤q∧q<n*w+w)=false by simp;omega,show decide (q<n*w+w)=false by simp;omega]
       simp
theorem S2(v:List Int)(lo:Int)(w i k:Nat)(hi:i<v.length)(hk:k<w):GG (BA v lo w v.length) (i*w+k)=(dU lo (v.getD i 0)).testBit k:=by
 have h1:(i*w+k) / w=i:=by rw[Nat.mul_comm,Nat.mul_add_div oM,Nat.div_eq_of_lt hk];rfl
 have h2:(i*w+k)%w=k:=by rw[Nat.mul_comm,Nat.mul_add_mod,Nat.mod_eq_of_lt hk]
 have h3:i*w+w≤v.length*w:=by rw[← Nat.succ_mul];exact Nat.mul_le_mul_right _ hi
 rw[Oc v lo w _ (Nat.le_refl _),h1,h2,show decide (i*w+k<v.length*w)=true by simp;omega,Bool.true_and]
theorem WM(v:List Int): ∀ n i,i<n→DF v n≤v.getD i 0
 |0,i,h=>by omega
 |n+1,i,h=>by
   rw[DF]
   by_cases hi:i=n
   · subst hi;split<;>omega
   · have:=WM v n i oM;split<;>omega
theorem Vb(v:List Int): ∀ n i,i<n→v.getD i 0≤Ch v n
 |0,i,h=>by omega
 |n+1,i,h=>by
   rw[Ch]
   by_cases hi:i=n
   · subst hi;split<;>omega
   · have:=Vb v n i oM;split<;>omega
theorem MP(v:List Int)(h0:0<v.length): ∀ n,n≤v.length→DF v n∈v
 |0,_=>by simp only[DF];have:v.getD 0 0=v[0]:=by simp[List.getD,h0]
          rw[this];exact List.getElem_mem _
 |n+1,h=>by
   rw[DF]
   split
   · have:v.getD n 0=v[n]:=by simp[List.getD,show n<v.length by omega]
     rw[this];exact List.getElem_mem _
   · exact MP v h0 n oM
theorem R2(v:List Int)(h0:0<v.length): ∀ n,n≤v.length→Ch v n∈v
 |0,_=>by simp only[Ch];have:v.getD 0 0=v[0]:=by simp[List.getD,h0]
          rw[this];exact List.getElem_mem _
 |n+1,h=>by
   rw[Ch]
   split
   · have:v.getD n 0=v[n]:=by simp[List.getD,show n<v.length by omega]
     rw[this];exact List.getElem_mem _
   · exact R2 v h0 n oM
theorem Ym(lo x:Int)(h1:BE lo)(h2:BE x)(h:lo≤x):(dU lo x:Int)=x-lo:=by
 rw[← MC,Dy,Dy,Dy]
 unfold BE at h1 h2
 omega
theorem NK(w x b:Nat)(hb:BI w x<2^b):x<2^(C2 w x+b):=by
 unfold BI at hb
 unfold C2
 split at hb
 · next h=>
   rw[if_pos h,Nat.pow_add,Nat.mul_comm]
   exact(Nat.div_lt_iff_lt_mul (Nat.two_pow_pos w)).1 hb
 · next h=>rw[if_neg h,Nat.zero_add];exact hb
theorem YX(x:Nat)(hx:x<2^64):x<2^GU x:=by
 have h1:BI 32 x<2^32:=GH (w:=32) hx oM
 have h2:BI 16 (BI 32 x)<2^16:=GH (w:=16) h1 oM
 have h3:BI 8 (BI 16 (BI 32 x))<2^8:=GH (w:=8) h2 oM
 have h4:=(Ph _ h3).2
 have:=NK 32 x _ (NK 16 (BI 32 x) _ (NK 8 _ _ h4))
 unfold GU
 rw[show C2 32 x+C2 16 (BI 32 x)+C2 8 (BI 16 (BI 32 x))+II (BI 8 (BI 16 (BI 32 x)))=C2 32 x+(C2 16 (BI 32 x)+(C2 8 (BI 16 (BI 32 x))+II (BI 8 (BI 16 (BI 32 x))))) by omega]
 exact this
theorem YR(v:List Int)(hv: ∀ x∈v,BE x)(i:Nat)(hi:i<v.length):dU (loF v) (v.getD i 0)<2^Be v:=by
 have h0:0<v.length:=by omega
 have hx:BE (v.getD i 0):=by rw[show v.getD i 0=v[i] by simp[List.getD,hi]];exact hv _ (List.getElem_mem hi)
 have hlo:=hv _ (MP v h0 v.length (Nat.le_refl _))
 have hhi:=hv _ (R2 v h0 v.length (Nat.le_refl _))
 have a1:=WM v v.length i hi
 have a2:=Vb v v.length i hi
 have e1:=Ym _ _ hlo hx a1
 have e2:=Ym _ _ hlo hhi (Int.le_trans a1 a2)
 have:=YX (dU (loF v) (Ch v v.length)) (GZ _ _)
 unfold Be
 refine Nat.lt_of_le_of_lt ?_ this
 unfold loF
 omega
theorem T1(lo x:Int)(hx:BE x):IntKind.i64.wrap (IntKind.u64.wrap (IntKind.u64.wrap lo+(dU lo x:Int)))=x:=by
 obtain⟨h1,h2⟩:=hx
 rw[← MC,Dy,Dy,Dy,Dy]
 have e1:((2:Int)^IntKind.i64.bits)=18446744073709551616:=by decide
 have e2:IntKind.i64.signed=true:=rfl
 have e3:((2:Int)^(IntKind.i64.bits-1))=9223372036854775808:=by decide
 unfold IntKind.wrap
 simp only[e1,e2,e3,Bool.true_and,ge_iff_le,decide_eq_true_eq]
 split<;>omega
end Go.Proofs.YtpkhodjlnodagaaGreatDoor
namespace Go.Proofs.YtpkhodjlnodagaaGreatDoor
open Go.Av
set_option maxHeartbeats 4000000
attribute [local irreducible] Ad
theorem Yu(v x j:Nat)(hv:v<2^j)(ht:v+x*2^j<2^64):
   AP .or .u64 (v:Int) (IntKind.u64.wrap ((x:Int)*2^j))=((v+x*2^j:Nat):Int):=by
 have e:((x:Int)*2^j)=((x*2^j:Nat):Int):=by push_cast;rfl
 rw[e,IntWalk.u64_in _ oM,orU _ _ oM oM]
 have:=Nat.two_pow_add_eq_or_of_lt hv x
 rw[Nat.or_comm,Nat.mul_comm x,← this,Nat.add_comm]
theorem AbC(a r:Nat)(ha:a<256)(hr:r<8):AP .and .u8 ((a:Int).fdiv (2^min r 8)) 1=((a / 2^r%2:Nat):Int):=by
 have h2: ∀ (x:Fin 256) (y:Fin 8),AP .and .u8 (((x.val:Nat):Int).fdiv (2^min y.val 8)) 1=((x.val / 2^y.val%2:Nat):Int):=by decide+kernel
 exact h2 ⟨a,ha⟩ ⟨r,hr⟩
theorem bitN(o:List UInt8)(q:Nat)(b:Bool)(h:GG o q=b):(o.getD (q / 8) 0).toNat / 2^(q%8)%2=b.toNat:=by
 unfold GG at h
 rw[Nat.testBit_eq_decide_div_mod_eq]at h
 generalize (o.getD (q / 8) 0).toNat / 2^(q%8)=m at*
 cases b<;>simp at h ⊢ <;>omega
theorem Ad3(e:List UInt8)(a:Int):Ad Tryz.prog 128 [.sl 1 (Ab e),I a,I 0] [] (.tup [.val (.slice none 0 0),B true]) []:=by
 refine acN 93 0 Tryz.func128 fun C hN hk=>?_
 have a1:((0:Int)==0)=true:=by decide
 refine Af [0,1,2] ?_
 have F:=a1;refine AD [0,1,2,17] ?_;clear F
 refine cT ?_;refine Af [6,7] ?_
 exact AW.ret (B0 trivial [] [])
theorem Adr(v:List Int)(h0:0<v.length):E8 v=BG 3 v++Bc (loF v)++([UInt8.ofNat (Be v)]++BA v (loF v) (Be v) v.length):=by
 unfold E8 EO
 rw[if_neg oM]
 simp[List.append_assoc]
theorem Adh(v:List Int)(h0:0<v.length)(hl:v.length≤16384)(hv: ∀ x∈v,BE x):
   Ad Tryz.prog 128 [.sl 1 (Ab (E8 v)),I (BG 3 v).length,I v.length] [] (.tup [.osl 0 v.length 1,B true]) [some ⟨3,1,An v⟩]:=by
 refine acN 93 0 Tryz.func128 fun C hN hk=>?_
 have a1:((v.length:Int)==0)=false:=by simp;intro h;rw[h]at h0;simp at h0
 have he:=Adr v h0
 have hlo:BE (loF v):=hv _ (MP v h0 v.length (Nat.le_refl _))
 have hw:Be v≤64:=HR _ (GZ _ _)
 have hbit:=S2 v (loF v) (Be v)
 have hwid:=YR v hv
 have hpl:=EZ v (loF v) (Be v) v.length
 have hhl:=FU 3 v
 have hil:=C1 (loF v)
 generalize Be v=w at*
 generalize loF v=lo at*
 have hvw:v.length*w≤16384*64:=Nat.mul_le_mul hl hw
 have hel:(E8 v).length=(BG 3 v++Bc lo).length+1+(v.length*w+7) / 8:=by rw[he];simp[hpl];omega
 have hel2:(BG 3 v++Bc lo).length≤23:=by simp;omega
 have q1:=HM (BG 3 v) ([UInt8.ofNat w]++BA v lo w v.length) (E8 v) lo hlo he oM
 have hwb:(E8 v)[(BG 3 v++Bc lo).length]? =some (UInt8.ofNat w):=by
   rw[he,List.getElem?_append_right (Nat.le_refl _)];simp
 have hob: ∀ j,j<(v.length*w+7) / 8→(E8 v)[(BG 3 v++Bc lo).length+1+j]? =some ((BA v lo w v.length).getD j 0):=by
   intro j hj
   rw[he,List.getElem?_append_right oM,show(BG 3 v++Bc lo).length+1+j- (BG 3 v++Bc lo).length=j+1 by omega]
   simp[List.getD,hpl,hj]
 generalize BA v lo w v.length=o at*
 generalize (BG 3 v++Bc lo).length=p1 at*
 generalize (BG 3 v).length=p0 at*
 generalize E8 v=e at*
 clear he hpl
 refine Af [0,1,2] ?_
 have F:=a1;refine AD [0,1,2,17] ?_;clear F
 refine Ay rfl (AW.skip (As ?_))
 refine Af [0,1,2,8,9] ?_ (onc 2 (pc [.sl 1 (Ab e),I p0] (.tup [I lo,I p1,B true]) []) noc) (hp:=by exact BR q1 rfl sP)
 have b1:decide ((p1:Int)≥e.length)=false:=by simp;omega
 have b2:=ofNat_toNat w oM
 have b3:decide ((w:Int)>64)=false:=by simp;omega
 generalize UInt8.ofNat w=wb at*
 have F:=And.intro b1 (And.intro hwb (And.intro b2 b3));refine AD [0,1,2,8,39] ?_;clear F
 refine Ay rfl (AW.skip (As ?_))
 have b4:=Ar (n:=(w:Int)) oM
 have F:=And.intro hwb (And.intro b2 b4);refine AD [0,1,2,8,10] ?_;clear F
 have b5:=Ar (n:=(p1:Int)+1) oM
 have F:=b5;refine AD [0,1,2,8,10] ?_;clear F
 have hvw2:((v.length*w:Nat):Int)=(v.length:Int)*w:=by push_cast;rfl
 have b6:=Ar (n:=(e.length:Int)- ((p1:Int)+1)) oM
 have b7:=Ar (n:=((e.length:Int)- ((p1:Int)+1))*8) oM
 have b8:=Ar (n:=(v.length:Int)*(w:Int)) oM
 have b9:decide (((e.length:Int)- ((p1:Int)+1))*8<(v.length:Int)*(w:Int))=false:=by simp;omega
 have F:=And.intro b6 (And.intro b7 (And.intro b8 b9));refine AD [0,1,2,8,10,55] ?_;clear F
 refine Ay rfl (AW.skip (As ?_))
 refine Af [0,1,2,8,10,11] ?_
 refine Af [0,1,2,8,10,11,12] ?_
 refine Af [0,1,2,8,10,11,12,13] ?_
 refine Bw hk 1 (fun i:Nat=>⟨[(0,.sl 1 (Ab e)),(1,I ((p1:Int)+1)),(2,I v.length),(8,I lo),(10,I w),(11,.osl 0 i 1),(12,I ((i*w:Nat):Int)),(13,I i)],[(0,some ⟨3,1,An (v.take i)⟩)]⟩) (fun i=>i≤v.length) (fun i=>v.length-i) 0 oM (Bk An.eq_1 [none] []) ?_
 intro i h1
 by_cases hi:i<v.length
 · have c1:decide ((i:Int)<v.length)=true:=by simp;omega
   have hx2:v.getD i 0=v[i]:=by simp[List.getD,hi]
   have hxr:=hv _ (List.getElem_mem hi)
   have htk:v.take (i+1)=v.take i++[v[i]]:=List.take_succ_eq_append_getElem hi
   have htl:(v.take i).length=i:=by simp;omega
   have hD:=hwid i hi
   have hB:=fun k=>hbit i k hi
   rw[hx2]at hD
   simp only[hx2]at hB
   have hback:=T1 lo v[i] hxr
   have hDl:=GZ lo v[i]
   generalize v[i]=x at*
   generalize dU lo x=D at*
   have hiw:i*w+w≤v.length*w:=by rw[← Nat.succ_mul];exact Nat.mul_le_mul_right _ hi
   have F:=c1;refine AD [0,1,2,8,10,11,12,13,58] ?_;clear F
   refine AX rfl (AW.skip (As ?_))
   refine Af [0,1,2,8,10,11,12,13,14] ?_
   refine Af [0,1,2,8,10,11,12,13,14,15] ?_
   refine Bw hk 1 (fun k:Nat=>⟨[(0,.sl 1 (Ab e)),(1,I ((p1:Int)+1)),(2,I v.length),(8,I lo),(10,I w),(11,.osl 0 i 1),(12,I ((i*w+k:Nat):Int)),(13,I i),(14,U64 ((D%2^k:Nat):Int)),(15,I k)],[(0,some ⟨3,1,An (v.take i)⟩)]⟩) (fun k=>k≤w) (fun k=>w-k) 0 oM (Bk @Nat.mod_one [some 0] []) ?_
   intro k h2
   by_cases hkw:k<w
   · have d1:decide ((k:Int)<w)=true:=by simp;omega
     have hb:=bitN o (i*w+k) _ (hB k hkw)
     have hms:=Nat.mod_pow_succ (b:=2) (x:=D) (k:=k)
     have htb:(D.testBit k).toNat=D / 2^k%2:=by
       rw[Nat.testBit_eq_decide_div_mod_eq]
       have:D / 2^k%2<2:=Nat.mod_lt _ oM
       by_cases h:D / 2^k%2=1
       · simp[h]
       · simp[h];omega
     rw[htb]at hb
     have hmlt:=Nat.mod_lt D (Nat.two_pow_pos k)
     have hmle:=Nat.mod_le D (2^(k+1))
     rw[Nat.mul_comm]at hms
     have hor:=Yu (D%2^k) (D / 2^k%2) k hmlt oM
     rw[← hms]at hor
     have hm2:D / 2^k%2<2:=Nat.mod_lt _ oM
     generalize D / 2^k%2=m at*
     generalize hp:i*w+k=p at*
     have hy:=hob (p / 8) oM
     generalize o.getD (p / 8) 0=y at*
     have d2:(p:Int).tdiv 8=((p / 8:Nat):Int):=by rw[Int.tdiv_eq_ediv_of_nonneg oM];omega
     have d3:(p:Int).tmod 8=((p%8:Nat):Int):=by rw[Int.tmod_eq_emod_of_nonneg oM];omega
     have d4:=Ar (n:=((p / 8:Nat):Int)) oM
     have d5:=Ar (n:=(p1:Int)+1+((p / 8:Nat):Int)) oM
     have d6:((p1:Int)+1+((p / 8:Nat):Int)).toNat=p1+1+p / 8:=by omega
     have d7:=AbC y.toNat (p%8) y.toNat_lt oM
     rw[hb]at d7
     have d8:=IntWalk.u64_in (m:Int) oM
     have d9:min k 64=k:=by omega
     have d10:=Ar (n:=(p:Int)+1) oM
     have d11:=Ar (n:=(k:Int)+1) oM
     have F:=d1;refine AD [0,1,2,8,10,11,12,13,14,15,63] ?_;clear F
     refine AX rfl (AW.skip (As ?_))
     have F:=And.intro d2 (And.intro d3 (And.intro d4 (And.intro d5 (And.intro d6 (And.intro hy (And.intro d7 (And.intro d8 (And.intro d9 hor))))))));refine AD [0,1,2,8,10,11,12,13,14,15] ?_;clear F
     have F:=d10;refine AD [0,1,2,8,10,11,12,13,14,15] ?_;clear F
     have F:=d11;refine AD [0,1,2,8,10,11,12,13,14,15] ?_;clear F
     exact⟨k+1,oM,oM,(Bk (And.intro (Eq.symm hp) @Int.add_assoc) [some 0] [])⟩
   · have d1:decide ((k:Int)<w)=false:=by simp;omega
     have:k=w:=by omega
     subst this
     rw[Nat.mod_eq_of_lt hD]
     have d2:=Ar (n:=(i:Int)+1) oM
     have F:=d1;refine AD [0,1,2,8,10,11,12,13,14,63] ?_;clear F
     refine Ay rfl (AW.exit (Ba (Ba (BZ ?_))))
     have F:=hback;refine AD [0,1,2,8,10,11,12,13] ?_ (hp:=by exact⟨sP,oM,htl⟩);clear F
     have F:=d2;refine AD [0,1,2,8,10,11,12,13] ?_;clear F
     exact⟨i+1,oM,oM,(Bk (And.intro @Int.add_mul htk) [some 0] [])⟩
 · have c1:decide ((i:Int)<v.length)=false:=by simp;omega
   have:i=v.length:=by omega
   subst this
   rw[List.take_length]
   have F:=c1;refine AD [11,58] ?_;clear F
   refine Ay rfl (AW.exit (Ba (Ba (BZ (As ?_)))))
   refine Af [6,7] ?_
   exact AW.ret (B0 trivial [some 0] [])
theorem Zs(v:List Int)(k:Nat)(hk:k≤3): ∃ t,B9 v k=UInt8.ofNat k::Ap v.length++t:=by
 match k,hk with
 |0,_=>obtain⟨t,ht⟩:=Qf v 0 oM;exact⟨t,ht⟩
 |1,_=>obtain⟨t,ht⟩:=Qv v 0 oM;exact⟨t,ht⟩
 |2,_=>exact⟨_,rfl⟩
 |3,_=>exact⟨_,rfl⟩
theorem XN(v:List Int)(hl:v.length≤16384):(EO v).length≤12+v.length*8:=by
 unfold EO
 split
 · simp
 · have hw:Be v≤64:=HR _ (GZ _ _)
   have h1:=C1 (loF v)
   have h2:=EZ v (loF v) (Be v) v.length
   have h3:v.length*Be v≤v.length*64:=Nat.mul_le_mul_left _ hw
   simp only[List.length_append,List.length_cons,List.length_nil,h2]
   omega
theorem Qp(v:List Int)(k:Nat)(hk:k≤3)(hl:v.length≤16384):(B9 v k).length≤24+v.length*22:=by
 match k,hk with
 |0,_=>have:=Ji v v.length;simp only[B9];omega
 |1,_=>have:=JB v v.length;simp only[B9];omega
 |2,_=>have:=R4 v;simp only[B9];omega
 |3,_=>
   have h1:=XN v hl
   have h2:=FU 3 v
   simp only[B9,E8,List.length_append];omega
theorem Xw(k:Nat)(v:List Int):(BG k v).length=1+(Ap v.length).length:=by simp[BG];omega
theorem Ab8(v:List Int)(k:Nat)(hk:k≤2)(hl:v.length≤16384)(hv: ∀ x∈v,BE x):
   Ad Tryz.prog 129 [.sl 1 (Ab (B9 v k)),I ((1+(Ap v.length).length:Nat):Int),I v.length,I k] [] (.tup [.osl 0 v.length 1,B true]) [some ⟨3,1,An v⟩]:=by
 rw[← Xw k v]
 match k,hk with
 |0,_=>exact Tn v hl hv
 |1,_=>exact Tm v hl hv
 |2,_=>exact VX v hl hv
theorem Nq(v:List Int)(k:Nat)(hk3:k≤3)(hl:v.length≤16384)(hv: ∀ x∈v,BE x):
   Ad Tryz.prog 74 [.sl 1 (Ab (B9 v k))] [] (.tup [.osl 0 v.length 1,I 0]) [some ⟨3,1,An v⟩]:=by
 refine acN 69 0 Tryz.func74 fun C hN hk=>?_
 obtain⟨t,ht⟩:=Zs v k hk3
 have hel:=Qp v k hk3 hl
 have q1:=AhU k hk3 (Ap v.length++t)
 rw[show UInt8.ofNat k::(Ap v.length++t)=B9 v k from ht.symm]at q1
 have q2:=DM (B9 v k) 1 oM oM
 have hgv:=CV [UInt8.ofNat k] t v.length oM
 rw[show [UInt8.ofNat k]++Ap v.length++t=B9 v k from ht.symm]at hgv
 rw[show([UInt8.ofNat k]:List UInt8).length=1 from rfl]at hgv
 rw[hgv]at q2
 simp only[Ds]at q2
 have q3:=SI v k hk3 hl
 have q4:=JN (B9 v k) (B9 v k) oM oM
 rw[decide_eq_true rfl]at q4
 have a1:decide ((v.length:Int)>16384)=false:=by simp;omega
 have a2:=Ar (n:=(v.length:Int)) oM
 refine Af [0] ?_
 generalize he:B9 v k=e at*
 refine Af [0,4,5] ?_ (onc 1 (pc [.sl 1 (Ab e)] (.tup [I k,B true]) []) noc) (hp:=by exact BR q1 rfl sP)
 refine rG hN hk (onc 1 (pc [.sl 1 (Ab e),I 1] (.tup [U64 v.length,I ((1+(Ap v.length).length:Nat):Int),B true]) []) noc) [] [0,4,5,6,7,8] fun K hK=>?_;simp only[go_sem,seval]
 first|with_reducible refine hK _ _ ?_|refine⟨by exact BR q2 rfl sP,hK _ _ ?_⟩|refine obK (hK _ _ ?_)
 clear hK K;have F:=a1;refine AD [0,4,6,7,32] ?_;clear F
 refine Ay rfl (AW.skip (As ?_))
 refine Af [0,4,6,7,9] ?_
 generalize hp0:(1+(Ap v.length).length:Nat)=p0 at*
 by_cases hk2:k=3
 · have a3:((k:Int)==3)=true:=by simp;omega
   have F:=a3;refine AD [0,4,6,7,34] ?_;clear F
   refine AW.join hk 1 ⟨[(0,.sl 1 (Ab e)),(4,I k),(5,B true),(9,.osl 0 v.length 1)],[(0,some ⟨3,1,An v⟩)]⟩ ?_ ?_
   · refine cT ?_
     by_cases h0:v=[]
     · have q5:=Ad3 e p0
       have hv0:v.length=0:=by rw[h0];rfl
       rw[show((0:Int))=(v.length:Int) by omega]at q5
       have F:=a2;refine AD [0,4,5,9] ?_ (onc 4 (pc [.sl 1 (Ab e),I p0,I v.length] (.tup [.val (.slice none 0 0),B true]) []) noc) (hp:=by exact BR q5 rfl sP);clear F
       exact Bk (And.intro hv0 (And.intro h0 An.eq_1)) [none] []
     · have q5:=Adh v (List.length_pos_iff.2 h0) hl hv
       rw[Xw,hp0,show E8 v=e by rw[← he,hk2];rfl]at q5
       have F:=a2;refine AD [0,4,5,9] ?_ (onc 4 (pc [.sl 1 (Ab e),I p0,I v.length] (.tup [.osl 0 v.length 1,B true]) [some ⟨3,1,An v⟩]) noc) (hp:=by exact BR q5 rfl sP);clear F
       exact Bk trivial [some 0] []
   refine Af [0,4,9,53] ?_
   refine Ay rfl (AW.skip (As ?_))
   refine Af [0,9,10,11] ?_ (onc 2 (bc [0] [I k,.sl 1 (An v)] (.tup [.osl 0 e.length 1,I 0]) [some ⟨5,1,Ab e⟩]) noc) (hp:=by exact Fh q3 rfl sP ⟨J0,GL sP rfl rfl (by simp[An]) rfl,trivial⟩ rfl sP (by simp[DY]))
   refine rG hN hk (onc 5 (bc [1] [.sl 1 (Ab e),.sl 1 (Ab e)] (B true) []) noc) [] [9,67] fun K hK=>?_;simp only[go_sem,seval,bne_self_eq_false]
   first|with_reducible refine hK _ _ ?_|refine⟨by exact Fh q4 rfl sP ⟨GL sP rfl rfl (by simp[Ab]) rfl,J0,trivial⟩ rfl sP (by simp[DY]),hK _ _ ?_⟩|refine obK (hK _ _ ?_)
   clear hK K;refine nx ?_
   refine Ay rfl (AW.skip (As ?_))
   refine Af [2,3] ?_
   exact AW.ret (B0 trivial [some 0] [])
 · have a3:((k:Int)==3)=false:=by simp;omega
   have q5:=Ab8 v k oM hl hv
   rw[he,hp0]at q5
   have F:=a3;refine AD [0,4,6,7,34] ?_;clear F
   refine cF ?_;have F:=a2;refine AD [0,4,5,9] ?_ (onc 5 (pc [.sl 1 (Ab e),I p0,I v.length,I k] (.tup [.osl 0 v.length 1,B true]) [some ⟨3,1,An v⟩]) noc) (hp:=by exact BR q5 rfl sP);clear F
   refine Af [0,4,9,53] ?_
   refine Ay rfl (AW.skip (As ?_))
   refine Af [0,9,10,11] ?_ (onc 2 (bc [0] [I k,.sl 1 (An v)] (.tup [.osl 0 e.length 1,I 0]) [some ⟨5,1,Ab e⟩]) noc) (hp:=by exact Fh q3 rfl sP ⟨J0,GL sP rfl rfl (by simp[An]) rfl,trivial⟩ rfl sP (by simp[DY]))
   refine rG hN hk (onc 5 (bc [1] [.sl 1 (Ab e),.sl 1 (Ab e)] (B true) []) noc) [] [9,67] fun K hK=>?_;simp only[go_sem,seval,bne_self_eq_false]
   first|with_reducible refine hK _ _ ?_|refine⟨by exact Fh q4 rfl sP ⟨GL sP rfl rfl (by simp[Ab]) rfl,J0,trivial⟩ rfl sP (by simp[DY]),hK _ _ ?_⟩|refine obK (hK _ _ ?_)
   clear hK K;refine nx ?_
   refine Ay rfl (AW.skip (As ?_))
   refine Af [2,3] ?_
   exact AW.ret (B0 trivial [some 0] [])
structure Post(l:List Int):Prop where
 len:l.length≤4096
 rng: ∀ i (h:i<l.length),0≤l[i]∧l[i]<4096
 asc: ∀ i (h:i+1<l.length),l[i]<l[i+1]
theorem AcE(l:List Int)(hp:Post l):Ad Tryz.prog 185 [.sl 1 (An l)] [] (I 0) []:=by
 have hl:=hp.len
 refine acN 42 0 Tryz.func185 fun C hN hk=>?_
 have a1:decide ((l.length:Int)>4096)=false:=by simp;omega
 refine Af [0] ?_
 have F:=a1;refine AD [0,7] ?_;clear F
 refine Ay rfl (AW.skip (As ?_))
 refine Af [0,3] ?_
 refine Bw hk 0 (fun i:Nat=>⟨[(0,.sl 1 (An l)),(3,I i)],[]⟩) (fun i=>i≤l.length) (fun i=>l.length-i) 0 oM (Bk trivial [] []) ?_
 intro i h1
 by_cases hi:i<l.length
 · have b1:decide ((i:Int)<l.length)=true:=by simp;omega
   have hx:=List.getElem?_eq_getElem hi
   have hr:=hp.rng i hi
   generalize l[i]=x at*
   have b2:decide (x<0)=false:=by simp;omega
   have b3:decide (x≥4096)=false:=by simp;omega
   have b4:=Ar (n:=(i:Int)+1) oM
   have F:=b1;refine AD [0,3,11] ?_;clear F
   refine AX rfl (AW.skip (As ?_))
   have F:=And.intro hx (And.intro b2 b3);refine AD [0,3,25] ?_;clear F
   refine Ay rfl (AW.skip (CH (As ?_)))
   have F:=b4;refine AD [0,3] ?_;clear F
   exact⟨i+1,oM,oM,(Bk trivial [] [])⟩
 · have b1:decide ((i:Int)<l.length)=false:=by simp;omega
   have F:=b1;refine AD [0,11] ?_;clear F
   refine Ay rfl (AW.exit (Ba (Ba (BZ (As ?_)))))
   refine Af [0,4] ?_
   refine Bw hk 0 (fun i:Nat=>⟨[(0,.sl 1 (An l)),(4,I ((i:Int)+1))],[]⟩) (fun i=>i≤l.length) (fun i=>l.length-i) 0 oM (Bk trivial [] []) ?_
   clear h1 hi b1 i
   intro i h1
   by_cases hi:i+1<l.length
   · have b1:decide ((i:Int)+1<l.length)=true:=by simp;omega
     have hx:=List.getElem?_eq_getElem hi
     have hy:=List.getElem?_eq_getElem (show i<l.length by omega)
     have hr:=hp.asc i hi
     generalize l[i+1]=x at*
     generalize l[i]=y at*
     have b2:decide (x≤y)=false:=by simp;omega
     have e2:((i:Int)+1).toNat=i+1:=by omega
     have e3:=Ar (n:=(i:Int)+1-1) oM
     have e4:((i:Int)+1-1).toNat=i:=by omega
     have e5:=Ar (n:=(i:Int)+1+1) oM
     have F:=b1;refine AD [0,4,29] ?_;clear F
     refine AX rfl (AW.skip (As ?_))
     have F:=And.intro hx (And.intro hy (And.intro e2 (And.intro e3 (And.intro e4 b2))));refine DI [0,4,41] ?_;clear F
     refine Ay rfl (AW.skip (CH (As ?_)))
     have F:=e5;refine AD [0,4] ?_;clear F
     exact⟨i+1,oM,oM,(Bk trivial [] [])⟩
   · have b1:decide ((i:Int)+1<l.length)=false:=by simp;omega
     have F:=b1;refine AD [0,29] ?_;clear F
     refine Ay rfl (AW.exit (Ba (Ba (BZ (As ?_)))))
     refine Af [2] ?_
     exact AW.ret (B0 trivial [] [])
def AT(l:List Int)(j:Nat):List Int:=(l.take (32*j+32)).drop (32*j)
def D1(p:List Int)(k:Nat):Int:=if 0<k then p.getD k 0-p.getD (k-1) 0 else p.getD k 0
def Dm(p:List Int):Nat→List UInt8
 |0=>[]
 |k+1=>Dm p k++Ap (D1 p k).toNat
def GO(l:List Int)(j:Nat):List UInt8:=Dm (AT l j) (AT l j).length
def Gb(l:List Int)(j:Nat):Nat:=((AT l j).getD ((AT l j).length-1) 0).toNat
def Cs(l:List Int):Nat→List UInt8
 |0=>Ap l.length
 |j+1=>Cs l j++Ap (Gb l j)++Ap (GO l j).length
def B5(l:List Int):Nat→List UInt8
 |0=>[]
 |j+1=>B5 l j++GO l j
def Br(l:List Int):Nat:=(l.length+31) / 32
def Bt(l:List Int):List UInt8:=Cs l (Br l)++B5 l (Br l)
theorem JI(p:List Int): ∀ k,(Dm p k).length≤k*11
 |0=>by simp[Dm]
 |k+1=>by
   have:=JI p k
   have:=Bf (D1 p k).toNat
   simp only[Dm,List.length_append];omega
theorem E0(l:List Int)(j:Nat):(AT l j).length=min (32*j+32) l.length-32*j:=by simp[AT]
theorem FD(l:List Int)(j k:Nat)(hk:k<(AT l j).length): ∃ h:32*j+k<l.length,(AT l j)[k]=l[32*j+k]:=by
 have:=E0 l j
 exact⟨oM,by simp[AT]⟩
theorem Ju(l:List Int)(j:Nat):(GO l j).length≤352:=by
 have h1:=JI (AT l j) (AT l j).length
 have h2:=E0 l j
 unfold GO;omega
theorem IZ(l:List Int): ∀ j,(Cs l j).length≤11+j*22
 |0=>by have:=Bf l.length;simp only[Cs];omega
 |j+1=>by
   have:=IZ l j
   have:=Bf (Gb l j)
   have:=Bf (GO l j).length
   simp only[Cs,List.length_append];omega
theorem IY(l:List Int): ∀ j,(B5 l j).length≤j*352
 |0=>by simp[B5]
 |j+1=>by
   have:=IY l j
   have:=Ju l j
   simp only[B5,List.length_append];omega
theorem XI(l:List Int)(n:Nat):List.take n (An l)=An (List.take n l):=by simp[An,List.map_take]
theorem Yg(l:List Int)(n:Nat):List.drop n (An l)=An (List.drop n l):=by simp[An,List.map_drop]
theorem Us(l:List Int)(hp:Post l)(j k:Nat)(hk:k<(AT l j).length):0≤D1 (AT l j) k∧D1 (AT l j) k<4096:=by
 obtain⟨h1,e1⟩:=FD l j k hk
 have r1:=hp.rng _ h1
 have d1:(AT l j).getD k 0=(AT l j)[k]:=by simp[List.getD,hk]
 unfold D1
 split
 · next h0=>
   obtain⟨h2,e2⟩:=FD l j (k-1) oM
   have r2:=hp.rng _ h2
   have d2:(AT l j).getD (k-1) 0=(AT l j)[k-1]:=by simp[List.getD,show k-1<(AT l j).length by omega]
   have asc:=hp.asc (32*j+(k-1)) oM
   have e3:l[32*j+(k-1)+1]'oM=l[32*j+k]:=by congr 1;omega
   rw[d1,d2,e1,e2]
   omega
 · rw[d1,e1];omega
theorem R8(l:List Int)(hp:Post l):
   Ad Tryz.prog 126 [.sl 1 (An l)] [] (.tup [.osl 0 (Bt l).length 1,I 0]) [some ⟨5,1,Ab (Bt l)⟩]:=by
 have hl:=hp.len
 refine acN 77 0 Tryz.func126 fun C hN hk=>?_
 have q0:=AcE l hp
 have q1:=KG l.length oM
 have a1:IntKind.u64.wrap (l.length:Int)=l.length:=IntWalk.u64_in _ oM
 refine Af [0] ?_
 refine Af [0,4] ?_ (onc 1 (pc [.sl 1 (An l)] (I 0) []) noc) (hp:=by exact BR q0 rfl sP)
 refine rG hN hk noc [] [0,15] fun K hK=>?_;simp only[go_sem,seval,bne_self_eq_false];refine hK _ _ ?_
 clear hK K;refine nx ?_
 refine Ay rfl (AW.skip (As ?_))
 have F:=a1;refine AD [0,5] ?_ (onc 3 (pc [.val (.slice none 0 0),U64 l.length] (.osl 0 (Ap l.length).length 1) [some ⟨5,1,Ab (Ap l.length)⟩]) noc) (hp:=by exact BR q1 rfl sP);clear F
 clear q0 q1 a1
 refine Af [0,5,6] ?_
 refine Af [0,5,6,7] ?_
 refine Bw hk 2 (fun j:Nat=>⟨[(0,.sl 1 (An l)),(5,.osl 0 (Cs l j).length 1),(6,.osl 1 (B5 l j).length 1),(7,I ((32*j:Nat):Int))],[(0,some ⟨5,1,Ab (Cs l j)⟩),(1,some ⟨5,1,Ab (B5 l j)⟩)]⟩) (fun j=>j≤Br l) (fun j=>Br l-j) 0 oM (CL [some 0,none] [] (by simp[AK,wk,lk,I,Cs,B5]) (by simp[Am,Ai,Ak,lkh,Cs,B5];rfl)) ?_
 intro j h1
 have hhl:=IZ l j
 have hbl:=IY l j
 have hnb:Br l≤128:=by unfold Br;omega
 by_cases hj:32*j<l.length
 · have b1:decide (((32*j:Nat):Int)<l.length)=true:=by simp;omega
   have F:=b1;refine AD [0,5,6,7,24] ?_;clear F
   refine AX rfl (AW.skip (As ?_))
   have b2:=Ar (n:=((32*j:Nat):Int)+32) oM
   have hm:(if((32*j:Nat):Int)+32<(l.length:Int)then((32*j:Nat):Int)+32 else(l.length:Int))=((min (32*j+32) l.length:Nat):Int):=by split<;>omega
   have hq:List.drop (32*j) (List.take (min (32*j+32) l.length) l)=AT l j:=by
     unfold AT
     rw[← List.take_take,List.take_length]
   have hpl:=E0 l j
   have hgr:=Us l hp j
   have hget: ∀ k (hk:k<(AT l j).length),0≤(AT l j)[k]∧(AT l j)[k]<4096:=by
     intro k hk
     obtain⟨h2,e2⟩:=FD l j k hk
     rw[e2];exact hp.rng _ h2
   have hH:Cs l (j+1)=Cs l j++Ap (Gb l j)++Ap (GO l j).length:=rfl
   have hB:B5 l (j+1)=B5 l j++GO l j:=rfl
   have hbk:=Ju l j
   unfold Gb at hH
   unfold GO at hH hB hbk
   have F:=And.intro b2 (And.intro hm (And.intro XI (And.intro Yg hq)));refine AD [0,5,6,7,8] ?_;clear F
   generalize AT l j=p at*
   generalize Cs l j=hd at*
   generalize B5 l j=bd at*
   refine Af [0,5,6,7,8,9] ?_
   refine Af [0,5,6,7,8,9,10] ?_
   refine Bw hk 3 (fun k:Nat=>⟨[(0,.sl 1 (An l)),(5,.osl 0 hd.length 1),(6,.osl 1 bd.length 1),(7,I ((32*j:Nat):Int)),(8,.sl 1 (An p)),(9,.osl 2 (Dm p k).length 1),(10,I k)],[(0,some ⟨5,1,Ab hd⟩),(1,some ⟨5,1,Ab bd⟩),(2,some ⟨5,1,Ab (Dm p k)⟩)]⟩) (fun k=>k≤p.length) (fun k=>p.length-k) 0 oM (CL [some 0,some 1,none] [] (by simp[AK,wk,lk,I,Dm]) (by simp[Am,Ai,Ak,lkh,Dm];rfl)) ?_
   intro k h2
   have hkl:=JI p k
   by_cases hkp:k<p.length
   · have c1:decide ((k:Int)<p.length)=true:=by simp;omega
     have hx:=List.getElem?_eq_getElem hkp
     have hx2:p.getD k 0=p[k]:=by simp[List.getD,hkp]
     have hg:=hgr k hkp
     have hxr:=hget k hkp
     have hbs:Dm p (k+1)=Dm p k++Ap (D1 p k).toNat:=rfl
     have c2:=Ar (n:=(k:Int)+1) oM
     have q2:=Db (Dm p k) (D1 p k).toNat oM oM
     have c3:(((D1 p k).toNat:Nat):Int)=D1 p k:=by omega
     have c4:IntKind.u64.wrap (D1 p k)=D1 p k:=IntWalk.u64_in _ oM
     have hgu:D1 p k=if 0<k then p.getD k 0-p.getD (k-1) 0 else p.getD k 0:=rfl
     rw[hx2]at hgu
     rw[c3]at q2
     generalize Ap (D1 p k).toNat=vv at*
     generalize Dm p k=bk at*
     generalize p[k]=x at*
     generalize D1 p k=g at*
     have F:=c1;refine AD [0,5,6,7,8,9,10,38] ?_;clear F
     refine AX rfl (AW.skip (As ?_))
     refine Do [0,5,6,7,8,9,10,11] ?_
     refine Af [0,5,6,7,8,9,10,11,46] ?_
     refine AW.join hk 3 ⟨[(0,.sl 1 (An l)),(5,.osl 0 hd.length 1),(6,.osl 1 bd.length 1),(7,I ((32*j:Nat):Int)),(8,.sl 1 (An p)),(9,.osl 2 bk.length 1),(10,I k),(11,I g)],[(0,some ⟨5,1,Ab hd⟩),(1,some ⟨5,1,Ab bd⟩),(2,some ⟨5,1,Ab bk⟩)]⟩ ?_ ?_
     · refine De rfl (fun h=>?_) (fun h=>AW.skip (As ?_))
       · simp only[gt_iff_lt,decide_eq_true_eq]at h
         have hy:=List.getElem?_eq_getElem (show k-1<p.length by omega)
         have hy2:p.getD (k-1) 0=p[k-1]:=by simp[List.getD,show k-1<p.length by omega]
         rw[if_pos oM,hy2]at hgu
         have d1:=Ar (n:=(k:Int)-1) oM
         have d2:((k:Int)-1).toNat=k-1:=by omega
         generalize p[k-1]=y at*
         have d3:=Ar (n:=x-y) oM
         rw[← hgu]at d3
         have F:=And.intro hy (And.intro d1 (And.intro d2 (And.intro (Eq.symm hgu) d3)));refine AD [0,5,6,7,8,9,10,11] ?_;clear F
         exact Bk trivial [some 0,some 1,some 2] []
       · simp only[gt_iff_lt,decide_eq_false_iff_not]at h
         rw[if_neg oM]at hgu
         rw[hgu]
         exact Bk trivial [some 0,some 1,some 2] []
     have F:=c4;refine AD [0,5,6,7,8,9,10] ?_ (onc 3 (oc 2 ⟨5,1,Ab bk⟩ [.osl 0 bk.length 1,U64 g] (.osl 1 (bk++vv).length 1) [none,some ⟨5,1,Ab (bk++vv)⟩]) noc) (hp:=by exact DJ q2 rfl sP sP rfl sP sP rfl);clear F
     have F:=c2;refine AD [0,5,6,7,8,9,10] ?_;clear F
     exact⟨k+1,oM,oM,(Bk hbs [some 0,some 1,some 2] [])⟩
   · have c1:decide ((k:Int)<p.length)=false:=by simp;omega
     have:k=p.length:=by omega
     subst this
     have hlast:p.length-1<p.length:=by omega
     have hx:=List.getElem?_eq_getElem hlast
     have hx2:p.getD (p.length-1) 0=p[p.length-1]:=by simp[List.getD,hlast]
     have hxr:=hget _ hlast
     rw[hx2]at hH
     generalize p[p.length-1]=x at*
     have c2:=Ar (n:=(p.length:Int)-1) oM
     have c3:((p.length:Int)-1).toNat=p.length-1:=by omega
     have c4:IntKind.u64.wrap x=((x.toNat:Nat):Int):=by rw[IntWalk.u64_in _ oM];omega
     generalize Dm p p.length=bk at*
     have c5:IntKind.u64.wrap (bk.length:Int)=bk.length:=IntWalk.u64_in _ oM
     have q2:=Db hd x.toNat oM oM
     have hv1:=Bf x.toNat
     have q3:=Db (hd++Ap x.toNat) bk.length oM sO
     generalize Ap x.toNat=v1 at*
     generalize Ap bk.length=v2 at*
     have F:=c1;refine AD [0,5,6,7,8,9,38] ?_;clear F
     refine Ay rfl (AW.exit (Ba (Ba (BZ (As ?_)))))
     refine nx ?_;refine rG hN hk (onc 8 (oc 0 ⟨5,1,Ab hd⟩ [.osl 0 hd.length 1,U64 ((x.toNat:Nat):Int)] (.osl 1 (hd++v1).length 1) [none,some ⟨5,1,Ab (hd++v1)⟩]) (onc 12 (oc 67 ⟨5,1,Ab (hd++v1)⟩ [.osl 0 (hd++v1).length 1,U64 bk.length] (.osl 1 (hd++v1++v2).length 1) [none,some ⟨5,1,Ab (hd++v1++v2)⟩]) noc)) [] [0,5,6,7,9] fun K hK=>?_;simp only[go_sem,seval,hx,c2,c3,c4,c5]
     refine⟨⟨⟨oM,DJ q2 rfl sP sP rfl sP sP rfl⟩,DJ q3 rfl sP sP rfl sP sP rfl⟩,hK _ _ ?_⟩
     clear hK K;refine Af [0,5,6,7] ?_ (hp:=by exact⟨Ms bk,oM⟩)
     have F:=b2;refine AD [0,5,6,7] ?_;clear F
     exact⟨j+1,by unfold Br;omega,by unfold Br;omega,(Bk (And.intro hH (And.intro hB @Int.mul_add)) [some 0,some 1] [])⟩
 · have b1:decide (((32*j:Nat):Int)<l.length)=false:=by simp;omega
   have hjn:j=Br l:=by unfold Br at*;omega
   subst hjn
   unfold Bt
   generalize Cs l (Br l)=hd at*
   generalize B5 l (Br l)=bd at*
   have F:=b1;refine AD [5,6,24] ?_;clear F
   refine Ay rfl (AW.exit (Ba (Ba (BZ (As ?_)))))
   refine Af [2,3] ?_ (hp:=by exact⟨Ms bd,oM⟩)
   exact AW.ret (B0 trivial [some 0] [])
end Go.Proofs.YtpkhodjlnodagaaGreatDoor
namespace Go.Proofs.YtpkhodjlnodagaaGreatDoor
open Go.Av
def ED(l:List Int)(n:Nat):Nat:=if n%2=0 then Gb l (n / 2)else(GO l (n / 2)).length
def C8(l:List Int):Nat→List UInt8
 |0=>Ap l.length
 |n+1=>C8 l n++Ap (ED l n)
def g25(l:List Int)(i:Nat):Int:=if i%32=0 then l.getD i 0 else l.getD i 0-l.getD (i-1) 0
def Co(l:List Int):Nat→List UInt8
 |0=>[]
 |i+1=>Co l i++Ap (g25 l i).toNat
theorem Xf(l:List Int): ∀ j,Cs l j=C8 l (2*j)
 |0=>rfl
 |j+1=>by
   rw[Cs,Xf l j,show 2*(j+1)=2*j+1+1 by omega,C8,C8]
   have e1:ED l (2*j)=Gb l j:=by unfold ED;rw[if_pos oM];congr 1;omega
   have e2:ED l (2*j+1)=(GO l j).length:=by unfold ED;rw[if_neg oM];congr 2;omega
   rw[e1,e2]
theorem Mm(l:List Int)(j k:Nat)(hk:k<(AT l j).length):(AT l j).getD k 0=l.getD (32*j+k) 0:=by
 obtain⟨h,e⟩:=FD l j k hk
 rw[show(AT l j).getD k 0=(AT l j)[k] by simp[List.getD,hk],e]
 simp[List.getD,h]
theorem Ag3(l:List Int)(j k:Nat)(hk:k<(AT l j).length):D1 (AT l j) k=g25 l (32*j+k):=by
 have hl:=E0 l j
 unfold D1 g25
 rw[Mm l j k hk]
 by_cases h:0<k
 · rw[if_pos h,if_neg oM,Mm l j (k-1) oM,show 32*j+(k-1)=32*j+k-1 by omega]
 · rw[if_neg h,if_pos oM]
theorem AbU(l:List Int)(j:Nat): ∀ k,k≤(AT l j).length→Co l (32*j)++Dm (AT l j) k=Co l (32*j+k)
 |0,_=>by simp[Dm]
 |k+1,h=>by
   rw[Dm,← List.append_assoc,AbU l j k oM,Ag3 l j k oM]
   rfl
theorem WP(l:List Int): ∀ j,j≤Br l→B5 l j=Co l (min (32*j) l.length)
 |0,_=>by simp[B5,Co]
 |j+1,h=>by
   have hl:=E0 l j
   unfold Br at h
   rw[B5,WP l j (by unfold Br;omega),show min (32*j) l.length=32*j by omega,GO,AbU l j _ (Nat.le_refl _)]
   congr 1
   omega
theorem K1(l:List Int):Bt l=C8 l (2*Br l)++Co l l.length:=by
 unfold Bt
 rw[Xf,WP l _ (Nat.le_refl _),show min (32*Br l) l.length=l.length by unfold Br;omega]
theorem No(l:List Int)(i:Nat): ∀ j,∃ t,C8 l (i+j)=C8 l i++t
 |0=>⟨[],sP⟩
 |j+1=>by
   obtain⟨t,ht⟩:=No l i j
   exact⟨t++Ap (ED l (i+j)),by rw[← Nat.add_assoc,C8,ht,List.append_assoc]⟩
theorem Ki(l:List Int)(i:Nat): ∀ j,∃ t,Co l (i+j)=Co l i++t
 |0=>⟨[],sP⟩
 |j+1=>by
   obtain⟨t,ht⟩:=Ki l i j
   exact⟨t++Ap (g25 l (i+j)).toNat,by rw[← Nat.add_assoc,Co,ht,List.append_assoc]⟩
theorem KE(l:List Int)(n:Nat)(h:n≤2*Br l): ∃ t,Bt l=C8 l n++t:=by
 obtain⟨t,ht⟩:=No l n (2*Br l-n)
 rw[show n+(2*Br l-n)=2*Br l by omega]at ht
 exact⟨t++Co l l.length,by rw[K1,ht,List.append_assoc]⟩
theorem V3(l:List Int)(i:Nat)(h:i≤l.length): ∃ t,Bt l=C8 l (2*Br l)++Co l i++t:=by
 obtain⟨t,ht⟩:=Ki l i (l.length-i)
 rw[show i+(l.length-i)=l.length by omega]at ht
 exact⟨t,by rw[K1,ht,List.append_assoc]⟩
theorem DE(l:List Int)(hp:Post l):(Bt l).length≤100000:=by
 have h1:=IZ l (Br l)
 have h2:=IY l (Br l)
 have h3:Br l≤128:=by have:=hp.len;unfold Br;omega
 simp only[Bt,List.length_append]
 omega
theorem Ady(l:List Int)(hp:Post l)(n:Nat)(hn:n<2*Br l):ED l n<2^64:=by
 unfold ED
 split
 · unfold Gb
   have hl:=E0 l (n / 2)
   have hnb:32*(n / 2)<l.length:=by unfold Br at hn;omega
   obtain⟨h,e⟩:=FD l (n / 2) ((AT l (n / 2)).length-1) oM
   rw[Mm _ _ _ oM]
   have:=hp.rng _ h
   rw[show l.getD (32*(n / 2)+((AT l (n / 2)).length-1)) 0=l[32*(n / 2)+((AT l (n / 2)).length-1)] by simp[List.getD,h]]
   omega
 · have:=Ju l (n / 2);omega
end Go.Proofs.YtpkhodjlnodagaaGreatDoor
namespace Go.Proofs.YtpkhodjlnodagaaGreatDoor
open Go.Av
set_option maxHeartbeats 4000000
attribute [local irreducible] Ad
theorem Aa9(l:List Int)(hp:Post l):
   Ad Tryz.prog 73 [.sl 1 (Ab (Bt l))] [] (.tup [.osl 0 l.length 1,I 0]) [some ⟨3,1,An l⟩]:=by
 have hl:=hp.len
 have hel:=DE l hp
 refine acN 95 0 Tryz.func73 fun C hN hk=>?_
 have q0:=DM (Bt l) 0 oM oM
 obtain⟨t0,ht0⟩:=KE l 0 oM
 rw[show Hv (Bt l) 0=some ((l.length:Int),(C8 l 0).length) by
   have:=CV [] t0 l.length oM
   simp only[List.nil_append,List.length_nil,Nat.zero_add]at this
   rw[ht0];exact this]at q0
 simp only[Ds]at q0
 have q8:=R8 l hp
 have q9:=JN (Bt l) (Bt l) oM oM
 rw[decide_eq_true rfl]at q9
 have hhd:=KE l
 have hbd:=V3 l
 generalize Bt l=e at*
 have a1:decide ((l.length:Int)>4096)=false:=by simp;omega
 have a2:=Ar (n:=(l.length:Int)) oM
 refine Af [0] ?_
 refine Af [0,4,5,6] ?_ (onc 1 (pc [.sl 1 (Ab e),I 0] (.tup [U64 l.length,I (C8 l 0).length,B true]) []) noc) (hp:=by exact BR q0 rfl sP)
 have F:=a1;refine AD [0,4,5,26] ?_;clear F
 refine Ay rfl (AW.skip (As ?_))
 have F:=a2;refine AD [0,5,7] ?_;clear F
 refine Af [0,5,7,8] ?_
 have b1:=Ar (n:=(l.length:Int)+32) oM
 have b2:=Ar (n:=(l.length:Int)+32-1) oM
 have b3:((l.length:Int)+32-1).tdiv 32=((Br l:Nat):Int):=by rw[Int.tdiv_eq_ediv_of_nonneg oM];unfold Br;omega
 have hnb:Br l≤128:=by unfold Br;omega
 have b4:=Ar (n:=((Br l:Nat):Int)) oM
 have b5:=Ar (n:=2*((Br l:Nat):Int)) oM
 refine Bw hk 0 (fun n:Nat=>⟨[(0,.sl 1 (Ab e)),(5,I (C8 l n).length),(7,I l.length),(8,I n)],[]⟩) (fun n=>n≤2*Br l) (fun n=>2*Br l-n) 0 oM (Bk trivial [] []) ?_
 intro n h1
 by_cases hn:n<2*Br l
 · have c1:decide ((n:Int)<2*((Br l:Nat):Int))=true:=by simp;omega
   have c2:=Ar (n:=(n:Int)+1) oM
   obtain⟨t,ht⟩:=hhd (n+1) oM
   have hlen:(C8 l n).length≤e.length:=by rw[ht,C8];simp
   have q:=DM e (C8 l n).length oM oM
   have hgv:=CV (C8 l n) t (ED l n) (Ady l hp n hn)
   rw[show C8 l n++Ap (ED l n)++t=e from ht.symm]at hgv
   rw[hgv]at q
   simp only[Ds]at q
   have hH:(C8 l (n+1)).length=(C8 l n).length+(Ap (ED l n)).length:=by rw[C8];simp
   rw[← hH]at q
   generalize ED l n=hv at*
   have F:=And.intro b1 (And.intro b2 (And.intro b3 (And.intro b4 (And.intro b5 c1))));refine AD [0,5,7,8,35] ?_;clear F
   refine AX rfl (AW.skip (As ?_))
   refine nx ?_;refine rG hN hk (onc 2 (pc [.sl 1 (Ab e),I (C8 l n).length] (.tup [U64 hv,I (C8 l (n+1)).length,B true]) []) noc) [] [0,5,6,7,8] fun K hK=>?_;simp only[go_sem,seval]
   first|with_reducible refine hK _ _ ?_|refine⟨by exact BR q rfl sP,hK _ _ ?_⟩|refine obK (hK _ _ ?_)
   clear hK K;refine Af [0,5,7,8,46] ?_
   refine Ay rfl (AW.skip (CH (As ?_)))
   have F:=c2;refine AD [0,5,7,8] ?_;clear F
   exact⟨n+1,oM,oM,(Bk trivial [] [])⟩
 · have c1:decide ((n:Int)<2*((Br l:Nat):Int))=false:=by simp;omega
   have:n=2*Br l:=by omega
   subst this
   have F:=And.intro b1 (And.intro b2 (And.intro b3 (And.intro b4 (And.intro b5 c1))));refine AD [0,5,7,35] ?_;clear F
   refine Ay rfl (AW.exit (Ba (Ba (BZ (As ?_)))))
   generalize C8 l (2*Br l)=hd at*
   refine Af [0,5,7,9] ?_
   refine Af [0,5,7,9,10] ?_
   refine Bw hk 1 (fun i:Nat=>⟨[(0,.sl 1 (Ab e)),(5,I (hd++Co l i).length),(7,I l.length),(9,.osl 0 i 1),(10,I i)],[(0,some ⟨3,1,An (l.take i)⟩)]⟩) (fun i=>i≤l.length) (fun i=>l.length-i) 0 oM (Bk (And.intro (And.intro Co.eq_1 Co.eq_2) An.eq_1) [none] []) ?_
   intro i h2
   by_cases hi:i<l.length
   · have d1:decide ((i:Int)<l.length)=true:=by simp;omega
     have d2:=Ar (n:=(i:Int)+1) oM
     obtain⟨t,ht⟩:=hbd (i+1) oM
     have hlen:(hd++Co l i).length≤e.length:=by rw[ht,Co];simp
     have hx2:l.getD i 0=l[i]:=by simp[List.getD,hi]
     have hxr:=hp.rng i hi
     have htk:l.take (i+1)=l.take i++[l[i]]:=List.take_succ_eq_append_getElem hi
     have htl:(l.take i).length=i:=by simp;omega
     have hg:0≤g25 l i∧g25 l i<4096∧(i%32=0→g25 l i=l[i])∧(i%32≠0→ ∃ y,(l.take i)[i-1]? =some y∧g25 l i+y=l[i]∧0≤y∧y<4096):=by
       unfold g25
       by_cases h:i%32=0
       · rw[if_pos h,hx2];exact⟨hxr.1,hxr.2,fun _=>rfl,fun h'=>absurd h h'⟩
       · have hi1:i-1<l.length:=by omega
         have hy2:l.getD (i-1) 0=l[i-1]:=by simp[List.getD,hi1]
         have hyr:=hp.rng (i-1) hi1
         have asc:=hp.asc (i-1) oM
         have e3:l[i-1+1]'oM=l[i]:=by congr 1;omega
         rw[if_neg h,hx2,hy2]
         refine⟨oM,oM,fun h'=>absurd h' h,fun _=>⟨l[i-1],?_,oM,oM,oM⟩⟩
         rw[List.getElem?_take_of_lt oM,List.getElem?_eq_getElem hi1]
     have q:=DM e (hd++Co l i).length oM oM
     have hgv:=CV (hd++Co l i) t (g25 l i).toNat oM
     rw[show hd++Co l i++Ap (g25 l i).toNat++t=e by rw[ht,Co];simp[List.append_assoc]]at hgv
     rw[hgv]at q
     simp only[Ds]at q
     have hB:(hd++Co l (i+1)).length=(hd++Co l i).length+(Ap (g25 l i).toNat).length:=by rw[Co];simp[Nat.add_assoc]
     rw[← hB,show(((g25 l i).toNat:Nat):Int)=g25 l i by omega]at q
     generalize g25 l i=g at*
     generalize l[i]=x at*
     have F:=d1;refine AD [0,5,7,9,10,49] ?_;clear F
     refine AX rfl (AW.skip (As ?_))
     refine Af [0,5,7,9,10,11] ?_
     refine rG hN hk (onc 2 (pc [.sl 1 (Ab e),I (hd++Co l i).length] (.tup [U64 g,I (hd++Co l (i+1)).length,B true]) []) noc) [] [0,5,6,7,9,10,11] fun K hK=>?_;simp only[go_sem,seval]
     first|with_reducible refine hK _ _ ?_|refine⟨by exact BR q rfl sP,hK _ _ ?_⟩|refine obK (hK _ _ ?_)
     clear hK K;refine nx ?_
     have d3:decide (g≥4096)=false:=by simp;omega
     have F:=d3;refine AD [0,5,7,9,10,11,64] ?_;clear F
     refine Ay rfl (AW.skip (As ?_))
     have d4:=Ar (n:=g) oM
     have F:=d4;refine AD [0,5,7,9,10,12] ?_;clear F
     have e3:(i:Int).tmod 32=((i%32:Nat):Int):=by rw[Int.tmod_eq_emod_of_nonneg oM];omega
     have F:=e3;refine AD [0,5,7,9,10,12,69] ?_;clear F
     refine AW.join hk 1 ⟨[(0,.sl 1 (Ab e)),(5,I (hd++Co l (i+1)).length),(7,I l.length),(9,.osl 0 i 1),(10,I i),(12,I x)],[(0,some ⟨3,1,An (l.take i)⟩)]⟩ ?_ ?_
     · refine De rfl (fun h=>?_) (fun h=>AW.skip (As ?_))
       · simp only[bne_iff_ne,ne_eq]at h
         obtain⟨y,hy,hyx,hy0,hy1⟩:=hg.2.2.2 oM
         have f1:=Ar (n:=(i:Int)-1) oM
         have f2:((i:Int)-1).toNat=i-1:=by omega
         have f3:=Ar (n:=g+y) oM
         rw[hyx]at f3
         have F:=And.intro hy (And.intro f1 (And.intro f2 (And.intro hyx f3)));refine AD [0,5,7,9,10,12] ?_;clear F
         exact Bk trivial [some 0] []
       · have h':i%32=0:=by simp at h;omega
         rw[hg.2.2.1 h']
         exact Bk trivial [some 0] []
     refine Af [0,5,7,9,10] ?_ (hp:=by exact⟨sP,oM,htl⟩)
     have F:=d2;refine AD [0,5,7,9,10] ?_;clear F
     exact⟨i+1,oM,oM,(Bk htk [some 0] [])⟩
   · have d1:decide ((i:Int)<l.length)=false:=by simp;omega
     have:i=l.length:=by omega
     subst this
     rw[List.take_length]
     have F:=d1;refine AD [0,9,49] ?_;clear F
     refine Ay rfl (AW.exit (Ba (Ba (BZ (As ?_)))))
     refine Af [0,9,13,14] ?_ (onc 1 (bc [0] [.sl 1 (An l)] (.tup [.osl 0 e.length 1,I 0]) [some ⟨5,1,Ab e⟩]) noc) (hp:=by exact Fh q8 rfl sP ⟨GL sP rfl rfl (by simp[An]) rfl,trivial⟩ rfl sP (by simp[DY]))
     refine rG hN hk (onc 5 (bc [1] [.sl 1 (Ab e),.sl 1 (Ab e)] (B true) []) noc) [] [9,93] fun K hK=>?_;simp only[go_sem,seval,bne_self_eq_false]
     first|with_reducible refine hK _ _ ?_|refine⟨by exact Fh q9 rfl sP ⟨GL sP rfl rfl (by simp[Ab]) rfl,J0,trivial⟩ rfl sP (by simp[DY]),hK _ _ ?_⟩|refine obK (hK _ _ ?_)
     clear hK K;refine nx ?_
     refine Ay rfl (AW.skip (As ?_))
     refine Af [2,3] ?_
     exact AW.ret (B0 trivial [some 0] [])
def Gp(s:Int)(w:S):Nat→Int
 |0=>AP .xor .u32 2166136261 s
 |i+1=>IntKind.u32.wrap (AP .xor .u32 (Gp s w i) (IntKind.u32.wrap ((w.getD i 0).toNat:Int))*16777619)
def AbE(h:Int):Int:=AP .xor .u32 h (h.fdiv (2^min (Int.toNat 15) 32))
def VB(h:Int):Int:=IntKind.u32.wrap (AbE h*2246822519)
def AbQ(h:Int):Int:=AP .xor .u32 (VB h) ((VB h).fdiv (2^min (Int.toNat 13) 32))
def MW(s:Int)(w:S):Int:=AbQ (Gp s w w.length)
theorem AbB(s:Int)(w:S)(hw:w.length≤2^40):Ad Tryz.prog 202 [U32 s,str w] [] (U32 (MW s w)) []:=by
 refine acN 32 0 Tryz.func202 fun C hN hk=>?_
 refine Af [0,1] ?_
 refine Af [1,5] ?_
 refine Af [1,5,6] ?_
 refine Bw hk 0 (fun i:Nat=>⟨[(1,str w),(5,U32 (Gp s w i)),(6,I i)],[]⟩) (fun i=>i≤w.length) (fun i=>w.length-i) 0 oM (Bk (And.intro U32.eq_1 (And.intro Gp.eq_1 Gp.eq_2)) [] []) ?_
 intro i h1
 by_cases hi:i<w.length
 · have b1:decide ((i:Int)<w.length)=true:=by simp;omega
   have b2:=Ar (n:=(i:Int)+1) oM
   have hx:=List.getElem?_eq_getElem hi
   have hx2:w.getD i 0=w[i]:=by simp[List.getD,hi]
   have hs:Gp s w (i+1)=IntKind.u32.wrap (AP .xor .u32 (Gp s w i) (IntKind.u32.wrap ((w[i]).toNat:Int))*16777619):=by rw[Gp,hx2]
   generalize w[i]=x at*
   have F:=b1;refine AD [1,5,6,12] ?_;clear F
   refine AX rfl (AW.skip (As ?_))
   refine Do [1,5,6] ?_
   have F:=b2;refine AD [1,5,6] ?_;clear F
   exact⟨i+1,oM,oM,(Bk hs [] [])⟩
 · have b1:decide ((i:Int)<w.length)=false:=by simp;omega
   have:i=w.length:=by omega
   subst this
   generalize hh:Gp s w w.length=h at*
   have F:=b1;refine AD [5,12] ?_;clear F
   refine Ay rfl (AW.exit (Ba (Ba (BZ (As ?_)))))
   refine Af [5] ?_
   refine Af [5] ?_
   refine Af [4] ?_
   exact AW.ret (B0 (And.intro MW.eq_1 (And.intro AbQ.eq_1 (And.intro VB.eq_1 (And.intro AbE.eq_1 hh)))) [] [])
end Go.Proofs.YtpkhodjlnodagaaGreatDoor
