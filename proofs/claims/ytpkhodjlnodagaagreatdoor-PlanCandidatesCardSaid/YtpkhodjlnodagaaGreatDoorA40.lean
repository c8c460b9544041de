/- Part 40 of the proof of PlanCandidates. -/
import Derived.Test.YtpkhodjlnodagaaGreatDoorA36
import Derived.Test.YtpkhodjlnodagaaGreatDoorA39
set_option linter.unusedSimpArgs false
set_option linter.unusedVariables false
set_option linter.unusedSectionVars false
namespace Go.Proofs.YtpkhodjlnodagaaGreatDoor
open Go.Av
set_option maxHeartbeats 4000000
attribute [local irreducible] Af
def Bb:Nat→List Nat
 |0=>[0,2]
 |1=>[0,2,3]
 |2=>[0,2,3,4]
 |3=>[0,2,3,4,13]
 |4=>[0,2,3,4]
 |5=>[0,2,3,4,18]
 |6=>[0,2,3,4]
 |7=>[0,2,3,4]
 |8=>[0,2,3,39]
 |9=>[0,2,3,39,40]
 |10=>[2,3]
 |11=>[0,2,3,39,49]
 |12=>[0,2,3]
 |13=>[0,2,3,5]
 |14=>[0,2,3,5,59]
 |15=>[0,2,3,5]
 |16=>[0,2,3,5,6]
 |17=>[0,2,3,5,6,67]
 |18=>[0,2,3,5,6]
 |19=>[0,2,3,5]
 |20=>[0,2,3,39,80]
 |21=>[0,2,3]
 |22=>[0,2,3]
 |23=>[0,2,3,95]
 |24=>[2,3]
 |25=>[2,3,102]
 |26=>[2,3]
 |27=>[0,2,3,107]
 |28=>[0,2,3]
 |29=>[2,3]
 |30=>[2]
 |_=>[]
def qsL:List S:=[[40,109,115,58,92,100,43,41],[40,117,115,101,114,58,91,97,45,122,93,43,41,95,40,99,111,100,101,58,92,100,41],[120],[40,108,101,118,101,108,58,103,101,116,124,119,97,114,110,41]]
def qaL:List S:=[[109,115],[99,111,100,101],[64,116,105,109,101],[108,101,118,101,108]]
def qkL:List S:=[[64,116,114,97,99,101],[117,115,101,114],[108,101,118,101,108]]
@[simp] theorem qsL_n:qsL.length=4:=rfl
@[simp] theorem qaL_n:qaL.length=4:=rfl
@[simp] theorem qkL_n:qkL.length=3:=rfl
theorem MC:([[AV.val (.string ⟨#[40,109,115,58,92,100,43,41]⟩)],[AV.val (.string ⟨#[40,117,115,101,114,58,91,97,45,122,93,43,41,95,40,99,111,100,101,58,92,100,41]⟩)],[AV.val (.string ⟨#[120]⟩)],[AV.val (.string ⟨#[40,108,101,118,101,108,58,103,101,116,124,119,97,114,110,41]⟩)]]:List (List AV))=Ay qsL:=rfl
theorem Ms:([[AV.val (.string ⟨#[109,115]⟩)],[AV.val (.string ⟨#[99,111,100,101]⟩)],[AV.val (.string ⟨#[64,116,105,109,101]⟩)],[AV.val (.string ⟨#[108,101,118,101,108]⟩)]]:List (List AV))=Ay qaL:=rfl
theorem Mw:([[AV.val (.string ⟨#[64,116,114,97,99,101]⟩)],[AV.val (.string ⟨#[117,115,101,114]⟩)],[AV.val (.string ⟨#[108,101,118,101,108]⟩)]]:List (List AV))=Ay qkL:=rfl
structure QyG(q:Qy):Prop where
 test:TsB 2 q.test
 other:TsB 1 q.other
 st:q.stages.length≤2∧ ∀ s∈q.stages,TsB 1 s.test
theorem tz0:TsB 1 tz:=Cg 1 (by simp) (by simp) (by omega) (by unfold CW;omega)
@[simp] theorem wkE_sg{hp:Hp}{ids:List (Option Nat)}{D:List Nat}(l:List Sg)(x c:List AV):wkE hp ids D (sgE l++[c]) (sgE l++[x])↔wkL hp ids D c x:=Hi (AeE 0 l)
noncomputable def GG:Code:=cR (cR (cR (El Tryz.f18)))
def R11(L:List UInt8):Res→Prop:=fun x=> ∃ (q:Qy) (a':Nat),x=(.agg (qyC q),[some (cdE L a')])∧QyG q∧a'≤L.length
def Iw(L:List UInt8)(t:Ts)(sg:List Sg)(a3:Nat):AS:=⟨[(0,.ptr 0 2 0 0),(2,.ptr 1 19 0 0),(3,.ptr 2 19 0 0)],[(0,some (cdE L a3)),(1,some ⟨31,19,[[I 0,str [],str [],I 0,AH,AH,I 0,I 0,B false,AH,AH,I 0,I 0,str [],str [],I 0,AH,str [],I 0]]⟩),(2,some ⟨31,19,[[I t.op,str t.name,str t.text,I t.num,.sl 5 (tsE t.kids),.osl 3 sg.length 7,I 0,I 0,B false,AH,AH,I 0,I 0,str [],str [],I 0,AH,str [],I 0]]⟩),(3,some ⟨100,7,sgE sg⟩)]⟩
theorem W1(L:List UInt8)(hL:L.length≤2^20)(t:Ts)(tb:TsB 2 t)(sg:List Sg)(hs:sg.length≤2∧ ∀ x∈sg,TsB 1 x.test)(a3 a4:Nat)(ha4:a4≤L.length)(q1:Af Tryz.prog 20 [.ptr 0 2 0 0,I 5] [some (cdE L a3)] (I 0) [some (cdE L a4)]):
   EX 126 1 (R11 L) (fun x C=>AW Tryz.prog C GG (Df (Ao Tryz.prog) [.cell 2 31] x.1 x.2 1) 4 (Iw L t sg a3)):=by
 dsimp only[GG,cR,El,Tryz.f18,Option.getD]
 simp only[Iw,cdE,AH]
 obtain⟨c,a5,ha5,clt,q2⟩:=A7 L hL a4 2 ha4 (by omega) (by omega)
 obtain⟨m,a6,ha6,mlt,q3⟩:=A7 L hL a5 4 ha5 (by omega) (by omega)
 apply EX.step
 · intro xX C hN hk hqX
   repeat first|(with_reducible first|apply s1|apply s2|apply s5|apply s6|refine s7 ?_|apply s3|apply s4|apply s8|apply s9)|refine AI rfl ?_|refine Ar rfl ?_|(refine D0 AZ hN hk (atO 8 (onc 1 (ocq 0 q1) noc) (atO 10 (onc 1 (ocq 0 q2) (onc 4 (ocq 0 q3) noc)) noO)) Bb [0] rfl (by decide+kernel) (fun K hK=>?_);simp only[go_sem,seval,Bb];(iterate 3 (try simp (disch:=omega) only[au];try simp only[go_sem,seval,Bb]));(first|with_reducible refine hK _ _ ?_|refine obK (hK _ _ ?_));clear hK K)|(refine DZ AZ hN hk (atO 8 (onc 1 (ocq 0 q1) noc) (atO 10 (onc 1 (ocq 0 q2) (onc 4 (ocq 0 q3) noc)) noO)) Bb [0] rfl (by decide+kernel) (fun K tok htok hK=>?_);simp only[go_sem,seval,Bb];(iterate 3 (try simp (disch:=omega) only[au];try simp only[go_sem,seval,Bb]));refine⟨htok _ (by decide+kernel),?_⟩;(first|with_reducible refine hK _ _ ?_|refine obK (hK _ _ ?_));clear hK K htok tok)
   exact hqX
 refine EX.ret (.agg (qyC ⟨t,sg,0,m,((c:Int)==1),[],[],0,tz,[],0⟩)) [some (cdE L a6)] ?_ (fun C hN hk=>AW.ret (B0 [some 0] [2] (by simp only[AY,go_sem,seval];rfl) (by simp[Ax,lk,lkh,I,str,B,U8,U64,U32,cdE,qyC,BS,tz]<;>omega) (by first|(simp[Am,Ai,Aj,lkh,cdE,qyC,BS,tz];done)|simp[Am,Ai,Aj,lkh,I,str,cdE,qyC,BS,tz])))
 exact⟨_,a6,rfl,⟨tb,tz0,hs⟩,ha6⟩
theorem We(L:List UInt8)(hL:L.length≤2^20)(t:Ts)(tb:TsB 2 t)(sg:List Sg)(hs:sg.length≤2∧ ∀ x∈sg,TsB 1 x.test)(a3 a4:Nat)(ha4:a4≤L.length)(q1:Af Tryz.prog 20 [.ptr 0 2 0 0,I 5] [some (cdE L a3)] (I 1) [some (cdE L a4)]):
   EX 126 1 (R11 L) (fun x C=>AW Tryz.prog C GG (Df (Ao Tryz.prog) [.cell 2 31] x.1 x.2 1) 4 (Iw L t sg a3)):=by
 dsimp only[GG,cR,El,Tryz.f18,Option.getD]
 simp only[Iw,cdE,AH]
 obtain⟨_,⟨ns,a5,rfl,nb,ha5⟩,q2⟩:=T1 L hL a4 ha4
 obtain⟨m,a6,ha6,mlt,q3⟩:=A7 L hL a5 3 ha5 (by omega) (by omega)
 simp only at q2
 have w1:=As (n:=1+(m:Int)) (by omega)
 apply EX.step
 · intro xX C hN hk hqX
   repeat first|(with_reducible first|apply s1|apply s2|apply s5|apply s6|refine s7 ?_|apply s3|apply s4|apply s8|apply s9)|refine AI rfl ?_|refine Ar rfl ?_|(refine D0 AZ hN hk (atO 8 (onc 1 (ocq 0 q1) noc) (atO 12 (onc 1 (ocq 0 q2) noc) (atO 13 (onc 1 (ocq 0 q3) noc) noO))) Bb [0] rfl (by decide+kernel) (fun K hK=>?_);simp only[go_sem,seval,Bb,w1];(iterate 3 (try simp (disch:=omega) only[au];try simp only[go_sem,seval,Bb,w1]));(first|with_reducible refine hK _ _ ?_|refine obK (hK _ _ ?_));clear hK K)|(refine DZ AZ hN hk (atO 8 (onc 1 (ocq 0 q1) noc) (atO 12 (onc 1 (ocq 0 q2) noc) (atO 13 (onc 1 (ocq 0 q3) noc) noO))) Bb [0] rfl (by decide+kernel) (fun K tok htok hK=>?_);simp only[go_sem,seval,Bb,w1];(iterate 3 (try simp (disch:=omega) only[au];try simp only[go_sem,seval,Bb,w1]));refine⟨htok _ (by decide+kernel),?_⟩;(first|with_reducible refine hK _ _ ?_|refine obK (hK _ _ ?_));clear hK K htok tok)
   exact hqX
 have hm2:1+(m:Int)=((m+1:Nat):Int):=by omega
 simp only[hm2]
 clear q1 q2 q3 w1 hm2
 apply EX.step
 · intro xX C hN hk hqX
   repeat first|with_reducible refine AW.seq ?_|with_reducible refine AW.block ?_
   exact hqX
 refine lpX 6 (fun s:Nat×List Ag×Nat=>⟨[(0,.ptr 0 2 0 0),(2,.ptr 1 19 0 0),(3,.ptr 2 19 0 0),(5,I s.1)],[(0,some ⟨98,2,[[.sl 1 (Ab L),I s.2.2]]⟩),(1,some ⟨31,19,[[I 0,str [],str [],I 0,AH,AH,I 0,I 0,B false,AH,AH,I 0,I 0,str [],str [],I 0,AH,str [],I 0]]⟩),(2,some ⟨31,19,[[I t.op,str t.name,str t.text,I t.num,.sl 5 (tsE t.kids),.osl 3 sg.length 7,I 1,I 0,B false,.osl 4 ns.length 1,.osl 5 s.2.1.length 2,I 0,I 0,str [],str [],I 0,AH,str [],I 0]]⟩),(3,some ⟨100,7,sgE sg⟩),(4,some ⟨9,1,Ay ns⟩),(5,some ⟨103,2,agE s.2.1⟩)]⟩) (fun s=>s.2.1.length+s.1≤10∧s.2.2≤L.length) (fun s=>s.1) (m+1,[],a6) (C9 (And.intro AH.eq_1 B.eq_1) [some 0,some 1,some 2,some 3,some 4,none] []) ?_
 intro ⟨j,ag,a7⟩ hI2 Y2 hY2
 obtain⟨m1,ha7⟩:=hI2
 simp only at m1 ha7
 cases j with
 |succ j=>
   have d2:decide (((j+1:Nat):Int)>0)=true:=by simp
   have e2:(((j+1:Nat):Int)-1)=(j:Int):=by omega
   have w8:=As (n:=(j:Int)) (by omega)
   obtain⟨c,a8,ha8,clt,q4⟩:=A7 L hL a7 5 ha7 (by omega) (by omega)
   obtain rfl|hc:c=0∨c≠0:=by omega
   · apply EX.step
     · intro xX C hN hk hqX
       repeat first|(with_reducible first|apply s1|apply s2|apply s5|apply s6|refine s7 ?_|apply s3|apply s4|apply s8|apply s9)|refine AI rfl ?_|refine Ar rfl ?_|(refine D0 AZ hN hk (atO 16 (onc 1 (ocq 0 q4) noc) noO) Bb [0] rfl (by decide+kernel) (fun K hK=>?_);simp only[go_sem,seval,Bb,d2,e2,w8];(iterate 3 (try simp (disch:=omega) only[au];try simp only[go_sem,seval,Bb,d2,e2,w8]));(first|with_reducible refine hK _ _ ?_|refine obK (hK _ _ ?_));clear hK K)|(refine DZ AZ hN hk (atO 16 (onc 1 (ocq 0 q4) noc) noO) Bb [0] rfl (by decide+kernel) (fun K tok htok hK=>?_);simp only[go_sem,seval,Bb,d2,e2,w8];(iterate 3 (try simp (disch:=omega) only[au];try simp only[go_sem,seval,Bb,d2,e2,w8]));refine⟨htok _ (by decide+kernel),?_⟩;(first|with_reducible refine hK _ _ ?_|refine obK (hK _ _ ?_));clear hK K htok tok)
       exact hqX
     obtain⟨g2,hg2⟩: ∃ g2,g2=ag++[⟨0,[]⟩]:=⟨_,rfl⟩
     have hgl:g2.length=ag.length+1:=by rw[hg2];simp
     have hge:agE g2=agE ag++[[.val (.int .i64 0),.val (.string ⟨#[]⟩)]]:=by rw[hg2];simp[agE,agC,I,str]
     refine eY hY2 ((j,g2,a8)) (Cy [some 0,some 1,some 2,some 3,some 4,some 5] [] (by simp[AR,lk,lkh,I,str,B,U8,U64,U32,hge,hgl,AH,B,AE,AO]<;>omega) (by first|(simp[Am,Ai,Aj,lkh,hge,hgl,AH,B,AE,AO];done)|simp[Am,Ai,Aj,lkh,I,str,hge,hgl,AH,B,AE,AO]))
   · have dn:((c:Int) !=0)=true:=by simp;omega
     obtain⟨v,a9,ha9,vlt,q5⟩:=A7 L hL a8 4 ha8 (by omega) (by omega)
     have vx:=EQ (l:=qaL) rfl vlt
     generalize qaL.getD v []=w at*
     obtain⟨g2,hg2⟩: ∃ g2,g2=ag++[⟨(c:Int),w⟩]:=⟨_,rfl⟩
     have hgl:g2.length=ag.length+1:=by rw[hg2];simp
     have hge:agE g2=agE ag++[[.val (.int .i64 c),.val (.string ⟨w.toArray⟩)]]:=by rw[hg2];simp[agE,agC,I,str]
     apply EX.step
     · intro xX C hN hk hqX
       repeat first|(with_reducible first|apply s1|apply s2|apply s5|apply s6|refine s7 ?_|apply s3|apply s4|apply s8|apply s9)|refine AI rfl ?_|refine Ar rfl ?_|(refine D0 AZ hN hk (atO 16 (onc 1 (ocq 0 q4) noc) (atO 18 (onc 2 (ocq 0 q5) noc) noO)) Bb [0] rfl (by decide+kernel) (fun K hK=>?_);simp only[go_sem,seval,Bb,d2,e2,w8,dn,Ms,vx];(iterate 3 (try simp (disch:=omega) only[au];try simp only[go_sem,seval,Bb,d2,e2,w8,dn,Ms,vx]));(first|with_reducible refine hK _ _ ?_|refine obK (hK _ _ ?_));clear hK K)|(refine DZ AZ hN hk (atO 16 (onc 1 (ocq 0 q4) noc) (atO 18 (onc 2 (ocq 0 q5) noc) noO)) Bb [0] rfl (by decide+kernel) (fun K tok htok hK=>?_);simp only[go_sem,seval,Bb,d2,e2,w8,dn,Ms,vx];(iterate 3 (try simp (disch:=omega) only[au];try simp only[go_sem,seval,Bb,d2,e2,w8,dn,Ms,vx]));refine⟨htok _ (by decide+kernel),?_⟩;(first|with_reducible refine hK _ _ ?_|refine obK (hK _ _ ?_));clear hK K htok tok)
       exact hqX
     refine eY hY2 ((j,g2,a9)) (Cy [some 0,some 1,some 2,some 3,some 4,some 5] [] (by simp[AR,lk,lkh,I,str,B,U8,U64,U32,hge,hgl,AH,B,AE,AO]<;>omega) (by first|(simp[Am,Ai,Aj,lkh,hge,hgl,AH,B,AE,AO];done)|simp[Am,Ai,Aj,lkh,I,str,hge,hgl,AH,B,AE,AO]))
 |zero=>
   apply EX.step
   · intro xX C hN hk hqX
     repeat first|(with_reducible first|apply s1|apply s2|apply s5|apply s6|refine s7 ?_|apply s3|apply s4|apply s8|apply s9)|refine AI rfl ?_|refine Ar rfl ?_|(refine D0 AZ hN hk noO Bb [0] rfl (by decide+kernel) (fun K hK=>?_);simp only[go_sem,seval,Bb];(iterate 3 (try simp (disch:=omega) only[au];try simp only[go_sem,seval,Bb]));(first|with_reducible refine hK _ _ ?_|refine obK (hK _ _ ?_));clear hK K)|(refine DZ AZ hN hk noO Bb [0] rfl (by decide+kernel) (fun K tok htok hK=>?_);simp only[go_sem,seval,Bb];(iterate 3 (try simp (disch:=omega) only[au];try simp only[go_sem,seval,Bb]));refine⟨htok _ (by decide+kernel),?_⟩;(first|with_reducible refine hK _ _ ?_|refine obK (hK _ _ ?_));clear hK K htok tok)
     exact hqX
   refine EX.ret (.agg (qyC ⟨t,sg,1,0,false,ns,ag,0,tz,[],0⟩)) [some (cdE L a7)] ?_ (fun C hN hk=>AW.ret (B0 [some 0] [2,3,4] (by simp only[AY,go_sem,seval];rfl) (by simp[Ax,lk,lkh,I,str,B,U8,U64,U32,cdE,qyC,BS,tz]<;>omega) (by first|(simp[Am,Ai,Aj,lkh,cdE,qyC,BS,tz];done)|simp[Am,Ai,Aj,lkh,I,str,cdE,qyC,BS,tz])))
   exact⟨_,a7,rfl,⟨tb,tz0,hs⟩,ha7⟩
theorem Xi(L:List UInt8)(hL:L.length≤2^20)(t:Ts)(tb:TsB 2 t)(sg:List Sg)(hs:sg.length≤2∧ ∀ x∈sg,TsB 1 x.test)(a3 a4:Nat)(ha4:a4≤L.length)(q1:Af Tryz.prog 20 [.ptr 0 2 0 0,I 5] [some (cdE L a3)] (I 2) [some (cdE L a4)]):
   EX 126 1 (R11 L) (fun x C=>AW Tryz.prog C GG (Df (Ao Tryz.prog) [.cell 2 31] x.1 x.2 1) 4 (Iw L t sg a3)):=by
 dsimp only[GG,cR,El,Tryz.f18,Option.getD]
 simp only[Iw,cdE,AH]
 obtain⟨_,⟨ns,a5,rfl,nb,ha5⟩,q2⟩:=T1 L hL a4 ha4
 obtain⟨m,a6,ha6,mlt,q3⟩:=A7 L hL a5 4 ha5 (by omega) (by omega)
 obtain⟨c,a7,ha7,clt,q4⟩:=A7 L hL a6 2 ha6 (by omega) (by omega)
 simp only at q2
 have w1:=As (n:=1+(m:Int)) (by omega)
 apply EX.step
 · intro xX C hN hk hqX
   repeat first|(with_reducible first|apply s1|apply s2|apply s5|apply s6|refine s7 ?_|apply s3|apply s4|apply s8|apply s9)|refine AI rfl ?_|refine Ar rfl ?_|(refine D0 AZ hN hk (atO 8 (onc 1 (ocq 0 q1) noc) (atO 21 (onc 1 (ocq 0 q2) (onc 3 (ocq 0 q3) noc)) (atO 23 (onc 1 (ocq 0 q4) noc) noO))) Bb [0] rfl (by decide+kernel) (fun K hK=>?_);simp only[go_sem,seval,Bb,w1];(iterate 3 (try simp (disch:=omega) only[au];try simp only[go_sem,seval,Bb,w1]));(first|with_reducible refine hK _ _ ?_|refine obK (hK _ _ ?_));clear hK K)|(refine DZ AZ hN hk (atO 8 (onc 1 (ocq 0 q1) noc) (atO 21 (onc 1 (ocq 0 q2) (onc 3 (ocq 0 q3) noc)) (atO 23 (onc 1 (ocq 0 q4) noc) noO))) Bb [0] rfl (by decide+kernel) (fun K tok htok hK=>?_);simp only[go_sem,seval,Bb,w1];(iterate 3 (try simp (disch:=omega) only[au];try simp only[go_sem,seval,Bb,w1]));refine⟨htok _ (by decide+kernel),?_⟩;(first|with_reducible refine hK _ _ ?_|refine obK (hK _ _ ?_));clear hK K htok tok)
   exact hqX
 by_cases hc:c=1
 · subst hc
   obtain⟨v,a8,ha8,vlt,q5⟩:=A7 L hL a7 4 ha7 (by omega) (by omega)
   have w2:=As (n:=1+(v:Int)) (by omega)
   apply EX.step
   · intro xX C hN hk hqX
     repeat first|(with_reducible first|apply s1|apply s2|apply s5|apply s6|refine s7 ?_|apply s3|apply s4|apply s8|apply s9)|refine AI rfl ?_|refine Ar rfl ?_|(refine D0 AZ hN hk (atO 24 (onc 1 (ocq 0 q5) noc) noO) Bb [0] rfl (by decide+kernel) (fun K hK=>?_);simp only[go_sem,seval,Bb,w2];(iterate 3 (try simp (disch:=omega) only[au];try simp only[go_sem,seval,Bb,w2]));(first|with_reducible refine hK _ _ ?_|refine obK (hK _ _ ?_));clear hK K)|(refine DZ AZ hN hk (atO 24 (onc 1 (ocq 0 q5) noc) noO) Bb [0] rfl (by decide+kernel) (fun K tok htok hK=>?_);simp only[go_sem,seval,Bb,w2];(iterate 3 (try simp (disch:=omega) only[au];try simp only[go_sem,seval,Bb,w2]));refine⟨htok _ (by decide+kernel),?_⟩;(first|with_reducible refine hK _ _ ?_|refine obK (hK _ _ ?_));clear hK K htok tok)
     exact hqX
   refine EX.ret (.agg (qyC ⟨t,sg,2,(1+m),false,ns,[⟨0,[]⟩],(1+v),tz,[],0⟩)) [some (cdE L a8)] ?_ (fun C hN hk=>AW.ret (B0 [some 0] [2,3,4] (by simp only[AY,go_sem,seval];rfl) (by simp[Ax,lk,lkh,I,str,B,U8,U64,U32,cdE,qyC,BS,tz,agE,agC]<;>omega) (by first|(simp[Am,Ai,Aj,lkh,cdE,qyC,BS,tz,agE,agC];done)|simp[Am,Ai,Aj,lkh,I,str,cdE,qyC,BS,tz,agE,agC])))
   exact⟨_,a8,rfl,⟨tb,tz0,hs⟩,ha8⟩
 · have dc:((c:Int)==1)=false:=by simp;omega
   simp only[dc]
   obtain⟨v,a8,ha8,vlt,q5⟩:=A7 L hL a7 2 ha7 (by omega) (by omega)
   apply EX.step
   · intro xX C hN hk hqX
     repeat first|(with_reducible first|apply s1|apply s2|apply s5|apply s6|refine s7 ?_|apply s3|apply s4|apply s8|apply s9)|refine AI rfl ?_|refine Ar rfl ?_|(refine D0 AZ hN hk (atO 25 (onc 1 (ocq 0 q5) noc) noO) Bb [0] rfl (by decide+kernel) (fun K hK=>?_);simp only[go_sem,seval,Bb];(iterate 3 (try simp (disch:=omega) only[au];try simp only[go_sem,seval,Bb]));(first|with_reducible refine hK _ _ ?_|refine obK (hK _ _ ?_));clear hK K)|(refine DZ AZ hN hk (atO 25 (onc 1 (ocq 0 q5) noc) noO) Bb [0] rfl (by decide+kernel) (fun K tok htok hK=>?_);simp only[go_sem,seval,Bb];(iterate 3 (try simp (disch:=omega) only[au];try simp only[go_sem,seval,Bb]));refine⟨htok _ (by decide+kernel),?_⟩;(first|with_reducible refine hK _ _ ?_|refine obK (hK _ _ ?_));clear hK K htok tok)
     exact hqX
   by_cases hv:v=1
   · subst hv
     apply EX.step
     · intro xX C hN hk hqX
       repeat first|(with_reducible first|apply s1|apply s2|apply s5|apply s6|refine s7 ?_|apply s3|apply s4|apply s8|apply s9)|refine AI rfl ?_|refine Ar rfl ?_|(refine D0 AZ hN hk noO Bb [0] rfl (by decide+kernel) (fun K hK=>?_);simp only[go_sem,seval,Bb];(iterate 3 (try simp (disch:=omega) only[au];try simp only[go_sem,seval,Bb]));(first|with_reducible refine hK _ _ ?_|refine obK (hK _ _ ?_));clear hK K)|(refine DZ AZ hN hk noO Bb [0] rfl (by decide+kernel) (fun K tok htok hK=>?_);simp only[go_sem,seval,Bb];(iterate 3 (try simp (disch:=omega) only[au];try simp only[go_sem,seval,Bb]));refine⟨htok _ (by decide+kernel),?_⟩;(first|with_reducible refine hK _ _ ?_|refine obK (hK _ _ ?_));clear hK K htok tok)
       exact hqX
     refine EX.ret (.agg (qyC ⟨t,sg,2,(1+m),false,ns,[⟨1,[109,115]⟩],0,tz,[],0⟩)) [some (cdE L a8)] ?_ (fun C hN hk=>AW.ret (B0 [some 0] [2,3,4] (by simp only[AY,go_sem,seval];rfl) (by simp[Ax,lk,lkh,I,str,B,U8,U64,U32,cdE,qyC,BS,tz,agE,agC]<;>omega) (by first|(simp[Am,Ai,Aj,lkh,cdE,qyC,BS,tz,agE,agC];done)|simp[Am,Ai,Aj,lkh,I,str,cdE,qyC,BS,tz,agE,agC])))
     exact⟨_,a8,rfl,⟨tb,tz0,hs⟩,ha8⟩
   · have dv:((v:Int)==1)=false:=by simp;omega
     simp only[dv]
     apply EX.step
     · intro xX C hN hk hqX
       repeat first|(with_reducible first|apply s1|apply s2|apply s5|apply s6|refine s7 ?_|apply s3|apply s4|apply s8|apply s9)|refine AI rfl ?_|refine Ar rfl ?_|(refine D0 AZ hN hk noO Bb [0] rfl (by decide+kernel) (fun K hK=>?_);simp only[go_sem,seval,Bb];(iterate 3 (try simp (disch:=omega) only[au];try simp only[go_sem,seval,Bb]));(first|with_reducible refine hK _ _ ?_|refine obK (hK _ _ ?_));clear hK K)|(refine DZ AZ hN hk noO Bb [0] rfl (by decide+kernel) (fun K tok htok hK=>?_);simp only[go_sem,seval,Bb];(iterate 3 (try simp (disch:=omega) only[au];try simp only[go_sem,seval,Bb]));refine⟨htok _ (by decide+kernel),?_⟩;(first|with_reducible refine hK _ _ ?_|refine obK (hK _ _ ?_));clear hK K htok tok)
       exact hqX
     refine EX.ret (.agg (qyC ⟨t,sg,2,(1+m),false,ns,[⟨0,[]⟩],0,tz,[],0⟩)) [some (cdE L a8)] ?_ (fun C hN hk=>AW.ret (B0 [some 0] [2,3,4] (by simp only[AY,go_sem,seval];rfl) (by simp[Ax,lk,lkh,I,str,B,U8,U64,U32,cdE,qyC,BS,tz,agE,agC]<;>omega) (by first|(simp[Am,Ai,Aj,lkh,cdE,qyC,BS,tz,agE,agC];done)|simp[Am,Ai,Aj,lkh,I,str,cdE,qyC,BS,tz,agE,agC])))
     exact⟨_,a8,rfl,⟨tb,tz0,hs⟩,ha8⟩
theorem Wi(L:List UInt8)(hL:L.length≤2^20)(t:Ts)(tb:TsB 2 t)(sg:List Sg)(hs:sg.length≤2∧ ∀ x∈sg,TsB 1 x.test)(a3 a4:Nat)(ha4:a4≤L.length)(q1:Af Tryz.prog 20 [.ptr 0 2 0 0,I 5] [some (cdE L a3)] (I 3) [some (cdE L a4)]):
   EX 126 1 (R11 L) (fun x C=>AW Tryz.prog C GG (Df (Ao Tryz.prog) [.cell 2 31] x.1 x.2 1) 4 (Iw L t sg a3)):=by
 dsimp only[GG,cR,El,Tryz.f18,Option.getD]
 simp only[Iw,cdE,AH]
 obtain⟨v,a5,ha5,vlt,q2⟩:=A7 L hL a4 3 ha4 (by omega) (by omega)
 obtain⟨m,a6,ha6,mlt,q3⟩:=A7 L hL a5 60 ha5 (by omega) (by omega)
 obtain⟨_,⟨t2,a7,rfl,tb2,ha7⟩,q4⟩:=LR 1 (by omega) L hL a6 ha6
 simp only[BS]at q4
 obtain⟨i,a8,ha8,ilt,q5⟩:=A7 L hL a7 5 ha7 (by omega) (by omega)
 have vx:=EQ (l:=qkL) rfl vlt
 generalize qkL.getD v []=w at*
 apply EX.step
 · intro xX C hN hk hqX
   repeat first|(with_reducible first|apply s1|apply s2|apply s5|apply s6|refine s7 ?_|apply s3|apply s4|apply s8|apply s9)|refine AI rfl ?_|refine Ar rfl ?_|(refine D0 AZ hN hk (atO 8 (onc 1 (ocq 0 q1) noc) (atO 28 (onc 2 (ocq 0 q2) (onc 6 (ocq 0 q3) noc)) (atO 29 (onc 1 (ocq 0 q4) (onc 3 (ocq 0 q5) noc)) noO))) Bb [0] rfl (by decide+kernel) (fun K hK=>?_);simp only[go_sem,seval,Bb,Mw,vx];(iterate 3 (try simp (disch:=omega) only[au];try simp only[go_sem,seval,Bb,Mw,vx]));(first|with_reducible refine hK _ _ ?_|refine obK (hK _ _ ?_));clear hK K)|(refine DZ AZ hN hk (atO 8 (onc 1 (ocq 0 q1) noc) (atO 28 (onc 2 (ocq 0 q2) (onc 6 (ocq 0 q3) noc)) (atO 29 (onc 1 (ocq 0 q4) (onc 3 (ocq 0 q5) noc)) noO))) Bb [0] rfl (by decide+kernel) (fun K tok htok hK=>?_);simp only[go_sem,seval,Bb,Mw,vx];(iterate 3 (try simp (disch:=omega) only[au];try simp only[go_sem,seval,Bb,Mw,vx]));refine⟨htok _ (by decide+kernel),?_⟩;(first|with_reducible refine hK _ _ ?_|refine obK (hK _ _ ?_));clear hK K htok tok)
   exact hqX
 refine EX.ret (.agg (qyC ⟨t,sg,3,i,false,[],[],0,t2,w,m⟩)) [some (cdE L a8)] ?_ (fun C hN hk=>AW.ret (B0 [some 0] [2] (by simp only[AY,go_sem,seval];rfl) (by simp[Ax,lk,lkh,I,str,B,U8,U64,U32,cdE,qyC,BS,tz]<;>omega) (by first|(simp[Am,Ai,Aj,lkh,cdE,qyC,BS,tz];done)|simp[Am,Ai,Aj,lkh,I,str,cdE,qyC,BS,tz])))
 exact⟨_,a8,rfl,⟨tb,tb2,hs⟩,ha8⟩
theorem V5(L:List UInt8)(hL:L.length≤2^20)(t:Ts)(tb:TsB 2 t)(sg:List Sg)(hs:sg.length≤2∧ ∀ x∈sg,TsB 1 x.test)(a3 a4:Nat)(ha4:a4≤L.length)(q1:Af Tryz.prog 20 [.ptr 0 2 0 0,I 5] [some (cdE L a3)] (I 4) [some (cdE L a4)]):
   EX 126 1 (R11 L) (fun x C=>AW Tryz.prog C GG (Df (Ao Tryz.prog) [.cell 2 31] x.1 x.2 1) 4 (Iw L t sg a3)):=by
 dsimp only[GG,cR,El,Tryz.f18,Option.getD]
 simp only[Iw,cdE,AH]
 apply EX.step
 · intro xX C hN hk hqX
   repeat first|(with_reducible first|apply s1|apply s2|apply s5|apply s6|refine s7 ?_|apply s3|apply s4|apply s8|apply s9)|refine AI rfl ?_|refine Ar rfl ?_|(refine D0 AZ hN hk (atO 8 (onc 1 (ocq 0 q1) noc) noO) Bb [0] rfl (by decide+kernel) (fun K hK=>?_);simp only[go_sem,seval,Bb];(iterate 3 (try simp (disch:=omega) only[au];try simp only[go_sem,seval,Bb]));(first|with_reducible refine hK _ _ ?_|refine obK (hK _ _ ?_));clear hK K)|(refine DZ AZ hN hk (atO 8 (onc 1 (ocq 0 q1) noc) noO) Bb [0] rfl (by decide+kernel) (fun K tok htok hK=>?_);simp only[go_sem,seval,Bb];(iterate 3 (try simp (disch:=omega) only[au];try simp only[go_sem,seval,Bb]));refine⟨htok _ (by decide+kernel),?_⟩;(first|with_reducible refine hK _ _ ?_|refine obK (hK _ _ ?_));clear hK K htok tok)
   exact hqX
 refine EX.ret (.agg (qyC ⟨t,sg,0,0,false,[],[],0,tz,[],0⟩)) [some (cdE L a4)] ?_ (fun C hN hk=>AW.ret (B0 [some 0] [2] (by simp only[AY,go_sem,seval];rfl) (by simp[Ax,lk,lkh,I,str,B,U8,U64,U32,cdE,qyC,BS,tz]<;>omega) (by first|(simp[Am,Ai,Aj,lkh,cdE,qyC,BS,tz];done)|simp[Am,Ai,Aj,lkh,I,str,cdE,qyC,BS,tz])))
 exact⟨_,a4,rfl,⟨tb,tz0,hs⟩,ha4⟩
theorem Ab8(L:List UInt8)(hL:L.length≤2^20)(a:Nat)(ha:a≤L.length):
   GK Tryz.prog 18 [.ptr 0 2 0 0] [some (cdE L a)] (R11 L):=by
 obtain⟨_,⟨t,a1,rfl,tb,ha1⟩,q1⟩:=LR 2 (by omega) L hL a ha
 simp only[BS]at q1
 obtain⟨n,a2,ha2,nlt,q2⟩:=A7 L hL a1 3 ha1 (by omega) (by omega)
 refine GI 126 1 Tryz.func18 rfl rfl rfl (by simp) rfl rfl ?_
 apply EX.step
 · intro xX C hN hk hqX
   repeat first|(with_reducible first|apply s1|apply s2|apply s5|apply s6|refine s7 ?_|apply s3|apply s4|apply s8|apply s9)|refine AI rfl ?_|refine Ar rfl ?_|(refine D0 AZ hN hk (atO 1 (onc 1 (ocq 0 q1) noc) (atO 2 (onc 1 (ocq 0 q2) noc) noO)) Bb [0] rfl (by decide+kernel) (fun K hK=>?_);simp only[go_sem,seval,Bb];(iterate 3 (try simp (disch:=omega) only[au];try simp only[go_sem,seval,Bb]));(first|with_reducible refine hK _ _ ?_|refine obK (hK _ _ ?_));clear hK K)|(refine DZ AZ hN hk (atO 1 (onc 1 (ocq 0 q1) noc) (atO 2 (onc 1 (ocq 0 q2) noc) noO)) Bb [0] rfl (by decide+kernel) (fun K tok htok hK=>?_);simp only[go_sem,seval,Bb];(iterate 3 (try simp (disch:=omega) only[au];try simp only[go_sem,seval,Bb]));refine⟨htok _ (by decide+kernel),?_⟩;(first|with_reducible refine hK _ _ ?_|refine obK (hK _ _ ?_));clear hK K htok tok)
   exact hqX
 clear q1 q2
 apply EX.step
 · intro xX C hN hk hqX
   repeat first|with_reducible refine AW.seq ?_|with_reducible refine AW.block ?_
   exact hqX
 refine lpX 4 (fun s:Nat×List Sg×Nat=>⟨[(0,.ptr 0 2 0 0),(2,.ptr 1 19 0 0),(3,.ptr 2 19 0 0),(4,I s.1)],[(0,some ⟨98,2,[[.sl 1 (Ab L),I s.2.2]]⟩),(1,some ⟨31,19,[[I 0,str [],str [],I 0,AH,AH,I 0,I 0,B false,AH,AH,I 0,I 0,str [],str [],I 0,AH,str [],I 0]]⟩),(2,some ⟨31,19,[[I t.op,str t.name,str t.text,I t.num,.sl 5 (tsE t.kids),.osl 3 s.2.1.length 7,I 0,I 0,B false,AH,AH,I 0,I 0,str [],str [],I 0,AH,str [],I 0]]⟩),(3,some ⟨100,7,sgE s.2.1⟩)]⟩) (fun s=>s.2.1.length+s.1≤2∧s.2.2≤L.length∧ ∀ x∈s.2.1,TsB 1 x.test) (fun s=>s.1) (n,[],a2) (C9 (And.intro AH.eq_1 B.eq_1) [some 0,some 1,some 2,none] []) ?_
 intro ⟨j,sg,a3⟩ hI Y hY
 obtain⟨g1,ha3,g3⟩:=hI
 simp only at g1 ha3 g3
 cases j with
 |succ j=>
   have d0:decide (((j+1:Nat):Int)>0)=true:=by simp
   have e2:(((j+1:Nat):Int)-1)=(j:Int):=by omega
   have w8:=As (n:=(j:Int)) (by omega)
   obtain⟨c,a4,ha4,clt,q1⟩:=A7 L hL a3 2 ha3 (by omega) (by omega)
   apply EX.step
   · intro xX C hN hk hqX
     repeat first|(with_reducible first|apply s1|apply s2|apply s5|apply s6|refine s7 ?_|apply s3|apply s4|apply s8|apply s9)|refine AI rfl ?_|refine Ar rfl ?_|(refine D0 AZ hN hk (atO 5 (onc 1 (ocq 0 q1) noc) noO) Bb [0] rfl (by decide+kernel) (fun K hK=>?_);simp only[go_sem,seval,Bb,d0];(iterate 3 (try simp (disch:=omega) only[au];try simp only[go_sem,seval,Bb,d0]));(first|with_reducible refine hK _ _ ?_|refine obK (hK _ _ ?_));clear hK K)|(refine DZ AZ hN hk (atO 5 (onc 1 (ocq 0 q1) noc) noO) Bb [0] rfl (by decide+kernel) (fun K tok htok hK=>?_);simp only[go_sem,seval,Bb,d0];(iterate 3 (try simp (disch:=omega) only[au];try simp only[go_sem,seval,Bb,d0]));refine⟨htok _ (by decide+kernel),?_⟩;(first|with_reducible refine hK _ _ ?_|refine obK (hK _ _ ?_));clear hK K htok tok)
     exact hqX
   by_cases hc:c=1
   · subst hc
     obtain⟨v,a5,ha5,vlt,q2⟩:=A7 L hL a4 4 ha4 (by omega) (by omega)
     have vx:=EQ (l:=qsL) rfl vlt
     generalize qsL.getD v []=w at*
     obtain⟨s2,hs2⟩: ∃ s2,s2=sg++[⟨true,w,tz⟩]:=⟨_,rfl⟩
     have hsl:s2.length=sg.length+1:=by rw[hs2];simp
     have hsm: ∀ x∈s2,TsB 1 x.test:=by
       intro x hx
       rw[hs2]at hx
       rcases List.mem_append.1 hx with hx|hx
       · exact g3 x hx
       · rw[List.mem_singleton.1 hx];exact tz0
     apply EX.step
     · intro xX C hN hk hqX
       repeat first|(with_reducible first|apply s1|apply s2|apply s5|apply s6|refine s7 ?_|apply s3|apply s4|apply s8|apply s9)|refine AI rfl ?_|refine Ar rfl ?_|(refine D0 AZ hN hk (atO 6 (onc 4 (ocq 0 q2) noc) noO) Bb [0] rfl (by decide+kernel) (fun K hK=>?_);simp only[go_sem,seval,Bb,MC,vx,e2,w8];(iterate 3 (try simp (disch:=omega) only[au];try simp only[go_sem,seval,Bb,MC,vx,e2,w8]));(first|with_reducible refine hK _ _ ?_|refine obK (hK _ _ ?_));clear hK K)|(refine DZ AZ hN hk (atO 6 (onc 4 (ocq 0 q2) noc) noO) Bb [0] rfl (by decide+kernel) (fun K tok htok hK=>?_);simp only[go_sem,seval,Bb,MC,vx,e2,w8];(iterate 3 (try simp (disch:=omega) only[au];try simp only[go_sem,seval,Bb,MC,vx,e2,w8]));refine⟨htok _ (by decide+kernel),?_⟩;(first|with_reducible refine hK _ _ ?_|refine obK (hK _ _ ?_));clear hK K htok tok)
       exact hqX
     have hse:sgE s2=sgE sg++[[B true,str w,I 0,str [],str [],I 0,.sl 5 (tsE [])]]:=by rw[hs2];simp[sgE,sgC,BS,tz,B,I,str]
     refine eY hY ((j,s2,a5)) (Cy [some 0,some 1,some 2,some 3] [] (by simp[AR,lk,lkh,I,str,B,U8,U64,U32,hse,hsl,AH,B,AE,AO]<;>omega) (by first|(simp[Am,Ai,Aj,lkh,hse,hsl,AH,B,AE,AO];done)|simp[Am,Ai,Aj,lkh,I,str,hse,hsl,AH,B,AE,AO]))
   · have dc:((c:Int)==1)=false:=by simp;omega
     simp only[dc]
     obtain⟨_,⟨t2,a5,rfl,tb2,ha5⟩,q2⟩:=LR 1 (by omega) L hL a4 ha4
     simp only[BS]at q2
     obtain⟨s2,hs2⟩: ∃ s2,s2=sg++[⟨false,[],t2⟩]:=⟨_,rfl⟩
     have hsl:s2.length=sg.length+1:=by rw[hs2];simp
     have hsm: ∀ x∈s2,TsB 1 x.test:=by
       intro x hx
       rw[hs2]at hx
       rcases List.mem_append.1 hx with hx|hx
       · exact g3 x hx
       · rw[List.mem_singleton.1 hx];exact tb2
     apply EX.step
     · intro xX C hN hk hqX
       repeat first|(with_reducible first|apply s1|apply s2|apply s5|apply s6|refine s7 ?_|apply s3|apply s4|apply s8|apply s9)|refine AI rfl ?_|refine Ar rfl ?_|(refine D0 AZ hN hk (atO 7 (onc 3 (ocq 0 q2) noc) noO) Bb [0] rfl (by decide+kernel) (fun K hK=>?_);simp only[go_sem,seval,Bb,e2,w8];(iterate 3 (try simp (disch:=omega) only[au];try simp only[go_sem,seval,Bb,e2,w8]));(first|with_reducible refine hK _ _ ?_|refine obK (hK _ _ ?_));clear hK K)|(refine DZ AZ hN hk (atO 7 (onc 3 (ocq 0 q2) noc) noO) Bb [0] rfl (by decide+kernel) (fun K tok htok hK=>?_);simp only[go_sem,seval,Bb,e2,w8];(iterate 3 (try simp (disch:=omega) only[au];try simp only[go_sem,seval,Bb,e2,w8]));refine⟨htok _ (by decide+kernel),?_⟩;(first|with_reducible refine hK _ _ ?_|refine obK (hK _ _ ?_));clear hK K htok tok)
       exact hqX
     have hse:sgE s2=sgE sg++[[.val (.bool false),.val (.string ⟨#[]⟩),.val (.int .i64 t2.op),.val (.string ⟨t2.name.toArray⟩),.val (.string ⟨t2.text.toArray⟩),.val (.int .i64 t2.num),.sl 5 (tsE t2.kids)]]:=by rw[hs2];simp[sgE,sgC,BS,B,I,str]
     refine eY hY ((j,s2,a5)) (Cy [some 0,some 1,some 2,some 3] [] (by simp[AR,lk,lkh,I,str,B,U8,U64,U32,hse,hsl,AH,B,AE,AO]<;>omega) (by first|(simp[Am,Ai,Aj,lkh,hse,hsl,AH,B,AE,AO];done)|simp[Am,Ai,Aj,lkh,I,str,hse,hsl,AH,B,AE,AO]))
 |zero=>
   have hs:sg.length≤2∧ ∀ x∈sg,TsB 1 x.test:=⟨by omega,g3⟩
   have d0:decide (((0:Nat):Int)>0)=false:=by simp
   obtain⟨k,a4,ha4,klt,q1⟩:=A7 L hL a3 5 ha3 (by omega) (by omega)
   apply EX.step
   · intro xX C hN hk hqX
     repeat first|with_reducible refine AW.seq ?_|with_reducible refine AW.block ?_
     refine rG hN hk noc [0] [0,2,3,4,13] fun K hK=>?_;simp only[go_sem,seval,d0]
     try simp (disch:=omega) only[au]
     refine hK _ _ ?_;clear hK K
     repeat first|with_reducible refine CC ?_|with_reducible refine Aw ?_
     exact hqX
   apply EX.step
   · intro xX C hN hk hqX
     repeat first|with_reducible refine AW.seq ?_|with_reducible refine AW.block ?_
     refine cF ?_
     try first|refine AW.skip ?_|refine AW.exit ?_
     repeat first|with_reducible refine A8 ?_|with_reducible refine BW ?_|with_reducible refine K9 (by decide) ?_|with_reducible refine CC ?_|with_reducible refine Aw ?_
     exact hqX
   refine UV 4 (Iw L t sg a3) (by simp only[Iw,cdE];exact(Gg AH.eq_1 [some 0,some 1,some 2,some 3] [])) ?_
   obtain rfl|rfl|rfl|rfl|rfl:k=0∨k=1∨k=2∨k=3∨k=4:=by omega
   · exact W1 L hL t tb sg hs a3 a4 ha4 q1
   · exact We L hL t tb sg hs a3 a4 ha4 q1
   · exact Xi L hL t tb sg hs a3 a4 ha4 q1
   · exact Wi L hL t tb sg hs a3 a4 ha4 q1
   · exact V5 L hL t tb sg hs a3 a4 ha4 q1
end Go.Proofs.YtpkhodjlnodagaaGreatDoor
namespace Go.Proofs.YtpkhodjlnodagaaGreatDoor
open Go.Av
theorem PV: ∀ (l:List Ev) (x:Ev) (p:Nat→Bool),CD (l++[x]) p=CD l p++(if p l.length then [x]else [])
 | [],x,p=>by simp[CD]
 |y::l,x,p=>by
   simp only[List.cons_append,CD,PV l x,List.length_cons]
   split<;>rfl
theorem N3: ∀ (l:List Ev) (p q:Nat→Bool),(∀ i,i<l.length→p i=q i)→CD l p=CD l q
 | [],_,_,_=>rfl
 |y::l,p,q,h=>by
   simp only[CD]
   rw[h 0 (by simp),N3 l _ (fun i=>q (i+1)) (fun i hi=>h (i+1) (by simp;omega))]
def pOf(C:List (Nat×Option Nat))(j i:Nat):Bool:=match C[i]? with
 |some (k,o)=>j==k||o==some j
 |none=>false
def scX(l:List Ev)(m:Nat)(C:List (Nat×Option Nat)):List (List Ev):=(List.range m).map fun j=>CD (l.take C.length) (pOf C j)
def Gv(X:List (List Ev))(p:Nat)(x:Ev):List (List Ev):=X.set p (X.getD p []++[x])
theorem Ii(X:List (List Ev))(p:Nat)(f:Ev):(Gv X p f).length=X.length:=by simp[Gv]
theorem D8(l:List Ev)(m:Nat)(C:List (Nat×Option Nat)):(scX l m C).length=m:=by simp[scX]
theorem NI(l:List Ev)(m:Nat)(C:List (Nat×Option Nat))(j:Nat)(h:j<m):(scX l m C).getD j []=CD (l.take C.length) (pOf C j):=by simp[scX,List.getD,h]
theorem AfH(l:List Ev)(m:Nat):scX l m []=List.replicate m []:=by
 unfold scX
 simp only[List.length_nil,List.take_zero,CD]
 rw[List.map_const',List.length_range]
theorem KR(X:List (List Ev))(p j:Nat)(x:Ev)(hp:p<X.length):(Gv X p x).getD j []=X.getD j []++(if j==p then [x]else []):=by
 unfold Gv
 by_cases h:j=p
 · subst h;simp[List.getD,hp]
 · have:(j==p)=false:=by simpa using h
   simp[List.getD,List.getElem?_set_ne (Ne.symm h),this]
theorem P8{A B:List (List Ev)}(h:A.length=B.length)(hg: ∀ j,j<A.length→A.getD j []=B.getD j []):A=B:=by
 apply List.ext_getElem h
 intro j h1 h2
 have:=hg j h1
 simpa [List.getD,h1,h2] using this
theorem AgD(l:List Ev)(m:Nat)(C:List (Nat×Option Nat))(h:C.length<l.length)(k:Nat)(hk:k<m)(o:Option Nat)(ho: ∀ k2,o=some k2→k2<m∧k2≠k):
   scX l m (C++[(k,o)])=match o with
     |none=>Gv (scX l m C) k l[C.length]
     |some k2=>Gv (Gv (scX l m C) k l[C.length]) k2 l[C.length]:=by
 have key: ∀ j,j<m→(scX l m (C++[(k,o)])).getD j []=(scX l m C).getD j []++(if(j==k||o==some j)then [l[C.length]]else []):=by
   intro j hj
   rw[NI _ _ _ _ hj,NI _ _ _ _ hj,List.length_append,List.length_singleton,List.take_add_one,List.getElem?_eq_getElem h]
   simp only[Option.toList]
   rw[PV]
   have h1:(l.take C.length).length=C.length:=by simp;omega
   rw[h1]
   congr 1
   · apply N3
     intro i hi
     rw[h1]at hi
     unfold pOf
     rw[List.getElem?_append_left hi]
   · have:pOf (C++[(k,o)]) j C.length=(j==k||o==some j):=by
       unfold pOf
       rw[List.getElem?_append_right (Nat.le_refl _)]
       simp
     rw[this]
 cases o with
 |none=>
   apply P8
   · rw[Ii,D8,D8]
   · intro j hj
     rw[D8]at hj
     rw[key j hj,KR _ _ _ _ (by rw[D8];exact hk)]
     simp
 |some k2=>
   obtain⟨h1,h2⟩:=ho k2 rfl
   apply P8
   · rw[Ii,Ii,D8,D8]
   · intro j hj
     rw[D8]at hj
     rw[key j hj,KR _ _ _ _ (by rw[Ii,D8];exact h1),KR _ _ _ _ (by rw[D8];exact hk),List.append_assoc]
     congr 1
     by_cases e1:j=k
     · subst e1
       have:(j==k2)=false:=by simpa using Ne.symm h2
       simp[this,Ne.symm h2,h2]
     · have e1':(j==k)=false:=by simpa using e1
       by_cases e2:j=k2
       · subst e2;simp[e1']
       · have e2':(j==k2)=false:=by simpa using e2
         have: ¬ k2=j:=fun h=>e2 h.symm
         simp[e1',e2',this]
theorem K8: ∀ (f d:List S),f.Pairwise ltS→d.Pairwise ltS→(∀ x∈d,x∈f)→d.length≤f.length
 | [],d,_,_,h=>by
   cases d with
   |nil=>simp
   |cons x d=>exact absurd (h x (by simp)) (by simp)
 |y::f,[],_,_,_=>by simp
 |y::f,x::d,hf,hd,h=>by
   have hf1:=List.pairwise_cons.1 hf
   have hd1:=List.pairwise_cons.1 hd
   by_cases e:x=y
   · subst e
     have:=K8 f d hf1.2 hd1.2 (fun z hz=>by
       rcases List.mem_cons.1 (h z (by simp[hz]))with e|e
       · have:=hd1.1 z hz
         rw[e]at this
         exact absurd this (De _)
       · exact e)
     simp;omega
   · have hxf:x∈f:=by
       rcases List.mem_cons.1 (h x (by simp))with h|h
       · exact absurd h e
       · exact h
     have hyx:=hf1.1 x hxf
     have:=K8 f (x::d) hf1.2 hd (fun z hz=>by
       rcases List.mem_cons.1 (h z hz)with e2|e2
       · rcases List.mem_cons.1 hz with e3|e3
         · subst e3;exact absurd e2 e
         · have:=ES hyx (hd1.1 z e3)
           rw[e2]at this
           exact absurd this (De _)
       · exact e2)
     simp at this ⊢;omega
theorem N2(L:List Ln)(h: ∀ x∈L,x.text.length≤100): ∀ i,(GZ L i).length≤i*101
 |0=>by simp[GZ]
 |i+1=>by
   have:=N2 L h i
   have h2:(if 0<i then [10]else []:S).length≤1:=by split<;>simp
   rw[GZ]
   cases hx:L[i]? with
   |none=>simp only[List.length_append,List.length_nil];omega
   |some x=>
     have:=h x (List.mem_of_getElem? hx)
     simp only[List.length_append];omega
theorem TJ(l:List Ev)(h: ∀ e∈l,DrE e): ∀ i,i≤l.length→(Fc l i).length≤i*304
 |0,_=>by simp[Fc]
 |i+1,hi=>by
   have h1:=TJ l h i (by omega)
   have hd:=h l[i] (List.getElem_mem _)
   have h2:=N2 l[i].lines hd.tx l[i].lines.length
   have h3:=FG (B4 l[i])
   have h4:=hd.nl
   have h5:(B4 l[i]).length≤303:=by unfold B4;omega
   rw[RT l i (by omega),List.length_append];omega
theorem AcA{l:List Ev}(ha:Asc l)(hd: ∀ e∈l,DrE e)(hl:l.length≤36):SegG l:=by
 refine⟨by omega,fun e he=>(hd e he).good,ha,?_,?_⟩
 · have:=K8 fnL (A9 l) Ur (B2 _) (by
     intro x hx
     unfold A9 at hx
     have hx:=(C5 _ _).1 hx
     unfold F4 at hx
     obtain⟨e,he,hx⟩:=List.mem_flatMap.1 hx
     obtain⟨f,hf,rfl⟩:=List.mem_map.1 hx
     exact(hd e (List.mem_of_mem_take he)).fn f hf)
   have h4:fnL.length=4:=rfl
   omega
 · have h1:=Do (Fc l l.length)
   have h2:=TJ l hd l.length (Nat.le_refl _)
   unfold AQ;omega
theorem RN{l l':List Ev}(hs:l'.Sublist l)(ha:Asc l)(hd: ∀ e∈l,DrE e)(hl:l.length≤36):SegG l':=
 AcA (ha.sublist hs) (fun e he=>hd e (hs.subset he)) (by have:=hs.length_le;omega)
end Go.Proofs.YtpkhodjlnodagaaGreatDoor
