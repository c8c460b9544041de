/- Part 37 of the proof of PlanSkipsOnlyWhatCannotMatch. -/
import Derived.Test.YtpkhodjlnodagaaGreatDoorB11
import Derived.Test.YtpkhodjlnodagaaGreatDoorB36
set_option linter.unusedSimpArgs false
set_option linter.unusedVariables false
set_option linter.unusedSectionVars false
namespace Go.Proofs.YtpkhodjlnodagaaGreatDoor
open Go.Av
set_option maxHeartbeats 4000000
attribute [local irreducible] Ad
inductive Ts where
 |mk (op:Int) (name text:S) (num:Int) (kids:List Ts)
def Ts.op:Ts→Int| .mk o _ _ _ _=>o
def Ts.name:Ts→S| .mk _ n _ _ _=>n
def Ts.text:Ts→S| .mk _ _ t _ _=>t
def Ts.num:Ts→Int| .mk _ _ _ m _=>m
def Ts.kids:Ts→List Ts| .mk _ _ _ _ k=>k
mutual
def tsC:Ts→List AV
 | .mk o n t m k=>[I o,str n,str t,I m,.sl 5 (Wn k)]
def Wn:List Ts→List (List AV)
 | []=>[]
 |k::ks=>tsC k::Wn ks
end
theorem Sy: ∀ l:List Ts,Wn l=l.map tsC
 | []=>rfl
 |k::ks=>by rw[Wn,Sy ks];rfl
def tsE(l:List Ts):List (List AV):=l.map tsC
theorem B3(x:Ts):tsC x=[.val (.int .i64 x.op),.val (.string ⟨x.name.toArray⟩),.val (.string ⟨x.text.toArray⟩),.val (.int .i64 x.num),.sl 5 (tsE x.kids)]:=by
 cases x with
 |mk o n t m k=>rw[tsC,Sy];rfl
attribute [go_sem] B3
theorem Vf(l:List Ts):(tsE l).length=l.length:=by simp[tsE]
theorem Z0(l:List Ts)(i:Nat):(tsE l)[i]? =(l[i]?).map tsC:=by simp[tsE]
@[simp] theorem tsE_id(k:Nat)(l:List Ts):AB k (tsE l)=true:=by
 simp only[AB,tsE,List.all_map,List.all_eq_true]
 intro x _
 cases x;rfl
theorem AcW(L:List Nat)(l:List Ts):BF L (tsE l)=tsE l:=by
 simp only[BF,tsE,List.map_map]
 apply List.map_congr_left
 intro x _
 cases x;rfl
theorem Aad(l:List Ts)(x:Ts):tsE l++[[.val (.int .i64 x.op),.val (.string ⟨x.name.toArray⟩),.val (.string ⟨x.text.toArray⟩),.val (.int .i64 x.num),.sl 5 (tsE x.kids)]]=tsE (l++[x]):=by rw[← B3];simp[tsE]
@[simp] theorem Ajl:tsE []=[]:=rfl
attribute [go_sem] Vf Z0 AcW Aad
attribute [simp] Vf
@[simp] theorem ts_op(o:Int)(n t:S)(m:Int)(k:List Ts):(Ts.mk o n t m k).op=o:=rfl
@[simp] theorem Aja(o:Int)(n t:S)(m:Int)(k:List Ts):(Ts.mk o n t m k).name=n:=rfl
@[simp] theorem AiV(o:Int)(n t:S)(m:Int)(k:List Ts):(Ts.mk o n t m k).text=t:=rfl
@[simp] theorem ts_num(o:Int)(n t:S)(m:Int)(k:List Ts):(Ts.mk o n t m k).num=m:=rfl
@[simp] theorem M0(o:Int)(n t:S)(m:Int)(k:List Ts):(Ts.mk o n t m k).kids=k:=rfl
def C6(n:Int):Prop:= -5≤n∧n≤999999999999999999
def TsB:Nat→Ts→Prop
 |0,t=>t.name.length≤19∧t.text.length≤19∧((0≤t.op∧t.op≤11)∧ ¬ t.op=6)∧C6 t.num∧t.kids=[]
 |d+1,t=>t.name.length≤19∧t.text.length≤19∧((0≤t.op∧t.op≤11)∧(t.op=6→1≤t.kids.length))∧C6 t.num∧t.kids.length≤3∧ ∀ k∈t.kids,TsB d k
theorem ZM{t:Ts}(d:Nat)(h:TsB 0 t):TsB d t:=by
 cases d with
 |zero=>exact h
 |succ d=>exact⟨h.1,h.2.1,⟨h.2.2.1.1,fun e=>absurd e h.2.2.1.2⟩,h.2.2.2.1,by rw[h.2.2.2.2];simp,by rw[h.2.2.2.2];simp⟩
theorem Cm(d:Nat){o:Int}{n t:S}{m:Int}(h1:n.length≤19)(h2:t.length≤19)(h3:(0≤o∧o≤11)∧ ¬ o=6)(h4:C6 m):TsB d (.mk o n t m []):=ZM d ⟨h1,h2,h3,h4,rfl⟩
theorem EW{l:List S}{v n:Nat}(hn:l.length=n)(h:v<n):l[v]? =some (l.getD v []):=by
 subst hn;rw[DP h];exact List.getElem?_eq_getElem h
def twL:List S:=[[103,101,116],[101,114,114,111,114],[119,97,114,110],[97,49],[50,48,48],[110,111,116,104,105,110,103]]
theorem T7(i:Nat):(twL.getD i []).length≤19:=Eu dC i
@[simp] theorem twL_n:twL.length=6:=rfl
theorem TL:([[AV.val (.string ⟨#[103,101,116]⟩)],[AV.val (.string ⟨#[101,114,114,111,114]⟩)],[AV.val (.string ⟨#[119,97,114,110]⟩)],[AV.val (.string ⟨#[97,49]⟩)],[AV.val (.string ⟨#[50,48,48]⟩)],[AV.val (.string ⟨#[110,111,116,104,105,110,103]⟩)]]:List (List AV))=Au twL:=rfl
def tbL:List S:=[[101],[101,114,114],[117],[50],[113]]
theorem Ac1(i:Nat):(tbL.getD i []).length≤19:=Eu dC i
@[simp] theorem tbL_n:tbL.length=5:=rfl
theorem Aea:([[AV.val (.string ⟨#[101]⟩)],[AV.val (.string ⟨#[101,114,114]⟩)],[AV.val (.string ⟨#[117]⟩)],[AV.val (.string ⟨#[50]⟩)],[AV.val (.string ⟨#[113]⟩)]]:List (List AV))=Au tbL:=rfl
def tcL:List S:=[[114],[71,69,84],[32],[84],[111,32,111]]
theorem Ac8(i:Nat):(tcL.getD i []).length≤19:=Eu dC i
@[simp] theorem tcL_n:tcL.length=5:=rfl
theorem Adn:([[AV.val (.string ⟨#[114]⟩)],[AV.val (.string ⟨#[71,69,84]⟩)],[AV.val (.string ⟨#[32]⟩)],[AV.val (.string ⟨#[84]⟩)],[AV.val (.string ⟨#[111,32,111]⟩)]]:List (List AV))=Au tcL:=rfl
def tnL:List S:=[[64,104,111,115,116],[64,115,116,114,101,97,109],[64,116,114,97,99,101],[64,119,101,105,103,104,116]]
theorem UJ(i:Nat):(tnL.getD i []).length≤19:=Eu dC i
@[simp] theorem tnL_n:tnL.length=4:=rfl
theorem TY:([[AV.val (.string ⟨#[64,104,111,115,116]⟩)],[AV.val (.string ⟨#[64,115,116,114,101,97,109]⟩)],[AV.val (.string ⟨#[64,116,114,97,99,101]⟩)],[AV.val (.string ⟨#[64,119,101,105,103,104,116]⟩)]]:List (List AV))=Au tnL:=rfl
def txL:List S:=[[49],[109,97,105,110],[116,49],[50]]
theorem TJ(i:Nat):(txL.getD i []).length≤19:=Eu dC i
@[simp] theorem txL_n:txL.length=4:=rfl
theorem Um:([[AV.val (.string ⟨#[49]⟩)],[AV.val (.string ⟨#[109,97,105,110]⟩)],[AV.val (.string ⟨#[116,49]⟩)],[AV.val (.string ⟨#[50]⟩)]]:List (List AV))=Au txL:=rfl
def nsL:List S:=[[108,101,118,101,108],[64,104,111,115,116],[64,115,116,114,101,97,109],[99,111,100,101],[64,116,114,97,99,101]]
theorem Acs(i:Nat):(nsL.getD i []).length≤19:=Eu dC i
@[simp] theorem nsL_n:nsL.length=5:=rfl
theorem AcZ:([[AV.val (.string ⟨#[108,101,118,101,108]⟩)],[AV.val (.string ⟨#[64,104,111,115,116]⟩)],[AV.val (.string ⟨#[64,115,116,114,101,97,109]⟩)],[AV.val (.string ⟨#[99,111,100,101]⟩)],[AV.val (.string ⟨#[64,116,114,97,99,101]⟩)]]:List (List AV))=Au nsL:=rfl
@[simp] theorem Ai3:G3.length=4:=rfl
theorem Ed{T:Tab}{rv:List ResultVar}{r:AV}{hs':List (Option Ent)}{k:Nat}{l:List AV}{p:Prop}{s:AS}(ids:List (Option Nat))(D:List Nat)(h1:AY T s rv=some (l,p):=by simp only[AY,go_sem,seval];rfl)(hr:wk (lkh s.hp) ids D (Az l) r:=by simp[Az,lk,lkh,I,str,B,U8,U64,U32,cdE,B3]<;>omega)(hh:Am (lkh s.hp) ids D (hs'.zipIdx.map fun x=>(x.2,x.1)):=by first|(simp[Am,Ai,Ak,lkh,cdE,B3];done)|simp[Am,Ai,Ak,lkh,I,str,cdE,B3])
   (h2:p:=by simp) (hi:IdsOk ids D k (hs'.zipIdx.map fun x=>(x.2,x.1)):=by exact⟨by simp[Al],by simp[Al],sP⟩) (hl:ids.length=hs'.length:=by simp):Di T rv r hs' k .ret 0 s:=BY ids D h1 hr hh h2 hi hl
def kt8:Nat→List Nat
 |0=>[0,1,4]
 |1=>[0,1,4,5]
 |2=>[0,1,4,5,12]
 |3=>[0,1,4,5]
 |4=>[0,1,4,5,15]
 |5=>[0,1,4,5,15,16]
 |6=>[0,1,4,5,15,16]
 |7=>[4]
 |8=>[0,1,4,5,15,25]
 |9=>[4]
 |10=>[0,1,4,5,15,33]
 |11=>[4]
 |12=>[0,1,4,5,15,41]
 |13=>[0,1,4,5,15,41]
 |14=>[0,4,46]
 |15=>[4]
 |16=>[4]
 |17=>[0,1,4,5,15,63]
 |18=>[4]
 |19=>[0,1,4,5,15,68]
 |20=>[0,1,4,5,15,68]
 |21=>[0,4,6]
 |22=>[0,4,6,82]
 |23=>[0,4,6]
 |24=>[0,4,6,90]
 |25=>[4,6]
 |26=>[4]
 |27=>[0,1,4,5,15,99]
 |28=>[4]
 |29=>[0,1,4,5,102]
 |30=>[4]
 |31=>[0,1,4,7]
 |32=>[0,1,4,7,8]
 |33=>[0,1,4,7,8,118]
 |34=>[0,1,4,7,8]
 |35=>[0,1,4,7,8]
 |36=>[4]
 |_=>[]
attribute [go_sem] kt8
def En(f:Func):Code:=f.body.getD .skip
def cR:Code→Code
 | .seq _ b=>b
 |c=>c
noncomputable def DD:Code:=cR (cR (cR (En Tryz.f8)))
def R24(L:List UInt8)(d:Nat):Res→Prop:=fun x=> ∃ (t:Ts) (a':Nat),x=(.agg (tsC t),[some (cdE L a')])∧TsB d t∧a'≤L.length
theorem RB(L:List UInt8)(hL:L.length≤2^20)(d a2:Nat)(ha2:a2≤L.length):
   EX 131 1 (R24 L d) (fun x C=>AW Tryz.prog C DD (Di (Ao Tryz.prog) [.cell 4 26] x.1 x.2 1) 2 ⟨[(0,.ptr 0 2 0 0),(1,I d),(4,.ptr 1 5 0 0),(5,I 0)],[(0,some (cdE L a2)),(1,some ⟨26,5,[[I 0,str [],str [],I 0,AA]]⟩)]⟩):=by
 dsimp only[DD,cR,En,Tryz.f8,Option.getD]
 simp only[cdE,AA]
 obtain⟨v,b1,hb1,vlt,q⟩:=A9 L hL a2 6 ha2 oM oM
 have vx:=EW (l:=twL) rfl vlt
 have wl:=T7 v
 generalize twL.getD v []=w at*
 have F:=And.intro TL vx;refine exF (atO 7 (onc 2 (ocq 0 q) noc) noO) kt8 ?_;clear F
 refine EX.ret (.agg (tsC (.mk 1 [] w 0 []))) [some (cdE L b1)] ?_ (fun C hN hk=>AW.ret (Ed [some 0] []))
 exact⟨_,b1,rfl,Cm _ sP wl oM (by unfold C6;omega),hb1⟩
theorem Sl(L:List UInt8)(hL:L.length≤2^20)(d a2:Nat)(ha2:a2≤L.length):
   EX 131 1 (R24 L d) (fun x C=>AW Tryz.prog C DD (Di (Ao Tryz.prog) [.cell 4 26] x.1 x.2 1) 2 ⟨[(0,.ptr 0 2 0 0),(1,I d),(4,.ptr 1 5 0 0),(5,I 1)],[(0,some (cdE L a2)),(1,some ⟨26,5,[[I 0,str [],str [],I 0,AA]]⟩)]⟩):=by
 dsimp only[DD,cR,En,Tryz.f8,Option.getD]
 simp only[cdE,AA]
 obtain⟨v,b1,hb1,vlt,q⟩:=A9 L hL a2 6 ha2 oM oM
 have vx:=EW (l:=twL) rfl vlt
 have wl:=T7 v
 generalize twL.getD v []=w at*
 have F:=And.intro TL vx;refine exF (atO 7 (onc 2 (ocq 0 q) noc) noO) kt8 ?_;clear F
 refine EX.ret (.agg (tsC (.mk 1 [] w 0 []))) [some (cdE L b1)] ?_ (fun C hN hk=>AW.ret (Ed [some 0] []))
 exact⟨_,b1,rfl,Cm _ sP wl oM (by unfold C6;omega),hb1⟩
theorem R5(L:List UInt8)(hL:L.length≤2^20)(d a2:Nat)(ha2:a2≤L.length):
   EX 131 1 (R24 L d) (fun x C=>AW Tryz.prog C DD (Di (Ao Tryz.prog) [.cell 4 26] x.1 x.2 1) 2 ⟨[(0,.ptr 0 2 0 0),(1,I d),(4,.ptr 1 5 0 0),(5,I 2)],[(0,some (cdE L a2)),(1,some ⟨26,5,[[I 0,str [],str [],I 0,AA]]⟩)]⟩):=by
 dsimp only[DD,cR,En,Tryz.f8,Option.getD]
 simp only[cdE,AA]
 obtain⟨v,b1,hb1,vlt,q⟩:=A9 L hL a2 5 ha2 oM oM
 have vx:=EW (l:=tbL) rfl vlt
 have wl:=Ac1 v
 generalize tbL.getD v []=w at*
 have F:=And.intro Aea vx;refine exF (atO 9 (onc 2 (ocq 0 q) noc) noO) kt8 ?_;clear F
 refine EX.ret (.agg (tsC (.mk 2 [] w 0 []))) [some (cdE L b1)] ?_ (fun C hN hk=>AW.ret (Ed [some 0] []))
 exact⟨_,b1,rfl,Cm _ sP wl oM (by unfold C6;omega),hb1⟩
theorem SK(L:List UInt8)(hL:L.length≤2^20)(d a2:Nat)(ha2:a2≤L.length):
   EX 131 1 (R24 L d) (fun x C=>AW Tryz.prog C DD (Di (Ao Tryz.prog) [.cell 4 26] x.1 x.2 1) 2 ⟨[(0,.ptr 0 2 0 0),(1,I d),(4,.ptr 1 5 0 0),(5,I 3)],[(0,some (cdE L a2)),(1,some ⟨26,5,[[I 0,str [],str [],I 0,AA]]⟩)]⟩):=by
 dsimp only[DD,cR,En,Tryz.f8,Option.getD]
 simp only[cdE,AA]
 obtain⟨v,b1,hb1,vlt,q⟩:=A9 L hL a2 5 ha2 oM oM
 have vx:=EW (l:=tcL) rfl vlt
 have wl:=Ac8 v
 generalize tcL.getD v []=w at*
 have F:=And.intro Adn vx;refine exF (atO 11 (onc 2 (ocq 0 q) noc) noO) kt8 ?_;clear F
 refine EX.ret (.agg (tsC (.mk 3 [] w 0 []))) [some (cdE L b1)] ?_ (fun C hN hk=>AW.ret (Ed [some 0] []))
 exact⟨_,b1,rfl,Cm _ sP wl oM (by unfold C6;omega),hb1⟩
theorem Rb(L:List UInt8)(hL:L.length≤2^20)(d a2:Nat)(ha2:a2≤L.length):
   EX 131 1 (R24 L d) (fun x C=>AW Tryz.prog C DD (Di (Ao Tryz.prog) [.cell 4 26] x.1 x.2 1) 2 ⟨[(0,.ptr 0 2 0 0),(1,I d),(4,.ptr 1 5 0 0),(5,I 4)],[(0,some (cdE L a2)),(1,some ⟨26,5,[[I 0,str [],str [],I 0,AA]]⟩)]⟩):=by
 dsimp only[DD,cR,En,Tryz.f8,Option.getD]
 simp only[cdE,AA]
 obtain⟨u,b1,hb1,ult,q⟩:=A9 L hL a2 4 ha2 oM oM
 by_cases hu:u=3
 · subst hu
   obtain⟨v,b2,hb2,vlt,q2⟩:=A9 L hL b1 4 hb1 oM oM
   have vx:=EW (l:=tnL) rfl vlt
   have wl:=UJ v
   generalize tnL.getD v []=w at*
   obtain⟨v3,b3,hb3,v3lt,q3⟩:=A9 L hL b2 4 hb2 oM oM
   have v3x:=EW (l:=txL) rfl v3lt
   have w3l:=TJ v3
   generalize txL.getD v3 []=w3 at*
   have F:=And.intro TY (And.intro Um (And.intro vx v3x));refine exF (atO 14 (onc 1 (ocq 0 q) noc) (atO 15 (onc 2 (ocq 0 q2) (onc 7 (ocq 0 q3) noc)) noO)) kt8 ?_;clear F
   refine EX.ret (.agg (tsC (.mk 4 w w3 0 []))) [some (cdE L b3)] ?_ (fun C hN hk=>AW.ret (Ed [some 0] []))
   exact⟨_,b3,rfl,Cm _ wl w3l oM (by unfold C6;omega),hb3⟩
 · have du:((u:Int)==3)=false:=by simp;omega
   obtain⟨v,b2,hb2,q2⟩:=Kr L hL b1 hb1
   obtain⟨v3,b3,hb3,q3⟩:=PK L hL b2 hb2
   have wl:=Hq v
   have w3l:=NZ v3
   generalize G3.getD v []=w at*
   generalize L6.getD v3 []=w3 at*
   have F:=du;refine exF (atO 14 (onc 1 (ocq 0 q) noc) (atO 16 (onc 1 (ocq 0 q2) (onc 3 (ocq 0 q3) noc)) noO)) kt8 ?_;clear F
   refine EX.ret (.agg (tsC (.mk 4 w w3 0 []))) [some (cdE L b3)] ?_ (fun C hN hk=>AW.ret (Ed [some 0] []))
   exact⟨_,b3,rfl,Cm _ wl w3l oM (by unfold C6;omega),hb3⟩
theorem Rd(L:List UInt8)(hL:L.length≤2^20)(d a2:Nat)(ha2:a2≤L.length):
   EX 131 1 (R24 L d) (fun x C=>AW Tryz.prog C DD (Di (Ao Tryz.prog) [.cell 4 26] x.1 x.2 1) 2 ⟨[(0,.ptr 0 2 0 0),(1,I d),(4,.ptr 1 5 0 0),(5,I 5)],[(0,some (cdE L a2)),(1,some ⟨26,5,[[I 0,str [],str [],I 0,AA]]⟩)]⟩):=by
 dsimp only[DD,cR,En,Tryz.f8,Option.getD]
 simp only[cdE,AA]
 obtain⟨u,b1,hb1,ult,q⟩:=A9 L hL a2 4 ha2 oM oM
 by_cases hu:u=3
 · subst hu
   obtain⟨v,b2,hb2,vlt,q2⟩:=A9 L hL b1 4 hb1 oM oM
   have vx:=EW (l:=tnL) rfl vlt
   have wl:=UJ v
   generalize tnL.getD v []=w at*
   obtain⟨v3,b3,hb3,v3lt,q3⟩:=A9 L hL b2 4 hb2 oM oM
   have v3x:=EW (l:=txL) rfl v3lt
   have w3l:=TJ v3
   generalize txL.getD v3 []=w3 at*
   have F:=And.intro TY (And.intro Um (And.intro vx v3x));refine exF (atO 14 (onc 1 (ocq 0 q) noc) (atO 15 (onc 2 (ocq 0 q2) (onc 7 (ocq 0 q3) noc)) noO)) kt8 ?_;clear F
   refine EX.ret (.agg (tsC (.mk 4 w w3 0 []))) [some (cdE L b3)] ?_ (fun C hN hk=>AW.ret (Ed [some 0] []))
   exact⟨_,b3,rfl,Cm _ wl w3l oM (by unfold C6;omega),hb3⟩
 · have du:((u:Int)==3)=false:=by simp;omega
   obtain⟨v,b2,hb2,q2⟩:=Kr L hL b1 hb1
   obtain⟨v3,b3,hb3,q3⟩:=PK L hL b2 hb2
   have wl:=Hq v
   have w3l:=NZ v3
   generalize G3.getD v []=w at*
   generalize L6.getD v3 []=w3 at*
   have F:=du;refine exF (atO 14 (onc 1 (ocq 0 q) noc) (atO 16 (onc 1 (ocq 0 q2) (onc 3 (ocq 0 q3) noc)) noO)) kt8 ?_;clear F
   refine EX.ret (.agg (tsC (.mk 4 w w3 0 []))) [some (cdE L b3)] ?_ (fun C hN hk=>AW.ret (Ed [some 0] []))
   exact⟨_,b3,rfl,Cm _ wl w3l oM (by unfold C6;omega),hb3⟩
theorem Rs(L:List UInt8)(hL:L.length≤2^20)(d a2:Nat)(ha2:a2≤L.length):
   EX 131 1 (R24 L d) (fun x C=>AW Tryz.prog C DD (Di (Ao Tryz.prog) [.cell 4 26] x.1 x.2 1) 2 ⟨[(0,.ptr 0 2 0 0),(1,I d),(4,.ptr 1 5 0 0),(5,I 6)],[(0,some (cdE L a2)),(1,some ⟨26,5,[[I 0,str [],str [],I 0,AA]]⟩)]⟩):=by
 dsimp only[DD,cR,En,Tryz.f8,Option.getD]
 simp only[cdE,AA]
 obtain⟨v,b1,hb1,q⟩:=Kr L hL a2 ha2
 have wl:=Hq v
 generalize G3.getD v []=w at*
 refine exT (atO 18 (onc 1 (ocq 0 q) noc) noO) kt8 ?_
 refine EX.ret (.agg (tsC (.mk 8 w [] 0 []))) [some (cdE L b1)] ?_ (fun C hN hk=>AW.ret (Ed [some 0] []))
 exact⟨_,b1,rfl,Cm _ wl sP oM (by unfold C6;omega),hb1⟩
theorem Re(L:List UInt8)(hL:L.length≤2^20)(d a2:Nat)(ha2:a2≤L.length):
   EX 131 1 (R24 L d) (fun x C=>AW Tryz.prog C DD (Di (Ao Tryz.prog) [.cell 4 26] x.1 x.2 1) 2 ⟨[(0,.ptr 0 2 0 0),(1,I d),(4,.ptr 1 5 0 0),(5,I 7)],[(0,some (cdE L a2)),(1,some ⟨26,5,[[I 0,str [],str [],I 0,AA]]⟩)]⟩):=by
 dsimp only[DD,cR,En,Tryz.f8,Option.getD]
 simp only[cdE,AA]
 obtain⟨u,b1,hb1,ult,q⟩:=A9 L hL a2 3 ha2 oM oM
 obtain⟨v,b2,hb2,q2⟩:=Kr L hL b1 hb1
 obtain⟨m,b3,hb3,mlt,q3⟩:=A9 L hL b2 40 hb2 oM oM
 obtain⟨c,b4,hb4,clt,q4⟩:=A9 L hL b3 2 hb3 oM oM
 have wl:=Hq v
 generalize G3.getD v []=w at*
 have w1:=Ar (n:=9+(u:Int)) oM
 have w2:=Ar (n:=(m:Int)-5) oM
 have F:=And.intro w1 w2;refine exF (atO 21 (onc 1 (ocq 0 q) (onc 4 (ocq 0 q2) (onc 6 (ocq 0 q3) noc))) (atO 22 (onc 1 (ocq 0 q4) noc) noO)) kt8 ?_;clear F
 by_cases hc:c=1
 · subst hc
   obtain⟨y,b5,hb5,ylt,q5⟩:=A9 L hL b4 70 hb4 oM oM
   have w3:=Ar (n:=995+(y:Int)) oM
   obtain⟨e,b6,hb6,elt,q6⟩:=A9 L hL b5 8 hb5 oM oM
   have F:=w3;refine exF (atO 23 (onc 1 (ocq 0 q5) noc) (atO 24 (onc 1 (ocq 0 q6) noc) noO)) kt8 ?_;clear F
   by_cases he:e=7
   · subst he
     obtain⟨z,b7,hb7,zlt,q7⟩:=A9 L hL b6 3 hb6 oM oM
     obtain rfl|rfl|rfl:z=0∨z=1∨z=2:=by omega
     · refine exT (atO 25 (onc 2 (ocq 0 q7) noc) noO) kt8 ?_
       refine EX.ret (.agg (tsC (.mk (9+u) [64,116,105,109,101] [] (-5) []))) [some (cdE L b7)] ?_ (fun C hN hk=>AW.ret (Ed [some 0] []))
       exact⟨_,b7,rfl,Cm _ dC sP oM (by unfold C6;omega),hb7⟩
     · refine exT (atO 25 (onc 2 (ocq 0 q7) noc) noO) kt8 ?_
       refine EX.ret (.agg (tsC (.mk (9+u) [64,116,105,109,101] [] 253402300799999 []))) [some (cdE L b7)] ?_ (fun C hN hk=>AW.ret (Ed [some 0] []))
       exact⟨_,b7,rfl,Cm _ dC sP oM (by unfold C6;omega),hb7⟩
     · refine exT (atO 25 (onc 2 (ocq 0 q7) noc) noO) kt8 ?_
       refine EX.ret (.agg (tsC (.mk (9+u) [64,116,105,109,101] [] 999999999999999999 []))) [some (cdE L b7)] ?_ (fun C hN hk=>AW.ret (Ed [some 0] []))
       exact⟨_,b7,rfl,Cm _ dC sP oM (by unfold C6;omega),hb7⟩
   · have de:((e:Int)==7)=false:=by simp;omega
     simp only[de]
     refine exT noO kt8 ?_
     refine EX.ret (.agg (tsC (.mk (9+u) [64,116,105,109,101] [] (995+y) []))) [some (cdE L b6)] ?_ (fun C hN hk=>AW.ret (Ed [some 0] []))
     exact⟨_,b6,rfl,Cm _ dC sP oM (by unfold C6;omega),hb6⟩
 · have dc:((c:Int)==1)=false:=by simp;omega
   simp only[dc]
   obtain⟨e,b6,hb6,elt,q6⟩:=A9 L hL b4 8 hb4 oM oM
   refine exT (atO 24 (onc 1 (ocq 0 q6) noc) noO) kt8 ?_
   by_cases he:e=7
   · subst he
     obtain⟨z,b7,hb7,zlt,q7⟩:=A9 L hL b6 3 hb6 oM oM
     obtain rfl|rfl|rfl:z=0∨z=1∨z=2:=by omega
     · refine exT (atO 25 (onc 2 (ocq 0 q7) noc) noO) kt8 ?_
       refine EX.ret (.agg (tsC (.mk (9+u) [64,116,105,109,101] [] (-5) []))) [some (cdE L b7)] ?_ (fun C hN hk=>AW.ret (Ed [some 0] []))
       exact⟨_,b7,rfl,Cm _ dC sP oM (by unfold C6;omega),hb7⟩
     · refine exT (atO 25 (onc 2 (ocq 0 q7) noc) noO) kt8 ?_
       refine EX.ret (.agg (tsC (.mk (9+u) [64,116,105,109,101] [] 253402300799999 []))) [some (cdE L b7)] ?_ (fun C hN hk=>AW.ret (Ed [some 0] []))
       exact⟨_,b7,rfl,Cm _ dC sP oM (by unfold C6;omega),hb7⟩
     · refine exT (atO 25 (onc 2 (ocq 0 q7) noc) noO) kt8 ?_
       refine EX.ret (.agg (tsC (.mk (9+u) [64,116,105,109,101] [] 999999999999999999 []))) [some (cdE L b7)] ?_ (fun C hN hk=>AW.ret (Ed [some 0] []))
       exact⟨_,b7,rfl,Cm _ dC sP oM (by unfold C6;omega),hb7⟩
   · have de:((e:Int)==7)=false:=by simp;omega
     simp only[de]
     refine exT noO kt8 ?_
     refine EX.ret (.agg (tsC (.mk (9+u) w [] (m-5) []))) [some (cdE L b6)] ?_ (fun C hN hk=>AW.ret (Ed [some 0] []))
     exact⟨_,b6,rfl,Cm _ wl sP oM (by unfold C6;omega),hb6⟩
theorem Rt(L:List UInt8)(hL:L.length≤2^20)(d a2:Nat)(ha2:a2≤L.length):
   EX 131 1 (R24 L d) (fun x C=>AW Tryz.prog C DD (Di (Ao Tryz.prog) [.cell 4 26] x.1 x.2 1) 2 ⟨[(0,.ptr 0 2 0 0),(1,I d),(4,.ptr 1 5 0 0),(5,I 8)],[(0,some (cdE L a2)),(1,some ⟨26,5,[[I 0,str [],str [],I 0,AA]]⟩)]⟩):=by
 dsimp only[DD,cR,En,Tryz.f8,Option.getD]
 simp only[cdE,AA]
 obtain⟨u,b1,hb1,ult,q⟩:=A9 L hL a2 3 ha2 oM oM
 obtain⟨v,b2,hb2,q2⟩:=Kr L hL b1 hb1
 obtain⟨m,b3,hb3,mlt,q3⟩:=A9 L hL b2 40 hb2 oM oM
 obtain⟨c,b4,hb4,clt,q4⟩:=A9 L hL b3 2 hb3 oM oM
 have wl:=Hq v
 generalize G3.getD v []=w at*
 have w1:=Ar (n:=9+(u:Int)) oM
 have w2:=Ar (n:=(m:Int)-5) oM
 have F:=And.intro w1 w2;refine exF (atO 21 (onc 1 (ocq 0 q) (onc 4 (ocq 0 q2) (onc 6 (ocq 0 q3) noc))) (atO 22 (onc 1 (ocq 0 q4) noc) noO)) kt8 ?_;clear F
 by_cases hc:c=1
 · subst hc
   obtain⟨y,b5,hb5,ylt,q5⟩:=A9 L hL b4 70 hb4 oM oM
   have w3:=Ar (n:=995+(y:Int)) oM
   obtain⟨e,b6,hb6,elt,q6⟩:=A9 L hL b5 8 hb5 oM oM
   have F:=w3;refine exF (atO 23 (onc 1 (ocq 0 q5) noc) (atO 24 (onc 1 (ocq 0 q6) noc) noO)) kt8 ?_;clear F
   by_cases he:e=7
   · subst he
     obtain⟨z,b7,hb7,zlt,q7⟩:=A9 L hL b6 3 hb6 oM oM
     obtain rfl|rfl|rfl:z=0∨z=1∨z=2:=by omega
     · refine exT (atO 25 (onc 2 (ocq 0 q7) noc) noO) kt8 ?_
       refine EX.ret (.agg (tsC (.mk (9+u) [64,116,105,109,101] [] (-5) []))) [some (cdE L b7)] ?_ (fun C hN hk=>AW.ret (Ed [some 0] []))
       exact⟨_,b7,rfl,Cm _ dC sP oM (by unfold C6;omega),hb7⟩
     · refine exT (atO 25 (onc 2 (ocq 0 q7) noc) noO) kt8 ?_
       refine EX.ret (.agg (tsC (.mk (9+u) [64,116,105,109,101] [] 253402300799999 []))) [some (cdE L b7)] ?_ (fun C hN hk=>AW.ret (Ed [some 0] []))
       exact⟨_,b7,rfl,Cm _ dC sP oM (by unfold C6;omega),hb7⟩
     · refine exT (atO 25 (onc 2 (ocq 0 q7) noc) noO) kt8 ?_
       refine EX.ret (.agg (tsC (.mk (9+u) [64,116,105,109,101] [] 999999999999999999 []))) [some (cdE L b7)] ?_ (fun C hN hk=>AW.ret (Ed [some 0] []))
       exact⟨_,b7,rfl,Cm _ dC sP oM (by unfold C6;omega),hb7⟩
   · have de:((e:Int)==7)=false:=by simp;omega
     simp only[de]
     refine exT noO kt8 ?_
     refine EX.ret (.agg (tsC (.mk (9+u) [64,116,105,109,101] [] (995+y) []))) [some (cdE L b6)] ?_ (fun C hN hk=>AW.ret (Ed [some 0] []))
     exact⟨_,b6,rfl,Cm _ dC sP oM (by unfold C6;omega),hb6⟩
 · have dc:((c:Int)==1)=false:=by simp;omega
   simp only[dc]
   obtain⟨e,b6,hb6,elt,q6⟩:=A9 L hL b4 8 hb4 oM oM
   refine exT (atO 24 (onc 1 (ocq 0 q6) noc) noO) kt8 ?_
   by_cases he:e=7
   · subst he
     obtain⟨z,b7,hb7,zlt,q7⟩:=A9 L hL b6 3 hb6 oM oM
     obtain rfl|rfl|rfl:z=0∨z=1∨z=2:=by omega
     · refine exT (atO 25 (onc 2 (ocq 0 q7) noc) noO) kt8 ?_
       refine EX.ret (.agg (tsC (.mk (9+u) [64,116,105,109,101] [] (-5) []))) [some (cdE L b7)] ?_ (fun C hN hk=>AW.ret (Ed [some 0] []))
       exact⟨_,b7,rfl,Cm _ dC sP oM (by unfold C6;omega),hb7⟩
     · refine exT (atO 25 (onc 2 (ocq 0 q7) noc) noO) kt8 ?_
       refine EX.ret (.agg (tsC (.mk (9+u) [64,116,105,109,101] [] 253402300799999 []))) [some (cdE L b7)] ?_ (fun C hN hk=>AW.ret (Ed [some 0] []))
       exact⟨_,b7,rfl,Cm _ dC sP oM (by unfold C6;omega),hb7⟩
     · refine exT (atO 25 (onc 2 (ocq 0 q7) noc) noO) kt8 ?_
       refine EX.ret (.agg (tsC (.mk (9+u) [64,116,105,109,101] [] 999999999999999999 []))) [some (cdE L b7)] ?_ (fun C hN hk=>AW.ret (Ed [some 0] []))
       exact⟨_,b7,rfl,Cm _ dC sP oM (by unfold C6;omega),hb7⟩
   · have de:((e:Int)==7)=false:=by simp;omega
     simp only[de]
     refine exT noO kt8 ?_
     refine EX.ret (.agg (tsC (.mk (9+u) w [] (m-5) []))) [some (cdE L b6)] ?_ (fun C hN hk=>AW.ret (Ed [some 0] []))
     exact⟨_,b6,rfl,Cm _ wl sP oM (by unfold C6;omega),hb6⟩
theorem Sj(L:List UInt8)(hL:L.length≤2^20)(d a2:Nat)(ha2:a2≤L.length):
   EX 131 1 (R24 L d) (fun x C=>AW Tryz.prog C DD (Di (Ao Tryz.prog) [.cell 4 26] x.1 x.2 1) 2 ⟨[(0,.ptr 0 2 0 0),(1,I d),(4,.ptr 1 5 0 0),(5,I 9)],[(0,some (cdE L a2)),(1,some ⟨26,5,[[I 0,str [],str [],I 0,AA]]⟩)]⟩):=by
 dsimp only[DD,cR,En,Tryz.f8,Option.getD]
 simp only[cdE,AA]
 refine exT noO kt8 ?_
 refine EX.ret (.agg (tsC (.mk 0 [] [] 0 []))) [some (cdE L a2)] ?_ (fun C hN hk=>AW.ret (Ed [some 0] []))
 exact⟨_,a2,rfl,Cm _ sP sP oM (by unfold C6;omega),ha2⟩
theorem Pp(t:Ts):tsE [t]=[[.val (.int .i64 t.op),.val (.string ⟨t.name.toArray⟩),.val (.string ⟨t.text.toArray⟩),.val (.int .i64 t.num),.sl 5 (tsE t.kids)]]:=by rw[← B3];rfl
theorem OX: ∀ (d:Nat),d≤2→ ∀ (L:List UInt8) (hL:L.length≤2^20) (a:Nat) (ha:a≤L.length),GX Tryz.prog 8 [.ptr 0 2 0 0,I d] [some (cdE L a)] (R24 L d)
 |0,hd,L,hL,a,ha=>by
   obtain⟨k0,a1,ha1,k0lt,q0⟩:=A9 L hL a 15 ha oM oM
   obtain⟨k,a2,ha2,klt,q1⟩:=A9 L hL a1 10 ha1 oM oM
   refine GV 131 1 Tryz.func8 rfl rfl rfl sP rfl rfl ?_
   apply EX.step
   · intro xX C hN hk hqX
     repeat first|with_reducible refine AW.seq ?_|with_reducible refine AW.block ?_
     refine rG hN hk noc [0] [0,1,4] fun K hK=>?_;simp only[go_sem,seval];refine hK _ _ ?_
     clear hK K
     repeat first|with_reducible refine CH ?_|with_reducible refine As ?_
     exact hqX
   apply EX.step
   · intro xX C hN hk hqX
     repeat first|with_reducible refine AW.seq ?_|with_reducible refine AW.block ?_
     refine rG hN hk (onc 1 (ocq 0 q0) noc) [0] [0,1,4,5] fun K hK=>?_;simp only[go_sem,seval];refine obK (hK _ _ ?_)
     clear hK K
     repeat first|with_reducible refine CH ?_|with_reducible refine As ?_
     exact hqX
   apply EX.step
   · intro xX C hN hk hqX
     repeat first|with_reducible refine AW.seq ?_|with_reducible refine AW.block ?_
     refine rG hN hk noc [0] [0,1,4,5,12] fun K hK=>?_;simp only[go_sem,seval]
     try simp (disch:=omega) only[au]
     refine hK _ _ ?_;clear hK K
     repeat first|with_reducible refine CH ?_|with_reducible refine As ?_
     exact hqX
   apply EX.step
   · intro xX C hN hk hqX
     repeat first|with_reducible refine AW.seq ?_|with_reducible refine AW.block ?_
     refine cT ?_
     try first|refine AW.skip ?_|refine AW.exit ?_
     repeat first|with_reducible refine Ba ?_|with_reducible refine BZ ?_|with_reducible refine KF dC ?_|with_reducible refine CH ?_|with_reducible refine As ?_
     exact hqX
   apply EX.step
   · intro xX C hN hk hqX
     repeat first|with_reducible refine AW.seq ?_|with_reducible refine AW.block ?_
     refine rG hN hk (onc 1 (ocq 0 q1) noc) [0] [0,1,4,5] fun K hK=>?_;simp only[go_sem,seval];refine obK (hK _ _ ?_)
     clear hK K
     repeat first|with_reducible refine CH ?_|with_reducible refine As ?_
     exact hqX
   clear q0 q1
   obtain rfl|rfl|rfl|rfl|rfl|rfl|rfl|rfl|rfl|rfl:k=0∨k=1∨k=2∨k=3∨k=4∨k=5∨k=6∨k=7∨k=8∨k=9:=by omega
   · exact RB L hL 0 a2 ha2
   · exact Sl L hL 0 a2 ha2
   · exact R5 L hL 0 a2 ha2
   · exact SK L hL 0 a2 ha2
   · exact Rb L hL 0 a2 ha2
   · exact Rd L hL 0 a2 ha2
   · exact Rs L hL 0 a2 ha2
   · exact Re L hL 0 a2 ha2
   · exact Rt L hL 0 a2 ha2
   · exact Sj L hL 0 a2 ha2
 |d+1,hd,L,hL,a,ha=>by
   have IH:=OX d oM
   obtain⟨k,a2,ha2,klt,q0⟩:=A9 L hL a 15 ha oM oM
   have dd:(((d+1:Nat):Int)==0)=false:=by simp;omega
   have e1:(((d+1:Nat):Int)-1)=(d:Int):=by omega
   have wd:=Ar (n:=(d:Int)) oM
   refine GV 131 1 Tryz.func8 rfl rfl rfl sP rfl rfl ?_
   apply EX.step
   · intro xX C hN hk hqX
     repeat first|with_reducible refine AW.seq ?_|with_reducible refine AW.block ?_
     refine rG hN hk noc [0] [0,1,4] fun K hK=>?_;simp only[go_sem,seval];refine hK _ _ ?_
     clear hK K
     repeat first|with_reducible refine CH ?_|with_reducible refine As ?_
     exact hqX
   apply EX.step
   · intro xX C hN hk hqX
     repeat first|with_reducible refine AW.seq ?_|with_reducible refine AW.block ?_
     refine rG hN hk (onc 1 (ocq 0 q0) noc) [0] [0,1,4,5] fun K hK=>?_;simp only[go_sem,seval];refine obK (hK _ _ ?_)
     clear hK K
     repeat first|with_reducible refine CH ?_|with_reducible refine As ?_
     exact hqX
   apply EX.step
   · intro xX C hN hk hqX
     repeat first|with_reducible refine AW.seq ?_|with_reducible refine AW.block ?_
     refine rG hN hk noc [0] [0,1,4,5,12] fun K hK=>?_;simp only[go_sem,seval,dd]
     try simp (disch:=omega) only[au]
     refine hK _ _ ?_;clear hK K
     repeat first|with_reducible refine CH ?_|with_reducible refine As ?_
     exact hqX
   apply EX.step
   · intro xX C hN hk hqX
     repeat first|with_reducible refine AW.seq ?_|with_reducible refine AW.block ?_
     refine cF ?_
     try first|refine AW.skip ?_|refine AW.exit ?_
     repeat first|with_reducible refine Ba ?_|with_reducible refine BZ ?_|with_reducible refine KF dC ?_|with_reducible refine CH ?_|with_reducible refine As ?_
     exact hqX
   clear q0
   refine Wd 2 ⟨[(0,.ptr 0 2 0 0),(1,I (d+1:Nat)),(4,.ptr 1 5 0 0),(5,I k)],[(0,some (cdE L a2)),(1,some ⟨26,5,[[I 0,str [],str [],I 0,AA]]⟩)]⟩ (Hb (And.intro cdE.eq_1 AA.eq_1) [some 0,some 1] []) ?_
   obtain rfl|rfl|rfl|rfl|rfl|rfl|rfl|rfl|rfl|rfl|rfl|hk:k=0∨k=1∨k=2∨k=3∨k=4∨k=5∨k=6∨k=7∨k=8∨k=9∨k=10∨11≤k:=by omega
   · exact RB L hL (d+1) a2 ha2
   · exact Sl L hL (d+1) a2 ha2
   · exact R5 L hL (d+1) a2 ha2
   · exact SK L hL (d+1) a2 ha2
   · exact Rb L hL (d+1) a2 ha2
   · exact Rd L hL (d+1) a2 ha2
   · exact Rs L hL (d+1) a2 ha2
   · exact Re L hL (d+1) a2 ha2
   · exact Rt L hL (d+1) a2 ha2
   · exact Sj L hL (d+1) a2 ha2
   · simp only[cdE,AA]
     obtain⟨_,⟨t0,a3,rfl,tb,ha3⟩,qt⟩:=IH L hL a2 ha2
     simp only[B3]at qt
     have F:=And.intro e1 wd;refine exF (atO 30 (onc 3 (ocq 0 qt) noc) noO) kt8 ?_;clear F
     refine EX.ret (.agg (tsC (.mk 5 [] [] 0 [t0]))) [some (cdE L a3)] ?_ (fun C hN hk=>AW.ret (BY [some 0] [2] (by simp only[AY,go_sem,seval];rfl) (by simp[Az,lk,lkh,I,str,B,U8,U64,U32,cdE,B3,Pp]<;>omega) (by first|(simp[Am,Ai,Ak,lkh,cdE,B3,Pp];done)|simp[Am,Ai,Ak,lkh,I,str,cdE,B3,Pp])))
     exact⟨_,a3,rfl,⟨sP,sP,sP,by unfold C6;simp,sP,by intro k hk;rw[M0]at hk;rw[List.mem_singleton.1 hk];exact tb⟩,ha3⟩
   · have n0:((k:Int)==0)=false:=by simp;omega
     have n1:((k:Int)==1)=false:=by simp;omega
     have n2:((k:Int)==2)=false:=by simp;omega
     have n3:((k:Int)==3)=false:=by simp;omega
     have n4:((k:Int)==4)=false:=by simp;omega
     have n5:((k:Int)==5)=false:=by simp;omega
     have n6:((k:Int)==6)=false:=by simp;omega
     have n7:((k:Int)==7)=false:=by simp;omega
     have n8:((k:Int)==8)=false:=by simp;omega
     have n9:((k:Int)==9)=false:=by simp;omega
     have n10:((k:Int)==10)=false:=by simp;omega
     have er:(k:Int).tmod 2=(k:Int)%2:=Int.tmod_eq_emod_of_nonneg oM
     have w6:=Ar (n:=6+(k:Int)%2) oM
     obtain⟨op,hop⟩: ∃ op,op=6+(k:Int)%2:=⟨_,rfl⟩
     have ho:0≤op∧op≤11:=by omega
     rw[← hop]at w6
     obtain⟨m,a3,ha3,mlt,q2⟩:=A9 L hL a2 2 ha2 oM oM
     have w7:=Ar (n:=2+(m:Int)) oM
     simp only[cdE,AA]
     apply EX.step
     · intro xX C hN hk hqX
       repeat first|(with_reducible first|apply s1|apply s2|apply s5|apply s6|refine s7 ?_|apply s3|apply s4|apply s8|apply s9)|refine AX rfl ?_|refine Ay rfl ?_|(refine Ww Bh hN hk (atO 32 (onc 1 (ocq 0 q2) noc) noO) kt8 [0] rfl dK (fun K hK=>?_);simp only[go_sem,seval,kt8,n0,n1,n2,n3,n4,n5,n6,n7,n8,n9,n10,er,← hop,w6,w7];(iterate 3 (try simp (disch:=omega) only[au];try simp only[go_sem,seval,kt8,n0,n1,n2,n3,n4,n5,n6,n7,n8,n9,n10,er,← hop,w6,w7]));(first|with_reducible refine hK _ _ ?_|refine obK (hK _ _ ?_));clear hK K)|(refine Wt Bh hN hk (atO 32 (onc 1 (ocq 0 q2) noc) noO) kt8 [0] rfl dK (fun K tok htok hK=>?_);simp only[go_sem,seval,kt8,n0,n1,n2,n3,n4,n5,n6,n7,n8,n9,n10,er,← hop,w6,w7];(iterate 3 (try simp (disch:=omega) only[au];try simp only[go_sem,seval,kt8,n0,n1,n2,n3,n4,n5,n6,n7,n8,n9,n10,er,← hop,w6,w7]));refine⟨htok _ dK,?_⟩;(first|with_reducible refine hK _ _ ?_|refine obK (hK _ _ ?_));clear hK K htok tok)
       exact hqX
     have hm2:2+(m:Int)=((m+2:Nat):Int):=by omega
     simp only[hm2]
     clear q2 n0 n1 n2 n3 n4 n5 n6 n7 n8 n9 n10 er w6 w7 hm2 hop
     apply EX.step
     · intro xX C hN hk hqX
       repeat first|with_reducible refine AW.seq ?_|with_reducible refine AW.block ?_
       exact hqX
     refine lpX 4 (fun s:Nat×List Ts×Nat=>⟨[(0,.ptr 0 2 0 0),(1,I (d+1:Nat)),(4,.ptr 1 5 0 0),(7,.ptr 2 5 0 0),(8,I s.1)],[(0,some ⟨98,2,[[.sl 1 (Ab L),I s.2.2]]⟩),(1,some ⟨26,5,[[I 0,str [],str [],I 0,AA]]⟩),(2,some ⟨26,5,[[I op,str [],str [],I 0,.osl 3 s.2.1.length 5]]⟩),(3,some ⟨26,5,tsE s.2.1⟩)]⟩) (fun s=>(s.2.1.length+s.1≤3∧2≤s.2.1.length+s.1)∧s.2.2≤L.length∧ ∀ t∈s.2.1,TsB d t) (fun s=>s.1) (m+2,[],a3) (Cz AA.eq_1 [some 0,some 1,some 2,none] []) ?_
     intro ⟨j,ks,a4⟩ hI Y hY
     obtain⟨g1,g2,g3⟩:=hI
     simp only at g1 g2 g3
     cases j with
     |succ j=>
       obtain⟨_,⟨t0,a5,rfl,tb,ha5⟩,qt⟩:=IH L hL a4 g2
       simp only[B3]at qt
       have d0:decide (((j+1:Nat):Int)>0)=true:=by simp
       have e2:(((j+1:Nat):Int)-1)=(j:Int):=by omega
       have w8:=Ar (n:=(j:Int)) oM
       obtain⟨k2,hk2⟩: ∃ k2,k2=ks++[t0]:=⟨_,rfl⟩
       have hkl:k2.length=ks.length+1:=by rw[hk2];simp
       have hkm: ∀ t∈k2,TsB d t:=by
         intro t ht
         rw[hk2]at ht
         rcases List.mem_append.1 ht with ht|ht
         · exact g3 t ht
         · rw[List.mem_singleton.1 ht];exact tb
       have F:=And.intro d0 (And.intro e1 (And.intro wd (And.intro e2 w8)));refine exF (atO 35 (onc 5 (ocq 0 qt) noc) noO) kt8 ?_;clear F
       refine eY hY ((j,k2,a5)) (Cz (And.intro hk2 (And.intro hkl AA.eq_1)) [some 0,some 1,some 2,some 3] [])
     |zero=>
       have d0:decide (((0:Nat):Int)>0)=false:=by simp
       have F:=d0;refine exF noO kt8 ?_;clear F
       refine EX.ret (.agg (tsC (.mk op [] [] 0 ks))) [some (cdE L a4)] ?_ (fun C hN hk=>AW.ret (Ed [some 0] [2]))
       exact⟨_,a4,rfl,⟨sP,sP,⟨ho,fun _=>by rw[M0];omega⟩,by unfold C6;simp,by rw[M0];omega,by intro k hk;rw[M0]at hk;exact g3 k hk⟩,g2⟩
end Go.Proofs.YtpkhodjlnodagaaGreatDoor
