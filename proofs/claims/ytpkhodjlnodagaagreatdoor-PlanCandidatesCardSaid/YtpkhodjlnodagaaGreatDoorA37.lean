/- Part 37 of the proof of PlanCandidates. -/
import Derived.Test.YtpkhodjlnodagaaGreatDoorA11
import Derived.Test.YtpkhodjlnodagaaGreatDoorA36
set_option linter.unusedSimpArgs false
set_option linter.unusedVariables false
set_option linter.unusedSectionVars false
namespace Go.Proofs.YtpkhodjlnodagaaGreatDoor
open Go.Av
set_option maxHeartbeats 4000000
attribute [local irreducible] Af
inductive Ts where
 |mk (op:Int) (name text:S) (num:Int) (kids:List Ts)
def Ts.op:Ts→Int| .mk o _ _ _ _=>o
def Ts.name:Ts→S| .mk _ n _ _ _=>n
def Ts.text:Ts→S| .mk _ _ t _ _=>t
def Ts.num:Ts→Int| .mk _ _ _ m _=>m
def Ts.kids:Ts→List Ts| .mk _ _ _ _ k=>k
mutual
def tsC:Ts→List AV
 | .mk o n t m k=>[I o,str n,str t,I m,.sl 5 (Vp k)]
def Vp:List Ts→List (List AV)
 | []=>[]
 |k::ks=>tsC k::Vp ks
end
theorem RL: ∀ l:List Ts,Vp l=l.map tsC
 | []=>rfl
 |k::ks=>by rw[Vp,RL ks];rfl
def tsE(l:List Ts):List (List AV):=l.map tsC
theorem BS(x:Ts):tsC x=[.val (.int .i64 x.op),.val (.string ⟨x.name.toArray⟩),.val (.string ⟨x.text.toArray⟩),.val (.int .i64 x.num),.sl 5 (tsE x.kids)]:=by
 cases x with
 |mk o n t m k=>rw[tsC,RL];rfl
attribute [go_sem] BS
theorem Ud(l:List Ts):(tsE l).length=l.length:=by simp[tsE]
theorem Y9(l:List Ts)(i:Nat):(tsE l)[i]? =(l[i]?).map tsC:=by simp[tsE]
@[simp] theorem tsE_id(k:Nat)(l:List Ts):AA k (tsE l)=true:=by
 simp only[AA,tsE,List.all_map,List.all_eq_true]
 intro x _
 cases x;rfl
theorem AcC(L:List Nat)(l:List Ts):BK L (tsE l)=tsE l:=by
 simp only[BK,tsE,List.map_map]
 apply List.map_congr_left
 intro x _
 cases x;rfl
theorem ZE(l:List Ts)(x:Ts):tsE l++[[.val (.int .i64 x.op),.val (.string ⟨x.name.toArray⟩),.val (.string ⟨x.text.toArray⟩),.val (.int .i64 x.num),.sl 5 (tsE x.kids)]]=tsE (l++[x]):=by rw[← BS];simp[tsE]
@[simp] theorem AhK:tsE []=[]:=rfl
attribute [go_sem] Ud Y9 AcC ZE
attribute [simp] Ud
@[simp] theorem ts_op(o:Int)(n t:S)(m:Int)(k:List Ts):(Ts.mk o n t m k).op=o:=rfl
@[simp] theorem AhP(o:Int)(n t:S)(m:Int)(k:List Ts):(Ts.mk o n t m k).name=n:=rfl
@[simp] theorem AhC(o:Int)(n t:S)(m:Int)(k:List Ts):(Ts.mk o n t m k).text=t:=rfl
@[simp] theorem ts_num(o:Int)(n t:S)(m:Int)(k:List Ts):(Ts.mk o n t m k).num=m:=rfl
@[simp] theorem Mf(o:Int)(n t:S)(m:Int)(k:List Ts):(Ts.mk o n t m k).kids=k:=rfl
def CW(n:Int):Prop:= -5≤n∧n≤999999999999999999
def TsB:Nat→Ts→Prop
 |0,t=>t.name.length≤19∧t.text.length≤19∧((0≤t.op∧t.op≤11)∧ ¬ t.op=6)∧CW t.num∧t.kids=[]
 |d+1,t=>t.name.length≤19∧t.text.length≤19∧((0≤t.op∧t.op≤11)∧(t.op=6→1≤t.kids.length))∧CW t.num∧t.kids.length≤3∧ ∀ k∈t.kids,TsB d k
theorem Zm{t:Ts}(d:Nat)(h:TsB 0 t):TsB d t:=by
 cases d with
 |zero=>exact h
 |succ d=>exact⟨h.1,h.2.1,⟨h.2.2.1.1,fun e=>absurd e h.2.2.1.2⟩,h.2.2.2.1,by rw[h.2.2.2.2];simp,by rw[h.2.2.2.2];simp⟩
theorem Cg(d:Nat){o:Int}{n t:S}{m:Int}(h1:n.length≤19)(h2:t.length≤19)(h3:(0≤o∧o≤11)∧ ¬ o=6)(h4:CW m):TsB d (.mk o n t m []):=Zm d ⟨h1,h2,h3,h4,rfl⟩
theorem EQ{l:List S}{v n:Nat}(hn:l.length=n)(h:v<n):l[v]? =some (l.getD v []):=by
 subst hn;rw[DN h];exact List.getElem?_eq_getElem h
def twL:List S:=[[103,101,116],[101,114,114,111,114],[119,97,114,110],[97,49],[50,48,48],[110,111,116,104,105,110,103]]
theorem TC(i:Nat):(twL.getD i []).length≤19:=Eo (by decide) i
@[simp] theorem twL_n:twL.length=6:=rfl
theorem Uz:([[AV.val (.string ⟨#[103,101,116]⟩)],[AV.val (.string ⟨#[101,114,114,111,114]⟩)],[AV.val (.string ⟨#[119,97,114,110]⟩)],[AV.val (.string ⟨#[97,49]⟩)],[AV.val (.string ⟨#[50,48,48]⟩)],[AV.val (.string ⟨#[110,111,116,104,105,110,103]⟩)]]:List (List AV))=Ay twL:=rfl
def tbL:List S:=[[101],[101,114,114],[117],[50],[113]]
theorem Abl(i:Nat):(tbL.getD i []).length≤19:=Eo (by decide) i
@[simp] theorem tbL_n:tbL.length=5:=rfl
theorem AbM:([[AV.val (.string ⟨#[101]⟩)],[AV.val (.string ⟨#[101,114,114]⟩)],[AV.val (.string ⟨#[117]⟩)],[AV.val (.string ⟨#[50]⟩)],[AV.val (.string ⟨#[113]⟩)]]:List (List AV))=Ay tbL:=rfl
def tcL:List S:=[[114],[71,69,84],[32],[84],[111,32,111]]
theorem Ac3(i:Nat):(tcL.getD i []).length≤19:=Eo (by decide) i
@[simp] theorem tcL_n:tcL.length=5:=rfl
theorem AbX:([[AV.val (.string ⟨#[114]⟩)],[AV.val (.string ⟨#[71,69,84]⟩)],[AV.val (.string ⟨#[32]⟩)],[AV.val (.string ⟨#[84]⟩)],[AV.val (.string ⟨#[111,32,111]⟩)]]:List (List AV))=Ay tcL:=rfl
def tnL:List S:=[[64,104,111,115,116],[64,115,116,114,101,97,109],[64,116,114,97,99,101],[64,119,101,105,103,104,116]]
theorem UD(i:Nat):(tnL.getD i []).length≤19:=Eo (by decide) i
@[simp] theorem tnL_n:tnL.length=4:=rfl
theorem Th:([[AV.val (.string ⟨#[64,104,111,115,116]⟩)],[AV.val (.string ⟨#[64,115,116,114,101,97,109]⟩)],[AV.val (.string ⟨#[64,116,114,97,99,101]⟩)],[AV.val (.string ⟨#[64,119,101,105,103,104,116]⟩)]]:List (List AV))=Ay tnL:=rfl
def txL:List S:=[[49],[109,97,105,110],[116,49],[50]]
theorem S5(i:Nat):(txL.getD i []).length≤19:=Eo (by decide) i
@[simp] theorem txL_n:txL.length=4:=rfl
theorem T8:([[AV.val (.string ⟨#[49]⟩)],[AV.val (.string ⟨#[109,97,105,110]⟩)],[AV.val (.string ⟨#[116,49]⟩)],[AV.val (.string ⟨#[50]⟩)]]:List (List AV))=Ay txL:=rfl
def nsL:List S:=[[108,101,118,101,108],[64,104,111,115,116],[64,115,116,114,101,97,109],[99,111,100,101],[64,116,114,97,99,101]]
theorem Ab7(i:Nat):(nsL.getD i []).length≤19:=Eo (by decide) i
@[simp] theorem nsL_n:nsL.length=5:=rfl
theorem AaX:([[AV.val (.string ⟨#[108,101,118,101,108]⟩)],[AV.val (.string ⟨#[64,104,111,115,116]⟩)],[AV.val (.string ⟨#[64,115,116,114,101,97,109]⟩)],[AV.val (.string ⟨#[99,111,100,101]⟩)],[AV.val (.string ⟨#[64,116,114,97,99,101]⟩)]]:List (List AV))=Ay nsL:=rfl
@[simp] theorem Ah3:GN.length=4:=rfl
theorem Ed{T:Tab}{rv:List ResultVar}{r:AV}{hs':List (Option Ent)}{k:Nat}{l:List AV}{p:Prop}{s:AS}(ids:List (Option Nat))(D:List Nat)(h1:AY T s rv=some (l,p):=by simp only[AY,go_sem,seval];rfl)(hr:wk (lkh s.hp) ids D (Ax l) r:=by simp[Ax,lk,lkh,I,str,B,U8,U64,U32,cdE,BS]<;>omega)(hh:Am (lkh s.hp) ids D (hs'.zipIdx.map fun x=>(x.2,x.1)):=by first|(simp[Am,Ai,Aj,lkh,cdE,BS];done)|simp[Am,Ai,Aj,lkh,I,str,cdE,BS])
   (h2:p:=by simp) (hi:IdsOk ids D k (hs'.zipIdx.map fun x=>(x.2,x.1)):=by exact⟨by simp[Al],by simp[Al],by simp⟩) (hl:ids.length=hs'.length:=by simp):Df T rv r hs' k .ret 0 s:=B0 ids D h1 hr hh h2 hi hl
def kt8:Nat→List Nat
 |0=>[0,1,4]
 |1=>[0,1,4,5]
 |2=>[0,1,4,5,12]
 |3=>[0,1,4,5]
 |4=>[0,1,4,5,15]
 |5=>[0,1,4,5,15,16]
 |6=>[0,1,4,5,15,16]
 |7=>[4]
 |8=>[0,1,4,5,15,25]
 |9=>[4]
 |10=>[0,1,4,5,15,33]
 |11=>[4]
 |12=>[0,1,4,5,15,41]
 |13=>[0,1,4,5,15,41]
 |14=>[0,4,46]
 |15=>[4]
 |16=>[4]
 |17=>[0,1,4,5,15,63]
 |18=>[4]
 |19=>[0,1,4,5,15,68]
 |20=>[0,1,4,5,15,68]
 |21=>[0,4,6]
 |22=>[0,4,6,82]
 |23=>[0,4,6]
 |24=>[0,4,6,90]
 |25=>[4,6]
 |26=>[4]
 |27=>[0,1,4,5,15,99]
 |28=>[4]
 |29=>[0,1,4,5,102]
 |30=>[4]
 |31=>[0,1,4,7]
 |32=>[0,1,4,7,8]
 |33=>[0,1,4,7,8,118]
 |34=>[0,1,4,7,8]
 |35=>[0,1,4,7,8]
 |36=>[4]
 |_=>[]
attribute [go_sem] kt8
def El(f:Func):Code:=f.body.getD .skip
def cR:Code→Code
 | .seq _ b=>b
 |c=>c
noncomputable def Dz:Code:=cR (cR (cR (El Tryz.f8)))
def R24(L:List UInt8)(d:Nat):Res→Prop:=fun x=> ∃ (t:Ts) (a':Nat),x=(.agg (tsC t),[some (cdE L a')])∧TsB d t∧a'≤L.length
theorem Sr(L:List UInt8)(hL:L.length≤2^20)(d a2:Nat)(ha2:a2≤L.length):
   EX 131 1 (R24 L d) (fun x C=>AW Tryz.prog C Dz (Df (Ao Tryz.prog) [.cell 4 26] x.1 x.2 1) 2 ⟨[(0,.ptr 0 2 0 0),(1,I d),(4,.ptr 1 5 0 0),(5,I 0)],[(0,some (cdE L a2)),(1,some ⟨26,5,[[I 0,str [],str [],I 0,AH]]⟩)]⟩):=by
 dsimp only[Dz,cR,El,Tryz.f8,Option.getD]
 simp only[cdE,AH]
 obtain⟨v,b1,hb1,vlt,q⟩:=A7 L hL a2 6 ha2 (by omega) (by omega)
 have vx:=EQ (l:=twL) rfl vlt
 have wl:=TC v
 generalize twL.getD v []=w at*
 have F:=And.intro Uz vx;refine exF (atO 7 (onc 2 (ocq 0 q) noc) noO) kt8 ?_;clear F
 refine EX.ret (.agg (tsC (.mk 1 [] w 0 []))) [some (cdE L b1)] ?_ (fun C hN hk=>AW.ret (Ed [some 0] []))
 exact⟨_,b1,rfl,Cg _ (by simp) wl (by omega) (by unfold CW;omega),hb1⟩
theorem QE(L:List UInt8)(hL:L.length≤2^20)(d a2:Nat)(ha2:a2≤L.length):
   EX 131 1 (R24 L d) (fun x C=>AW Tryz.prog C Dz (Df (Ao Tryz.prog) [.cell 4 26] x.1 x.2 1) 2 ⟨[(0,.ptr 0 2 0 0),(1,I d),(4,.ptr 1 5 0 0),(5,I 1)],[(0,some (cdE L a2)),(1,some ⟨26,5,[[I 0,str [],str [],I 0,AH]]⟩)]⟩):=by
 dsimp only[Dz,cR,El,Tryz.f8,Option.getD]
 simp only[cdE,AH]
 obtain⟨v,b1,hb1,vlt,q⟩:=A7 L hL a2 6 ha2 (by omega) (by omega)
 have vx:=EQ (l:=twL) rfl vlt
 have wl:=TC v
 generalize twL.getD v []=w at*
 have F:=And.intro Uz vx;refine exF (atO 7 (onc 2 (ocq 0 q) noc) noO) kt8 ?_;clear F
 refine EX.ret (.agg (tsC (.mk 1 [] w 0 []))) [some (cdE L b1)] ?_ (fun C hN hk=>AW.ret (Ed [some 0] []))
 exact⟨_,b1,rfl,Cg _ (by simp) wl (by omega) (by unfold CW;omega),hb1⟩
theorem RK(L:List UInt8)(hL:L.length≤2^20)(d a2:Nat)(ha2:a2≤L.length):
   EX 131 1 (R24 L d) (fun x C=>AW Tryz.prog C Dz (Df (Ao Tryz.prog) [.cell 4 26] x.1 x.2 1) 2 ⟨[(0,.ptr 0 2 0 0),(1,I d),(4,.ptr 1 5 0 0),(5,I 2)],[(0,some (cdE L a2)),(1,some ⟨26,5,[[I 0,str [],str [],I 0,AH]]⟩)]⟩):=by
 dsimp only[Dz,cR,El,Tryz.f8,Option.getD]
 simp only[cdE,AH]
 obtain⟨v,b1,hb1,vlt,q⟩:=A7 L hL a2 5 ha2 (by omega) (by omega)
 have vx:=EQ (l:=tbL) rfl vlt
 have wl:=Abl v
 generalize tbL.getD v []=w at*
 have F:=And.intro AbM vx;refine exF (atO 9 (onc 2 (ocq 0 q) noc) noO) kt8 ?_;clear F
 refine EX.ret (.agg (tsC (.mk 2 [] w 0 []))) [some (cdE L b1)] ?_ (fun C hN hk=>AW.ret (Ed [some 0] []))
 exact⟨_,b1,rfl,Cg _ (by simp) wl (by omega) (by unfold CW;omega),hb1⟩
theorem QM(L:List UInt8)(hL:L.length≤2^20)(d a2:Nat)(ha2:a2≤L.length):
   EX 131 1 (R24 L d) (fun x C=>AW Tryz.prog C Dz (Df (Ao Tryz.prog) [.cell 4 26] x.1 x.2 1) 2 ⟨[(0,.ptr 0 2 0 0),(1,I d),(4,.ptr 1 5 0 0),(5,I 3)],[(0,some (cdE L a2)),(1,some ⟨26,5,[[I 0,str [],str [],I 0,AH]]⟩)]⟩):=by
 dsimp only[Dz,cR,El,Tryz.f8,Option.getD]
 simp only[cdE,AH]
 obtain⟨v,b1,hb1,vlt,q⟩:=A7 L hL a2 5 ha2 (by omega) (by omega)
 have vx:=EQ (l:=tcL) rfl vlt
 have wl:=Ac3 v
 generalize tcL.getD v []=w at*
 have F:=And.intro AbX vx;refine exF (atO 11 (onc 2 (ocq 0 q) noc) noO) kt8 ?_;clear F
 refine EX.ret (.agg (tsC (.mk 3 [] w 0 []))) [some (cdE L b1)] ?_ (fun C hN hk=>AW.ret (Ed [some 0] []))
 exact⟨_,b1,rfl,Cg _ (by simp) wl (by omega) (by unfold CW;omega),hb1⟩
theorem RM(L:List UInt8)(hL:L.length≤2^20)(d a2:Nat)(ha2:a2≤L.length):
   EX 131 1 (R24 L d) (fun x C=>AW Tryz.prog C Dz (Df (Ao Tryz.prog) [.cell 4 26] x.1 x.2 1) 2 ⟨[(0,.ptr 0 2 0 0),(1,I d),(4,.ptr 1 5 0 0),(5,I 4)],[(0,some (cdE L a2)),(1,some ⟨26,5,[[I 0,str [],str [],I 0,AH]]⟩)]⟩):=by
 dsimp only[Dz,cR,El,Tryz.f8,Option.getD]
 simp only[cdE,AH]
 obtain⟨u,b1,hb1,ult,q⟩:=A7 L hL a2 4 ha2 (by omega) (by omega)
 by_cases hu:u=3
 · subst hu
   obtain⟨v,b2,hb2,vlt,q2⟩:=A7 L hL b1 4 hb1 (by omega) (by omega)
   have vx:=EQ (l:=tnL) rfl vlt
   have wl:=UD v
   generalize tnL.getD v []=w at*
   obtain⟨v3,b3,hb3,v3lt,q3⟩:=A7 L hL b2 4 hb2 (by omega) (by omega)
   have v3x:=EQ (l:=txL) rfl v3lt
   have w3l:=S5 v3
   generalize txL.getD v3 []=w3 at*
   have F:=And.intro Th (And.intro T8 (And.intro vx v3x));refine exF (atO 14 (onc 1 (ocq 0 q) noc) (atO 15 (onc 2 (ocq 0 q2) (onc 7 (ocq 0 q3) noc)) noO)) kt8 ?_;clear F
   refine EX.ret (.agg (tsC (.mk 4 w w3 0 []))) [some (cdE L b3)] ?_ (fun C hN hk=>AW.ret (Ed [some 0] []))
   exact⟨_,b3,rfl,Cg _ wl w3l (by omega) (by unfold CW;omega),hb3⟩
 · have du:((u:Int)==3)=false:=by simp;omega
   obtain⟨v,b2,hb2,q2⟩:=Kl L hL b1 hb1
   obtain⟨v3,b3,hb3,q3⟩:=O8 L hL b2 hb2
   have wl:=Hb v
   have w3l:=M9 v3
   generalize GN.getD v []=w at*
   generalize LY.getD v3 []=w3 at*
   have F:=du;refine exF (atO 14 (onc 1 (ocq 0 q) noc) (atO 16 (onc 1 (ocq 0 q2) (onc 3 (ocq 0 q3) noc)) noO)) kt8 ?_;clear F
   refine EX.ret (.agg (tsC (.mk 4 w w3 0 []))) [some (cdE L b3)] ?_ (fun C hN hk=>AW.ret (Ed [some 0] []))
   exact⟨_,b3,rfl,Cg _ wl w3l (by omega) (by unfold CW;omega),hb3⟩
theorem QY(L:List UInt8)(hL:L.length≤2^20)(d a2:Nat)(ha2:a2≤L.length):
   EX 131 1 (R24 L d) (fun x C=>AW Tryz.prog C Dz (Df (Ao Tryz.prog) [.cell 4 26] x.1 x.2 1) 2 ⟨[(0,.ptr 0 2 0 0),(1,I d),(4,.ptr 1 5 0 0),(5,I 5)],[(0,some (cdE L a2)),(1,some ⟨26,5,[[I 0,str [],str [],I 0,AH]]⟩)]⟩):=by
 dsimp only[Dz,cR,El,Tryz.f8,Option.getD]
 simp only[cdE,AH]
 obtain⟨u,b1,hb1,ult,q⟩:=A7 L hL a2 4 ha2 (by omega) (by omega)
 by_cases hu:u=3
 · subst hu
   obtain⟨v,b2,hb2,vlt,q2⟩:=A7 L hL b1 4 hb1 (by omega) (by omega)
   have vx:=EQ (l:=tnL) rfl vlt
   have wl:=UD v
   generalize tnL.getD v []=w at*
   obtain⟨v3,b3,hb3,v3lt,q3⟩:=A7 L hL b2 4 hb2 (by omega) (by omega)
   have v3x:=EQ (l:=txL) rfl v3lt
   have w3l:=S5 v3
   generalize txL.getD v3 []=w3 at*
   have F:=And.intro Th (And.intro T8 (And.intro vx v3x));refine exF (atO 14 (onc 1 (ocq 0 q) noc) (atO 15 (onc 2 (ocq 0 q2) (onc 7 (ocq 0 q3) noc)) noO)) kt8 ?_;clear F
   refine EX.ret (.agg (tsC (.mk 4 w w3 0 []))) [some (cdE L b3)] ?_ (fun C hN hk=>AW.ret (Ed [some 0] []))
   exact⟨_,b3,rfl,Cg _ wl w3l (by omega) (by unfold CW;omega),hb3⟩
 · have du:((u:Int)==3)=false:=by simp;omega
   obtain⟨v,b2,hb2,q2⟩:=Kl L hL b1 hb1
   obtain⟨v3,b3,hb3,q3⟩:=O8 L hL b2 hb2
   have wl:=Hb v
   have w3l:=M9 v3
   generalize GN.getD v []=w at*
   generalize LY.getD v3 []=w3 at*
   have F:=du;refine exF (atO 14 (onc 1 (ocq 0 q) noc) (atO 16 (onc 1 (ocq 0 q2) (onc 3 (ocq 0 q3) noc)) noO)) kt8 ?_;clear F
   refine EX.ret (.agg (tsC (.mk 4 w w3 0 []))) [some (cdE L b3)] ?_ (fun C hN hk=>AW.ret (Ed [some 0] []))
   exact⟨_,b3,rfl,Cg _ wl w3l (by omega) (by unfold CW;omega),hb3⟩
theorem RF(L:List UInt8)(hL:L.length≤2^20)(d a2:Nat)(ha2:a2≤L.length):
   EX 131 1 (R24 L d) (fun x C=>AW Tryz.prog C Dz (Df (Ao Tryz.prog) [.cell 4 26] x.1 x.2 1) 2 ⟨[(0,.ptr 0 2 0 0),(1,I d),(4,.ptr 1 5 0 0),(5,I 6)],[(0,some (cdE L a2)),(1,some ⟨26,5,[[I 0,str [],str [],I 0,AH]]⟩)]⟩):=by
 dsimp only[Dz,cR,El,Tryz.f8,Option.getD]
 simp only[cdE,AH]
 obtain⟨v,b1,hb1,q⟩:=Kl L hL a2 ha2
 have wl:=Hb v
 generalize GN.getD v []=w at*
 refine exT (atO 18 (onc 1 (ocq 0 q) noc) noO) kt8 ?_
 refine EX.ret (.agg (tsC (.mk 8 w [] 0 []))) [some (cdE L b1)] ?_ (fun C hN hk=>AW.ret (Ed [some 0] []))
 exact⟨_,b1,rfl,Cg _ wl (by simp) (by omega) (by unfold CW;omega),hb1⟩
theorem Ro(L:List UInt8)(hL:L.length≤2^20)(d a2:Nat)(ha2:a2≤L.length):
   EX 131 1 (R24 L d) (fun x C=>AW Tryz.prog C Dz (Df (Ao Tryz.prog) [.cell 4 26] x.1 x.2 1) 2 ⟨[(0,.ptr 0 2 0 0),(1,I d),(4,.ptr 1 5 0 0),(5,I 7)],[(0,some (cdE L a2)),(1,some ⟨26,5,[[I 0,str [],str [],I 0,AH]]⟩)]⟩):=by
 dsimp only[Dz,cR,El,Tryz.f8,Option.getD]
 simp only[cdE,AH]
 obtain⟨u,b1,hb1,ult,q⟩:=A7 L hL a2 3 ha2 (by omega) (by omega)
 obtain⟨v,b2,hb2,q2⟩:=Kl L hL b1 hb1
 obtain⟨m,b3,hb3,mlt,q3⟩:=A7 L hL b2 40 hb2 (by omega) (by omega)
 obtain⟨c,b4,hb4,clt,q4⟩:=A7 L hL b3 2 hb3 (by omega) (by omega)
 have wl:=Hb v
 generalize GN.getD v []=w at*
 have w1:=As (n:=9+(u:Int)) (by omega)
 have w2:=As (n:=(m:Int)-5) (by omega)
 have F:=And.intro w1 w2;refine exF (atO 21 (onc 1 (ocq 0 q) (onc 4 (ocq 0 q2) (onc 6 (ocq 0 q3) noc))) (atO 22 (onc 1 (ocq 0 q4) noc) noO)) kt8 ?_;clear F
 by_cases hc:c=1
 · subst hc
   obtain⟨y,b5,hb5,ylt,q5⟩:=A7 L hL b4 70 hb4 (by omega) (by omega)
   have w3:=As (n:=995+(y:Int)) (by omega)
   obtain⟨e,b6,hb6,elt,q6⟩:=A7 L hL b5 8 hb5 (by omega) (by omega)
   have F:=w3;refine exF (atO 23 (onc 1 (ocq 0 q5) noc) (atO 24 (onc 1 (ocq 0 q6) noc) noO)) kt8 ?_;clear F
   by_cases he:e=7
   · subst he
     obtain⟨z,b7,hb7,zlt,q7⟩:=A7 L hL b6 3 hb6 (by omega) (by omega)
     obtain rfl|rfl|rfl:z=0∨z=1∨z=2:=by omega
     · refine exT (atO 25 (onc 2 (ocq 0 q7) noc) noO) kt8 ?_
       refine EX.ret (.agg (tsC (.mk (9+u) [64,116,105,109,101] [] (-5) []))) [some (cdE L b7)] ?_ (fun C hN hk=>AW.ret (Ed [some 0] []))
       exact⟨_,b7,rfl,Cg _ (by decide) (by simp) (by omega) (by unfold CW;omega),hb7⟩
     · refine exT (atO 25 (onc 2 (ocq 0 q7) noc) noO) kt8 ?_
       refine EX.ret (.agg (tsC (.mk (9+u) [64,116,105,109,101] [] 253402300799999 []))) [some (cdE L b7)] ?_ (fun C hN hk=>AW.ret (Ed [some 0] []))
       exact⟨_,b7,rfl,Cg _ (by decide) (by simp) (by omega) (by unfold CW;omega),hb7⟩
     · refine exT (atO 25 (onc 2 (ocq 0 q7) noc) noO) kt8 ?_
       refine EX.ret (.agg (tsC (.mk (9+u) [64,116,105,109,101] [] 999999999999999999 []))) [some (cdE L b7)] ?_ (fun C hN hk=>AW.ret (Ed [some 0] []))
       exact⟨_,b7,rfl,Cg _ (by decide) (by simp) (by omega) (by unfold CW;omega),hb7⟩
   · have de:((e:Int)==7)=false:=by simp;omega
     simp only[de]
     refine exT noO kt8 ?_
     refine EX.ret (.agg (tsC (.mk (9+u) [64,116,105,109,101] [] (995+y) []))) [some (cdE L b6)] ?_ (fun C hN hk=>AW.ret (Ed [some 0] []))
     exact⟨_,b6,rfl,Cg _ (by decide) (by simp) (by omega) (by unfold CW;omega),hb6⟩
 · have dc:((c:Int)==1)=false:=by simp;omega
   simp only[dc]
   obtain⟨e,b6,hb6,elt,q6⟩:=A7 L hL b4 8 hb4 (by omega) (by omega)
   refine exT (atO 24 (onc 1 (ocq 0 q6) noc) noO) kt8 ?_
   by_cases he:e=7
   · subst he
     obtain⟨z,b7,hb7,zlt,q7⟩:=A7 L hL b6 3 hb6 (by omega) (by omega)
     obtain rfl|rfl|rfl:z=0∨z=1∨z=2:=by omega
     · refine exT (atO 25 (onc 2 (ocq 0 q7) noc) noO) kt8 ?_
       refine EX.ret (.agg (tsC (.mk (9+u) [64,116,105,109,101] [] (-5) []))) [some (cdE L b7)] ?_ (fun C hN hk=>AW.ret (Ed [some 0] []))
       exact⟨_,b7,rfl,Cg _ (by decide) (by simp) (by omega) (by unfold CW;omega),hb7⟩
     · refine exT (atO 25 (onc 2 (ocq 0 q7) noc) noO) kt8 ?_
       refine EX.ret (.agg (tsC (.mk (9+u) [64,116,105,109,101] [] 253402300799999 []))) [some (cdE L b7)] ?_ (fun C hN hk=>AW.ret (Ed [some 0] []))
       exact⟨_,b7,rfl,Cg _ (by decide) (by simp) (by omega) (by unfold CW;omega),hb7⟩
     · refine exT (atO 25 (onc 2 (ocq 0 q7) noc) noO) kt8 ?_
       refine EX.ret (.agg (tsC (.mk (9+u) [64,116,105,109,101] [] 999999999999999999 []))) [some (cdE L b7)] ?_ (fun C hN hk=>AW.ret (Ed [some 0] []))
       exact⟨_,b7,rfl,Cg _ (by decide) (by simp) (by omega) (by unfold CW;omega),hb7⟩
   · have de:((e:Int)==7)=false:=by simp;omega
     simp only[de]
     refine exT noO kt8 ?_
     refine EX.ret (.agg (tsC (.mk (9+u) w [] (m-5) []))) [some (cdE L b6)] ?_ (fun C hN hk=>AW.ret (Ed [some 0] []))
     exact⟨_,b6,rfl,Cg _ wl (by simp) (by omega) (by unfold CW;omega),hb6⟩
theorem Sb(L:List UInt8)(hL:L.length≤2^20)(d a2:Nat)(ha2:a2≤L.length):
   EX 131 1 (R24 L d) (fun x C=>AW Tryz.prog C Dz (Df (Ao Tryz.prog) [.cell 4 26] x.1 x.2 1) 2 ⟨[(0,.ptr 0 2 0 0),(1,I d),(4,.ptr 1 5 0 0),(5,I 8)],[(0,some (cdE L a2)),(1,some ⟨26,5,[[I 0,str [],str [],I 0,AH]]⟩)]⟩):=by
 dsimp only[Dz,cR,El,Tryz.f8,Option.getD]
 simp only[cdE,AH]
 obtain⟨u,b1,hb1,ult,q⟩:=A7 L hL a2 3 ha2 (by omega) (by omega)
 obtain⟨v,b2,hb2,q2⟩:=Kl L hL b1 hb1
 obtain⟨m,b3,hb3,mlt,q3⟩:=A7 L hL b2 40 hb2 (by omega) (by omega)
 obtain⟨c,b4,hb4,clt,q4⟩:=A7 L hL b3 2 hb3 (by omega) (by omega)
 have wl:=Hb v
 generalize GN.getD v []=w at*
 have w1:=As (n:=9+(u:Int)) (by omega)
 have w2:=As (n:=(m:Int)-5) (by omega)
 have F:=And.intro w1 w2;refine exF (atO 21 (onc 1 (ocq 0 q) (onc 4 (ocq 0 q2) (onc 6 (ocq 0 q3) noc))) (atO 22 (onc 1 (ocq 0 q4) noc) noO)) kt8 ?_;clear F
 by_cases hc:c=1
 · subst hc
   obtain⟨y,b5,hb5,ylt,q5⟩:=A7 L hL b4 70 hb4 (by omega) (by omega)
   have w3:=As (n:=995+(y:Int)) (by omega)
   obtain⟨e,b6,hb6,elt,q6⟩:=A7 L hL b5 8 hb5 (by omega) (by omega)
   have F:=w3;refine exF (atO 23 (onc 1 (ocq 0 q5) noc) (atO 24 (onc 1 (ocq 0 q6) noc) noO)) kt8 ?_;clear F
   by_cases he:e=7
   · subst he
     obtain⟨z,b7,hb7,zlt,q7⟩:=A7 L hL b6 3 hb6 (by omega) (by omega)
     obtain rfl|rfl|rfl:z=0∨z=1∨z=2:=by omega
     · refine exT (atO 25 (onc 2 (ocq 0 q7) noc) noO) kt8 ?_
       refine EX.ret (.agg (tsC (.mk (9+u) [64,116,105,109,101] [] (-5) []))) [some (cdE L b7)] ?_ (fun C hN hk=>AW.ret (Ed [some 0] []))
       exact⟨_,b7,rfl,Cg _ (by decide) (by simp) (by omega) (by unfold CW;omega),hb7⟩
     · refine exT (atO 25 (onc 2 (ocq 0 q7) noc) noO) kt8 ?_
       refine EX.ret (.agg (tsC (.mk (9+u) [64,116,105,109,101] [] 253402300799999 []))) [some (cdE L b7)] ?_ (fun C hN hk=>AW.ret (Ed [some 0] []))
       exact⟨_,b7,rfl,Cg _ (by decide) (by simp) (by omega) (by unfold CW;omega),hb7⟩
     · refine exT (atO 25 (onc 2 (ocq 0 q7) noc) noO) kt8 ?_
       refine EX.ret (.agg (tsC (.mk (9+u) [64,116,105,109,101] [] 999999999999999999 []))) [some (cdE L b7)] ?_ (fun C hN hk=>AW.ret (Ed [some 0] []))
       exact⟨_,b7,rfl,Cg _ (by decide) (by simp) (by omega) (by unfold CW;omega),hb7⟩
   · have de:((e:Int)==7)=false:=by simp;omega
     simp only[de]
     refine exT noO kt8 ?_
     refine EX.ret (.agg (tsC (.mk (9+u) [64,116,105,109,101] [] (995+y) []))) [some (cdE L b6)] ?_ (fun C hN hk=>AW.ret (Ed [some 0] []))
     exact⟨_,b6,rfl,Cg _ (by decide) (by simp) (by omega) (by unfold CW;omega),hb6⟩
 · have dc:((c:Int)==1)=false:=by simp;omega
   simp only[dc]
   obtain⟨e,b6,hb6,elt,q6⟩:=A7 L hL b4 8 hb4 (by omega) (by omega)
   refine exT (atO 24 (onc 1 (ocq 0 q6) noc) noO) kt8 ?_
   by_cases he:e=7
   · subst he
     obtain⟨z,b7,hb7,zlt,q7⟩:=A7 L hL b6 3 hb6 (by omega) (by omega)
     obtain rfl|rfl|rfl:z=0∨z=1∨z=2:=by omega
     · refine exT (atO 25 (onc 2 (ocq 0 q7) noc) noO) kt8 ?_
       refine EX.ret (.agg (tsC (.mk (9+u) [64,116,105,109,101] [] (-5) []))) [some (cdE L b7)] ?_ (fun C hN hk=>AW.ret (Ed [some 0] []))
       exact⟨_,b7,rfl,Cg _ (by decide) (by simp) (by omega) (by unfold CW;omega),hb7⟩
     · refine exT (atO 25 (onc 2 (ocq 0 q7) noc) noO) kt8 ?_
       refine EX.ret (.agg (tsC (.mk (9+u) [64,116,105,109,101] [] 253402300799999 []))) [some (cdE L b7)] ?_ (fun C hN hk=>AW.ret (Ed [some 0] []))
       exact⟨_,b7,rfl,Cg _ (by decide) (by simp) (by omega) (by unfold CW;omega),hb7⟩
     · refine exT (atO 25 (onc 2 (ocq 0 q7) noc) noO) kt8 ?_
       refine EX.ret (.agg (tsC (.mk (9+u) [64,116,105,109,101] [] 999999999999999999 []))) [some (cdE L b7)] ?_ (fun C hN hk=>AW.ret (Ed [some 0] []))
       exact⟨_,b7,rfl,Cg _ (by decide) (by simp) (by omega) (by unfold CW;omega),hb7⟩
   · have de:((e:Int)==7)=false:=by simp;omega
     simp only[de]
     refine exT noO kt8 ?_
     refine EX.ret (.agg (tsC (.mk (9+u) w [] (m-5) []))) [some (cdE L b6)] ?_ (fun C hN hk=>AW.ret (Ed [some 0] []))
     exact⟨_,b6,rfl,Cg _ wl (by simp) (by omega) (by unfold CW;omega),hb6⟩
theorem Rx(L:List UInt8)(hL:L.length≤2^20)(d a2:Nat)(ha2:a2≤L.length):
   EX 131 1 (R24 L d) (fun x C=>AW Tryz.prog C Dz (Df (Ao Tryz.prog) [.cell 4 26] x.1 x.2 1) 2 ⟨[(0,.ptr 0 2 0 0),(1,I d),(4,.ptr 1 5 0 0),(5,I 9)],[(0,some (cdE L a2)),(1,some ⟨26,5,[[I 0,str [],str [],I 0,AH]]⟩)]⟩):=by
 dsimp only[Dz,cR,El,Tryz.f8,Option.getD]
 simp only[cdE,AH]
 refine exT noO kt8 ?_
 refine EX.ret (.agg (tsC (.mk 0 [] [] 0 []))) [some (cdE L a2)] ?_ (fun C hN hk=>AW.ret (Ed [some 0] []))
 exact⟨_,a2,rfl,Cg _ (by simp) (by simp) (by omega) (by unfold CW;omega),ha2⟩
theorem OR(t:Ts):tsE [t]=[[.val (.int .i64 t.op),.val (.string ⟨t.name.toArray⟩),.val (.string ⟨t.text.toArray⟩),.val (.int .i64 t.num),.sl 5 (tsE t.kids)]]:=by rw[← BS];rfl
theorem LR: ∀ (d:Nat),d≤2→ ∀ (L:List UInt8) (hL:L.length≤2^20) (a:Nat) (ha:a≤L.length),GK Tryz.prog 8 [.ptr 0 2 0 0,I d] [some (cdE L a)] (R24 L d)
 |0,hd,L,hL,a,ha=>by
   obtain⟨k0,a1,ha1,k0lt,q0⟩:=A7 L hL a 15 ha (by omega) (by omega)
   obtain⟨k,a2,ha2,klt,q1⟩:=A7 L hL a1 10 ha1 (by omega) (by omega)
   refine GI 131 1 Tryz.func8 rfl rfl rfl (by simp) rfl rfl ?_
   apply EX.step
   · intro xX C hN hk hqX
     repeat first|with_reducible refine AW.seq ?_|with_reducible refine AW.block ?_
     refine rG hN hk noc [0] [0,1,4] fun K hK=>?_;simp only[go_sem,seval];refine hK _ _ ?_
     clear hK K
     repeat first|with_reducible refine CC ?_|with_reducible refine Aw ?_
     exact hqX
   apply EX.step
   · intro xX C hN hk hqX
     repeat first|with_reducible refine AW.seq ?_|with_reducible refine AW.block ?_
     refine rG hN hk (onc 1 (ocq 0 q0) noc) [0] [0,1,4,5] fun K hK=>?_;simp only[go_sem,seval];refine obK (hK _ _ ?_)
     clear hK K
     repeat first|with_reducible refine CC ?_|with_reducible refine Aw ?_
     exact hqX
   apply EX.step
   · intro xX C hN hk hqX
     repeat first|with_reducible refine AW.seq ?_|with_reducible refine AW.block ?_
     refine rG hN hk noc [0] [0,1,4,5,12] fun K hK=>?_;simp only[go_sem,seval]
     try simp (disch:=omega) only[au]
     refine hK _ _ ?_;clear hK K
     repeat first|with_reducible refine CC ?_|with_reducible refine Aw ?_
     exact hqX
   apply EX.step
   · intro xX C hN hk hqX
     repeat first|with_reducible refine AW.seq ?_|with_reducible refine AW.block ?_
     refine cT ?_
     try first|refine AW.skip ?_|refine AW.exit ?_
     repeat first|with_reducible refine A8 ?_|with_reducible refine BW ?_|with_reducible refine K9 (by decide) ?_|with_reducible refine CC ?_|with_reducible refine Aw ?_
     exact hqX
   apply EX.step
   · intro xX C hN hk hqX
     repeat first|with_reducible refine AW.seq ?_|with_reducible refine AW.block ?_
     refine rG hN hk (onc 1 (ocq 0 q1) noc) [0] [0,1,4,5] fun K hK=>?_;simp only[go_sem,seval];refine obK (hK _ _ ?_)
     clear hK K
     repeat first|with_reducible refine CC ?_|with_reducible refine Aw ?_
     exact hqX
   clear q0 q1
   obtain rfl|rfl|rfl|rfl|rfl|rfl|rfl|rfl|rfl|rfl:k=0∨k=1∨k=2∨k=3∨k=4∨k=5∨k=6∨k=7∨k=8∨k=9:=by omega
   · exact Sr L hL 0 a2 ha2
   · exact QE L hL 0 a2 ha2
   · exact RK L hL 0 a2 ha2
   · exact QM L hL 0 a2 ha2
   · exact RM L hL 0 a2 ha2
   · exact QY L hL 0 a2 ha2
   · exact RF L hL 0 a2 ha2
   · exact Ro L hL 0 a2 ha2
   · exact Sb L hL 0 a2 ha2
   · exact Rx L hL 0 a2 ha2
 |d+1,hd,L,hL,a,ha=>by
   have IH:=LR d (by omega)
   obtain⟨k,a2,ha2,klt,q0⟩:=A7 L hL a 15 ha (by omega) (by omega)
   have dd:(((d+1:Nat):Int)==0)=false:=by simp;omega
   have e1:(((d+1:Nat):Int)-1)=(d:Int):=by omega
   have wd:=As (n:=(d:Int)) (by omega)
   refine GI 131 1 Tryz.func8 rfl rfl rfl (by simp) rfl rfl ?_
   apply EX.step
   · intro xX C hN hk hqX
     repeat first|with_reducible refine AW.seq ?_|with_reducible refine AW.block ?_
     refine rG hN hk noc [0] [0,1,4] fun K hK=>?_;simp only[go_sem,seval];refine hK _ _ ?_
     clear hK K
     repeat first|with_reducible refine CC ?_|with_reducible refine Aw ?_
     exact hqX
   apply EX.step
   · intro xX C hN hk hqX
     repeat first|with_reducible refine AW.seq ?_|with_reducible refine AW.block ?_
     refine rG hN hk (onc 1 (ocq 0 q0) noc) [0] [0,1,4,5] fun K hK=>?_;simp only[go_sem,seval];refine obK (hK _ _ ?_)
     clear hK K
     repeat first|with_reducible refine CC ?_|with_reducible refine Aw ?_
     exact hqX
   apply EX.step
   · intro xX C hN hk hqX
     repeat first|with_reducible refine AW.seq ?_|with_reducible refine AW.block ?_
     refine rG hN hk noc [0] [0,1,4,5,12] fun K hK=>?_;simp only[go_sem,seval,dd]
     try simp (disch:=omega) only[au]
     refine hK _ _ ?_;clear hK K
     repeat first|with_reducible refine CC ?_|with_reducible refine Aw ?_
     exact hqX
   apply EX.step
   · intro xX C hN hk hqX
     repeat first|with_reducible refine AW.seq ?_|with_reducible refine AW.block ?_
     refine cF ?_
     try first|refine AW.skip ?_|refine AW.exit ?_
     repeat first|with_reducible refine A8 ?_|with_reducible refine BW ?_|with_reducible refine K9 (by decide) ?_|with_reducible refine CC ?_|with_reducible refine Aw ?_
     exact hqX
   clear q0
   refine UV 2 ⟨[(0,.ptr 0 2 0 0),(1,I (d+1:Nat)),(4,.ptr 1 5 0 0),(5,I k)],[(0,some (cdE L a2)),(1,some ⟨26,5,[[I 0,str [],str [],I 0,AH]]⟩)]⟩ (Gg (And.intro cdE.eq_1 AH.eq_1) [some 0,some 1] []) ?_
   obtain rfl|rfl|rfl|rfl|rfl|rfl|rfl|rfl|rfl|rfl|rfl|hk:k=0∨k=1∨k=2∨k=3∨k=4∨k=5∨k=6∨k=7∨k=8∨k=9∨k=10∨11≤k:=by omega
   · exact Sr L hL (d+1) a2 ha2
   · exact QE L hL (d+1) a2 ha2
   · exact RK L hL (d+1) a2 ha2
   · exact QM L hL (d+1) a2 ha2
   · exact RM L hL (d+1) a2 ha2
   · exact QY L hL (d+1) a2 ha2
   · exact RF L hL (d+1) a2 ha2
   · exact Ro L hL (d+1) a2 ha2
   · exact Sb L hL (d+1) a2 ha2
   · exact Rx L hL (d+1) a2 ha2
   · simp only[cdE,AH]
     obtain⟨_,⟨t0,a3,rfl,tb,ha3⟩,qt⟩:=IH L hL a2 ha2
     simp only[BS]at qt
     apply EX.step
     · intro xX C hN hk hqX
       repeat first|(with_reducible first|apply s1|apply s2|apply s5|apply s6|refine s7 ?_|apply s3|apply s4|apply s8|apply s9)|refine AI rfl ?_|refine Ar rfl ?_|(refine D0 AZ hN hk (atO 30 (onc 3 (ocq 0 qt) noc) noO) kt8 [0] rfl (by decide+kernel) (fun K hK=>?_);simp only[go_sem,seval,kt8,e1,wd];(iterate 3 (try simp (disch:=omega) only[au];try simp only[go_sem,seval,kt8,e1,wd]));(first|with_reducible refine hK _ _ ?_|refine obK (hK _ _ ?_));clear hK K)|(refine DZ AZ hN hk (atO 30 (onc 3 (ocq 0 qt) noc) noO) kt8 [0] rfl (by decide+kernel) (fun K tok htok hK=>?_);simp only[go_sem,seval,kt8,e1,wd];(iterate 3 (try simp (disch:=omega) only[au];try simp only[go_sem,seval,kt8,e1,wd]));refine⟨htok _ (by decide+kernel),?_⟩;(first|with_reducible refine hK _ _ ?_|refine obK (hK _ _ ?_));clear hK K htok tok)
       exact hqX
     refine EX.ret (.agg (tsC (.mk 5 [] [] 0 [t0]))) [some (cdE L a3)] ?_ (fun C hN hk=>AW.ret (B0 [some 0] [2] (by simp only[AY,go_sem,seval];rfl) (by simp[Ax,lk,lkh,I,str,B,U8,U64,U32,cdE,BS,OR]<;>omega) (by first|(simp[Am,Ai,Aj,lkh,cdE,BS,OR];done)|simp[Am,Ai,Aj,lkh,I,str,cdE,BS,OR])))
     exact⟨_,a3,rfl,⟨by simp,by simp,by simp,by unfold CW;simp,by simp,by intro k hk;rw[Mf]at hk;rw[List.mem_singleton.1 hk];exact tb⟩,ha3⟩
   · have n0:((k:Int)==0)=false:=by simp;omega
     have n1:((k:Int)==1)=false:=by simp;omega
     have n2:((k:Int)==2)=false:=by simp;omega
     have n3:((k:Int)==3)=false:=by simp;omega
     have n4:((k:Int)==4)=false:=by simp;omega
     have n5:((k:Int)==5)=false:=by simp;omega
     have n6:((k:Int)==6)=false:=by simp;omega
     have n7:((k:Int)==7)=false:=by simp;omega
     have n8:((k:Int)==8)=false:=by simp;omega
     have n9:((k:Int)==9)=false:=by simp;omega
     have n10:((k:Int)==10)=false:=by simp;omega
     have er:(k:Int).tmod 2=(k:Int)%2:=Int.tmod_eq_emod_of_nonneg (by omega)
     have w6:=As (n:=6+(k:Int)%2) (by omega)
     obtain⟨op,hop⟩: ∃ op,op=6+(k:Int)%2:=⟨_,rfl⟩
     have ho:0≤op∧op≤11:=by omega
     rw[← hop]at w6
     obtain⟨m,a3,ha3,mlt,q2⟩:=A7 L hL a2 2 ha2 (by omega) (by omega)
     have w7:=As (n:=2+(m:Int)) (by omega)
     simp only[cdE,AH]
     apply EX.step
     · intro xX C hN hk hqX
       repeat first|(with_reducible first|apply s1|apply s2|apply s5|apply s6|refine s7 ?_|apply s3|apply s4|apply s8|apply s9)|refine AI rfl ?_|refine Ar rfl ?_|(refine D0 AZ hN hk (atO 32 (onc 1 (ocq 0 q2) noc) noO) kt8 [0] rfl (by decide+kernel) (fun K hK=>?_);simp only[go_sem,seval,kt8,n0,n1,n2,n3,n4,n5,n6,n7,n8,n9,n10,er,← hop,w6,w7];(iterate 3 (try simp (disch:=omega) only[au];try simp only[go_sem,seval,kt8,n0,n1,n2,n3,n4,n5,n6,n7,n8,n9,n10,er,← hop,w6,w7]));(first|with_reducible refine hK _ _ ?_|refine obK (hK _ _ ?_));clear hK K)|(refine DZ AZ hN hk (atO 32 (onc 1 (ocq 0 q2) noc) noO) kt8 [0] rfl (by decide+kernel) (fun K tok htok hK=>?_);simp only[go_sem,seval,kt8,n0,n1,n2,n3,n4,n5,n6,n7,n8,n9,n10,er,← hop,w6,w7];(iterate 3 (try simp (disch:=omega) only[au];try simp only[go_sem,seval,kt8,n0,n1,n2,n3,n4,n5,n6,n7,n8,n9,n10,er,← hop,w6,w7]));refine⟨htok _ (by decide+kernel),?_⟩;(first|with_reducible refine hK _ _ ?_|refine obK (hK _ _ ?_));clear hK K htok tok)
       exact hqX
     have hm2:2+(m:Int)=((m+2:Nat):Int):=by omega
     simp only[hm2]
     clear q2 n0 n1 n2 n3 n4 n5 n6 n7 n8 n9 n10 er w6 w7 hm2 hop
     apply EX.step
     · intro xX C hN hk hqX
       repeat first|with_reducible refine AW.seq ?_|with_reducible refine AW.block ?_
       exact hqX
     refine lpX 4 (fun s:Nat×List Ts×Nat=>⟨[(0,.ptr 0 2 0 0),(1,I (d+1:Nat)),(4,.ptr 1 5 0 0),(7,.ptr 2 5 0 0),(8,I s.1)],[(0,some ⟨98,2,[[.sl 1 (Ab L),I s.2.2]]⟩),(1,some ⟨26,5,[[I 0,str [],str [],I 0,AH]]⟩),(2,some ⟨26,5,[[I op,str [],str [],I 0,.osl 3 s.2.1.length 5]]⟩),(3,some ⟨26,5,tsE s.2.1⟩)]⟩) (fun s=>(s.2.1.length+s.1≤3∧2≤s.2.1.length+s.1)∧s.2.2≤L.length∧ ∀ t∈s.2.1,TsB d t) (fun s=>s.1) (m+2,[],a3) (C9 AH.eq_1 [some 0,some 1,some 2,none] []) ?_
     intro ⟨j,ks,a4⟩ hI Y hY
     obtain⟨g1,g2,g3⟩:=hI
     simp only at g1 g2 g3
     cases j with
     |succ j=>
       obtain⟨_,⟨t0,a5,rfl,tb,ha5⟩,qt⟩:=IH L hL a4 g2
       simp only[BS]at qt
       have d0:decide (((j+1:Nat):Int)>0)=true:=by simp
       have e2:(((j+1:Nat):Int)-1)=(j:Int):=by omega
       have w8:=As (n:=(j:Int)) (by omega)
       obtain⟨k2,hk2⟩: ∃ k2,k2=ks++[t0]:=⟨_,rfl⟩
       have hkl:k2.length=ks.length+1:=by rw[hk2];simp
       have hkm: ∀ t∈k2,TsB d t:=by
         intro t ht
         rw[hk2]at ht
         rcases List.mem_append.1 ht with ht|ht
         · exact g3 t ht
         · rw[List.mem_singleton.1 ht];exact tb
       apply EX.step
       · intro xX C hN hk hqX
         repeat first|(with_reducible first|apply s1|apply s2|apply s5|apply s6|refine s7 ?_|apply s3|apply s4|apply s8|apply s9)|refine AI rfl ?_|refine Ar rfl ?_|(refine D0 AZ hN hk (atO 35 (onc 5 (ocq 0 qt) noc) noO) kt8 [0] rfl (by decide+kernel) (fun K hK=>?_);simp only[go_sem,seval,kt8,d0,e1,wd,e2,w8];(iterate 3 (try simp (disch:=omega) only[au];try simp only[go_sem,seval,kt8,d0,e1,wd,e2,w8]));(first|with_reducible refine hK _ _ ?_|refine obK (hK _ _ ?_));clear hK K)|(refine DZ AZ hN hk (atO 35 (onc 5 (ocq 0 qt) noc) noO) kt8 [0] rfl (by decide+kernel) (fun K tok htok hK=>?_);simp only[go_sem,seval,kt8,d0,e1,wd,e2,w8];(iterate 3 (try simp (disch:=omega) only[au];try simp only[go_sem,seval,kt8,d0,e1,wd,e2,w8]));refine⟨htok _ (by decide+kernel),?_⟩;(first|with_reducible refine hK _ _ ?_|refine obK (hK _ _ ?_));clear hK K htok tok)
         exact hqX
       refine eY hY ((j,k2,a5)) (C9 (And.intro hk2 (And.intro hkl AH.eq_1)) [some 0,some 1,some 2,some 3] [])
     |zero=>
       have d0:decide (((0:Nat):Int)>0)=false:=by simp
       apply EX.step
       · intro xX C hN hk hqX
         repeat first|(with_reducible first|apply s1|apply s2|apply s5|apply s6|refine s7 ?_|apply s3|apply s4|apply s8|apply s9)|refine AI rfl ?_|refine Ar rfl ?_|(refine D0 AZ hN hk noO kt8 [0] rfl (by decide+kernel) (fun K hK=>?_);simp only[go_sem,seval,kt8,d0];(iterate 3 (try simp (disch:=omega) only[au];try simp only[go_sem,seval,kt8,d0]));(first|with_reducible refine hK _ _ ?_|refine obK (hK _ _ ?_));clear hK K)|(refine DZ AZ hN hk noO kt8 [0] rfl (by decide+kernel) (fun K tok htok hK=>?_);simp only[go_sem,seval,kt8,d0];(iterate 3 (try simp (disch:=omega) only[au];try simp only[go_sem,seval,kt8,d0]));refine⟨htok _ (by decide+kernel),?_⟩;(first|with_reducible refine hK _ _ ?_|refine obK (hK _ _ ?_));clear hK K htok tok)
         exact hqX
       refine EX.ret (.agg (tsC (.mk op [] [] 0 ks))) [some (cdE L a4)] ?_ (fun C hN hk=>AW.ret (Ed [some 0] [2]))
       exact⟨_,a4,rfl,⟨by simp,by simp,⟨ho,fun _=>by rw[Mf];omega⟩,by unfold CW;simp,by rw[Mf];omega,by intro k hk;rw[Mf]at hk;exact g3 k hk⟩,g2⟩
end Go.Proofs.YtpkhodjlnodagaaGreatDoor
