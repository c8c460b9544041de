/- Part 22 of the proof of PlanSkipsOnlyWhatCannotMatch. -/
import Derived.Test.YtpkhodjlnodagaaGreatDoorB04
import Derived.Test.YtpkhodjlnodagaaGreatDoorB21
set_option linter.unusedSimpArgs false
set_option linter.unusedVariables false
set_option linter.unusedSectionVars false
namespace Go.Proofs.YtpkhodjlnodagaaGreatDoor
open Go.Av
set_option maxHeartbeats 4000000
attribute [local irreducible] Ad
def Kn(c:UInt8):UInt8:=if(97≤c.toNat∧c.toNat≤122)∨(48≤c.toNat∧c.toNat≤57)∨c.toNat=95 then c else if 65≤c.toNat∧c.toNat≤90 then c+32 else 0
theorem Z7(c:UInt8):Ad Tryz.prog 92 [U8 c] [] (U8 (Kn c)) []:=by
 refine acN 32 0 Tryz.func92 fun C hN hk=>?_
 have hc:=c.toNat_lt
 by_cases h1:(97≤c.toNat∧c.toNat≤122)∨(48≤c.toNat∧c.toNat≤57)∨c.toNat=95
 · have e:Kn c=c:=by simp[Kn,h1]
   rw[e]
   rcases dq ((c.toNat:Int)≥97)with ⟨p0,e0⟩|⟨p0,e0⟩<;>(try omega)<;>rcases dq ((c.toNat:Int)≤122)with ⟨p1,e1⟩|⟨p1,e1⟩<;>(try omega)<;>rcases dq ((c.toNat:Int)≥48)with ⟨p2,e2⟩|⟨p2,e2⟩<;>(try omega)<;>rcases dq ((c.toNat:Int)≤57)with ⟨p3,e3⟩|⟨p3,e3⟩<;>(try omega)<;>rcases dqE ((c.toNat:Int)) (95)with ⟨p4,e4,f4⟩|⟨p4,e4,f4⟩<;>try omega
   all_goals
     have F:=And.intro e0 (And.intro e1 (And.intro e2 (And.intro e3 e4)));refine AD [0] ?_;clear F
     refine rG hN hk noc [] [0,3] fun K hK=>?_;simp only[go_sem,seval,e0,e1,e2,e3,e4]
     try simp (disch:=omega) only[au]
     try simp only[go_sem,seval,e0,e1,e2,e3,e4]
     iterate 4 try(simp (disch:=omega) only[au];try simp only[go_sem,seval,e0,e1,e2,e3,e4])
     refine hK _ _ ?_;clear hK K;refine nx ?_;refine cT ?_;have F:=And.intro e0 (And.intro e1 (And.intro e2 (And.intro e3 e4)));refine AD [2] ?_;clear F
     refine AW.ret (D6 [] [])
 · by_cases h2:65≤c.toNat∧c.toNat≤90
   · have e:((Kn c).toNat:Int)=(c.toNat:Int)+32:=by
       rw[Kn,if_neg h1,if_pos h2,UInt8.toNat_add]
       simp;omega
     simp only[U8,e]
     rcases dq ((c.toNat:Int)≥97)with ⟨p0,e0⟩|⟨p0,e0⟩<;>(try omega)<;>rcases dq ((c.toNat:Int)≤122)with ⟨p1,e1⟩|⟨p1,e1⟩<;>(try omega)<;>rcases dq ((c.toNat:Int)≥48)with ⟨p2,e2⟩|⟨p2,e2⟩<;>(try omega)<;>rcases dq ((c.toNat:Int)≤57)with ⟨p3,e3⟩|⟨p3,e3⟩<;>(try omega)<;>rcases dqE ((c.toNat:Int)) (95)with ⟨p4,e4,f4⟩|⟨p4,e4,f4⟩<;>(try omega)<;>rcases dq ((c.toNat:Int)≥65)with ⟨p5,e5⟩|⟨p5,e5⟩<;>(try omega)<;>rcases dq ((c.toNat:Int)≤90)with ⟨p6,e6⟩|⟨p6,e6⟩<;>try omega
     have F:=And.intro e0 (And.intro e1 (And.intro e2 (And.intro e3 (And.intro e4 (And.intro e5 e6)))));refine AD [0] ?_;clear F
     refine rG hN hk noc [] [0,3] fun K hK=>?_;simp only[go_sem,seval,e0,e1,e2,e3,e4,e5,e6]
     try simp (disch:=omega) only[au]
     try simp only[go_sem,seval,e0,e1,e2,e3,e4,e5,e6]
     iterate 4 try(simp (disch:=omega) only[au];try simp only[go_sem,seval,e0,e1,e2,e3,e4,e5,e6])
     refine hK _ _ ?_;clear hK K;refine nx ?_;refine cF ?_;refine nx ?_;refine rG hN hk noc [] [0,23] fun K hK=>?_;simp only[go_sem,seval,e0,e1,e2,e3,e4,e5,e6]
     try simp (disch:=omega) only[au]
     try simp only[go_sem,seval,e0,e1,e2,e3,e4,e5,e6]
     refine hK _ _ ?_;clear hK K;refine nx ?_;refine cT ?_;have F:=And.intro e0 (And.intro e1 (And.intro e2 (And.intro e3 (And.intro e4 (And.intro e5 e6)))));refine A6 [2] ?_;clear F
     refine AW.ret (D6 [] [])
   · have e:Kn c=0:=by simp[Kn,h1,h2]
     rw[e]
     rcases dq ((c.toNat:Int)≥97)with ⟨p0,e0⟩|⟨p0,e0⟩<;>(try omega)<;>rcases dq ((c.toNat:Int)≤122)with ⟨p1,e1⟩|⟨p1,e1⟩<;>(try omega)<;>rcases dq ((c.toNat:Int)≥48)with ⟨p2,e2⟩|⟨p2,e2⟩<;>(try omega)<;>rcases dq ((c.toNat:Int)≤57)with ⟨p3,e3⟩|⟨p3,e3⟩<;>(try omega)<;>rcases dqE ((c.toNat:Int)) (95)with ⟨p4,e4,f4⟩|⟨p4,e4,f4⟩<;>(try omega)<;>rcases dq ((c.toNat:Int)≥65)with ⟨p5,e5⟩|⟨p5,e5⟩<;>(try omega)<;>rcases dq ((c.toNat:Int)≤90)with ⟨p6,e6⟩|⟨p6,e6⟩<;>try omega
     all_goals
       have F:=And.intro e0 (And.intro e1 (And.intro e2 (And.intro e3 (And.intro e4 (And.intro e5 e6)))));refine AD [0] ?_;clear F
       refine rG hN hk noc [] [0,3] fun K hK=>?_;simp only[go_sem,seval,e0,e1,e2,e3,e4,e5,e6]
       try simp (disch:=omega) only[au]
       try simp only[go_sem,seval,e0,e1,e2,e3,e4,e5,e6]
       iterate 4 try(simp (disch:=omega) only[au];try simp only[go_sem,seval,e0,e1,e2,e3,e4,e5,e6])
       refine hK _ _ ?_;clear hK K;refine nx ?_;refine cF ?_;refine nx ?_;refine rG hN hk noc [] [0,23] fun K hK=>?_;simp only[go_sem,seval,e0,e1,e2,e3,e4,e5,e6]
       try simp (disch:=omega) only[au]
       try simp only[go_sem,seval,e0,e1,e2,e3,e4,e5,e6]
       refine hK _ _ ?_;clear hK K;refine nx ?_;refine cF ?_;have F:=And.intro e0 (And.intro e1 (And.intro e2 (And.intro e3 (And.intro e4 (And.intro e5 e6)))));refine AD [2] ?_;clear F
       refine AW.ret (D6 [] [])
structure Ln where
 off:Int
 len:Int
 text:S
structure Fl where
 name:S
 val:S
def lnC(x:Ln):List AV:=[I x.off,I x.len,str x.text]
def flC(x:Fl):List AV:=[str x.name,str x.val]
def lnE(l:List Ln):List (List AV):=l.map lnC
theorem TN(l:List Ln):(lnE l).length=l.length:=by simp[lnE]
theorem Zi(l:List Ln)(i:Nat):(lnE l)[i]? =(l[i]?).map lnC:=by simp[lnE]
@[simp] theorem lnE_id(k:Nat)(l:List Ln):AB k (lnE l)=true:=by
 simp only[AB,lnE,List.all_map,List.all_eq_true]
 intro x _
 rfl
theorem AcC(L:List Nat)(l:List Ln):BF L (lnE l)=lnE l:=by
 simp only[BF,lnE,List.map_map]
 apply List.map_congr_left
 intro x _
 rfl
theorem Aa2(l:List Ln)(x:Ln):lnE l++[[.val (.int .i64 x.off),.val (.int .i64 x.len),.val (.string ⟨x.text.toArray⟩)]]=lnE (l++[x]):=by simp[lnE,lnC,I,str]
@[simp] theorem Ai9:lnE []=[]:=rfl
attribute [go_sem] TN Zi AcC Aa2 lnC
def flE(l:List Fl):List (List AV):=l.map flC
theorem TR(l:List Fl):(flE l).length=l.length:=by simp[flE]
theorem AaR(l:List Fl)(i:Nat):(flE l)[i]? =(l[i]?).map flC:=by simp[flE]
@[simp] theorem Afn(k:Nat)(l:List Fl):AB k (flE l)=true:=by
 simp only[AB,flE,List.all_map,List.all_eq_true]
 intro x _
 rfl
theorem AdP(L:List Nat)(l:List Fl):BF L (flE l)=flE l:=by
 simp only[BF,flE,List.map_map]
 apply List.map_congr_left
 intro x _
 rfl
theorem Zd(ρ:Nat→Nat)(l:List Fl):(flE l).map (BK ρ)=flE l:=DT ρ (Afn 0 l)
theorem Abh(l:List Fl)(x:Fl):flE l++[[.val (.string ⟨x.name.toArray⟩),.val (.string ⟨x.val.toArray⟩)]]=flE (l++[x]):=by simp[flE,flC,I,str]
@[simp] theorem Ai4:flE []=[]:=rfl
theorem AdK(l:List Fl)(i:Nat)(x:Fl):(flE l).set i [.val (.string ⟨x.name.toArray⟩),.val (.string ⟨x.val.toArray⟩)]=flE (l.set i x):=by simp[flE,List.map_set,flC,I,str]
attribute [go_sem] TR AaR AdP Zd Abh AdK flC
structure Ev where
 host:Int
 file:Int
 frm:Int
 to:Int
 lines:List Ln
 time:Int
 weight:Int
 trace:S
 stream:S
 fields:List Fl
def evC(x:Ev):List AV:=[I x.host,I x.file,I x.frm,I x.to,.sl 3 (lnE x.lines),I x.time,I x.weight,str x.trace,str x.stream,.sl 2 (flE x.fields)]
def evE(l:List Ev):List (List AV):=l.map evC
theorem TX(l:List Ev):(evE l).length=l.length:=by simp[evE]
theorem Y4(l:List Ev)(i:Nat):(evE l)[i]? =(l[i]?).map evC:=by simp[evE]
@[simp] theorem Agw(k:Nat)(l:List Ev):AB k (evE l)=true:=by
 simp only[AB,evE,List.all_map,List.all_eq_true]
 intro x _
 rfl
@[simp] theorem evE_st(l:List Ev):(evE l).all (fun c=>c.all CC)=true:=by
 simp only[evE,List.all_map,List.all_eq_true]
 intro x _
 rfl
theorem Abn(l:List Ev)(i:Nat):(evE l).drop i=evE (l.drop i):=by simp[evE]
theorem AaK(l:List Ev)(i:Nat):(evE l).take i=evE (l.take i):=by simp[evE]
theorem AdL(L:List Nat)(l:List Ev):BF L (evE l)=evE l:=by
 simp only[BF,evE,List.map_map]
 apply List.map_congr_left
 intro x _
 rfl
theorem Zy(ρ:Nat→Nat)(l:List Ev):(evE l).map (BK ρ)=evE l:=DT ρ (Agw 0 l)
theorem Zz(l:List Ev)(x:Ev):evE l++[[.val (.int .i64 x.host),.val (.int .i64 x.file),.val (.int .i64 x.frm),.val (.int .i64 x.to),.sl 3 (lnE x.lines),.val (.int .i64 x.time),.val (.int .i64 x.weight),.val (.string ⟨x.trace.toArray⟩),.val (.string ⟨x.stream.toArray⟩),.sl 2 (flE x.fields)]]=evE (l++[x]):=by simp[evE,evC,I,str]
theorem Ad0(l m:List Ev):evE l++evE m=evE (l++m):=by simp[evE]
@[simp] theorem Pq:evE []=[]:=rfl
attribute [go_sem] TX Y4 Abn AaK AdL Zy Zz Ad0 evC
def bbC(x:List UInt8):List AV:=[.sl 1 (Ab x)]
def elC(x:List Ev):List AV:=[.sl 10 (evE x)]
def llC(x:List Ln):List AV:=[.sl 3 (lnE x)]
def ffC(x:List Fl):List AV:=[.sl 2 (flE x)]
def iiC(x:List Int):List AV:=[.sl 1 (An x)]
def bbE(l:List (List UInt8)):List (List AV):=l.map bbC
theorem TM(l:List (List UInt8)):(bbE l).length=l.length:=by simp[bbE]
theorem AaB(l:List (List UInt8))(i:Nat):(bbE l)[i]? =(l[i]?).map bbC:=by simp[bbE]
@[simp] theorem Ae6(k:Nat)(l:List (List UInt8)):AB k (bbE l)=true:=by
 simp only[AB,bbE,List.all_map,List.all_eq_true]
 intro x _
 rfl
theorem Adu(L:List Nat)(l:List (List UInt8)):BF L (bbE l)=bbE l:=by
 simp only[BF,bbE,List.map_map]
 apply List.map_congr_left
 intro x _
 rfl
theorem RV(l:List (List UInt8))(x:(List UInt8)):bbE l++[[.sl 1 (Ab x)]]=bbE (l++[x]):=by simp[bbE,bbC,I,str]
@[simp] theorem Ajc:bbE []=[]:=rfl
attribute [go_sem] TM AaB Adu RV bbC
def elE(l:List (List Ev)):List (List AV):=l.map elC
theorem Ux(l:List (List Ev)):(elE l).length=l.length:=by simp[elE]
theorem ZK(l:List (List Ev))(i:Nat):(elE l)[i]? =(l[i]?).map elC:=by simp[elE]
@[simp] theorem elE_id(k:Nat)(l:List (List Ev)):AB k (elE l)=true:=by
 simp only[AB,elE,List.all_map,List.all_eq_true]
 intro x _
 rfl
@[simp] theorem AiW:elE []=[]:=rfl
attribute [go_sem] Ux ZK elC
def llE(l:List (List Ln)):List (List AV):=l.map llC
theorem Ut(l:List (List Ln)):(llE l).length=l.length:=by simp[llE]
theorem ZP(l:List (List Ln))(i:Nat):(llE l)[i]? =(l[i]?).map llC:=by simp[llE]
@[simp] theorem YH(k:Nat)(l:List (List Ln)):AB k (llE l)=true:=by
 simp only[AB,llE,List.all_map,List.all_eq_true]
 intro x _
 rfl
theorem Adx(L:List Nat)(l:List (List Ln)):BF L (llE l)=llE l:=by
 simp only[BF,llE,List.map_map]
 apply List.map_congr_left
 intro x _
 rfl
theorem AaN(ρ:Nat→Nat)(l:List (List Ln)):(llE l).map (BK ρ)=llE l:=DT ρ (YH 0 l)
theorem Sm(l:List (List Ln))(x:(List Ln)):llE l++[[.sl 3 (lnE x)]]=llE (l++[x]):=by simp[llE,llC,I,str]
@[simp] theorem Ai1:llE []=[]:=rfl
attribute [go_sem] Ut ZP Adx AaN Sm llC
def ffE(l:List (List Fl)):List (List AV):=l.map ffC
theorem ZU(l:List (List Fl))(i:Nat):(ffE l)[i]? =(l[i]?).map ffC:=by simp[ffE]
@[simp] theorem Afa(k:Nat)(l:List (List Fl)):AB k (ffE l)=true:=by
 simp only[AB,ffE,List.all_map,List.all_eq_true]
 intro x _
 rfl
theorem Adg(L:List Nat)(l:List (List Fl)):BF L (ffE l)=ffE l:=by
 simp only[BF,ffE,List.map_map]
 apply List.map_congr_left
 intro x _
 rfl
theorem Abf(ρ:Nat→Nat)(l:List (List Fl)):(ffE l).map (BK ρ)=ffE l:=DT ρ (Afa 0 l)
@[simp] theorem Ajf:ffE []=[]:=rfl
attribute [go_sem] ZU Adg Abf ffC
def iiE(l:List (List Int)):List (List AV):=l.map iiC
theorem Uh(l:List (List Int)):(iiE l).length=l.length:=by simp[iiE]
theorem ZQ(l:List (List Int))(i:Nat):(iiE l)[i]? =(l[i]?).map iiC:=by simp[iiE]
@[simp] theorem iiE_id(k:Nat)(l:List (List Int)):AB k (iiE l)=true:=by
 simp only[AB,iiE,List.all_map,List.all_eq_true]
 intro x _
 rfl
theorem Zc(l:List (List Int))(i:Nat):(iiE l).drop i=iiE (l.drop i):=by simp[iiE]
theorem Zf(l:List (List Int))(i:Nat):(iiE l).take i=iiE (l.take i):=by simp[iiE]
theorem AdA(L:List Nat)(l:List (List Int)):BF L (iiE l)=iiE l:=by
 simp only[BF,iiE,List.map_map]
 apply List.map_congr_left
 intro x _
 rfl
theorem ZX(l:List (List Int))(x:(List Int)):iiE l++[[.sl 1 (An x)]]=iiE (l++[x]):=by simp[iiE,iiC,I,str]
@[simp] theorem Ajm:iiE []=[]:=rfl
attribute [go_sem] Uh ZQ Zc Zf AdA ZX iiC
end Go.Proofs.YtpkhodjlnodagaaGreatDoor
