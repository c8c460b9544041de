/- Part 22 of the proof of PlanCandidates. -/
import Derived.Test.YtpkhodjlnodagaaGreatDoorA04
import Derived.Test.YtpkhodjlnodagaaGreatDoorA21
set_option linter.unusedSimpArgs false
set_option linter.unusedVariables false
set_option linter.unusedSectionVars false
namespace Go.Proofs.YtpkhodjlnodagaaGreatDoor
open Go.Av
set_option maxHeartbeats 4000000
attribute [local irreducible] Af
def J2(c:UInt8):UInt8:=if(97≤c.toNat∧c.toNat≤122)∨(48≤c.toNat∧c.toNat≤57)∨c.toNat=95 then c else if 65≤c.toNat∧c.toNat≤90 then c+32 else 0
theorem Y4(c:UInt8):Af Tryz.prog 92 [U8 c] [] (U8 (J2 c)) []:=by
 refine acN 32 0 Tryz.func92 fun C hN hk=>?_
 have hc:=c.toNat_lt
 by_cases h1:(97≤c.toNat∧c.toNat≤122)∨(48≤c.toNat∧c.toNat≤57)∨c.toNat=95
 · have e:J2 c=c:=by simp[J2,h1]
   rw[e]
   rcases dq ((c.toNat:Int)≥97)with ⟨p0,e0⟩|⟨p0,e0⟩<;>(try omega)<;>rcases dq ((c.toNat:Int)≤122)with ⟨p1,e1⟩|⟨p1,e1⟩<;>(try omega)<;>rcases dq ((c.toNat:Int)≥48)with ⟨p2,e2⟩|⟨p2,e2⟩<;>(try omega)<;>rcases dq ((c.toNat:Int)≤57)with ⟨p3,e3⟩|⟨p3,e3⟩<;>(try omega)<;>rcases dqE ((c.toNat:Int)) (95)with ⟨p4,e4,f4⟩|⟨p4,e4,f4⟩<;>try omega
   all_goals
     have F:=And.intro e0 (And.intro e1 (And.intro e2 (And.intro e3 e4)));refine AB [0] ?_;clear F
     refine rG hN hk noc [] [0,3] fun K hK=>?_;simp only[go_sem,seval,e0,e1,e2,e3,e4]
     try simp (disch:=omega) only[au]
     try simp only[go_sem,seval,e0,e1,e2,e3,e4]
     iterate 4 try(simp (disch:=omega) only[au];try simp only[go_sem,seval,e0,e1,e2,e3,e4])
     refine hK _ _ ?_;clear hK K;refine nx ?_;refine cT ?_;have F:=And.intro e0 (And.intro e1 (And.intro e2 (And.intro e3 e4)));refine AB [2] ?_;clear F
     refine AW.ret (En [] [])
 · by_cases h2:65≤c.toNat∧c.toNat≤90
   · have e:((J2 c).toNat:Int)=(c.toNat:Int)+32:=by
       rw[J2,if_neg h1,if_pos h2,UInt8.toNat_add]
       simp;omega
     simp only[U8,e]
     rcases dq ((c.toNat:Int)≥97)with ⟨p0,e0⟩|⟨p0,e0⟩<;>(try omega)<;>rcases dq ((c.toNat:Int)≤122)with ⟨p1,e1⟩|⟨p1,e1⟩<;>(try omega)<;>rcases dq ((c.toNat:Int)≥48)with ⟨p2,e2⟩|⟨p2,e2⟩<;>(try omega)<;>rcases dq ((c.toNat:Int)≤57)with ⟨p3,e3⟩|⟨p3,e3⟩<;>(try omega)<;>rcases dqE ((c.toNat:Int)) (95)with ⟨p4,e4,f4⟩|⟨p4,e4,f4⟩<;>(try omega)<;>rcases dq ((c.toNat:Int)≥65)with ⟨p5,e5⟩|⟨p5,e5⟩<;>(try omega)<;>rcases dq ((c.toNat:Int)≤90)with ⟨p6,e6⟩|⟨p6,e6⟩<;>try omega
     have F:=And.intro e0 (And.intro e1 (And.intro e2 (And.intro e3 (And.intro e4 (And.intro e5 e6)))));refine AB [0] ?_;clear F
     refine rG hN hk noc [] [0,3] fun K hK=>?_;simp only[go_sem,seval,e0,e1,e2,e3,e4,e5,e6]
     try simp (disch:=omega) only[au]
     try simp only[go_sem,seval,e0,e1,e2,e3,e4,e5,e6]
     iterate 4 try(simp (disch:=omega) only[au];try simp only[go_sem,seval,e0,e1,e2,e3,e4,e5,e6])
     refine hK _ _ ?_;clear hK K;refine nx ?_;refine cF ?_;refine nx ?_;refine rG hN hk noc [] [0,23] fun K hK=>?_;simp only[go_sem,seval,e0,e1,e2,e3,e4,e5,e6]
     try simp (disch:=omega) only[au]
     try simp only[go_sem,seval,e0,e1,e2,e3,e4,e5,e6]
     refine hK _ _ ?_;clear hK K;refine nx ?_;refine cT ?_;have F:=And.intro e0 (And.intro e1 (And.intro e2 (And.intro e3 (And.intro e4 (And.intro e5 e6)))));refine A5 [2] ?_;clear F
     refine AW.ret (En [] [])
   · have e:J2 c=0:=by simp[J2,h1,h2]
     rw[e]
     rcases dq ((c.toNat:Int)≥97)with ⟨p0,e0⟩|⟨p0,e0⟩<;>(try omega)<;>rcases dq ((c.toNat:Int)≤122)with ⟨p1,e1⟩|⟨p1,e1⟩<;>(try omega)<;>rcases dq ((c.toNat:Int)≥48)with ⟨p2,e2⟩|⟨p2,e2⟩<;>(try omega)<;>rcases dq ((c.toNat:Int)≤57)with ⟨p3,e3⟩|⟨p3,e3⟩<;>(try omega)<;>rcases dqE ((c.toNat:Int)) (95)with ⟨p4,e4,f4⟩|⟨p4,e4,f4⟩<;>(try omega)<;>rcases dq ((c.toNat:Int)≥65)with ⟨p5,e5⟩|⟨p5,e5⟩<;>(try omega)<;>rcases dq ((c.toNat:Int)≤90)with ⟨p6,e6⟩|⟨p6,e6⟩<;>try omega
     all_goals
       have F:=And.intro e0 (And.intro e1 (And.intro e2 (And.intro e3 (And.intro e4 (And.intro e5 e6)))));refine AB [0] ?_;clear F
       refine rG hN hk noc [] [0,3] fun K hK=>?_;simp only[go_sem,seval,e0,e1,e2,e3,e4,e5,e6]
       try simp (disch:=omega) only[au]
       try simp only[go_sem,seval,e0,e1,e2,e3,e4,e5,e6]
       iterate 4 try(simp (disch:=omega) only[au];try simp only[go_sem,seval,e0,e1,e2,e3,e4,e5,e6])
       refine hK _ _ ?_;clear hK K;refine nx ?_;refine cF ?_;refine nx ?_;refine rG hN hk noc [] [0,23] fun K hK=>?_;simp only[go_sem,seval,e0,e1,e2,e3,e4,e5,e6]
       try simp (disch:=omega) only[au]
       try simp only[go_sem,seval,e0,e1,e2,e3,e4,e5,e6]
       refine hK _ _ ?_;clear hK K;refine nx ?_;refine cF ?_;have F:=And.intro e0 (And.intro e1 (And.intro e2 (And.intro e3 (And.intro e4 (And.intro e5 e6)))));refine AB [2] ?_;clear F
       refine AW.ret (En [] [])
structure Ln where
 off:Int
 len:Int
 text:S
structure Fl where
 name:S
 val:S
def lnC(x:Ln):List AV:=[I x.off,I x.len,str x.text]
def flC(x:Fl):List AV:=[str x.name,str x.val]
def lnE(l:List Ln):List (List AV):=l.map lnC
theorem To(l:List Ln):(lnE l).length=l.length:=by simp[lnE]
theorem Zb(l:List Ln)(i:Nat):(lnE l)[i]? =(l[i]?).map lnC:=by simp[lnE]
@[simp] theorem lnE_id(k:Nat)(l:List Ln):AA k (lnE l)=true:=by
 simp only[AA,lnE,List.all_map,List.all_eq_true]
 intro x _
 rfl
theorem AcJ(L:List Nat)(l:List Ln):BK L (lnE l)=lnE l:=by
 simp only[BK,lnE,List.map_map]
 apply List.map_congr_left
 intro x _
 rfl
@[simp] theorem Ah2:lnE []=[]:=rfl
attribute [go_sem] To Zb AcJ lnC
def flE(l:List Fl):List (List AV):=l.map flC
theorem TV(l:List Fl):(flE l).length=l.length:=by simp[flE]
theorem YG(l:List Fl)(i:Nat):(flE l)[i]? =(l[i]?).map flC:=by simp[flE]
@[simp] theorem AeS(k:Nat)(l:List Fl):AA k (flE l)=true:=by
 simp only[AA,flE,List.all_map,List.all_eq_true]
 intro x _
 rfl
theorem AaW(L:List Nat)(l:List Fl):BK L (flE l)=flE l:=by
 simp only[BK,flE,List.map_map]
 apply List.map_congr_left
 intro x _
 rfl
theorem Yy(ρ:Nat→Nat)(l:List Fl):(flE l).map (BJ ρ)=flE l:=EB ρ (AeS 0 l)
theorem ZA(l:List Fl)(x:Fl):flE l++[[.val (.string ⟨x.name.toArray⟩),.val (.string ⟨x.val.toArray⟩)]]=flE (l++[x]):=by simp[flE,flC,I,str]
@[simp] theorem AhJ:flE []=[]:=rfl
theorem Aa3(l:List Fl)(i:Nat)(x:Fl):(flE l).set i [.val (.string ⟨x.name.toArray⟩),.val (.string ⟨x.val.toArray⟩)]=flE (l.set i x):=by simp[flE,List.map_set,flC,I,str]
attribute [go_sem] TV YG AaW Yy ZA Aa3 flC
structure Ev where
 host:Int
 file:Int
 frm:Int
 to:Int
 lines:List Ln
 time:Int
 weight:Int
 trace:S
 stream:S
 fields:List Fl
def evC(x:Ev):List AV:=[I x.host,I x.file,I x.frm,I x.to,.sl 3 (lnE x.lines),I x.time,I x.weight,str x.trace,str x.stream,.sl 2 (flE x.fields)]
def evE(l:List Ev):List (List AV):=l.map evC
theorem UH(l:List Ev):(evE l).length=l.length:=by simp[evE]
theorem YA(l:List Ev)(i:Nat):(evE l)[i]? =(l[i]?).map evC:=by simp[evE]
@[simp] theorem Aen(k:Nat)(l:List Ev):AA k (evE l)=true:=by
 simp only[AA,evE,List.all_map,List.all_eq_true]
 intro x _
 rfl
@[simp] theorem evE_st(l:List Ev):(evE l).all (fun c=>c.all Cx)=true:=by
 simp only[evE,List.all_map,List.all_eq_true]
 intro x _
 rfl
theorem Zi(l:List Ev)(i:Nat):(evE l).drop i=evE (l.drop i):=by simp[evE]
theorem YJ(l:List Ev)(i:Nat):(evE l).take i=evE (l.take i):=by simp[evE]
theorem Acy(L:List Nat)(l:List Ev):BK L (evE l)=evE l:=by
 simp only[BK,evE,List.map_map]
 apply List.map_congr_left
 intro x _
 rfl
theorem Aac(ρ:Nat→Nat)(l:List Ev):(evE l).map (BJ ρ)=evE l:=EB ρ (Aen 0 l)
theorem YT(l:List Ev)(x:Ev):evE l++[[.val (.int .i64 x.host),.val (.int .i64 x.file),.val (.int .i64 x.frm),.val (.int .i64 x.to),.sl 3 (lnE x.lines),.val (.int .i64 x.time),.val (.int .i64 x.weight),.val (.string ⟨x.trace.toArray⟩),.val (.string ⟨x.stream.toArray⟩),.sl 2 (flE x.fields)]]=evE (l++[x]):=by simp[evE,evC,I,str]
theorem AbT(l m:List Ev):evE l++evE m=evE (l++m):=by simp[evE]
@[simp] theorem Pv:evE []=[]:=rfl
attribute [go_sem] UH YA Zi YJ Acy Aac YT AbT evC
def bbC(x:List UInt8):List AV:=[.sl 1 (Ab x)]
def elC(x:List Ev):List AV:=[.sl 10 (evE x)]
def iiC(x:List Int):List AV:=[.sl 1 (Ak x)]
def bbE(l:List (List UInt8)):List (List AV):=l.map bbC
theorem TD(l:List (List UInt8)):(bbE l).length=l.length:=by simp[bbE]
theorem ZJ(l:List (List UInt8))(i:Nat):(bbE l)[i]? =(l[i]?).map bbC:=by simp[bbE]
@[simp] theorem Afc(k:Nat)(l:List (List UInt8)):AA k (bbE l)=true:=by
 simp only[AA,bbE,List.all_map,List.all_eq_true]
 intro x _
 rfl
theorem AcE(L:List Nat)(l:List (List UInt8)):BK L (bbE l)=bbE l:=by
 simp only[BK,bbE,List.map_map]
 apply List.map_congr_left
 intro x _
 rfl
theorem Si(l:List (List UInt8))(x:(List UInt8)):bbE l++[[.sl 1 (Ab x)]]=bbE (l++[x]):=by simp[bbE,bbC,I,str]
@[simp] theorem AhM:bbE []=[]:=rfl
attribute [go_sem] TD ZJ AcE Si bbC
def elE(l:List (List Ev)):List (List AV):=l.map elC
theorem TS(l:List (List Ev)):(elE l).length=l.length:=by simp[elE]
theorem ZI(l:List (List Ev))(i:Nat):(elE l)[i]? =(l[i]?).map elC:=by simp[elE]
@[simp] theorem elE_id(k:Nat)(l:List (List Ev)):AA k (elE l)=true:=by
 simp only[AA,elE,List.all_map,List.all_eq_true]
 intro x _
 rfl
@[simp] theorem AhS:elE []=[]:=rfl
attribute [go_sem] TS ZI elC
def iiE(l:List (List Int)):List (List AV):=l.map iiC
theorem TX(l:List (List Int)):(iiE l).length=l.length:=by simp[iiE]
theorem Zp(l:List (List Int))(i:Nat):(iiE l)[i]? =(l[i]?).map iiC:=by simp[iiE]
@[simp] theorem iiE_id(k:Nat)(l:List (List Int)):AA k (iiE l)=true:=by
 simp only[AA,iiE,List.all_map,List.all_eq_true]
 intro x _
 rfl
theorem Yc(l:List (List Int))(i:Nat):(iiE l).drop i=iiE (l.drop i):=by simp[iiE]
theorem Y6(l:List (List Int))(i:Nat):(iiE l).take i=iiE (l.take i):=by simp[iiE]
theorem Ab9(L:List Nat)(l:List (List Int)):BK L (iiE l)=iiE l:=by
 simp only[BK,iiE,List.map_map]
 apply List.map_congr_left
 intro x _
 rfl
theorem Z7(l:List (List Int))(x:(List Int)):iiE l++[[.sl 1 (Ak x)]]=iiE (l++[x]):=by simp[iiE,iiC,I,str]
@[simp] theorem Ah6:iiE []=[]:=rfl
attribute [go_sem] TX Zp Yc Y6 Ab9 Z7 iiC
end Go.Proofs.YtpkhodjlnodagaaGreatDoor
