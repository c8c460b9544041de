/- Part 40 of the proof of PlanSkipsOnlyWhatCannotMatch. -/
import Derived.Test.YtpkhodjlnodagaaGreatDoorB36
import Derived.Test.YtpkhodjlnodagaaGreatDoorB37
import Derived.Test.YtpkhodjlnodagaaGreatDoorB39
set_option linter.unusedSimpArgs false
set_option linter.unusedVariables false
set_option linter.unusedSectionVars false
namespace Go.Proofs.YtpkhodjlnodagaaGreatDoor
open Go.Av
set_option maxHeartbeats 4000000
set_option maxRecDepth 10000
attribute [local irreducible] XH XO Ae Ad AU
theorem Xl(t:S)(h:t.length≤2^30):(Cf t).length≤2^40:=by
 have h1:=E5 t;omega
theorem QW(e:Ev)(h:EvG e):(BH e).length≤2^30:=by
 have:=Gl e h.evT;omega
theorem hP1{t:Ts}{e:Ev}{f:Ts→Prop}(h:t.op=1)(hw:t.text∈Cf (BH e)):hPS t e f:=⟨fun _=>hw,fun c=>by omega,fun _=>⟨fun c=>by omega,fun c=>by omega,fun c=>by omega⟩,fun c=>by omega,fun c=>by omega⟩
theorem hPo{t:Ts}{e:Ev}{f:Ts→Prop}(h: ¬ t.op=1∧ ¬ t.op=4∧ ¬ t.op=6∧ ¬ t.op=7∧ ¬ t.op=9∧ ¬ t.op=10∧ ¬ t.op=11):hPS t e f:=⟨fun c=>absurd c h.1,fun c=>absurd c h.2.1,fun _=>⟨fun c=>by omega,fun c=>by omega,fun c=>by omega⟩,fun c=>by omega,fun c=>by omega⟩
theorem hP4{t:Ts}{e:Ev}{f:Ts→Prop}(h:t.op=4)(hv:pfx t.name [64]=false→ ∃ x,DW e.fields t.name=some x∧x.val=t.text):hPS t e f:=⟨fun c=>by omega,fun _=>hv,fun _=>⟨fun c=>by omega,fun c=>by omega,fun c=>by omega⟩,fun c=>by omega,fun c=>by omega⟩
theorem hPn{t:Ts}{e:Ev}{f:Ts→Prop}(h:t.op=9∨t.op=10∨t.op=11)(hn:t.name=GA→(t.op=9→e.time<t.num)∧(t.op=10→t.num<e.time)∧(t.op=11→e.time=t.num)):hPS t e f:=⟨fun c=>by omega,fun c=>by omega,hn,fun c=>by omega,fun c=>by omega⟩
theorem hP6{t:Ts}{e:Ev}{f:Ts→Prop}(h:t.op=6)(hk: ∀ k∈t.kids,f k):hPS t e f:=⟨fun c=>by omega,fun c=>by omega,fun _=>⟨fun c=>by omega,fun c=>by omega,fun c=>by omega⟩,fun _=>hk,fun c=>by omega⟩
theorem hP7{t:Ts}{e:Ev}{f:Ts→Prop}(h:t.op=7)(hk: ∃ k∈t.kids,f k):hPS t e f:=⟨fun c=>by omega,fun c=>by omega,fun _=>⟨fun c=>by omega,fun c=>by omega,fun c=>by omega⟩,fun c=>by omega,fun _=>hk⟩
theorem tk_s{ks:List Ts}{f:Ts→Prop}{i:Nat}{k:Ts}(h: ∀ y∈ks.take i,f y)(hx:ks[i]? =some k)(hk:f k): ∀ y∈ks.take (i+1),f y:=by
 intro y hy
 rw[List.take_add_one,hx]at hy
 rcases List.mem_append.1 hy with h1|h1
 · exact h y h1
 · simp at h1;subst h1;exact hk
theorem W3(s t:S):Ae Tryz.prog 146 [str s,str t] (fun r=> ∃ b,r=B b):=by
 refine Ax 18 Tryz.func146 ?_
 refine Aa 0 [0,1] ?_
 refine Ah 1 ?_
 refine Ac 6 ?_
 refine Cn 10 (fun g10=>?_) (fun g10=>?_)
 any_goals(refine A2 8 ?_;refine XO.done [4] ?_;refine Aq ?_;exact Bi ⟨_,rfl⟩)
theorem ZR(d:List S)(w:S)(hd:d.length≤2^40):Ae Tryz.prog 93 [.sl 1 (Au d),str w] (fun r=> ∃ a b:Int,r= .tup [I a,I b]):=by
 refine Ax 32 Tryz.func93 ?_
 refine Aa 0 [0,1] ?_
 refine Ah 1 ?_
 refine Ac 2 ?_
 refine AG (Ep (Oz d w hd)) ?_;rintro _ rfl
 refine Ac 5 ?_
 any_goals(refine XO.done [0,1,6] ?_)
 refine Aa 2 [0,1,6,8] ?_
 any_goals(refine A8 0 (fun k:Nat=>⟨[(0,.sl 1 (Au d)),(1,str w),(6,I (CD d w)),(8,I (k:Nat))],[]⟩) (fun k=>True) (fun k=>d.length-k) (CD d w) (E7 [] []) ?_;rintro k hI0 Y0 hY0;skip)
 refine Ah 3 ?_
 refine Aw 5 ?_
 refine Cn 20 (fun g20=>?_) (fun g20=>?_)
 any_goals refine Aw 2 ?_
 have hi:k<d.length:=oM;obtain⟨x,hx,hxm⟩:=Bm d k hi
 any_goals(refine Aw 3 ?_;(first|(refine AG (W3 x w) ?_;rintro _ ⟨b,rfl⟩)|refine Ac 1 ?_);refine Aw 1 ?_;refine XO.done [0,1,6,8,27] ?_;(first|refine A3 27 ?_|refine Bx 27 (fun c27=>?_) (fun c27=>?_)))
 refine AQ 4 [0,1,6,8] ?_
 · refine XH.le ?_;exact eY hY0 (k+1) (E7 [] [])
 any_goals(refine Aa 5 [4,5] ?_;refine Aq ?_;exact Bi ⟨_,_,rfl⟩)
theorem ZB(d:List S)(w:S)(hd:d.length≤2^40):Ae Tryz.prog 46 [.sl 1 (Au d),str w] (fun r=> ∃ b,r=B b):=by
 refine Ax 16 Tryz.func46 ?_
 refine Aa 0 [0,1] ?_
 refine Ah 1 ?_
 refine Ac 2 ?_
 refine AG (ZR d w hd) ?_;rintro _ ⟨a,b,rfl⟩
 refine Ac 5 ?_
 any_goals(refine XO.done [5,6] ?_)
 refine Aa 2 [4] ?_
 refine Aq ?_;exact Bi ⟨_,rfl⟩
theorem V6(s t:S)(hs:s.length≤2^30)(ht:t.length≤2^30):Ae Tryz.prog 47 [str s,str t] (fun r=> ∃ b,r=B b):=by
 refine Ax 24 Tryz.func47 ?_
 refine Aa 0 [0,1] ?_
 refine Aa 1 [0,1,5] ?_
 any_goals(refine A8 0 (fun i:Nat=>⟨[(0,str s),(1,str t),(5,I (i:Nat))],[]⟩) (fun i=>i≤s.length+1) (fun i=>s.length+1-i) 0 (E7 [] []) ?_;rintro i hI0 Y0 hY0;skip)
 refine AQ 2 [0,1,5,12] ?_
 refine AC 12 (fun c12=>?_) (fun c12=>?_)
 refine XW.at 4 ?_;have hi:i+t.length≤s.length:=oM
 refine A4 4 [0,1,5,23] ?_
 refine Bx 23 (fun c23=>?_) (fun c23=>?_)
 refine Aa 5 [4] ?_
 refine Aq ?_;exact Bi ⟨_,rfl⟩
 refine AQ 3 [0,1,5] ?_
 · refine XH.le ?_;exact eY hY0 (i+1) (E7 [] [])
 refine Aa 6 [4] ?_
 refine Aq ?_;exact Bi ⟨_,rfl⟩
theorem Sc(t:Ts)(e:Ev)(he:EvG e)(h1:t.name.length≤2^30)(h2:t.text.length≤2^30)(h3:t.kids.length≤2^30)(f:Ts→Prop)(hk: ∀ k∈t.kids,Ae Tryz.prog 15 [tsA k,.agg (evC e)] (fun r=> ∃ b,r=B b∧(b=true→f k))):Ae Tryz.prog 15 [tsA t,.agg (evC e)] (fun r=> ∃ b,r=B b∧(b=true→hPS t e f)):=by
 simp only[evC]at hk
 have qt:=Ep (Oj e he.evT.nl he.evT.tx)
 have qw:=Ae.osl (MA (BH e) (QW e he)) sP sP
 have qi:=Ep (Oz (Cf (BH e)) t.text (Xl _ (QW e he)))
 have qb:=ZB (Cf (BH e)) t.text (Xl _ (QW e he))
 have qc:=V6 (BH e) t.text (QW e he) h2
 have qv:=UY e he t.name
 have qn:=Aat e he t.name
 unfold VR at qv
 simp only[evC]at qt qv qn
 refine Ax 163 Tryz.func15 ?_
 refine Aa 0 [2,3] ?_
 refine Aa 1 [2,3,16] ?_
 refine Aa 2 [2,3,16,17] ?_
 refine AC 17 (fun c17=>?_) (fun c17=>?_)
 refine Ah 3 ?_
 refine Ac 1 ?_
 refine AG (qt) ?_;rintro _ rfl
 refine AG (qw) ?_;rintro _ rfl
 refine Ac 2 ?_
 refine AG (qi) ?_;rintro _ rfl
 refine Ac 5 ?_
 any_goals(refine XO.done [6] ?_)
 refine Aa 4 [4] ?_
 refine Aq ?_;exact Bi ⟨_,rfl,fun hb=>hP1 c17 (UK hb)⟩
 refine Aa 5 [2,3,16,29] ?_
 refine AC 29 (fun c29=>?_) (fun c29=>?_)
 refine Ah 6 ?_
 refine Ac 1 ?_
 refine AG (qt) ?_;rintro _ rfl
 refine AG (qw) ?_;rintro _ rfl
 refine Ac 2 ?_
 refine AG (qb) ?_;rintro _ ⟨b,rfl⟩
 refine Ac 1 ?_
 any_goals(refine XO.done [4] ?_)
 refine Aq ?_;exact Bi ⟨_,rfl,fun hb=>hPo oM⟩
 refine Aa 7 [2,3,16,37] ?_
 refine AC 37 (fun c37=>?_) (fun c37=>?_)
 refine Ah 8 ?_
 refine Ac 1 ?_
 refine AG (qt) ?_;rintro _ rfl
 refine Ac 2 ?_
 refine AG (qc) ?_;rintro _ ⟨b,rfl⟩
 refine Ac 1 ?_
 any_goals(refine XO.done [4] ?_)
 refine Aq ?_;exact Bi ⟨_,rfl,fun hb=>hPo oM⟩
 refine Aa 9 [2,3,16,44] ?_
 refine AC 44 (fun c44=>?_) (fun c44=>?_)
 refine Ah 10 ?_
 refine Ac 3 ?_
 refine AG (qv) ?_;rintro _ ⟨v,b,rfl,hv,_,hvp⟩
 refine Ac 5 ?_
 any_goals(refine XO.done [2,7,8] ?_)
 refine Ah 11 ?_
 refine Ac 2 ?_
 refine XO.split 54 (fun g54=>?_) (fun g54=>?_)
 any_goals(refine Ac 6 ?_;refine XO.done [4] ?_;(refine Aq ?_;first|(exact Bi ⟨_,rfl,fun hb=>hP4 c44 (fun hp=>(hvp hp g54).imp fun y hy=>⟨hy.1,hy.2.trans (eq_of_beq hb)⟩)⟩)|(exact Bi ⟨_,rfl,fun hb=>absurd hb Bool.false_ne_true⟩)))
 refine Aa 12 [2,3,16,60] ?_
 refine AC 60 (fun c60=>?_) (fun c60=>?_)
 refine Ah 13 ?_
 refine Ac 3 ?_
 refine AG (qv) ?_;rintro _ ⟨v,b,rfl,hv,_⟩
 refine Ac 5 ?_
 any_goals(refine XO.done [10] ?_)
 refine Aa 14 [4] ?_
 refine Aq ?_;exact Bi ⟨_,rfl,fun hb=>hPo oM⟩
 refine Aa 15 [2,3,16,70] ?_
 refine AC 70 (fun c70=>?_) (fun c70=>?_)
 any_goals refine Aa 16 [2,3,16,70] ?_
 any_goals refine AC 70 (fun c70=>?_) (fun c70=>?_)
 any_goals(exfalso;omega)
 any_goals refine Aa 17 [2,3,16,70] ?_
 any_goals refine AC 70 (fun c70=>?_) (fun c70=>?_)
 any_goals(exfalso;omega)
 any_goals(refine Ah 18 ?_;refine Ac 3 ?_;refine AG (qn) ?_;rintro _ ⟨n,b,rfl,hnv⟩;refine Ac 5 ?_;refine XO.done [2,11,12] ?_;(refine XW.at 19 ?_;first|have hx:t.op=9:=c70|have hx:t.op=10:=c70|have hx:t.op=11:=c70);refine Ah 19 ?_;refine Aw 2 ?_;refine XO.split 82 (fun g82=>?_) (fun g82=>?_))
 any_goals refine Aw 4 ?_
 all_goals try(first|refine GK 86 ?_|refine BQ 86 ?_)
 any_goals refine Aw 6 ?_
 all_goals try(first|refine BQ 92 ?_|refine Cn 92 (fun g92=>?_) (fun g92=>?_))
 any_goals refine Aw 4 ?_
 all_goals try(first|refine GK 96 ?_|refine BQ 96 ?_)
 any_goals refine Aw 7 ?_
 all_goals try(first|refine GK 103 ?_|refine BQ 103 ?_|refine Cn 103 (fun g103=>?_) (fun g103=>?_))
 any_goals refine Aw 4 ?_
 all_goals try(first|refine GK 107 ?_|refine BQ 107 ?_)
 any_goals(refine Aw 8 ?_;refine XO.done [4] ?_;(refine Aq ?_;first|(exact Bi ⟨_,rfl,fun hb=>absurd hb Bool.false_ne_true⟩)|((refine Bi ⟨_,rfl,fun hb=>?_⟩;refine hPn oM (fun hN=>?_);have hq:=(hnv hN).2;(try simp at hb);omega))))
 refine Aa 20 [2,3,16,115] ?_
 refine AC 115 (fun c115=>?_) (fun c115=>?_)
 refine Ah 21 ?_
 refine Aw 5 ?_
 refine Cn 121 (fun g121=>?_) (fun g121=>?_)
 any_goals refine Aw 2 ?_
 have h0:0<t.kids.length:=oM;obtain⟨x,hx,hxm⟩:=Bm t.kids 0 h0
 any_goals(refine Aw 3 ?_;(first|(refine AG (hk x hxm) ?_;rintro _ ⟨b,rfl,_⟩)|refine Ac 1 ?_);refine Aw 3 ?_;refine XO.done [4] ?_;refine Aq ?_;exact Bi ⟨_,rfl,fun hb=>hPo oM⟩)
 refine Aa 22 [2,3,16,130] ?_
 refine AC 130 (fun c130=>?_) (fun c130=>?_)
 refine Aa 23 [2,3,13] ?_
 any_goals(refine A8 2 (fun i:Nat=>⟨[(2,.ptr 0 5 0 0),(3,.ptr 1 10 0 0),(13,I (i:Nat))],[(0,some ⟨26,5,[[I t.op,str t.name,str t.text,I t.num,.sl 5 (tsE t.kids)]]⟩),(1,some ⟨56,10,[evC e]⟩)]⟩) (fun i=>i≤t.kids.length∧ ∀ k∈t.kids.take i,f k) (fun i=>t.kids.length-i) 0 (AO evC.eq_1 [some 0,some 1] []) ?_ (h0:=⟨Nat.zero_le _,sP⟩);rintro i hI0 Y0 hY0;skip)
 refine Aa 24 [2,3,13,136] ?_
 refine AC 136 (fun c136=>?_) (fun c136=>?_)
 refine XW.at 26 ?_;have hi:i<t.kids.length:=oM;obtain⟨x,hx,hxm⟩:=Bm t.kids i hi
 refine Ah 26 ?_
 refine Aw 6 ?_
 refine AG (hk x hxm) ?_;rintro _ ⟨b,rfl,hb1⟩
 refine Aw 1 ?_
 any_goals(refine XO.done [2,3,13,146] ?_)
 refine Bx 146 (fun c146=>?_) (fun c146=>?_)
 refine Aa 27 [4] ?_
 refine Aq ?_;exact Bi ⟨_,rfl,fun hb=>absurd hb Bool.false_ne_true⟩
 refine AQ 25 [2,3,13] ?_
 · refine XH.le ?_;exact hY0 (i+1) (⟨oM,tk_s hI0.2 hx (hb1 (by simpa using c146))⟩) (by first|omega|(simp;done)|(simp;omega)) _ _ (AO evC.eq_1 [some 0,some 1] [])
 any_goals(refine Aa 28 [2,3,147] ?_;refine AC 147 (fun c147=>?_) (fun c147=>?_))
 any_goals(refine Aa 29 [2,3,14] ?_;refine A8 2 (fun i:Nat=>⟨[(2,.ptr 0 5 0 0),(3,.ptr 1 10 0 0),(14,I (i:Nat))],[(0,some ⟨26,5,[[I t.op,str t.name,str t.text,I t.num,.sl 5 (tsE t.kids)]]⟩),(1,some ⟨56,10,[evC e]⟩)]⟩) (fun i=>i≤t.kids.length∧ ∀ k∈t.kids.take i,True) (fun i=>t.kids.length-i) 0 (AO evC.eq_1 [some 0,some 1] []) ?_ (h0:=⟨Nat.zero_le _,sP⟩);rintro i hI1 Y1 hY1;skip;refine Aa 30 [2,3,14,153] ?_;refine AC 153 (fun c153=>?_) (fun c153=>?_))
 any_goals(refine XW.at 32 ?_;have hi:i<t.kids.length:=oM;obtain⟨x,hx,hxm⟩:=Bm t.kids i hi;refine Ah 32 ?_;refine Aw 6 ?_;refine AG (hk x hxm) ?_;rintro _ ⟨b,rfl,hb1⟩;refine XO.done [2,3,14,162] ?_;refine Bx 162 (fun c162=>?_) (fun c162=>?_))
 any_goals(refine Aa 33 [4] ?_;refine Aq ?_;exact Bi ⟨_,rfl,fun hb=>hP7 c147 ⟨x,hxm,hb1 (by simpa using c162)⟩⟩)
 any_goals(refine AQ 31 [2,3,14] ?_;refine XH.le ?_;exact hY1 (i+1) (⟨oM,fun _ _=>trivial⟩) (by first|omega|(simp;done)|(simp;omega)) _ _ (AO evC.eq_1 [some 0,some 1] []))
 any_goals(refine Aa 34 [4] ?_;refine Aq ?_;exact Bi ⟨_,rfl,fun hb=>absurd hb Bool.false_ne_true⟩)
 any_goals(refine Aa 35 [4] ?_;(refine Aq ?_;first|(exact Bi ⟨_,rfl,fun hb=>hPo oM⟩)|((refine Bi ⟨_,rfl,fun hb=>hP6 c130 (fun k hkm=>hI0.2 k ?_)⟩;rw[List.take_of_length_le oM];exact hkm))))
theorem TK(e:Ev)(he:EvG e): ∀ (d:Nat) (t:Ts),TsB d t→Ae Tryz.prog 15 [tsA t,.agg (evC e)] (fun r=> ∃ b,r=B b∧(b=true→hP d t e))
 |0,t,h=>Sc t e he (by have:=h.1;omega) (by have:=h.2.1;omega) (by rw[h.2.2.2.2];simp) (fun _=>False) (by rw[h.2.2.2.2];simp)
 |d+1,t,h=>Sc t e he (by have:=h.1;omega) (by have:=h.2.1;omega) (by have:=h.2.2.2.2.1;omega) (fun k=>hP d k e) (fun k hk=>TK e he d k (h.2.2.2.2.2 k hk))
end Go.Proofs.YtpkhodjlnodagaaGreatDoor
namespace Go.Proofs.YtpkhodjlnodagaaGreatDoor
open Go.Av
set_option maxHeartbeats 4000000
attribute [local irreducible] Ad
structure Sg where
 ext:Bool
 src:S
 test:Ts
def sgC(x:Sg):List AV:=B x.ext::str x.src::tsC x.test
def sgE(l:List Sg):List (List AV):=l.map sgC
theorem UB(l:List Sg):(sgE l).length=l.length:=by simp[sgE]
@[simp] theorem Af8(k:Nat)(l:List Sg):AB k (sgE l)=true:=by
 simp only[AB,sgE,List.all_map,List.all_eq_true]
 intro x _
 obtain⟨a,b,⟨⟩⟩:=x;rfl
theorem AdB(L:List Nat)(l:List Sg):BF L (sgE l)=sgE l:=by
 simp only[BF,sgE,List.map_map]
 apply List.map_congr_left
 intro x _
 obtain⟨a,b,⟨⟩⟩:=x;rfl
@[simp] theorem AiX:sgE []=[]:=rfl
attribute [go_sem] UB AdB sgC
structure Ag where
 kind:Int
 fld:S
def agC(x:Ag):List AV:=[I x.kind,str x.fld]
def agE(l:List Ag):List (List AV):=l.map agC
theorem TZ(l:List Ag):(agE l).length=l.length:=by simp[agE]
@[simp] theorem agE_id(k:Nat)(l:List Ag):AB k (agE l)=true:=by
 simp only[AB,agE,List.all_map,List.all_eq_true]
 intro x _
 rfl
theorem AcK(L:List Nat)(l:List Ag):BF L (agE l)=agE l:=by
 simp only[BF,agE,List.map_map]
 apply List.map_congr_left
 intro x _
 rfl
@[simp] theorem Ajd:agE []=[]:=rfl
attribute [go_sem] TZ AcK agC
attribute [simp] UB TZ
structure Qy where
 test:Ts
 stages:List Sg
 kind:Int
 limit:Int
 last:Bool
 names:List S
 aggs:List Ag
 sketch:Int
 other:Ts
 key:S
 window:Int
def qyC(q:Qy):List AV:=tsC q.test++[.sl 7 (sgE q.stages),I q.kind,I q.limit,B q.last,.sl 1 (Au q.names),.sl 2 (agE q.aggs),I q.sketch]++tsC q.other++[str q.key,I q.window]
def tz:Ts:= .mk 0 [] [] 0 []
def Vt:Nat→List Nat
 |0=>[0]
 |1=>[0,3]
 |2=>[0,3,12]
 |3=>[3]
 |4=>[2]
 |_=>[]
attribute [go_sem] Vt
theorem U9(L:List UInt8)(hL:L.length≤2^20)(a:Nat)(ha:a≤L.length):
   GX Tryz.prog 52 [.ptr 0 2 0 0] [some (cdE L a)] (fun x=> ∃ (ns:List S) (a':Nat),x=(.osl 1 ns.length 1,[some (cdE L a'),some ⟨9,1,Au ns⟩])∧(ns.length≤2∧ ∀ n∈ns,n.length≤19)∧a'≤L.length):=by
 obtain⟨v,a1,ha1,vlt,q1⟩:=A9 L hL a 5 ha oM oM
 obtain⟨c,a2,ha2,clt,q2⟩:=A9 L hL a1 2 ha1 oM oM
 have vx:=EW (l:=nsL) rfl vlt
 have wl:=Acs v
 generalize nsL.getD v []=w at*
 refine GV 19 1 Tryz.func52 rfl rfl rfl sP rfl rfl ?_
 have F:=And.intro AcZ vx;refine exF (atO 1 (onc 2 (ocq 0 q1) noc) (atO 2 (onc 1 (ocq 0 q2) noc) noO)) Vt ?_;clear F
 by_cases hc:c=1
 · subst hc
   obtain⟨v2,a3,ha3,q3⟩:=Kr L hL a2 ha2
   have wl2:=Hq v2
   generalize G3.getD v2 []=w2 at*
   refine exT (atO 3 (onc 2 (ocq 0 q3) noc) noO) Vt ?_
   have e2:Au [w,w2]=[[.val (.string ⟨w.toArray⟩)],[.val (.string ⟨w2.toArray⟩)]]:=rfl
   refine EX.ret (.osl 1 2 1) [some (cdE L a3),some ⟨9,1,Au [w,w2]⟩] ?_ (fun C hN hk=>AW.ret (BY [some 0,some 1] [] rfl (by simp[Az,lk,lkh,I,str,B,U8,U64,U32,cdE,e2]<;>omega) (by first|(simp[Am,Ai,Ak,lkh,cdE,e2];done)|simp[Am,Ai,Ak,lkh,I,str,cdE,e2])))
   exact⟨[w,w2],a3,rfl,⟨sP,by simp;exact⟨wl,wl2⟩⟩,ha3⟩
 · have dc:((c:Int)==1)=false:=by simp;omega
   simp only[dc]
   refine exT noO Vt ?_
   have e1:Au [w]=[[.val (.string ⟨w.toArray⟩)]]:=rfl
   refine EX.ret (.osl 1 1 1) [some (cdE L a2),some ⟨9,1,Au [w]⟩] ?_ (fun C hN hk=>AW.ret (BY [some 0,some 1] [] rfl (by simp[Az,lk,lkh,I,str,B,U8,U64,U32,cdE,e1]<;>omega) (by first|(simp[Am,Ai,Ak,lkh,cdE,e1];done)|simp[Am,Ai,Ak,lkh,I,str,cdE,e1])))
   exact⟨[w],a2,rfl,⟨sP,by simp;exact wl⟩,ha2⟩
def Gj:Nat→List Nat
 |0=>[0,2]
 |1=>[0,2,3]
 |2=>[0,2,3,4]
 |3=>[0,2,3,4,13]
 |4=>[0,2,3,4]
 |5=>[0,2,3,4,18]
 |6=>[0,2,3,4]
 |7=>[0,2,3,4]
 |8=>[0,2,3,39]
 |9=>[0,2,3,39,40]
 |10=>[2,3]
 |11=>[0,2,3,39,49]
 |12=>[0,2,3]
 |13=>[0,2,3,5]
 |14=>[0,2,3,5,59]
 |15=>[0,2,3,5]
 |16=>[0,2,3,5,6]
 |17=>[0,2,3,5,6,67]
 |18=>[0,2,3,5,6]
 |19=>[0,2,3,5]
 |20=>[0,2,3,39,80]
 |21=>[0,2,3]
 |22=>[0,2,3]
 |23=>[0,2,3,95]
 |24=>[2,3]
 |25=>[2,3,102]
 |26=>[2,3]
 |27=>[0,2,3,107]
 |28=>[0,2,3]
 |29=>[2,3]
 |30=>[2]
 |_=>[]
attribute [go_sem] Gj
def qsL:List S:=[[40,109,115,58,92,100,43,41],[40,117,115,101,114,58,91,97,45,122,93,43,41,95,40,99,111,100,101,58,92,100,41],[120],[40,108,101,118,101,108,58,103,101,116,124,119,97,114,110,41]]
def qaL:List S:=[[109,115],[99,111,100,101],[64,116,105,109,101],[108,101,118,101,108]]
def qkL:List S:=[[64,116,114,97,99,101],[117,115,101,114],[108,101,118,101,108]]
@[simp] theorem qsL_n:qsL.length=4:=rfl
@[simp] theorem qaL_n:qaL.length=4:=rfl
@[simp] theorem qkL_n:qkL.length=3:=rfl
theorem AdE:([[AV.val (.string ⟨#[40,109,115,58,92,100,43,41]⟩)],[AV.val (.string ⟨#[40,117,115,101,114,58,91,97,45,122,93,43,41,95,40,99,111,100,101,58,92,100,41]⟩)],[AV.val (.string ⟨#[120]⟩)],[AV.val (.string ⟨#[40,108,101,118,101,108,58,103,101,116,124,119,97,114,110,41]⟩)]]:List (List AV))=Au qsL:=rfl
theorem Acr:([[AV.val (.string ⟨#[109,115]⟩)],[AV.val (.string ⟨#[99,111,100,101]⟩)],[AV.val (.string ⟨#[64,116,105,109,101]⟩)],[AV.val (.string ⟨#[108,101,118,101,108]⟩)]]:List (List AV))=Au qaL:=rfl
theorem AcO:([[AV.val (.string ⟨#[64,116,114,97,99,101]⟩)],[AV.val (.string ⟨#[117,115,101,114]⟩)],[AV.val (.string ⟨#[108,101,118,101,108]⟩)]]:List (List AV))=Au qkL:=rfl
structure QyG(q:Qy):Prop where
 test:TsB 2 q.test
 other:TsB 1 q.other
 st:q.stages.length≤2∧ ∀ s∈q.stages,TsB 1 s.test
theorem tz0:TsB 1 tz:=Cm 1 sP sP oM (by unfold C6;omega)
@[simp] theorem wkE_sg{hp:Hp}{ids:List (Option Nat)}{D:List Nat}(l:List Sg)(x c:List AV):wkE hp ids D (sgE l++[c]) (sgE l++[x])↔wkL hp ids D c x:=Gr (Af8 0 l)
noncomputable def GW:Code:=cR (cR (cR (En Tryz.f18)))
def R11(L:List UInt8):Res→Prop:=fun x=> ∃ (q:Qy) (a':Nat),x=(.agg (qyC q),[some (cdE L a')])∧QyG q∧a'≤L.length
def IF(L:List UInt8)(t:Ts)(sg:List Sg)(a3:Nat):AS:=⟨[(0,.ptr 0 2 0 0),(2,.ptr 1 19 0 0),(3,.ptr 2 19 0 0)],[(0,some (cdE L a3)),(1,some ⟨31,19,[[I 0,str [],str [],I 0,AA,AA,I 0,I 0,B false,AA,AA,I 0,I 0,str [],str [],I 0,AA,str [],I 0]]⟩),(2,some ⟨31,19,[[I t.op,str t.name,str t.text,I t.num,.sl 5 (tsE t.kids),.osl 3 sg.length 7,I 0,I 0,B false,AA,AA,I 0,I 0,str [],str [],I 0,AA,str [],I 0]]⟩),(3,some ⟨100,7,sgE sg⟩)]⟩
theorem Yf(L:List UInt8)(hL:L.length≤2^20)(t:Ts)(tb:TsB 2 t)(sg:List Sg)(hs:sg.length≤2∧ ∀ x∈sg,TsB 1 x.test)(a3 a4:Nat)(ha4:a4≤L.length)(q1:Ad Tryz.prog 20 [.ptr 0 2 0 0,I 5] [some (cdE L a3)] (I 0) [some (cdE L a4)]):
   EX 126 1 (R11 L) (fun x C=>AW Tryz.prog C GW (Di (Ao Tryz.prog) [.cell 2 31] x.1 x.2 1) 4 (IF L t sg a3)):=by
 dsimp only[GW,cR,En,Tryz.f18,Option.getD]
 simp only[IF,cdE,AA]
 obtain⟨c,a5,ha5,clt,q2⟩:=A9 L hL a4 2 ha4 oM oM
 obtain⟨m,a6,ha6,mlt,q3⟩:=A9 L hL a5 4 ha5 oM oM
 refine exT (atO 8 (onc 1 (ocq 0 q1) noc) (atO 10 (onc 1 (ocq 0 q2) (onc 4 (ocq 0 q3) noc)) noO)) Gj ?_
 refine EX.ret (.agg (qyC ⟨t,sg,0,m,((c:Int)==1),[],[],0,tz,[],0⟩)) [some (cdE L a6)] ?_ (fun C hN hk=>AW.ret (BY [some 0] [2] (by simp only[AY,go_sem,seval];rfl) (by simp[Az,lk,lkh,I,str,B,U8,U64,U32,cdE,qyC,B3,tz]<;>omega) (by first|(simp[Am,Ai,Ak,lkh,cdE,qyC,B3,tz];done)|simp[Am,Ai,Ak,lkh,I,str,cdE,qyC,B3,tz])))
 exact⟨_,a6,rfl,⟨tb,tz0,hs⟩,ha6⟩
theorem XT(L:List UInt8)(hL:L.length≤2^20)(t:Ts)(tb:TsB 2 t)(sg:List Sg)(hs:sg.length≤2∧ ∀ x∈sg,TsB 1 x.test)(a3 a4:Nat)(ha4:a4≤L.length)(q1:Ad Tryz.prog 20 [.ptr 0 2 0 0,I 5] [some (cdE L a3)] (I 1) [some (cdE L a4)]):
   EX 126 1 (R11 L) (fun x C=>AW Tryz.prog C GW (Di (Ao Tryz.prog) [.cell 2 31] x.1 x.2 1) 4 (IF L t sg a3)):=by
 dsimp only[GW,cR,En,Tryz.f18,Option.getD]
 simp only[IF,cdE,AA]
 obtain⟨_,⟨ns,a5,rfl,nb,ha5⟩,q2⟩:=U9 L hL a4 ha4
 obtain⟨m,a6,ha6,mlt,q3⟩:=A9 L hL a5 3 ha5 oM oM
 simp only at q2
 have w1:=Ar (n:=1+(m:Int)) oM
 have F:=w1;refine exF (atO 8 (onc 1 (ocq 0 q1) noc) (atO 12 (onc 1 (ocq 0 q2) noc) (atO 13 (onc 1 (ocq 0 q3) noc) noO))) Gj ?_;clear F
 have hm2:1+(m:Int)=((m+1:Nat):Int):=by omega
 simp only[hm2]
 clear q1 q2 q3 w1 hm2
 apply EX.step
 · intro xX C hN hk hqX
   repeat first|with_reducible refine AW.seq ?_|with_reducible refine AW.block ?_
   exact hqX
 refine lpX 6 (fun s:Nat×List Ag×Nat=>⟨[(0,.ptr 0 2 0 0),(2,.ptr 1 19 0 0),(3,.ptr 2 19 0 0),(5,I s.1)],[(0,some ⟨98,2,[[.sl 1 (Ab L),I s.2.2]]⟩),(1,some ⟨31,19,[[I 0,str [],str [],I 0,AA,AA,I 0,I 0,B false,AA,AA,I 0,I 0,str [],str [],I 0,AA,str [],I 0]]⟩),(2,some ⟨31,19,[[I t.op,str t.name,str t.text,I t.num,.sl 5 (tsE t.kids),.osl 3 sg.length 7,I 1,I 0,B false,.osl 4 ns.length 1,.osl 5 s.2.1.length 2,I 0,I 0,str [],str [],I 0,AA,str [],I 0]]⟩),(3,some ⟨100,7,sgE sg⟩),(4,some ⟨9,1,Au ns⟩),(5,some ⟨103,2,agE s.2.1⟩)]⟩) (fun s=>s.2.1.length+s.1≤10∧s.2.2≤L.length) (fun s=>s.1) (m+1,[],a6) (Cz (And.intro AA.eq_1 B.eq_1) [some 0,some 1,some 2,some 3,some 4,none] []) ?_
 intro ⟨j,ag,a7⟩ hI2 Y2 hY2
 obtain⟨m1,ha7⟩:=hI2
 simp only at m1 ha7
 cases j with
 |succ j=>
   have d2:decide (((j+1:Nat):Int)>0)=true:=by simp
   have e2:(((j+1:Nat):Int)-1)=(j:Int):=by omega
   have w8:=Ar (n:=(j:Int)) oM
   obtain⟨c,a8,ha8,clt,q4⟩:=A9 L hL a7 5 ha7 oM oM
   obtain rfl|hc:c=0∨c≠0:=by omega
   · have F:=And.intro d2 (And.intro e2 w8);refine exF (atO 16 (onc 1 (ocq 0 q4) noc) noO) Gj ?_;clear F
     obtain⟨g2,hg2⟩: ∃ g2,g2=ag++[⟨0,[]⟩]:=⟨_,rfl⟩
     have hgl:g2.length=ag.length+1:=by rw[hg2];simp
     have hge:agE g2=agE ag++[[.val (.int .i64 0),.val (.string ⟨#[]⟩)]]:=by rw[hg2];simp[agE,agC,I,str]
     refine eY hY2 ((j,g2,a8)) (CL [some 0,some 1,some 2,some 3,some 4,some 5] [] (by simp[AK,lk,lkh,I,str,B,U8,U64,U32,hge,hgl,AA,B,AF,AN]<;>omega) (by first|(simp[Am,Ai,Ak,lkh,hge,hgl,AA,B,AF,AN];done)|simp[Am,Ai,Ak,lkh,I,str,hge,hgl,AA,B,AF,AN]))
   · have dn:((c:Int) !=0)=true:=by simp;omega
     obtain⟨v,a9,ha9,vlt,q5⟩:=A9 L hL a8 4 ha8 oM oM
     have vx:=EW (l:=qaL) rfl vlt
     generalize qaL.getD v []=w at*
     obtain⟨g2,hg2⟩: ∃ g2,g2=ag++[⟨(c:Int),w⟩]:=⟨_,rfl⟩
     have hgl:g2.length=ag.length+1:=by rw[hg2];simp
     have hge:agE g2=agE ag++[[.val (.int .i64 c),.val (.string ⟨w.toArray⟩)]]:=by rw[hg2];simp[agE,agC,I,str]
     have F:=And.intro d2 (And.intro e2 (And.intro w8 (And.intro dn (And.intro Acr vx))));refine exF (atO 16 (onc 1 (ocq 0 q4) noc) (atO 18 (onc 2 (ocq 0 q5) noc) noO)) Gj ?_;clear F
     refine eY hY2 ((j,g2,a9)) (CL [some 0,some 1,some 2,some 3,some 4,some 5] [] (by simp[AK,lk,lkh,I,str,B,U8,U64,U32,hge,hgl,AA,B,AF,AN]<;>omega) (by first|(simp[Am,Ai,Ak,lkh,hge,hgl,AA,B,AF,AN];done)|simp[Am,Ai,Ak,lkh,I,str,hge,hgl,AA,B,AF,AN]))
 |zero=>
   refine exT noO Gj ?_
   refine EX.ret (.agg (qyC ⟨t,sg,1,0,false,ns,ag,0,tz,[],0⟩)) [some (cdE L a7)] ?_ (fun C hN hk=>AW.ret (BY [some 0] [2,3,4] (by simp only[AY,go_sem,seval];rfl) (by simp[Az,lk,lkh,I,str,B,U8,U64,U32,cdE,qyC,B3,tz]<;>omega) (by first|(simp[Am,Ai,Ak,lkh,cdE,qyC,B3,tz];done)|simp[Am,Ai,Ak,lkh,I,str,cdE,qyC,B3,tz])))
   exact⟨_,a7,rfl,⟨tb,tz0,hs⟩,ha7⟩
theorem WZ(L:List UInt8)(hL:L.length≤2^20)(t:Ts)(tb:TsB 2 t)(sg:List Sg)(hs:sg.length≤2∧ ∀ x∈sg,TsB 1 x.test)(a3 a4:Nat)(ha4:a4≤L.length)(q1:Ad Tryz.prog 20 [.ptr 0 2 0 0,I 5] [some (cdE L a3)] (I 2) [some (cdE L a4)]):
   EX 126 1 (R11 L) (fun x C=>AW Tryz.prog C GW (Di (Ao Tryz.prog) [.cell 2 31] x.1 x.2 1) 4 (IF L t sg a3)):=by
 dsimp only[GW,cR,En,Tryz.f18,Option.getD]
 simp only[IF,cdE,AA]
 obtain⟨_,⟨ns,a5,rfl,nb,ha5⟩,q2⟩:=U9 L hL a4 ha4
 obtain⟨m,a6,ha6,mlt,q3⟩:=A9 L hL a5 4 ha5 oM oM
 obtain⟨c,a7,ha7,clt,q4⟩:=A9 L hL a6 2 ha6 oM oM
 simp only at q2
 have w1:=Ar (n:=1+(m:Int)) oM
 have F:=w1;refine exF (atO 8 (onc 1 (ocq 0 q1) noc) (atO 21 (onc 1 (ocq 0 q2) (onc 3 (ocq 0 q3) noc)) (atO 23 (onc 1 (ocq 0 q4) noc) noO))) Gj ?_;clear F
 by_cases hc:c=1
 · subst hc
   obtain⟨v,a8,ha8,vlt,q5⟩:=A9 L hL a7 4 ha7 oM oM
   have w2:=Ar (n:=1+(v:Int)) oM
   have F:=w2;refine exF (atO 24 (onc 1 (ocq 0 q5) noc) noO) Gj ?_;clear F
   refine EX.ret (.agg (qyC ⟨t,sg,2,(1+m),false,ns,[⟨0,[]⟩],(1+v),tz,[],0⟩)) [some (cdE L a8)] ?_ (fun C hN hk=>AW.ret (BY [some 0] [2,3,4] (by simp only[AY,go_sem,seval];rfl) (by simp[Az,lk,lkh,I,str,B,U8,U64,U32,cdE,qyC,B3,tz,agE,agC]<;>omega) (by first|(simp[Am,Ai,Ak,lkh,cdE,qyC,B3,tz,agE,agC];done)|simp[Am,Ai,Ak,lkh,I,str,cdE,qyC,B3,tz,agE,agC])))
   exact⟨_,a8,rfl,⟨tb,tz0,hs⟩,ha8⟩
 · have dc:((c:Int)==1)=false:=by simp;omega
   simp only[dc]
   obtain⟨v,a8,ha8,vlt,q5⟩:=A9 L hL a7 2 ha7 oM oM
   refine exT (atO 25 (onc 1 (ocq 0 q5) noc) noO) Gj ?_
   by_cases hv:v=1
   · subst hv
     refine exT noO Gj ?_
     refine EX.ret (.agg (qyC ⟨t,sg,2,(1+m),false,ns,[⟨1,[109,115]⟩],0,tz,[],0⟩)) [some (cdE L a8)] ?_ (fun C hN hk=>AW.ret (BY [some 0] [2,3,4] (by simp only[AY,go_sem,seval];rfl) (by simp[Az,lk,lkh,I,str,B,U8,U64,U32,cdE,qyC,B3,tz,agE,agC]<;>omega) (by first|(simp[Am,Ai,Ak,lkh,cdE,qyC,B3,tz,agE,agC];done)|simp[Am,Ai,Ak,lkh,I,str,cdE,qyC,B3,tz,agE,agC])))
     exact⟨_,a8,rfl,⟨tb,tz0,hs⟩,ha8⟩
   · have dv:((v:Int)==1)=false:=by simp;omega
     simp only[dv]
     refine exT noO Gj ?_
     refine EX.ret (.agg (qyC ⟨t,sg,2,(1+m),false,ns,[⟨0,[]⟩],0,tz,[],0⟩)) [some (cdE L a8)] ?_ (fun C hN hk=>AW.ret (BY [some 0] [2,3,4] (by simp only[AY,go_sem,seval];rfl) (by simp[Az,lk,lkh,I,str,B,U8,U64,U32,cdE,qyC,B3,tz,agE,agC]<;>omega) (by first|(simp[Am,Ai,Ak,lkh,cdE,qyC,B3,tz,agE,agC];done)|simp[Am,Ai,Ak,lkh,I,str,cdE,qyC,B3,tz,agE,agC])))
     exact⟨_,a8,rfl,⟨tb,tz0,hs⟩,ha8⟩
theorem Xh(L:List UInt8)(hL:L.length≤2^20)(t:Ts)(tb:TsB 2 t)(sg:List Sg)(hs:sg.length≤2∧ ∀ x∈sg,TsB 1 x.test)(a3 a4:Nat)(ha4:a4≤L.length)(q1:Ad Tryz.prog 20 [.ptr 0 2 0 0,I 5] [some (cdE L a3)] (I 3) [some (cdE L a4)]):
   EX 126 1 (R11 L) (fun x C=>AW Tryz.prog C GW (Di (Ao Tryz.prog) [.cell 2 31] x.1 x.2 1) 4 (IF L t sg a3)):=by
 dsimp only[GW,cR,En,Tryz.f18,Option.getD]
 simp only[IF,cdE,AA]
 obtain⟨v,a5,ha5,vlt,q2⟩:=A9 L hL a4 3 ha4 oM oM
 obtain⟨m,a6,ha6,mlt,q3⟩:=A9 L hL a5 60 ha5 oM oM
 obtain⟨_,⟨t2,a7,rfl,tb2,ha7⟩,q4⟩:=OX 1 oM L hL a6 ha6
 simp only[B3]at q4
 obtain⟨i,a8,ha8,ilt,q5⟩:=A9 L hL a7 5 ha7 oM oM
 have vx:=EW (l:=qkL) rfl vlt
 generalize qkL.getD v []=w at*
 have F:=And.intro AcO vx;refine exF (atO 8 (onc 1 (ocq 0 q1) noc) (atO 28 (onc 2 (ocq 0 q2) (onc 6 (ocq 0 q3) noc)) (atO 29 (onc 1 (ocq 0 q4) (onc 3 (ocq 0 q5) noc)) noO))) Gj ?_;clear F
 refine EX.ret (.agg (qyC ⟨t,sg,3,i,false,[],[],0,t2,w,m⟩)) [some (cdE L a8)] ?_ (fun C hN hk=>AW.ret (BY [some 0] [2] (by simp only[AY,go_sem,seval];rfl) (by simp[Az,lk,lkh,I,str,B,U8,U64,U32,cdE,qyC,B3,tz]<;>omega) (by first|(simp[Am,Ai,Ak,lkh,cdE,qyC,B3,tz];done)|simp[Am,Ai,Ak,lkh,I,str,cdE,qyC,B3,tz])))
 exact⟨_,a8,rfl,⟨tb,tb2,hs⟩,ha8⟩
theorem WC(L:List UInt8)(hL:L.length≤2^20)(t:Ts)(tb:TsB 2 t)(sg:List Sg)(hs:sg.length≤2∧ ∀ x∈sg,TsB 1 x.test)(a3 a4:Nat)(ha4:a4≤L.length)(q1:Ad Tryz.prog 20 [.ptr 0 2 0 0,I 5] [some (cdE L a3)] (I 4) [some (cdE L a4)]):
   EX 126 1 (R11 L) (fun x C=>AW Tryz.prog C GW (Di (Ao Tryz.prog) [.cell 2 31] x.1 x.2 1) 4 (IF L t sg a3)):=by
 dsimp only[GW,cR,En,Tryz.f18,Option.getD]
 simp only[IF,cdE,AA]
 refine exT (atO 8 (onc 1 (ocq 0 q1) noc) noO) Gj ?_
 refine EX.ret (.agg (qyC ⟨t,sg,0,0,false,[],[],0,tz,[],0⟩)) [some (cdE L a4)] ?_ (fun C hN hk=>AW.ret (BY [some 0] [2] (by simp only[AY,go_sem,seval];rfl) (by simp[Az,lk,lkh,I,str,B,U8,U64,U32,cdE,qyC,B3,tz]<;>omega) (by first|(simp[Am,Ai,Ak,lkh,cdE,qyC,B3,tz];done)|simp[Am,Ai,Ak,lkh,I,str,cdE,qyC,B3,tz])))
 exact⟨_,a4,rfl,⟨tb,tz0,hs⟩,ha4⟩
theorem Adq(L:List UInt8)(hL:L.length≤2^20)(a:Nat)(ha:a≤L.length):
   GX Tryz.prog 18 [.ptr 0 2 0 0] [some (cdE L a)] (R11 L):=by
 obtain⟨_,⟨t,a1,rfl,tb,ha1⟩,q1⟩:=OX 2 oM L hL a ha
 simp only[B3]at q1
 obtain⟨n,a2,ha2,nlt,q2⟩:=A9 L hL a1 3 ha1 oM oM
 refine GV 126 1 Tryz.func18 rfl rfl rfl sP rfl rfl ?_
 refine exT (atO 1 (onc 1 (ocq 0 q1) noc) (atO 2 (onc 1 (ocq 0 q2) noc) noO)) Gj ?_
 clear q1 q2
 apply EX.step
 · intro xX C hN hk hqX
   repeat first|with_reducible refine AW.seq ?_|with_reducible refine AW.block ?_
   exact hqX
 refine lpX 4 (fun s:Nat×List Sg×Nat=>⟨[(0,.ptr 0 2 0 0),(2,.ptr 1 19 0 0),(3,.ptr 2 19 0 0),(4,I s.1)],[(0,some ⟨98,2,[[.sl 1 (Ab L),I s.2.2]]⟩),(1,some ⟨31,19,[[I 0,str [],str [],I 0,AA,AA,I 0,I 0,B false,AA,AA,I 0,I 0,str [],str [],I 0,AA,str [],I 0]]⟩),(2,some ⟨31,19,[[I t.op,str t.name,str t.text,I t.num,.sl 5 (tsE t.kids),.osl 3 s.2.1.length 7,I 0,I 0,B false,AA,AA,I 0,I 0,str [],str [],I 0,AA,str [],I 0]]⟩),(3,some ⟨100,7,sgE s.2.1⟩)]⟩) (fun s=>s.2.1.length+s.1≤2∧s.2.2≤L.length∧ ∀ x∈s.2.1,TsB 1 x.test) (fun s=>s.1) (n,[],a2) (Cz (And.intro AA.eq_1 B.eq_1) [some 0,some 1,some 2,none] []) ?_
 intro ⟨j,sg,a3⟩ hI Y hY
 obtain⟨g1,ha3,g3⟩:=hI
 simp only at g1 ha3 g3
 cases j with
 |succ j=>
   have d0:decide (((j+1:Nat):Int)>0)=true:=by simp
   have e2:(((j+1:Nat):Int)-1)=(j:Int):=by omega
   have w8:=Ar (n:=(j:Int)) oM
   obtain⟨c,a4,ha4,clt,q1⟩:=A9 L hL a3 2 ha3 oM oM
   have F:=d0;refine exF (atO 5 (onc 1 (ocq 0 q1) noc) noO) Gj ?_;clear F
   by_cases hc:c=1
   · subst hc
     obtain⟨v,a5,ha5,vlt,q2⟩:=A9 L hL a4 4 ha4 oM oM
     have vx:=EW (l:=qsL) rfl vlt
     generalize qsL.getD v []=w at*
     obtain⟨s2,hs2⟩: ∃ s2,s2=sg++[⟨true,w,tz⟩]:=⟨_,rfl⟩
     have hsl:s2.length=sg.length+1:=by rw[hs2];simp
     have hsm: ∀ x∈s2,TsB 1 x.test:=by
       intro x hx
       rw[hs2]at hx
       rcases List.mem_append.1 hx with hx|hx
       · exact g3 x hx
       · rw[List.mem_singleton.1 hx];exact tz0
     have F:=And.intro AdE (And.intro vx (And.intro e2 w8));refine exF (atO 6 (onc 4 (ocq 0 q2) noc) noO) Gj ?_;clear F
     have hse:sgE s2=sgE sg++[[B true,str w,I 0,str [],str [],I 0,.sl 5 (tsE [])]]:=by rw[hs2];simp[sgE,sgC,B3,tz,B,I,str]
     refine eY hY ((j,s2,a5)) (CL [some 0,some 1,some 2,some 3] [] (by simp[AK,lk,lkh,I,str,B,U8,U64,U32,hse,hsl,AA,B,AF,AN]<;>omega) (by first|(simp[Am,Ai,Ak,lkh,hse,hsl,AA,B,AF,AN];done)|simp[Am,Ai,Ak,lkh,I,str,hse,hsl,AA,B,AF,AN]))
   · have dc:((c:Int)==1)=false:=by simp;omega
     simp only[dc]
     obtain⟨_,⟨t2,a5,rfl,tb2,ha5⟩,q2⟩:=OX 1 oM L hL a4 ha4
     simp only[B3]at q2
     obtain⟨s2,hs2⟩: ∃ s2,s2=sg++[⟨false,[],t2⟩]:=⟨_,rfl⟩
     have hsl:s2.length=sg.length+1:=by rw[hs2];simp
     have hsm: ∀ x∈s2,TsB 1 x.test:=by
       intro x hx
       rw[hs2]at hx
       rcases List.mem_append.1 hx with hx|hx
       · exact g3 x hx
       · rw[List.mem_singleton.1 hx];exact tb2
     have F:=And.intro e2 w8;refine exF (atO 7 (onc 3 (ocq 0 q2) noc) noO) Gj ?_;clear F
     have hse:sgE s2=sgE sg++[[.val (.bool false),.val (.string ⟨#[]⟩),.val (.int .i64 t2.op),.val (.string ⟨t2.name.toArray⟩),.val (.string ⟨t2.text.toArray⟩),.val (.int .i64 t2.num),.sl 5 (tsE t2.kids)]]:=by rw[hs2];simp[sgE,sgC,B3,B,I,str]
     refine eY hY ((j,s2,a5)) (CL [some 0,some 1,some 2,some 3] [] (by simp[AK,lk,lkh,I,str,B,U8,U64,U32,hse,hsl,AA,B,AF,AN]<;>omega) (by first|(simp[Am,Ai,Ak,lkh,hse,hsl,AA,B,AF,AN];done)|simp[Am,Ai,Ak,lkh,I,str,hse,hsl,AA,B,AF,AN]))
 |zero=>
   have hs:sg.length≤2∧ ∀ x∈sg,TsB 1 x.test:=⟨oM,g3⟩
   have d0:decide (((0:Nat):Int)>0)=false:=by simp
   obtain⟨k,a4,ha4,klt,q1⟩:=A9 L hL a3 5 ha3 oM oM
   apply EX.step
   · intro xX C hN hk hqX
     repeat first|with_reducible refine AW.seq ?_|with_reducible refine AW.block ?_
     refine rG hN hk noc [0] [0,2,3,4,13] fun K hK=>?_;simp only[go_sem,seval,d0]
     try simp (disch:=omega) only[au]
     refine hK _ _ ?_;clear hK K
     repeat first|with_reducible refine CH ?_|with_reducible refine As ?_
     exact hqX
   apply EX.step
   · intro xX C hN hk hqX
     repeat first|with_reducible refine AW.seq ?_|with_reducible refine AW.block ?_
     refine cF ?_
     try first|refine AW.skip ?_|refine AW.exit ?_
     repeat first|with_reducible refine Ba ?_|with_reducible refine BZ ?_|with_reducible refine KF dC ?_|with_reducible refine CH ?_|with_reducible refine As ?_
     exact hqX
   refine Wd 4 (IF L t sg a3) (by simp only[IF,cdE];exact(Hb AA.eq_1 [some 0,some 1,some 2,some 3] [])) ?_
   obtain rfl|rfl|rfl|rfl|rfl:k=0∨k=1∨k=2∨k=3∨k=4:=by omega
   · exact Yf L hL t tb sg hs a3 a4 ha4 q1
   · exact XT L hL t tb sg hs a3 a4 ha4 q1
   · exact WZ L hL t tb sg hs a3 a4 ha4 q1
   · exact Xh L hL t tb sg hs a3 a4 ha4 q1
   · exact WC L hL t tb sg hs a3 a4 ha4 q1
end Go.Proofs.YtpkhodjlnodagaaGreatDoor
namespace Go.Proofs.YtpkhodjlnodagaaGreatDoor
open Go.Av
theorem QB: ∀ (l:List Ev) (x:Ev) (p:Nat→Bool),CI (l++[x]) p=CI l p++(if p l.length then [x]else [])
 | [],x,p=>by simp[CI]
 |y::l,x,p=>by
   simp only[List.cons_append,CI,QB l x,List.length_cons]
   split<;>rfl
theorem N3: ∀ (l:List Ev) (p q:Nat→Bool),(∀ i,i<l.length→p i=q i)→CI l p=CI l q
 | [],_,_,_=>rfl
 |y::l,p,q,h=>by
   simp only[CI]
   rw[h 0 sP,N3 l _ (fun i=>q (i+1)) (fun i hi=>h (i+1) sO)]
def pOf(C:List (Nat×Option Nat))(j i:Nat):Bool:=match C[i]? with
 |some (k,o)=>j==k||o==some j
 |none=>false
def scX(l:List Ev)(m:Nat)(C:List (Nat×Option Nat)):List (List Ev):=(List.range m).map fun j=>CI (l.take C.length) (pOf C j)
def GI(X:List (List Ev))(p:Nat)(x:Ev):List (List Ev):=X.set p (X.getD p []++[x])
theorem Iv(X:List (List Ev))(p:Nat)(f:Ev):(GI X p f).length=X.length:=by simp[GI]
theorem Ef(l:List Ev)(m:Nat)(C:List (Nat×Option Nat)):(scX l m C).length=m:=by simp[scX]
theorem Ol(l:List Ev)(m:Nat)(C:List (Nat×Option Nat))(j:Nat)(h:j<m):(scX l m C).getD j []=CI (l.take C.length) (pOf C j):=by simp[scX,List.getD,h]
theorem AhN(l:List Ev)(m:Nat):scX l m []=List.replicate m []:=by
 unfold scX
 simp only[List.length_nil,List.take_zero,CI]
 rw[List.map_const',List.length_range]
theorem Lm(X:List (List Ev))(p j:Nat)(x:Ev)(hp:p<X.length):(GI X p x).getD j []=X.getD j []++(if j==p then [x]else []):=by
 unfold GI
 by_cases h:j=p
 · subst h;simp[List.getD,hp]
 · have:(j==p)=false:=by simpa using h
   simp[List.getD,List.getElem?_set_ne (Ne.symm h),this]
theorem P7{A B:List (List Ev)}(h:A.length=B.length)(hg: ∀ j,j<A.length→A.getD j []=B.getD j []):A=B:=by
 apply List.ext_getElem h
 intro j h1 h2
 have:=hg j h1
 simpa [List.getD,h1,h2] using this
theorem AhI(l:List Ev)(m:Nat)(C:List (Nat×Option Nat))(h:C.length<l.length)(k:Nat)(hk:k<m)(o:Option Nat)(ho: ∀ k2,o=some k2→k2<m∧k2≠k):
   scX l m (C++[(k,o)])=match o with
     |none=>GI (scX l m C) k l[C.length]
     |some k2=>GI (GI (scX l m C) k l[C.length]) k2 l[C.length]:=by
 have key: ∀ j,j<m→(scX l m (C++[(k,o)])).getD j []=(scX l m C).getD j []++(if(j==k||o==some j)then [l[C.length]]else []):=by
   intro j hj
   rw[Ol _ _ _ _ hj,Ol _ _ _ _ hj,List.length_append,List.length_singleton,List.take_add_one,List.getElem?_eq_getElem h]
   simp only[Option.toList]
   rw[QB]
   have h1:(l.take C.length).length=C.length:=by simp;omega
   rw[h1]
   congr 1
   · apply N3
     intro i hi
     rw[h1]at hi
     unfold pOf
     rw[List.getElem?_append_left hi]
   · have:pOf (C++[(k,o)]) j C.length=(j==k||o==some j):=by
       unfold pOf
       rw[List.getElem?_append_right (Nat.le_refl _)]
       simp
     rw[this]
 cases o with
 |none=>
   apply P7
   · rw[Iv,Ef,Ef]
   · intro j hj
     rw[Ef]at hj
     rw[key j hj,Lm _ _ _ _ (by rw[Ef];exact hk)]
     simp
 |some k2=>
   obtain⟨h1,h2⟩:=ho k2 rfl
   apply P7
   · rw[Iv,Iv,Ef,Ef]
   · intro j hj
     rw[Ef]at hj
     rw[key j hj,Lm _ _ _ _ (by rw[Iv,Ef];exact h1),Lm _ _ _ _ (by rw[Ef];exact hk),List.append_assoc]
     congr 1
     by_cases e1:j=k
     · subst e1
       have:(j==k2)=false:=by simpa using Ne.symm h2
       simp[this,Ne.symm h2,h2]
     · have e1':(j==k)=false:=by simpa using e1
       by_cases e2:j=k2
       · subst e2;simp[e1']
       · have e2':(j==k2)=false:=by simpa using e2
         have: ¬ k2=j:=fun h=>e2 h.symm
         simp[e1',e2',this]
theorem Ll: ∀ (f d:List S),f.Pairwise ltS→d.Pairwise ltS→(∀ x∈d,x∈f)→d.length≤f.length
 | [],d,_,_,h=>by
   cases d with
   |nil=>simp
   |cons x d=>exact absurd (h x sP) sP
 |y::f,[],_,_,_=>by simp
 |y::f,x::d,hf,hd,h=>by
   have hf1:=List.pairwise_cons.1 hf
   have hd1:=List.pairwise_cons.1 hd
   by_cases e:x=y
   · subst e
     have:=Ll f d hf1.2 hd1.2 (fun z hz=>by
       rcases List.mem_cons.1 (h z (by simp[hz]))with e|e
       · have:=hd1.1 z hz
         rw[e]at this
         exact absurd this (C3 _)
       · exact e)
     simp;omega
   · have hxf:x∈f:=by
       rcases List.mem_cons.1 (h x sP)with h|h
       · exact absurd h e
       · exact h
     have hyx:=hf1.1 x hxf
     have:=Ll f (x::d) hf1.2 hd (fun z hz=>by
       rcases List.mem_cons.1 (h z hz)with e2|e2
       · rcases List.mem_cons.1 hz with e3|e3
         · subst e3;exact absurd e2 e
         · have:=EH hyx (hd1.1 z e3)
           rw[e2]at this
           exact absurd this (C3 _)
       · exact e2)
     simp at this ⊢;omega
theorem OH(L:List Ln)(h: ∀ x∈L,x.text.length≤100): ∀ i,(Hh L i).length≤i*101
 |0=>by simp[Hh]
 |i+1=>by
   have:=OH L h i
   have h2:(if 0<i then [10]else []:S).length≤1:=by split<;>simp
   rw[Hh]
   cases hx:L[i]? with
   |none=>simp only[List.length_append,List.length_nil];omega
   |some x=>
     have:=h x (List.mem_of_getElem? hx)
     simp only[List.length_append];omega
theorem U3(l:List Ev)(h: ∀ e∈l,DrE e): ∀ i,i≤l.length→(Fc l i).length≤i*304
 |0,_=>by simp[Fc]
 |i+1,hi=>by
   have h1:=U3 l h i oM
   have hd:=h l[i] (List.getElem_mem _)
   have h2:=OH l[i].lines hd.tx l[i].lines.length
   have h3:=E5 (BH l[i])
   have h4:=hd.nl
   have h5:(BH l[i]).length≤303:=by unfold BH;omega
   rw[SM l i oM,List.length_append];omega
theorem AcD{l:List Ev}(ha:Asc l)(hd: ∀ e∈l,DrE e)(hl:l.length≤36):SegG l:=by
 refine⟨oM,fun e he=>(hd e he).good,ha,?_,?_⟩
 · have:=Ll fnL (AH l) UD (BO _) (by
     intro x hx
     unfold AH at hx
     have hx:=(Cd _ _).1 hx
     unfold Fy at hx
     obtain⟨e,he,hx⟩:=List.mem_flatMap.1 hx
     obtain⟨f,hf,rfl⟩:=List.mem_map.1 hx
     exact(hd e (List.mem_of_mem_take he)).fn f hf)
   have h4:fnL.length=4:=rfl
   omega
 · have h1:=DA (Fc l l.length)
   have h2:=U3 l hd l.length (Nat.le_refl _)
   unfold AR;omega
theorem Rq{l l':List Ev}(hs:l'.Sublist l)(ha:Asc l)(hd: ∀ e∈l,DrE e)(hl:l.length≤36):SegG l':=
 AcD (ha.sublist hs) (fun e he=>hd e (hs.subset he)) (by have:=hs.length_le;omega)
end Go.Proofs.YtpkhodjlnodagaaGreatDoor
