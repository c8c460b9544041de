/- Part 38 of the proof of PlanCandidates. -/
import Derived.Test.YtpkhodjlnodagaaGreatDoorA16
import Derived.Test.YtpkhodjlnodagaaGreatDoorA36
import Derived.Test.YtpkhodjlnodagaaGreatDoorA37
set_option linter.unusedSimpArgs false
set_option linter.unusedVariables false
set_option linter.unusedSectionVars false
namespace Go.Proofs.YtpkhodjlnodagaaGreatDoor
open Go.Av
set_option maxHeartbeats 4000000
set_option maxRecDepth 10000
attribute [local irreducible] XH XO Ad Af A0
attribute [go_sem] spC
def DT:Int:=253402300799999
def C0:Int×Int:=(0,DT)
def F7:S:=[64,116,105,109,101]
abbrev tsA(t:Ts):AV:= .agg [I t.op,str t.name,str t.text,I t.num,.sl 5 (tsE t.kids)]
def I1(t:Ts):Int×Int:=if t.name=F7 then(if t.op=9∧t.num≤DT then(0,mxP t.num 0-1)else if t.op=10∧0≤t.num then(mnP t.num DT+1,DT)else if t.op=11 then Em C0 (t.num,t.num)else C0)else C0
def F8(ks:List Ts)(f:Ts→Int×Int)(i:Nat):Int×Int:=(ks.take i).foldl (fun s k=>Em s (f k)) C0
def LM(ks:List Ts)(f:Ts→Int×Int)(i:Nat):Int×Int:=(ks.take i).foldl (fun s k=>GW s (f k)) (1,0)
def tmS(t:Ts)(f:Ts→Int×Int):Int×Int:=if t.op=6 then F8 t.kids f t.kids.length else if t.op=7 then LM t.kids f t.kids.length else I1 t
def tmD:Nat→Ts→Int×Int
 |0,t=>tmS t fun _=>C0
 |d+1,t=>tmS t (tmD d)
theorem N4{α β:Type}(g:α→β→α)(z:α){l:List β}{i:Nat}{x:β}(h:l[i]? =some x):(l.take (i+1)).foldl g z=g ((l.take i).foldl g z) x:=by rw[List.take_add_one,h,List.foldl_append];rfl
theorem Tr{ks:List Ts}(f:Ts→Int×Int){i:Nat}{k:Ts}(h:ks[i]? =some k):F8 ks f (i+1)=Em (F8 ks f i) (f k):=N4 _ _ h
theorem Ac7{ks:List Ts}(f:Ts→Int×Int){i:Nat}{k:Ts}(h:ks[i]? =some k):LM ks f (i+1)=GW (LM ks f i) (f k):=N4 _ _ h
abbrev spE(s:Int×Int):Ent:=⟨192,2,[[I s.1,I s.2]]⟩
theorem PZ(t:Ts)(hn:CW t.num)(hkl:t.kids.length≤3)(f:Ts→Int×Int)(hf: ∀ k∈t.kids,Ad Tryz.prog 133 [tsA k] (fun r=>r=spC (f k))):Ad Tryz.prog 133 [tsA t] (fun r=>r=spC (tmS t f)):=by
 obtain⟨n1,n2⟩:=hn
 have andTo0:F8 t.kids f 0=(0,253402300799999):=rfl
 have orTo0:LM t.kids f 0=(1,0):=rfl
 refine Au 86 Tryz.func133 ?_
 refine Aa 0 [1,2] ?_
 refine Ae 1 ?_
 refine XO.raw (Ad9 (t:=192) (v:= .agg [I 0,I 253402300799999]) (ob:=2≤2) (BQ _) (fun hp'=>by simp only[H7,go_sem,Jk,List.map];rfl) (Nat.le_refl _)) ?_
 refine Ac 2 ?_
 any_goals(refine XO.done [1,2,3] ?_)
 refine Aa 2 [1,2,3,9] ?_
 refine Az 9 (fun c9=>?_) (fun c9=>?_)
 refine Aa 3 [2,3,14,15,16] ?_
 any_goals(refine AX 2 (fun i:Nat=>⟨[(2,.ptr 0 2 0 0),(3,.ptr 1 2 0 0),(14,.sl 5 (tsE t.kids)),(15,I t.kids.length),(16,I i)],[(0,some ⟨192,2,[[I 0,I 0]]⟩),(1,some (spE (F8 t.kids f i)))]⟩) (fun i=>i≤t.kids.length) (fun i=>t.kids.length-i) 0 (AD (And.intro spE.eq_1 andTo0) [some 0,some 1] []) ?_;rintro i hI0 Y0 hY0;skip)
 refine Aa 4 [2,3,14,15,16,17] ?_
 refine Az 17 (fun c17=>?_) (fun c17=>?_)
 refine XW.at 5 ?_;obtain⟨k,hx,hkm⟩:=Bd t.kids i (by omega);have hfs:=Tr f hx
 refine Bl 5 [2,3,5,14,15,16] ?_
 refine Ae 6 ?_
 refine Ac 2 ?_
 refine AC (hf k hkm) ?_;rintro _ rfl
 refine AC (Up (F8 t.kids f i).1 (F8 t.kids f i).2 (f k).1 (f k).2) ?_;rintro _ rfl
 refine Ac 1 ?_
 any_goals(refine XO.done [2,3,14,15,16] ?_)
 refine AJ 7 [2,3,14,15,16] ?_
 · refine XH.le ?_;exact eY hY0 (i+1) (AD (And.intro spE.eq_1 hfs) [some 0,some 1] [])
 any_goals(refine Aa 8 [1,2,3,25] ?_;refine Az 25 (fun c25=>?_) (fun c25=>?_))
 any_goals(refine Aa 9 [1,2,3] ?_;refine Aa 10 [2,3,31,32,33] ?_;refine AX 2 (fun i:Nat=>⟨[(2,.ptr 0 2 0 0),(3,.ptr 1 2 0 0),(31,.sl 5 (tsE t.kids)),(32,I t.kids.length),(33,I i)],[(0,some ⟨192,2,[[I 0,I 0]]⟩),(1,some (spE (LM t.kids f i)))]⟩) (fun i=>i≤t.kids.length) (fun i=>t.kids.length-i) 0 (AD (And.intro spE.eq_1 orTo0) [some 0,some 1] []) ?_;rintro i hI1 Y1 hY1;skip;refine Aa 11 [2,3,31,32,33,34] ?_;refine Az 34 (fun c34=>?_) (fun c34=>?_))
 any_goals(refine XW.at 12 ?_;obtain⟨k,hx,hkm⟩:=Bd t.kids i (by omega);have hfs:=Ac7 f hx;refine Bl 12 [2,3,7,31,32,33] ?_;refine Ae 13 ?_;refine Ac 2 ?_;refine AC (hf k hkm) ?_;rintro _ rfl;refine AC (AbL (LM t.kids f i).1 (LM t.kids f i).2 (f k).1 (f k).2) ?_;rintro _ rfl;refine Ac 1 ?_;refine XO.done [2,3,31,32,33] ?_;refine AJ 14 [2,3,31,32,33] ?_;(refine XH.le ?_;exact eY hY1 (i+1) (AD (And.intro spE.eq_1 hfs) [some 0,some 1] [])))
 any_goals(refine Aa 15 [1,2,3,42] ?_;refine By 42 (fun c42=>?_) (fun c42=>?_))
 any_goals(refine Ae 16 ?_;refine Ac 4 ?_;refine BV 50 (fun g50=>?_) (fun g50=>?_))
 any_goals(refine Ac 5 ?_;refine XO.done [1,2,3,46] ?_;(first|refine AM 46 ?_|refine Az 46 (fun c46=>?_) (fun c46=>?_)))
 any_goals refine AJ 17 [2,3] ?_
 any_goals(refine Ae 18 ?_;refine Ac 4 ?_;refine BV 64 (fun g64=>?_) (fun g64=>?_))
 any_goals(exfalso;omega)
 any_goals(refine Ac 5 ?_;refine XO.done [1,2,3,60] ?_;(first|refine AM 60 ?_|refine Az 60 (fun c60=>?_) (fun c60=>?_)))
 any_goals refine AJ 19 [2,3] ?_
 any_goals(refine Aa 20 [1,2,3,74] ?_;refine Az 74 (fun c74=>?_) (fun c74=>?_))
 any_goals(exfalso;omega)
 any_goals(refine Ae 21 ?_;refine Ac 6 ?_;refine AC (Up 0 DT t.num t.num) ?_;rintro _ rfl;refine Ac 1 ?_;refine XO.done [2,3] ?_)
 any_goals(refine Aa 22 [2] ?_;(refine Ap ?_;refine Bc ?_;simp only[tmS];first|(rw[if_pos c9,show t.kids.length=i by omega];rfl)|(rw[if_neg c9,if_pos c25,show t.kids.length=i by omega];rfl)|(rw[if_neg c9,if_neg c25];simp at c42;simp[I1,F7,Ax,spC,DT,C0,mxP,mnP,I, *];done)|(rw[if_neg c9,if_neg c25];simp at c42;simp[I1,F7,Ax,spC,DT,C0,mxP,mnP,I, *];omega)))
theorem QS: ∀ (d:Nat) (t:Ts),TsB d t→Ad Tryz.prog 133 [tsA t] (fun r=>r=spC (tmD d t))
 |0,t,h=>PZ t h.2.2.2.1 (by rw[h.2.2.2.2];simp) (fun _=>C0) (by rw[h.2.2.2.2];simp)
 |d+1,t,h=>PZ t h.2.2.2.1 h.2.2.2.2.1 (tmD d) (fun k hk=>QS d k (h.2.2.2.2.2 k hk))
def nzP(s:Int×Int):Int×Int:=if s.1>s.2 then(1,0)else s
abbrev spT(s:Int×Int):AV:= .tup [I s.1,I s.2]
def nrm(a b:Int):Int×Int:=nzP (mxP a 0,mnP b DT)
def orR(s k:Int×Int):Int×Int:=if k.1>k.2 then s else if s.1>s.2 then k else(mnP s.1 k.1,mxP s.2 k.2)
def JH(ks:List Ts)(f:Ts→Int×Int)(i:Nat):Int×Int:=(ks.take i).foldl (fun s k=>orR s (f k)) (1,0)
def Vi(ks:List Ts)(f:Ts→Int×Int):Int×Int:=if ks.any fun k=>decide ((f k).1>(f k).2)then(1,0)else nrm (F8 ks f ks.length).1 (F8 ks f ks.length).2
theorem AcD{ks:List Ts}(f:Ts→Int×Int){i:Nat}{k:Ts}(h:ks[i]? =some k):JH ks f (i+1)=orR (JH ks f i) (f k):=N4 _ _ h
def trS(t:Ts)(f:Ts→Int×Int):Int×Int:=if t.op=9∧t.name=F7 then nrm 0 (t.num-1)else if t.op=10∧t.name=F7 then nrm (t.num+1) DT else if t.op=11∧t.name=F7 then nrm t.num t.num else if t.op=6 then Vi t.kids f else if t.op=7 then JH t.kids f t.kids.length else C0
def trD:Nat→Ts→Int×Int
 |0,t=>trS t fun _=>C0
 |d+1,t=>trS t (trD d)
theorem AcQ(d:Nat)(t:Ts)(ht:TsB d t):Ad Tryz.prog 78 [tsA t] (fun r=>r=spT (nzP (tmD d t))):=by
 have q:=QS d t ht
 generalize tmD d t=z at*
 obtain⟨a,b⟩:=z
 refine Au 13 Tryz.func78 ?_
 refine Aa 0 [1] ?_
 refine Ae 1 ?_
 refine Ac 1 ?_
 refine AC (q) ?_;rintro _ rfl
 refine Ac 2 ?_
 any_goals(refine XO.done [4] ?_)
 refine Ae 2 ?_
 refine Ac 1 ?_
 refine AC (Np a b) ?_;rintro _ rfl
 any_goals(refine XO.done [4,8] ?_)
 refine Az 8 (fun c8=>?_) (fun c8=>?_)
 refine Aa 3 [2,3] ?_
 · refine Ap ?_;refine Bc ?_;simp[Ax,nzP,I,c8];done
 refine Aa 4 [2,3] ?_
 · refine Ap ?_;refine Bc ?_;simp[Ax,nzP,I,c8];done
theorem KO(a b:Int):Ad Tryz.prog 81 [I a,I b] (fun r=>r=spT (nrm a b)):=by
 refine Au 15 Tryz.func81 ?_
 refine Aa 0 [0,1] ?_
 refine Aa 1 [0,1] ?_
 refine Aa 2 [0,1,12] ?_
 refine Az 12 (fun c12=>?_) (fun c12=>?_)
 refine Aa 3 [4,5] ?_
 refine Ap ?_;refine Bc ?_;have c:mxP a 0>mnP b DT:=c12;simp only[Ax,nrm,nzP];rw[if_pos c];rfl
 refine Aa 4 [4,5] ?_
 refine Ap ?_;refine Bc ?_;have c: ¬ mxP a 0>mnP b DT:=c12;simp only[Ax,nrm,nzP];rw[if_neg c];rfl
theorem RI(t:Ts)(hn:CW t.num)(hkl:t.kids.length≤3)(f:Ts→Int×Int)(hf: ∀ k∈t.kids,Ad Tryz.prog 37 [tsA k] (fun r=>r=spT (f k))):Ad Tryz.prog 37 [tsA t] (fun r=>r=spT (trS t f)):=by
 obtain⟨n1,n2⟩:=hn
 have andTo0:F8 t.kids f 0=(0,253402300799999):=rfl
 have orTo0:JH t.kids f 0=(1,0):=rfl
 refine Au 132 Tryz.func37 ?_
 refine Aa 0 [1] ?_
 refine Ae 1 ?_
 refine Ac 4 ?_
 refine BV 18 (fun g18=>?_) (fun g18=>?_)
 any_goals(refine Ac 5 ?_;refine XO.done [1,14] ?_;(first|refine AM 14 ?_|refine By 14 (fun c14=>?_) (fun c14=>?_)))
 refine Ae 2 ?_
 refine EW 3 ?_
 refine AC (KO 0 (t.num-1)) ?_;rintro _ rfl
 refine Ac 4 ?_
 any_goals(refine XO.done [2,3] ?_)
 · refine Ap ?_;refine Bc ?_;(try simp at c14);(try simp at c29);(try simp at c44);simp[trS,F7,Ax,I,C0,DT, *];done
 any_goals(refine Ae 3 ?_;refine Ac 4 ?_;refine BV 33 (fun g33=>?_) (fun g33=>?_))
 exfalso;omega
 any_goals(refine Ac 5 ?_;refine XO.done [1,29] ?_;(first|refine AM 29 ?_|refine By 29 (fun c29=>?_) (fun c29=>?_)))
 any_goals(refine Ae 4 ?_;refine EW 3 ?_;refine AC (KO (t.num+1) 253402300799999) ?_;rintro _ rfl;refine Ac 4 ?_;refine XO.done [2,3] ?_;refine Ap ?_;refine Bc ?_;(try simp at c14);(try simp at c29);(try simp at c44);simp[trS,F7,Ax,I,C0,DT, *];done)
 any_goals(refine Ae 5 ?_;refine Ac 4 ?_;refine BV 48 (fun g48=>?_) (fun g48=>?_))
 any_goals(exfalso;omega)
 any_goals(refine Ac 5 ?_;refine XO.done [1,44] ?_;(first|refine AM 44 ?_|refine By 44 (fun c44=>?_) (fun c44=>?_)))
 any_goals(refine Ae 6 ?_;refine Ac 4 ?_;refine AC (KO t.num t.num) ?_;rintro _ rfl;refine Ac 4 ?_;refine XO.done [2,3] ?_;refine Ap ?_;refine Bc ?_;(try simp at c14);(try simp at c29);(try simp at c44);simp[trS,F7,Ax,I,C0,DT, *];done)
 any_goals(refine Aa 7 [1,60] ?_;refine Az 60 (fun c60=>?_) (fun c60=>?_))
 any_goals(exfalso;omega)
 any_goals(refine Aa 8 [1,4,5] ?_;refine Aa 9 [1,4,5,6] ?_;refine AX 1 (fun i:Nat=>⟨[(1,.ptr 0 5 0 0),(4,I (F8 t.kids f i).1),(5,I (F8 t.kids f i).2),(6,I i)],[(0,some ⟨26,5,[[I t.op,str t.name,str t.text,I t.num,.sl 5 (tsE t.kids)]]⟩)]⟩) (fun i=>i≤t.kids.length∧ ∀ k∈t.kids.take i,¬ (f k).1>(f k).2) (fun i=>t.kids.length-i) 0 (AD andTo0 [some 0] []) ?_ (h0:=⟨Nat.zero_le _,by simp⟩);rintro i hI0 Y0 hY0;skip;refine Aa 10 [1,4,5,6,68] ?_;refine Az 68 (fun c68=>?_) (fun c68=>?_))
 any_goals(refine XW.at 12 ?_;obtain⟨k,hx,hkm⟩:=Bd t.kids i (by omega);have hfs:=Tr f hx;refine Ae 12 ?_;refine Aq 5 ?_;refine AC (hf k hkm) ?_;rintro _ rfl;refine Aq 5 ?_;refine XO.done [1,4,5,6,7,8] ?_;refine Aa 13 [1,4,5,6,7,8,82] ?_;refine Az 82 (fun c82=>?_) (fun c82=>?_))
 any_goals(refine Aa 14 [2,3] ?_;refine Ap ?_;refine Bc ?_;have ha:(t.kids.any fun k=>decide ((f k).1>(f k).2))=true:=List.any_eq_true.2 ⟨k,hkm,decide_eq_true c82⟩;simp[trS,F7,Ax,I,Vi,c60,ha];done)
 any_goals(refine Aa 15 [1,4,5,6] ?_;refine AJ 11 [1,4,5,6] ?_;refine XH.le ?_;exact hY0 (i+1) (⟨by omega,fun k2 hk2=>by rw[List.take_add_one,hx]at hk2;rcases List.mem_append.1 hk2 with h|h;exact hI0.2 k2 h;simp at h;subst h;exact c82⟩) (by first|omega|(simp;done)|(simp;omega)) _ _ (AD (And.intro hfs (And.intro Em.eq_1 (And.intro mxP.eq_1 mnP.eq_1))) [some 0] []))
 any_goals(refine Ae 16 ?_;refine Ac 2 ?_;refine AC (KO _ _) ?_;rintro _ rfl;refine Ac 4 ?_;refine XO.done [2,3] ?_;refine Ap ?_;refine Bc ?_;obtain rfl:i=t.kids.length:=(by omega);have ha:(t.kids.any fun k=>decide ((f k).1>(f k).2))=false:=(by rw[List.any_eq_false];intro k hk;have:=hI0.2 k (by rw[List.take_length];exact hk);simpa using this);simp[trS,F7,Ax,I,Vi,c60,ha];done)
 any_goals(refine Aa 17 [1,94] ?_;refine Az 94 (fun c94=>?_) (fun c94=>?_))
 any_goals(exfalso;omega)
 any_goals(refine Aa 18 [1,9,10] ?_;refine Aa 19 [1,9,10,11] ?_;refine AX 1 (fun i:Nat=>⟨[(1,.ptr 0 5 0 0),(9,I (JH t.kids f i).1),(10,I (JH t.kids f i).2),(11,I i)],[(0,some ⟨26,5,[[I t.op,str t.name,str t.text,I t.num,.sl 5 (tsE t.kids)]]⟩)]⟩) (fun i=>i≤t.kids.length) (fun i=>t.kids.length-i) 0 (AD orTo0 [some 0] []) ?_;rintro i hI1 Y1 hY1;skip;refine Aa 20 [1,9,10,11,102] ?_;refine Az 102 (fun c102=>?_) (fun c102=>?_))
 any_goals(refine XW.at 22 ?_;obtain⟨k,hx,hkm⟩:=Bd t.kids i (by omega);have hfs:=AcD f hx;generalize hs0:JH t.kids f i=s0 at*;obtain⟨s1,s2⟩:=s0;simp only[orR]at hfs;refine Ae 22 ?_;refine Aq 5 ?_;refine AC (hf k hkm) ?_;rintro _ rfl;refine Aq 5 ?_;refine XO.done [1,9,10,11,12,13] ?_;refine Aa 24 [1,9,10,11,12,13,120] ?_;refine Az 120 (fun c120=>?_) (fun c120=>?_))
 any_goals(refine Aa 25 [1,9,10,11,12,13,124] ?_;refine Az 124 (fun c124=>?_) (fun c124=>?_))
 any_goals refine Aa 26 [1,9,10,11] ?_
 any_goals refine Aa 23 [1,9,10,11] ?_
 any_goals(refine AJ 21 [1,9,10,11] ?_;(refine XH.le ?_;(first|rw[if_pos c120]at hfs|rw[if_neg c120,if_pos c124]at hfs|rw[if_neg c120,if_neg c124]at hfs);exact eY hY1 (i+1) (AD (And.intro hfs (And.intro hs0 (And.intro mnP.eq_1 mxP.eq_1))) [some 0] [])))
 any_goals(refine Aa 27 [2,3] ?_;refine Ap ?_;refine Bc ?_;obtain rfl:i=t.kids.length:=(by omega);simp[trS,F7,Ax,I,c94];done)
 any_goals(refine Aa 28 [2,3] ?_;refine Ap ?_;refine Bc ?_;(try simp at c14);(try simp at c29);(try simp at c44);simp[trS,F7,Ax,I,C0,DT, *];done)
theorem T2: ∀ (d:Nat) (t:Ts),TsB d t→Ad Tryz.prog 37 [tsA t] (fun r=>r=spT (trD d t))
 |0,t,h=>RI t h.2.2.2.1 (by rw[h.2.2.2.2];simp) (fun _=>C0) (by rw[h.2.2.2.2];simp)
 |d+1,t,h=>RI t h.2.2.2.1 h.2.2.2.2.1 (trD d) (fun k hk=>T2 d k (h.2.2.2.2.2 k hk))
def spR(s:Int×Int):Prop:=0≤s.1∧s.2≤DT
theorem Ac9{s k:Int×Int}(h:spR s)(hk:spR k):spR (Em s k):=by
 unfold spR Em mxP mnP at*
 simp only
 split<;>split<;>omega
theorem AeZ{s k:Int×Int}(h:spR s)(hk:spR k):spR (GW s k):=by
 unfold spR GW mxP mnP at*
 split
 · exact hk
 · split
   · exact h
   · simp only
     split<;>split<;>omega
theorem Ab5{s k:Int×Int}(h:k.1>k.2):(Em s k).1>(Em s k).2:=by
 unfold Em mxP mnP;simp only
 split<;>split<;>omega
theorem Abn{s k:Int×Int}(h:s.1>s.2):(Em s k).1>(Em s k).2:=by
 unfold Em mxP mnP;simp only
 split<;>split<;>omega
theorem AfV{s:Int×Int}(h:spR s):nrm s.1 s.2=nzP s:=by
 have e1:mxP s.1 0=s.1:=by unfold mxP;unfold spR at h;split<;>omega
 have e2:mnP s.2 DT=s.2:=by unfold mnP;unfold spR at h;split<;>omega
 rw[nrm,e1,e2]
theorem OQ{s:Int×Int}(h:s.1>s.2):nzP s=(1,0):=by rw[nzP,if_pos h]
theorem IW{s:Int×Int}(h: ¬ s.1>s.2):nzP s=s:=by rw[nzP,if_neg h]
theorem Ji(s:Int×Int):(nzP s).1>(nzP s).2↔s.1>s.2:=by
 unfold nzP;split
 · simp_all
 · rfl
theorem O7:spR C0:=by unfold spR C0 DT;omega
theorem Yw{t:Ts}(h:CW t.num):spR (I1 t):=by
 obtain⟨h1,h2⟩:=h
 have hw:=O7
 unfold I1
 split
 · split
   · rename_i h3;unfold spR mxP DT at*;simp only;split<;>omega
   · split
     · unfold spR mnP DT at*;simp only;split<;>omega
     · split
       · unfold spR Em mxP mnP C0 DT;simp only;split<;>split<;>omega
       · exact hw
 · exact hw
theorem Vc{f:Ts→Int×Int}: ∀ (ks:List Ts) (s:Int×Int),(∀ k∈ks,spR (f k))→spR s→spR (ks.foldl (fun s k=>Em s (f k)) s)
 | [],s,_,hs=>hs
 |k::ks,s,h,hs=>Vc ks _ (fun x hx=>h x (by simp[hx])) (Ac9 hs (h k (by simp)))
theorem or_R{f:Ts→Int×Int}: ∀ (ks:List Ts) (s:Int×Int),(∀ k∈ks,spR (f k))→spR s→spR (ks.foldl (fun s k=>GW s (f k)) s)
 | [],s,_,hs=>hs
 |k::ks,s,h,hs=>or_R ks _ (fun x hx=>h x (by simp[hx])) (AeZ hs (h k (by simp)))
theorem Tg{f g:Ts→Int×Int}: ∀ (ks:List Ts) (s:Int×Int),(∀ k∈ks,nzP (f k)=g k)→(s.1>s.2→nzP (ks.foldl (fun s k=>Em s (f k)) s)=(1,0))∧
   nzP (ks.foldl (fun s k=>Em s (f k)) s)=if ks.any fun k=>decide ((g k).1>(g k).2)then(1,0)else nzP (ks.foldl (fun s k=>Em s (g k)) s)
 | [],s,_=>⟨fun h=>OQ h,by simp⟩
 |k::ks,s,h=>by
   obtain⟨a1,a2⟩:=Tg (f:=f) (g:=g) ks (Em s (f k)) (fun x hx=>h x (by simp[hx]))
   refine⟨fun hs=>a1 (Abn hs),?_⟩
   have hk:=h k (by simp)
   simp only[List.foldl_cons,List.any_cons]
   by_cases hg:(f k).1>(f k).2
   · have hg2:(g k).1>(g k).2:=by rw[← hk];exact(Ji _).2 hg
     rw[a1 (Ab5 hg)]
     simp[hg2]
   · have e:g k=f k:=by rw[← hk,IW hg]
     rw[a2]
     simp only[e,hg,decide_false,Bool.false_or]
theorem Xy{f g:Ts→Int×Int}: ∀ (ks:List Ts) (s:Int×Int),(∀ k∈ks,nzP (f k)=g k)→nzP (ks.foldl (fun s k=>GW s (f k)) s)=ks.foldl (fun s k=>orR s (g k)) (nzP s)
 | [],s,_=>rfl
 |k::ks,s,h=>by
   have ih:=Xy (f:=f) (g:=g) ks (GW s (f k)) (fun x hx=>h x (by simp[hx]))
   have hk:=h k (by simp)
   simp only[List.foldl_cons]
   rw[ih]
   congr 1
   rw[← hk]
   unfold GW orR
   by_cases h1:s.1>s.2
   · rw[if_pos h1]
     by_cases h2:(f k).1>(f k).2
     · rw[if_pos ((Ji _).2 h2),OQ h2,OQ h1]
     · rw[if_neg (fun h=>h2 ((Ji _).1 h)),if_pos ((Ji _).2 h1)]
   · rw[if_neg h1]
     by_cases h2:(f k).1>(f k).2
     · rw[if_pos h2,if_pos ((Ji _).2 h2)]
     · rw[if_neg h2,if_neg (fun h=>h2 ((Ji _).1 h)),if_neg (fun h=>h1 ((Ji _).1 h)),IW h2,IW h1]
       refine IW ?_
       unfold mnP mxP;simp only
       split<;>split<;>omega
theorem Yq{t:Ts}(h:CW t.num)(h6: ¬ t.op=6)(h7: ¬ t.op=7)(g:Ts→Int×Int):nzP (I1 t)=trS t g:=by
 obtain⟨n1,n2⟩:=h
 unfold I1 trS
 by_cases hn:t.name=F7
 · rw[if_pos hn]
   simp only[hn,and_true,h6,h7,if_false]
   by_cases h9:t.op=9
   · simp only[h9,true_and,if_true]
     simp only[show ¬ ((9:Int)=10) by decide,show ¬ ((9:Int)=11) by decide,false_and,if_false]
     unfold nrm nzP mxP mnP C0 DT
     repeat' split
     all_goals first|rfl|(simp at*;done)|(simp at*;omega)
   · simp only[h9,false_and,if_false]
     by_cases h10:t.op=10
     · simp only[h10,true_and,if_true]
       simp only[show ¬ ((10:Int)=11) by decide,if_false]
       unfold nrm nzP mxP mnP C0 DT
       repeat' split
       all_goals first|rfl|(simp at*;done)|(simp at*;omega)
     · simp only[h10,false_and,if_false]
       by_cases h11:t.op=11
       · simp only[h11,if_true]
         unfold nrm nzP Em mxP mnP C0 DT
         repeat' split
         all_goals first|rfl|(simp at*;done)|(simp at*;omega)
       · simp only[h11,if_false]
         exact IW (by unfold C0 DT;simp)
 · rw[if_neg hn]
   simp only[hn,and_false,h6,h7,if_false]
   exact IW (by unfold C0 DT;simp)
theorem TO{t:Ts}{f g:Ts→Int×Int}(hn:CW t.num)(hr: ∀ k∈t.kids,spR (f k))(hk: ∀ k∈t.kids,nzP (f k)=g k):nzP (tmS t f)=trS t g∧spR (tmS t f):=by
 unfold tmS
 by_cases h6:t.op=6
 · rw[if_pos h6]
   refine⟨?_,Vc _ _ (fun k h=>hr k (List.mem_of_mem_take h)) O7⟩
   rw[F8,List.take_length,(Tg t.kids C0 hk).2]
   unfold trS Vi
   simp only[h6,show ¬ ((6:Int)=9) by decide,show ¬ ((6:Int)=10) by decide,show ¬ ((6:Int)=11) by decide,false_and,if_false,if_true]
   split
   · rfl
   · rename_i hna
     rw[AfV]
     · rw[F8,List.take_length]
     · refine Vc _ _ (fun k h=>?_) O7
       have h':=List.mem_of_mem_take h
       rw[← hk k h']
       have:=hr k h'
       unfold nzP;split
       · unfold spR DT;simp
       · exact this
 · rw[if_neg h6]
   by_cases h7:t.op=7
   · rw[if_pos h7]
     refine⟨?_,or_R _ _ (fun k h=>hr k (List.mem_of_mem_take h)) (by unfold spR DT;simp)⟩
     rw[LM,List.take_length,Xy t.kids (1,0) hk]
     unfold trS JH
     simp only[h7,show ¬ ((7:Int)=9) by decide,show ¬ ((7:Int)=10) by decide,show ¬ ((7:Int)=11) by decide,show ¬ ((7:Int)=6) by decide,false_and,if_false,if_true,List.take_length]
     rfl
   · rw[if_neg h7]
     exact⟨Yq hn h6 h7 g,Yw hn⟩
theorem Rm: ∀ (d:Nat) (t:Ts),TsB d t→nzP (tmD d t)=trD d t∧spR (tmD d t)
 |0,t,h=>TO h.2.2.2.1 (by rw[h.2.2.2.2];simp) (by rw[h.2.2.2.2];simp)
 |d+1,t,h=>TO h.2.2.2.1 (fun k hk=>(Rm d k (h.2.2.2.2.2 k hk)).2) (fun k hk=>(Rm d k (h.2.2.2.2.2 k hk)).1)
theorem ZC(l:List S)(i:Nat)(s:S):(Ay l).set i [AV.val (.string ⟨s.toArray⟩)]=Ay (l.set i s):=by simp[Ay,List.map_set,str]
attribute [go_sem] ZC
def E0(A:List S)(x:S):Nat→Nat
 |0=>0
 |j+1=>if Op.bytesLess x (A.getD j [])then E0 A x j else j+1
def Hk(A:List S)(x:S):List S:=A.take (E0 A x A.length)++x::A.drop (E0 A x A.length)
def Dq(l:List S)(i:Nat):List S:=(l.take i).foldl Hk []
def Hm(l:List S):List S:=Dq l l.length
theorem Ze(A:List S)(x:S):(Hk A x).length=A.length+1:=by simp[Hk];omega
theorem PR: ∀ (l A:List S),(l.foldl Hk A).length=A.length+l.length
 | [],A=>rfl
 |x::l,A=>by rw[List.foldl_cons,PR l,Ze,List.length_cons];omega
theorem Jv(l:List S)(i:Nat)(h:i≤l.length):(Dq l i).length=i:=by rw[Dq,PR];simp;omega
theorem Abu{l:List S}{i:Nat}{x:S}(h:l[i]? =some x):Dq l (i+1)=Hk (Dq l i) x:=N4 _ _ h
theorem Agl(l:List S):Dq l 1++l.drop 1=l:=by
 cases l with
 |nil=>rfl
 |cons x l=>simp[Dq,Hk,E0]
def FZ(A:List S)(x:S)(j:Nat)(R:List S):List S:=A.take j++x::(A.drop j++R)
theorem Aez{l:List S}{i:Nat}{x:S}(h:l[i]? =some x):Dq l i++l.drop i=FZ (Dq l i) x i (l.drop (i+1)):=by
 obtain⟨hi,rfl⟩:=List.getElem?_eq_some_iff.1 h
 have hl:=Jv l i (by omega)
 have e:(Dq l i).drop i=[]:=List.drop_eq_nil_of_le (by omega)
 rw[FZ,List.take_of_length_le (l:=Dq l i) (by omega),e,List.drop_eq_getElem_cons hi];rfl
theorem X3(A:List S)(x:S)(j:Nat)(R:List S):(FZ A x j R).length=A.length+1+R.length:=by simp[FZ];omega
theorem Adx{A:List S}{x:S}{j:Nat}{R:List S}(h:j≤A.length):(FZ A x j R)[j]? =some x:=by
 rw[FZ,List.getElem?_append_right (by simp;omega)]
 simp[Nat.min_eq_left h]
theorem AdT{A:List S}{x a:S}{j:Nat}{R:List S}(h0:0<j)(ha:A[j-1]? =some a):(FZ A x j R)[j-1]? =some a:=by
 have:=(List.getElem?_eq_some_iff.1 ha).1
 rw[FZ,List.getElem?_append_left (by simp;omega),List.getElem?_take,if_pos (by omega)];exact ha
theorem Acx{A:List S}{x a:S}{j:Nat}{R:List S}(h0:0<j)(ha:A[j-1]? =some a):((FZ A x j R).set j a)[j-1]? =some a∧((FZ A x j R).set j a).set (j-1) x=FZ A x (j-1) R:=by
 have hl:=(List.getElem?_eq_some_iff.1 ha).1
 have e1:A.take j=A.take (j-1)++[a]:=by
   obtain⟨k,rfl⟩: ∃ k,j=k+1:=⟨j-1,by omega⟩
   rw[Nat.add_sub_cancel]at ha ⊢
   rw[List.take_add_one,ha];rfl
 have e2:A.drop (j-1)=a::A.drop j:=by
   obtain⟨h,e⟩:=List.getElem?_eq_some_iff.1 ha
   rw[List.drop_eq_getElem_cons h,e];congr 2;omega
 have e3:(FZ A x j R).set j a=A.take (j-1)++a::a::(A.drop j++R):=by
   rw[FZ,List.set_append_right _ _ (by simp;omega)]
   simp only[List.length_take,Nat.min_eq_left (show j≤A.length by omega),Nat.sub_self,List.set_cons_zero]
   rw[e1];simp
 rw[e3]
 constructor
 · rw[List.getElem?_append_right (by simp;omega)];simp[Nat.min_eq_left (show j-1≤A.length by omega)]
 · rw[List.set_append_right _ _ (by simp;omega)]
   simp only[List.length_take,Nat.min_eq_left (show j-1≤A.length by omega),Nat.sub_self,List.set_cons_zero]
   rw[FZ,e2];rfl
theorem AeH{A:List S}{x a:S}{j:Nat}(h0:0<j)(ha:A[j-1]? =some a):E0 A x j=if Op.bytesLess x a then E0 A x (j-1)else j:=by
 obtain⟨k,rfl⟩: ∃ k,j=k+1:=⟨j-1,by omega⟩
 rw[Nat.add_sub_cancel]at ha ⊢
 rw[E0,BC ha]
theorem Ado{l:List S}{i:Nat}{x:S}(h:l[i]? =some x):FZ (Dq l i) x (E0 (Dq l i) x i) (l.drop (i+1))=Dq l (i+1)++l.drop (i+1):=by
 have hl:=Jv l i (by have:=(List.getElem?_eq_some_iff.1 h).1;omega)
 rw[Abu h,Hk,hl,FZ];simp
theorem Y8(l:List S)(hl:l.length≤2^40):Af Tryz.prog 228 [.osl 0 l.length 1,I 0,I l.length] [some ⟨9,1,Ay l⟩] (.tup []) [some ⟨9,1,Ay (Hm l)⟩]:=by
 have h1:=Agl l
 rw[List.drop_one]at h1
 refine BB 49 1 Tryz.func228 ?_
 refine AJ 0 [0,1,2,6] ?_
 any_goals(refine AX 1 (fun i:Nat=>⟨[(0,.osl 0 l.length 1),(1,I 0),(2,I l.length),(6,I i)],[(0,some ⟨9,1,Ay (Dq l i++l.drop i)⟩)]⟩) (fun i=>1≤i) (fun i=>l.length+1-i) 1 (AD h1 [some 0] []) ?_;rintro i hI0 Y0 hY0;skip)
 refine Aa 1 [0,1,2,6,12] ?_
 refine Az 12 (fun c12=>?_) (fun c12=>?_)
 refine XW.at 3 ?_;obtain⟨x,hx,hxm⟩:=Bd l i (by omega);have hri:=Aez hx;have hre:=Ado hx;have hsl:=Jv l i (by omega);rw[hri];have hdl:(l.drop (i+1)).length=l.length- (i+1):=List.length_drop;have hrl: ∀ j,(FZ (Dq l i) x j (l.drop (i+1))).length=l.length:=fun j=>by rw[X3];omega
 refine Bl 3 [0,1,2,6,7] ?_
 any_goals(refine AX 1 (fun j:Nat=>⟨[(0,.osl 0 l.length 1),(1,I 0),(2,I l.length),(6,I i),(7,I j)],[(0,some ⟨9,1,Ay (FZ (Dq l i) x j (l.drop (i+1)))⟩)]⟩) (fun j=>j≤i∧E0 (Dq l i) x i=E0 (Dq l i) x j) (fun j=>j) i (AD trivial [some 0] []) ?_ (h0:=⟨Nat.le_refl _,rfl⟩);rintro j hI1 Y1 hY1;skip)
 refine Ae 4 ?_
 refine Aq 4 ?_
 refine BV 19 (fun g19=>?_) (fun g19=>?_)
 have h0j:=(show 0<j by omega);obtain⟨a,ha,ham⟩:=Bd (Dq l i) (j-1) (by omega);have hj1:((j:Int)-1).toNat=j-1:=(by omega);have r1:=Adx (A:=Dq l i) (x:=x) (j:=j) (R:=l.drop (i+1)) (by omega);have r2:=AdT (x:=x) (R:=l.drop (i+1)) h0j ha;obtain⟨r3,r4⟩:=Acx (x:=x) (R:=l.drop (i+1)) h0j ha;have r5:=AeH (x:=x) h0j ha;have hx:=r1
 any_goals refine Aq 6 ?_
 have hx:=hj1;have hx2:=r2
 any_goals(refine AP 3 ?_;(first|(refine AC (TL x a) ?_;rintro _ rfl)|refine Ac 1 ?_);refine Aq 1 ?_;refine XO.done [0,1,2,6,7,30] ?_;(first|refine AM 30 ?_|refine By 30 (fun c30=>?_) (fun c30=>?_)))
 refine Ae 6 ?_
 refine Aq 4 ?_
 refine AP 4 ?_
 have hx:=hj1;have hx2:=r2
 refine Aq 2 ?_
 have hx:=r1
 refine Aq 4 ?_
 refine Aq 1 ?_
 have hx:=r1
 refine Aq 1 ?_
 have hx:=hj1
 refine Aq 1 ?_
 have hx:=r3
 refine Aq 1 ?_
 any_goals(refine XO.done [0,1,2,6,7] ?_)
 refine AJ 5 [0,1,2,6,7] ?_
 · refine XH.le ?_;exact hY1 (j-1) (⟨by omega,by rw[hI1.2,r5,c30];rfl⟩) (by omega) _ _ (AD r4 [some 0] [])
 any_goals(refine AJ 2 [0,1,2,6] ?_;(refine XH.le ?_;(have hij:E0 (Dq l i) x i=j:=(by first|(have h0:=(show j=0 by omega);rw[hI1.2,h0];rfl)|(rw[hI1.2,r5,c30];rfl));rw[hij]at hre);exact eY hY0 (i+1) (AD hre [some 0] [])))
 have hfin:Dq l i++l.drop i=Hm l:=(by rw[List.drop_eq_nil_of_le (by omega),List.append_nil,Hm,Dq,Dq,List.take_of_length_le (by omega),List.take_length]);refine Ke [some 0] [] (hids:=⟨by simp[Al],by simp[Al],rfl⟩) (hwk:=by simp[Ax,lk,lkh,wk,wkL,wkE,I]) (hwh:=?_);simp[Am,Ai,Aj,lkh,wkE,wkL,wk,B,I,hfin]
theorem AdX(l:List S)(hl:l.length≤12)(k:Int):Af Tryz.prog 194 [.osl 0 l.length 1,I 0,I l.length,I k] [some ⟨9,1,Ay l⟩] (.tup []) [some ⟨9,1,Ay (Hm l)⟩]:=by
 refine BB 134 1 Tryz.func194 ?_
 refine Aa 0 [0,1,2,3,8] ?_
 refine Aa 1 [0,1,2,3,8,9] ?_
 any_goals(refine AX 1 (fun i:Nat=>⟨[(0,.osl 0 l.length 1),(1,I 0),(2,I l.length),(3,I k),(8,B true),(9,B true)],[(0,some ⟨9,1,Ay l⟩)]⟩) (fun i=>i=0) (fun i=>0) 0 (AD B.eq_1 [some 0] []) ?_ (h0:=rfl);rintro i hI0 Y0 hY0;skip)
 refine AJ 2 [0,1,2,3,8,9,10] ?_
 refine Aa 3 [0,1,2,3,8,9,10,23] ?_
 refine Az 23 (fun c23=>?_) (fun c23=>?_)
 any_goals(exfalso;omega)
 refine Ae 4 ?_
 refine Ac 3 ?_
 refine QA 0 (Y8 l (by omega)) ?_
 any_goals(refine XO.done [] ?_)
 refine Ap ?_;refine XB.ret [some 0] [] (hids:=⟨by simp[Al],by simp[Al],rfl⟩) (hwk:=by simp[Ax,lk,lkh,wk,wkL,wkE,I]) (hwh:=?_);simp[Am,Ai,Aj,lkh,wkE,wkL,wk,B,I]
theorem Ad4(x:Nat)(hx:x<2^64):Ad Tryz.prog 195 [U64 x] (fun r=>r=I (GF x)):=by
 refine Au 8 Tryz.func195 ?_
 refine Aa 0 [0] ?_
 refine Wf ?_
 refine Ae 2 ?_
 refine Ac 1 ?_
 refine AC (Wp x hx) ?_;rintro _ rfl
 refine Ac 1 ?_
 any_goals(refine XO.done [2] ?_)
 refine Ap ?_;exact Bc rfl
theorem AbJ(l:List S)(hl:l.length≤12):Af Tryz.prog 139 [.osl 0 l.length 1] [some ⟨9,1,Ay l⟩] (.tup []) [some ⟨9,1,Ay (Hm l)⟩]:=by
 refine BB 11 1 Tryz.func139 ?_
 refine Aa 0 [0,2] ?_
 refine XW.at 1 ?_;have hx:IntKind.u64.wrap ((l.length:Nat):Int)=l.length:=IntWalk.u64_in _ (by omega)
 refine Ae 1 ?_
 refine AP 4 ?_
 refine AC (Ad4 l.length (by omega)) ?_;rintro _ rfl
 refine QA 0 (AdX l hl _) ?_
 any_goals(refine XO.done [] ?_)
 refine Ke [some 0] [] (hids:=⟨by simp[Al],by simp[Al],rfl⟩) (hwk:=by simp[Ax,lk,lkh,wk,wkL,wkE,I]) (hwh:=?_);simp[Am,Ai,Aj,lkh,wkE,wkL,wk,B,I]
theorem AdA(l:List S)(hl:l.length≤2^40)(x:S):Ad Tryz.prog 193 [.sl 1 (Ay l),str x] (fun r=>r=I (Gz (fun y=>x==y) l)):=by
 refine Au 19 Tryz.func193 ?_
 refine Aa 0 [0,1] ?_
 refine Aa 1 [0,1,7,8] ?_
 any_goals(refine AX 0 (fun i:Nat=>⟨[(0,.sl 1 (Ay l)),(1,str x),(7,I l.length),(8,I i)],[]⟩) (fun i=>i≤l.length∧ ∀ y∈l.take i,(x==y)=false) (fun i=>l.length-i) 0 (HG [] []) ?_ (h0:=by simp);rintro i hI0 Y0 hY0;skip)
 refine XW.at 2 ?_;obtain⟨m1,m2⟩:=hI0
 refine Aa 2 [0,1,7,8,9] ?_
 refine Az 9 (fun c9=>?_) (fun c9=>?_)
 refine Aa 3 [0,1,5,7,8] ?_
 refine XW.at 4 ?_;obtain⟨y,hx,hxm⟩:=Bd l i (by omega)
 refine Bl 4 [0,1,5,7,8,16] ?_
 refine By 16 (fun c16=>?_) (fun c16=>?_)
 refine XW.at 5 ?_;have hfin:=Lw m2 hx c16
 refine Bl 5 [4] ?_
 refine Ap ?_;refine Bc ?_;rw[hfin];rfl
 refine AJ 6 [0,1,7,8] ?_
 · refine XH.le ?_;exact hY0 (i+1) (⟨by omega,EA m2 hx c16⟩) (by first|omega|(simp;done)|(simp;omega)) _ _ (HG [] [])
 refine XW.at 7 ?_;obtain rfl:i=l.length:=(by omega);rw[List.take_length]at m2;have hfin:=L7 m2
 refine Aa 7 [4] ?_
 refine Ap ?_;refine Bc ?_;rw[hfin];rfl
theorem Ach(l:List S)(hl:l.length≤2^40)(x:S):Ad Tryz.prog 138 [.sl 1 (Ay l),str x] (fun r=>r=B (l.any fun y=>x==y)):=by
 refine Au 9 Tryz.func138 ?_
 refine Aa 0 [0,1] ?_
 refine Ae 1 ?_
 refine Ac 2 ?_
 refine AC (AdA l hl x) ?_;rintro _ rfl
 refine Ac 2 ?_
 any_goals(refine XO.done [4] ?_)
 refine Ap ?_;refine Bc ?_;rw[← Jm];rfl
theorem Adb(l:List S)(hl:l.length≤2^40)(x:S):Ad Tryz.prog 137 [str x,.rp [.sl 1 (Ay l)]] (fun r=>r=B (!(l.any fun y=>x==y))):=by
 refine Au 8 Tryz.func137 ?_
 refine Aa 0 [0,1] ?_
 refine Ae 1 ?_
 refine Ac 2 ?_
 refine AC (Ach l hl x) ?_;rintro _ rfl
 refine Ac 2 ?_
 any_goals(refine XO.done [3] ?_)
 refine Ap ?_;exact Bc rfl
def kpT(p:S→Bool)(l:List S)(j:Nat):List S:=(l.take j).filter fun x=>!p x
def Fk(K l:List S):List S:=K++l.drop K.length
theorem Aag{p:S→Bool}{l:List S}{j:Nat}{x:S}(h:l[j]? =some x):kpT p l (j+1)=kpT p l j++(if p x=false then [x]else []):=by
 rw[kpT,List.take_add_one,h,List.filter_append,kpT]
 cases hp:p x<;>simp[hp]
theorem Ue(p:S→Bool)(l:List S)(j:Nat):(kpT p l j).length≤j:=by
 have:=List.length_filter_le (fun x=>!p x) (l.take j)
 rw[List.length_take]at this
 unfold kpT;omega
theorem KB{K l:List S}(h:K.length≤l.length):(Fk K l).length=l.length:=by simp[Fk];omega
theorem Kq{K l:List S}{j:Nat}(h:K.length≤j):(Fk K l)[j]? =l[j]? :=by
 rw[Fk,List.getElem?_append_right h,List.getElem?_drop];congr 1;omega
theorem QW{K l:List S}(x:S)(h:K.length<l.length):(Fk K l).set K.length x=Fk (K++[x]) l:=by
 rw[Fk,List.set_append_right _ _ (Nat.le_refl _),Nat.sub_self,List.drop_eq_getElem_cons h,List.set_cons_zero,Fk];simp
theorem QU{K l:List S}(h:K.length≤l.length):(Ay (Fk K l)).take K.length++(List.replicate (l.length-K.length) [AV.val (.string ⟨#[]⟩)]++(Ay (Fk K l)).drop (K.length+(l.length-K.length)))=Ay (K++List.replicate (l.length-K.length) []):=by
 have hl:=KB h
 rw[PS,PX,List.drop_eq_nil_of_le (by omega),Fk,List.take_left' rfl]
 simp[Ay,str]
theorem Aa8{α:Type}{p:α→Bool}{l:List α}(h: ¬ Gz p l= -1): ∃ i x,Gz p l=((i:Nat):Int)∧l[i]? =some x∧p x=true∧ ∀ y∈l.take i,p y=false:=by
 unfold Gz at h ⊢
 cases hf:l.findIdx? p with
 |none=>rw[hf]at h;simp at h
 |some i=>
   obtain⟨hi,hp,hq⟩:=List.findIdx?_eq_some_iff_getElem.1 hf
   refine⟨i,l[i],rfl,List.getElem?_eq_getElem hi,hp,fun y hy=>?_⟩
   obtain⟨j,hj,rfl⟩:=List.mem_take_iff_getElem.1 hy
   have:=hq j (by omega)
   simpa using this
theorem AaZ{α:Type}{p:α→Bool}{l:List α}(h:Gz p l= -1): ∀ y∈l,p y=false:=by
 unfold Gz at h
 cases hf:l.findIdx? p with
 |none=>exact List.findIdx?_eq_none_iff.1 hf
 |some i=>rw[hf]at h;simp only at h;omega
theorem Ab3(g:Nat)(c:List AV)(hc:AE 0 c=true)(p:S→Bool)(l:List S)(hl:l.length≤2^40)(h: ∀ x∈l,Ad Tryz.prog g [str x,.rp c] (fun r=>r=B (p x))):Af Tryz.prog 136 [.osl 0 l.length 1,.fn g 0 [.rp c]] [some ⟨9,1,Ay l⟩] (.osl 0 (kpT p l l.length).length 1) [some ⟨9,1,Ay (kpT p l l.length)⟩]:=by
 refine BB 42 1 Tryz.func136 ?_
 refine Aa 0 [0,1] ?_
 refine Ae 1 ?_
 refine Ac 2 ?_
 refine Qi [0] rfl rfl (Xx g c p l hl h) ⟨F6 (by simp) rfl rfl (by simp) rfl,Cn _ _⟩ rfl ⟨by simp,by simp[lkh],trivial⟩ (.inr (fun r hr=>by subst hr;rfl)) ?_;rintro _ rfl
 refine Ac 1 ?_
 any_goals(refine XO.done [0,1,5] ?_)
 refine Aa 2 [0,1,5,12] ?_
 refine Az 12 (fun c12=>?_) (fun c12=>?_)
 refine XW.at 3 ?_;have hno:=AaZ c12;have hfin:kpT p l l.length=l:=(by rw[kpT,List.take_length,List.filter_eq_self];intro x hx;simp[hno x hx])
 refine Bl 3 [4] ?_
 refine Ap ?_;refine XB.ret [some 0] [] (hids:=⟨by simp[Al],by simp[Al],rfl⟩) (hwk:=by simp[Ax,lk,lkh,wk,wkL,wkE,I,hfin]) (hwh:=?_);simp[Am,Ai,Aj,lkh,wkE,wkL,wk,B,I,hfin]
 refine XW.at 4 ?_;obtain⟨i0,x0,hfi,hx0,hp0,hq0⟩:=Aa8 c12;have hx:=hfi;have hi0:=(List.getElem?_eq_some_iff.1 hx0).1;have hk0:kpT p l (i0+1)=l.take i0:=(by rw[Aag hx0,kpT,hp0];simp only[Bool.true_eq_false,if_false,List.append_nil];rw[List.filter_eq_self];intro x hx;simp[hq0 x hx]);have hkl:(kpT p l (i0+1)).length=i0:=(by rw[hk0];simp;omega);have hrl:Fk (kpT p l (i0+1)) l=l:=(by rw[Fk,hkl,hk0,List.take_append_drop])
 refine Ba 4 [0,1,5,6] ?_
 any_goals(refine AX 1 (fun j:Nat=>⟨[(0,.osl 0 l.length 1),(1,.fn g 0 [.rp c]),(5,I (kpT p l j).length),(6,I j)],[(0,some ⟨9,1,Ay (Fk (kpT p l j) l)⟩)]⟩) (fun j=>j≤l.length∧(kpT p l j).length<j) (fun j=>l.length-j) (i0+1) (AD (And.intro hkl hrl) [some 0] []) ?_ (h0:=⟨by omega,by omega⟩);rintro j hI0 Y0 hY0;skip)
 refine Aa 5 [0,1,5,6,19] ?_
 refine Az 19 (fun c19=>?_) (fun c19=>?_)
 refine XW.at 7 ?_;obtain⟨x,hx1,hxm⟩:=Bd l j (by omega);have hks:=Aag (p:=p) hx1;have hkj:=Ue p l j;have hx:=Kq (K:=kpT p l j) (l:=l) (j:=j) (by omega);rw[hx1]at hx;have hrn:=KB (K:=kpT p l j) (l:=l) (by omega);have hrs:=QW (K:=kpT p l j) (l:=l) x (by omega)
 refine Bl 7 [0,1,5,6,7] ?_
 refine Ae 8 ?_
 refine Ac 2 ?_
 refine KM (h x hxm) ?_;rintro _ rfl
 refine Ac 1 ?_
 any_goals(refine XO.done [0,1,5,6,7,29] ?_)
 refine By 29 (fun c29=>?_) (fun c29=>?_)
 refine XW.at 9 ?_;have hx:=Kq (K:=kpT p l j) (l:=l) (j:=(kpT p l j).length) (Nat.le_refl _);obtain⟨y,hy,hym⟩:=Bd l (kpT p l j).length (by omega);rw[hy]at hx
 refine Bl 9 [0,1,5,6] ?_
 refine AJ 10 [0,1,5,6] ?_
 any_goals(refine AJ 6 [0,1,5,6] ?_;refine XH.le ?_;(first|(have cc:p x=false:=(by simpa using c29);simp only[cc,if_true]at hks)|(have cc:p x=true:=(by simpa using c29);simp only[cc,Bool.true_eq_false,if_false,List.append_nil]at hks));exact hY0 (j+1) (⟨by omega,by rw[hks];first|omega|(simp;omega)⟩) (by first|omega|(simp;done)|(simp;omega)) _ _ (AD (And.intro hks (And.intro hrs cc)) [some 0] []))
 refine XW.at 11 ?_;obtain rfl:j=l.length:=(by omega);have hcl:=QU (K:=kpT p l l.length) (l:=l) (by omega);have hrn:=KB (K:=kpT p l l.length) (l:=l) (by omega);have hfin:(1:Nat)=1:=rfl
 refine Ae 11 ?_
 refine AP 3 ?_
 refine Wt (Ay (kpT p l l.length++List.replicate (l.length- (kpT p l l.length).length) [])) (x:= .tmp 38) (i:=0) (m:=l.length- (kpT p l l.length).length) (E:=⟨9,1,Ay (Fk (kpT p l l.length) l)⟩) (hd:=D28) (hte:=T9) (by omega) (by rw[FL,hrn];omega) hcl ?_
 any_goals(refine XO.done [0,5] ?_)
 refine Ae 12 ?_
 refine Ac 2 ?_
 refine Aao (Ay (kpT p l l.length)) ?_
 refine Ac 1 ?_
 any_goals(refine XO.done [4] ?_)
 refine Ap ?_;refine XB.ret [some 0] [] (hids:=⟨by simp[Al],by simp[Al],rfl⟩) (hwk:=by simp[Ax,lk,lkh,wk,wkL,wkE,I,hfin]) (hwh:=?_);simp[Am,Ai,Aj,lkh,wkE,wkL,wk,B,I,hfin]
def Cs(l:List S):Nat→List S
 |0=>[]
 |j+1=>match l[j]? with
   |some x=>if 0<j∧l[j-1]? =some x then Cs l j else Cs l j++[x]
   |none=>Cs l j
theorem Q1{l:List S}{j:Nat}{x:S}(h:l[j]? =some x):Cs l (j+1)=if 0<j∧l[j-1]? =some x then Cs l j else Cs l j++[x]:=by rw[Cs,h]
theorem Wo{l:List S}{j:Nat}{x y:S}(h:l[j]? =some x)(h0:0<j)(hy:l[j-1]? =some y)(e:x=y):Cs l (j+1)=Cs l j:=by rw[Q1 h,if_pos ⟨h0,by rw[hy,e]⟩]
theorem Wd{l:List S}{j:Nat}{x y:S}(h:l[j]? =some x)(hy:l[j-1]? =some y)(e: ¬ x=y):Cs l (j+1)=Cs l j++[x]:=by
 rw[Q1 h,if_neg]
 rintro⟨_,h2⟩;rw[hy]at h2;simp at h2;exact e h2.symm
theorem Nz(l:List S): ∀ j,(Cs l j).length≤j
 |0=>by simp[Cs]
 |j+1=>by
   have:=Nz l j
   rw[Cs];split
   · split
     · omega
     · simp;omega
   · omega
theorem Adw(l:List S):Cs l 1=l.take 1:=by
 cases l with
 |nil=>rfl
 |cons x l=>simp[Cs]
theorem Ab6(l:List S)(hl:l.length≤2^40):Af Tryz.prog 140 [.osl 0 l.length 1] [some ⟨9,1,Ay l⟩] (.osl 0 (Cs l l.length).length 1) [some ⟨9,1,Ay (Cs l l.length)⟩]:=by
 have hd1:=Adw l
 refine BB 61 1 Tryz.func140 ?_
 refine Aa 0 [0] ?_
 refine Aa 1 [0,8] ?_
 refine Az 8 (fun c8=>?_) (fun c8=>?_)
 refine XW.at 2 ?_;have hfin:Cs l l.length=l:=(by rcases Nat.eq_zero_or_pos l.length with h|h;(rw[List.eq_nil_of_length_eq_zero h];rfl);(rw[show l.length=1 by omega,hd1];exact List.take_of_length_le (by omega)))
 refine Aa 2 [2] ?_
 refine Ap ?_;refine XB.ret [some 0] [] (hids:=⟨by simp[Al],by simp[Al],rfl⟩) (hwk:=by simp[Ax,lk,lkh,wk,wkL,wkE,I,hfin]) (hwh:=?_);simp[Am,Ai,Aj,lkh,wkE,wkL,wk,B,I,hfin]
 refine Aa 3 [0,3] ?_
 any_goals(refine AX 1 (fun k:Nat=>⟨[(0,.osl 0 l.length 1),(3,I k)],[(0,some ⟨9,1,Ay l⟩)]⟩) (fun k=>1≤k∧k≤l.length∧Cs l k=l.take k) (fun k=>l.length-k) 1 (AD trivial [some 0] []) ?_ (h0:=⟨by omega,by omega,hd1⟩);rintro k hI0 Y0 hY0;skip)
 refine Aa 4 [0,3,13] ?_
 refine Az 13 (fun c13=>?_) (fun c13=>?_)
 refine XW.at 6 ?_;obtain⟨x,hx1,hxm⟩:=Bd l k (by omega);obtain⟨y,hy1,hym⟩:=Bd l (k-1) (by omega);have hk1:((k:Int)-1).toNat=k-1:=(by omega);have hdl:=Nz l k;have hdk:=hI0.2.2
 refine Ae 6 ?_
 refine Aq 2 ?_
 have hx:=hx1
 refine Aq 4 ?_
 have hx:=hk1;have hx2:=hy1
 refine AP 4 ?_
 any_goals(refine XO.done [0,3,25] ?_)
 refine By 25 (fun c25=>?_) (fun c25=>?_)
 refine XW.at 7 ?_;have hxy:x=y:=(by simpa using c25);have hdt:=Wo hx1 (by omega) hy1 hxy;have hkl:(Cs l (k+1)).length=k:=(by rw[hdt,hdk,List.length_take];omega);have hkr:Fk (Cs l (k+1)) l=l:=(by rw[Fk,hkl,hdt,hdk,List.take_append_drop])
 refine Ba 7 [0,3,4] ?_
 refine Aa 8 [0,3,4,5] ?_
 any_goals(refine AX 1 (fun q:Nat=>⟨[(0,.osl 0 l.length 1),(3,I (Cs l (k+q)).length),(4,.osv 0 k (l.length-k) 1),(5,I q)],[(0,some ⟨9,1,Ay (Fk (Cs l (k+q)) l)⟩)]⟩) (fun q=>1≤q∧k+q≤l.length∧(Cs l (k+q)).length<k+q) (fun q=>l.length-q) 1 (AD (And.intro hkl hkr) [some 0] []) ?_ (h0:=⟨by omega,by omega,by omega⟩);rintro q hI1 Y1 hY1;skip)
 refine Aa 9 [0,3,4,5,32] ?_
 refine Az 32 (fun c32=>?_) (fun c32=>?_)
 refine XW.at 11 ?_;obtain⟨u,hu1,hum⟩:=Bd l (k+q) (by omega);obtain⟨v,hv1,hvm⟩:=Bd l (k+q-1) (by omega);have hq1:((q:Int)-1).toNat=q-1:=(by omega);have hK:=hI1.2.2;have e1:=Kq (K:=Cs l (k+q)) (l:=l) (j:=k+q) (by omega);rw[hu1]at e1;have e2:=Kq (K:=Cs l (k+q)) (l:=l) (j:=k+q-1) (by omega);rw[hv1,Nat.add_sub_assoc (by omega)]at e2;have hrs:=QW (K:=Cs l (k+q)) (l:=l) u (by omega)
 refine Ae 11 ?_
 refine Aq 2 ?_
 have hx:=e1
 refine Aq 4 ?_
 have hx:=hq1;have hx2:=e2
 refine AP 4 ?_
 any_goals(refine XO.done [0,3,4,5,44] ?_)
 refine By 44 (fun c44=>?_) (fun c44=>?_)
 refine XW.at 12 ?_;have e3:=Kq (K:=Cs l (k+q)) (l:=l) (j:=(Cs l (k+q)).length) (Nat.le_refl _);obtain⟨z,hz,hzm⟩:=Bd l (Cs l (k+q)).length (by omega);rw[hz]at e3
 refine Ae 12 ?_
 refine Aq 4 ?_
 have hx:=e1
 refine Aq 2 ?_
 refine Aq 1 ?_
 have hx:=e3
 refine Aq 1 ?_
 any_goals(refine XO.done [0,3,4,5] ?_)
 refine AJ 13 [0,3,4,5] ?_
 any_goals(refine AJ 10 [0,3,4,5] ?_;refine XH.le ?_;(first|(have hsq:=Wd (j:=k+q) hu1 hv1 (by simpa using c44))|(have hsq:=Wo (j:=k+q) hu1 (by omega) hv1 (by simpa using c44)));exact hY1 (q+1) (⟨by omega,by omega,by rw[← Nat.add_assoc,hsq];first|omega|(simp;omega)⟩) (by first|omega|(simp;done)|(simp;omega)) _ _ (Cy [some 0] [] (by simp[AR,lk,lkh,I,str,B,U8,U64,U32,I,hsq,hrs,← Nat.add_assoc];first|done|omega) (by simp[Am,Ai,Aj,lkh,I,str,I,hsq,hrs,← Nat.add_assoc])))
 refine XW.at 14 ?_;have hK:=hI1.2.2;have hq:k+q=l.length:=(by omega);rw[hq]at hK ⊢;have hcl:=QU (K:=Cs l l.length) (l:=l) (by omega);have hrn:=KB (K:=Cs l l.length) (l:=l) (by omega);have hfin:(1:Nat)=1:=rfl
 refine Ae 14 ?_
 refine AP 3 ?_
 refine Wt (Ay (Cs l l.length++List.replicate (l.length- (Cs l l.length).length) [])) (x:= .tmp 56) (i:=0) (m:=l.length- (Cs l l.length).length) (E:=⟨9,1,Ay (Fk (Cs l l.length) l)⟩) (hd:=D28) (hte:=T9) (by omega) (by rw[FL,hrn];omega) hcl ?_
 any_goals(refine XO.done [0,3] ?_)
 refine Ae 15 ?_
 refine Ac 2 ?_
 refine Aao (Ay (Cs l l.length)) ?_
 refine Ac 1 ?_
 any_goals(refine XO.done [2] ?_)
 refine Ap ?_;refine XB.ret [some 0] [] (hids:=⟨by simp[Al],by simp[Al],rfl⟩) (hwk:=by simp[Ax,lk,lkh,wk,wkL,wkE,I,hfin]) (hwh:=?_);simp[Am,Ai,Aj,lkh,wkE,wkL,wk,B,I,hfin]
 refine AJ 5 [0,3] ?_
 · refine XH.le ?_;exact hY0 (k+1) (⟨by omega,by omega,by rw[Wd hx1 hy1 (by simpa using c25),hdk,List.take_add_one,hx1];rfl⟩) (by first|omega|(simp;done)|(simp;omega)) _ _ (AD trivial [some 0] [])
 refine XW.at 16 ?_;have hdk:=hI0.2.2;have hkn:k=l.length:=(by omega);have hfin:Cs l l.length=l:=(by rw[← hkn,hdk,hkn,List.take_length])
 refine Aa 16 [2] ?_
 refine Ap ?_;refine XB.ret [some 0] [] (hids:=⟨by simp[Al],by simp[Al],rfl⟩) (hwk:=by simp[Ax,lk,lkh,wk,wkL,wkE,I,hfin]) (hwh:=?_);simp[Am,Ai,Aj,lkh,wkE,wkL,wk,B,I,hfin]
def Jo(t:Ts):Option S:=if t.op=1 then some t.text else if t.op=4∧pfx t.name [64]=false then some (t.name++[61]++t.text)else none
def Pf(o:Option S):AV:= .tup [str (o.getD []),B o.isSome]
theorem Acu(t:Ts)(h1:t.name.length≤19)(h2:t.text.length≤19):Ad Tryz.prog 135 [tsA t] (fun r=>r=Pf (Jo t)):=by
 refine Au 31 Tryz.func135 ?_
 refine Aa 0 [1] ?_
 refine Aa 1 [1,5] ?_
 refine Az 5 (fun c5=>?_) (fun c5=>?_)
 refine Aa 2 [2,3] ?_
 · refine Ap ?_;refine Bc ?_;simp[Pf,Jo,Ax,str,B,c5];done
 refine Ae 3 ?_
 refine Ac 4 ?_
 refine BV 15 (fun g15=>?_) (fun g15=>?_)
 any_goals(refine Ac 2 ?_;(first|(refine AC (Aai t.name [64]) ?_;rintro _ rfl)|refine Ac 1 ?_);refine Ac 3 ?_;refine XO.done [1,11] ?_;(first|refine AM 11 ?_|refine By 11 (fun c11=>?_) (fun c11=>?_)))
 refine AJ 4 [4] ?_
 refine XW.at 5 ?_;have hl9:(t.name++[61]++t.text).length≤2048:=(by simp;omega);have hx:decide (((t.name++[61]++t.text).length:Int)≤2048)=true:=(by rw[decide_eq_true_iff];omega)
 refine Bl 5 [2,3] ?_
 · refine Ap ?_;refine Bc ?_;(try simp at c11);simp[Pf,Jo,Ax,str,B,c5,c11,g15];done
 any_goals(refine Aa 6 [2,3] ?_;(refine Ap ?_;first|((refine Bc ?_;(try simp at c11);simp[Pf,Jo,Ax,str,B,c5,c11,g15];done))|((refine Bc ?_;simp[Pf,Jo,Ax,str,B,c5,g15];done))))
def Ng(l:List S)(s:S):Bool:=l.any fun y=>s==y
def rqA(ks:List Ts)(f:Ts→List S)(i:Nat):List S:=(ks.take i).flatMap f
def rqO(ks:List Ts)(f:Ts→List S):Nat→List S
 |0=>[]
 |i+1=>match ks[i]? with
   |some k=>if i=0 then f k else kpT (fun s=>!(Ng (f k) s)) (rqO ks f i) (rqO ks f i).length
   |none=>rqO ks f i
theorem OJ{ks:List Ts}(f:Ts→List S){i:Nat}{k:Ts}(h:ks[i]? =some k):rqA ks f (i+1)=rqA ks f i++f k:=by rw[rqA,List.take_add_one,h,List.flatMap_append];simp[rqA]
theorem VI{ks:List Ts}(f:Ts→List S){i:Nat}{k:Ts}(h:ks[i]? =some k):rqO ks f (i+1)=if i=0 then f k else kpT (fun s=>!(Ng (f k) s)) (rqO ks f i) (rqO ks f i).length:=by rw[rqO,h]
theorem Pe{ks:List Ts}{f:Ts→List S}{m:Nat}(hf: ∀ k∈ks,(f k).length≤m): ∀ i,i≤ks.length→(rqA ks f i).length≤i*m
 |0,_=>by simp[rqA]
 |i+1,h=>by
   have hx:=List.getElem?_eq_getElem (l:=ks) (i:=i) (by omega)
   have:=Pe hf i (by omega)
   have:=hf ks[i] (List.getElem_mem _)
   rw[OJ f hx,List.length_append,Nat.succ_mul];omega
theorem T6{ks:List Ts}{f:Ts→List S}{m:Nat}(hf: ∀ k∈ks,(f k).length≤m): ∀ i,i≤ks.length→(rqO ks f i).length≤m
 |0,_=>by simp[rqO]
 |i+1,h=>by
   have hx:=List.getElem?_eq_getElem (l:=ks) (i:=i) (by omega)
   have h1:=T6 hf i (by omega)
   have:=hf ks[i] (List.getElem_mem _)
   rw[VI f hx]
   split
   · exact this
   · have:=Ue (fun s=>!(Ng (f ks[i]) s)) (rqO ks f i) (rqO ks f i).length
     omega
def C1(t:Ts)(f:Ts→List S)(i:Nat):List S:=if t.op=6 then rqA t.kids f i else if t.op=7 then rqO t.kids f i else []
def rqS(t:Ts)(f:Ts→List S):List S:=match Jo t with
 |some s=>[s]
 |none=>Cs (Hm (C1 t f t.kids.length)) (C1 t f t.kids.length).length
def rqD:Nat→Ts→List S
 |0,t=>rqS t fun _=>[]
 |d+1,t=>rqS t (rqD d)
theorem QN{t:Ts}{f:Ts→List S}{m:Nat}(hf: ∀ k∈t.kids,(f k).length≤m)(hk:t.kids.length≤3)(i:Nat)(hi:i≤t.kids.length):(C1 t f i).length≤3*m:=by
 have h1:=Pe hf i hi
 have h2:=T6 hf i hi
 have h3:i*m≤3*m:=Nat.mul_le_mul_right m (by omega)
 unfold C1
 split
 · omega
 · split
   · omega
   · simp
theorem Nf(l:List S):(Hm l).length=l.length:=Jv l _ (Nat.le_refl _)
theorem Po{t:Ts}{f:Ts→List S}{m:Nat}(hf: ∀ k∈t.kids,(f k).length≤m)(hk:t.kids.length≤3):(rqS t f).length≤3*m+1:=by
 unfold rqS
 split
 · simp
 · have:=Nz (Hm (C1 t f t.kids.length)) (C1 t f t.kids.length).length
   have:=QN hf hk t.kids.length (Nat.le_refl _)
   omega
theorem Sa(t:Ts)(h1:t.name.length≤19)(h2:t.text.length≤19)(hkl:t.kids.length≤3)(f:Ts→List S)(m:Nat)(hm:3*m≤12)(hfl: ∀ k∈t.kids,(f k).length≤m)(hf: ∀ k∈t.kids,Af Tryz.prog 79 [tsA k] [] (.osl 0 (f k).length 1) [some ⟨9,1,Ay (f k)⟩]):Af Tryz.prog 79 [tsA t] [] (.osl 0 (rqS t f).length 1) [some ⟨9,1,Ay (rqS t f)⟩]:=by
 have q0:=Acu t h1 h2
 have hz:C1 t f 0=[]:=by unfold C1 rqA rqO;simp
 have hlen:=QN hfl hkl
 refine BB 55 0 Tryz.func79 ?_
 refine Aa 0 [1] ?_
 refine Ae 1 ?_
 refine Ac 1 ?_
 refine AC (q0) ?_;rintro _ rfl
 have hcs:Pf (Jo t)= .tup [str ((Jo t).getD []),B (Jo t).isSome]:=rfl;rw[hcs]
 refine Ac 5 ?_
 any_goals(refine XO.done [1,3,4] ?_)
 refine Aa 2 [1,3,14] ?_
 refine By 14 (fun c14=>?_) (fun c14=>?_)
 refine XW.at 3 ?_;obtain⟨s,hs⟩:=Option.isSome_iff_exists.1 c14;have hfin:rqS t f=[s]:=(by rw[rqS,hs]);rw[hs]
 refine Aa 3 [2] ?_
 · refine Ap ?_;refine XB.ret [some 0] [] (hids:=⟨by simp[Al],by simp[Al],rfl⟩) (hwk:=by simp[Ax,lk,lkh,wk,wkL,wkE,I,hfin]) (hwh:=?_);simp[Am,Ai,Aj,lkh,wkE,wkL,wk,B,I,str,Ay,hfin];done
 refine XW.at 4 ?_;have hs:Jo t=none:=(by simpa using c14);have hrs:rqS t f=Cs (Hm (C1 t f t.kids.length)) (C1 t f t.kids.length).length:=(by rw[rqS,hs])
 refine Aa 4 [1,5] ?_
 refine Aa 5 [1,5,18,19,20] ?_
 any_goals(refine AX 2 (fun i:Nat=>⟨[(1,.ptr 0 5 0 0),(5,.osl 1 (C1 t f i).length 1),(18,.sl 5 (tsE t.kids)),(19,I t.kids.length),(20,I i)],[(0,some ⟨26,5,[[I t.op,str t.name,str t.text,I t.num,.sl 5 (tsE t.kids)]]⟩),(1,some ⟨9,1,Ay (C1 t f i)⟩)]⟩) (fun i=>i≤t.kids.length) (fun i=>t.kids.length-i) 0 (AD hz [some 0,none] []) ?_;rintro i hI0 Y0 hY0;skip)
 refine Aa 6 [1,5,18,19,20,21] ?_
 refine Az 21 (fun c21=>?_) (fun c21=>?_)
 refine XW.at 7 ?_;obtain⟨k,hx,hkm⟩:=Bd t.kids i (by omega);have hAs:=OJ f hx;have hOs:=VI f hx;have hli:=hlen i (by omega)
 refine Bl 7 [1,5,6,7,18,19,20] ?_
 refine Ae 8 ?_
 refine Ac 1 ?_
 refine HE (hf k hkm) (hei:=by simp) ?_
 refine Ac 2 ?_
 any_goals(refine XO.done [1,5,6,8,18,19,20] ?_)
 refine Aa 9 [1,5,6,8,18,19,20,27] ?_
 refine Az 27 (fun c27=>?_) (fun c27=>?_)
 refine XW.at 10 ?_;have hfk:=hfl k hkm
 refine Aa 10 [1,5,18,19,20] ?_
 any_goals(refine Ae 11 ?_;refine Ac 4 ?_;refine BV 38 (fun g38=>?_) (fun g38=>?_))
 any_goals(refine Ac 4 ?_;refine XO.done [1,5,8,18,19,20,34] ?_;(first|refine AM 34 ?_|refine Az 34 (fun c34=>?_) (fun c34=>?_)))
 any_goals refine Aa 12 [1,5,18,19,20] ?_
 any_goals(refine Aa 13 [1,5,8,18,19,20,43] ?_;refine Az 43 (fun c43=>?_) (fun c43=>?_))
 any_goals(exfalso;omega)
 any_goals(refine XW.at 14 ?_;refine EG 14 3 ⟨[(1,.ptr 0 5 0 0),(5,.osl 1 (C1 t f i).length 1),(8,.ptr 2 1 0 0),(18,.sl 5 (tsE t.kids)),(19,I t.kids.length),(20,I i)],[(0,some ⟨26,5,[[I t.op,str t.name,str t.text,I t.num,.sl 5 (tsE t.kids)]]⟩),(1,some ⟨9,1,Ay (C1 t f i)⟩),(2,some ⟨28,1,[[.sl 1 (Ay (f k))]]⟩)]⟩ ⟨[some 0,some 1,some 2],[3],⟨by simp[Al],by simp[Al],by rfl⟩,by simp,by simp[AR,lk,lkh,I],by simp[Am,Ai,Aj,lkh,I,str]⟩ ?_;refine EG 14 2 ⟨[(1,.ptr 0 5 0 0),(5,.osl 1 (C1 t f i).length 1),(8,.rp [.sl 1 (Ay (f k))]),(18,.sl 5 (tsE t.kids)),(19,I t.kids.length),(20,I i)],[(0,some ⟨26,5,[[I t.op,str t.name,str t.text,I t.num,.sl 5 (tsE t.kids)]]⟩),(1,some ⟨9,1,Ay (C1 t f i)⟩)]⟩ ⟨[some 0,some 1],[2],⟨by simp[Al],by simp[Al],by rfl⟩,by simp,by simp[AR,lk,lkh,I,AA,AE,AO],by simp[Am,Ai,Aj,lkh,I,str]⟩ ?_;refine Ae 14 ?_;refine Ac 2 ?_;refine V3 1 (Ab3 137 [.sl 1 (Ay (f k))] (by simp[AE,AO]) (fun s=>!(Ng (f k) s)) (C1 t f i) (by have:=hlen i (by omega);omega) (fun x _=>Adb (f k) (by have:=hfl k hkm;omega) x)) ?_;refine Ac 1 ?_;refine XO.done [1,5,18,19,20] ?_)
 any_goals(refine AJ 15 [1,5,18,19,20] ?_;(refine XH.le ?_;(first|(have hst:C1 t f (i+1)=C1 t f i++f k:=(by simp only[C1,c27,if_true];exact hAs))|(have hi0:=(show i=0 by omega);have hro: ∀ i,C1 t f i=rqO t.kids f i:=(fun i=>by rw[C1,if_neg c27,if_pos g38]);have hst:C1 t f (i+1)=f k:=(by rw[hro,hOs,if_pos hi0]))|(have hi0:=(show ¬ i=0 by omega);have hro: ∀ i,C1 t f i=rqO t.kids f i:=(fun i=>by rw[C1,if_neg c27,if_pos c43]);have hst:C1 t f (i+1)=kpT (fun s=>!(Ng (f k) s)) (C1 t f i) (C1 t f i).length:=(by rw[hro,hro,hOs,if_neg hi0]))|(have hst:C1 t f (i+1)=C1 t f i:=(by simp only[C1,if_neg c27,if_neg c43])));refine eY hY0 (i+1) (AD hst [some 0,some 1] [])))
 refine XW.at 16 ?_;obtain rfl:i=t.kids.length:=(by omega)
 refine Ae 16 ?_
 refine Ac 1 ?_
 refine QA 1 (AbJ (C1 t f t.kids.length) (by have:=hlen _ (Nat.le_refl _);omega)) ?_
 any_goals(refine XO.done [5] ?_)
 refine XW.at 17 ?_;have hfin:=hrs;have q17:=Ab6 (Hm (C1 t f t.kids.length)) (by have:=hlen _ (Nat.le_refl _);rw[Nf];omega);rw[Nf]at q17
 refine Ae 17 ?_
 refine Ac 1 ?_
 refine V3 0 q17 ?_
 refine Ac 1 ?_
 any_goals(refine XO.done [2] ?_)
 · refine Ap ?_;refine XB.ret [some 0] [] (hids:=⟨by simp[Al],by simp[Al],rfl⟩) (hwk:=by simp[Ax,lk,lkh,wk,wkL,wkE,I,hfin]) (hwh:=?_);simp[Am,Ai,Aj,lkh,wkE,wkL,wk,B,I,hfin];done
theorem Oc: ∀ (d:Nat) (t:Ts),TsB d t→d≤2→(rqD d t).length≤(if d=0 then 1 else if d=1 then 4 else 13)∧(d≤2→Af Tryz.prog 79 [tsA t] [] (.osl 0 (rqD d t).length 1) [some ⟨9,1,Ay (rqD d t)⟩])
 |0,t,h,hd=>by
   have hk:t.kids=[]:=h.2.2.2.2
   have h3:=Po (t:=t) (f:=fun _=>[]) (m:=0) (by simp) (by rw[hk];simp)
   exact⟨by rw[if_pos rfl];exact h3,fun _=>Sa t h.1 h.2.1 (by rw[hk];simp) (fun _=>[]) 0 (by decide) (by simp) (by rw[hk];simp)⟩
 |1,t,h,hd=>by
   have hk:=fun k hk=>(Oc 0 k (h.2.2.2.2.2 k hk) (by omega))
   have hl: ∀ k∈t.kids,(rqD 0 k).length≤1:=fun k h'=>(hk k h').1
   exact⟨by rw[if_neg (by decide),if_pos rfl];exact Po hl h.2.2.2.2.1,fun _=>Sa t h.1 h.2.1 h.2.2.2.2.1 (rqD 0) 1 (by decide) hl (fun k h'=>(hk k h').2 (by omega))⟩
 |2,t,h,hd=>by
   have hk:=fun k hk=>(Oc 1 k (h.2.2.2.2.2 k hk) (by omega))
   have hl: ∀ k∈t.kids,(rqD 1 k).length≤4:=fun k h'=>(hk k h').1
   exact⟨by rw[if_neg (by decide),if_neg (by decide)];exact Po hl h.2.2.2.2.1,fun _=>Sa t h.1 h.2.1 h.2.2.2.2.1 (rqD 1) 4 (by decide) hl (fun k h'=>(hk k h').2 (by omega))⟩
 |d+3,t,h,hd=>by omega
theorem TB{n:S}(h:(n==[])=false): ∃ c cs,n=c::cs:=by
 cases n with
 |nil=>simp at h
 |cons c cs=>exact⟨c,cs,rfl⟩
theorem Abm:pfx [] [64]=false:=rfl
theorem Rc(c:UInt8)(cs:S):pfx (c::cs) [64]=(c==64):=by
 simp[pfx,Bool.eq_iff_iff]
theorem AaN{c:UInt8}{cs:S}(h:((c.toNat:Int) !=64)=true):pfx (c::cs) [64]=false:=by
 rw[Rc,beq_eq_false_iff_ne];rintro rfl;simp at h
theorem Aar{c:UInt8}{cs:S}(h:((c.toNat:Int) !=64)=false):pfx (c::cs) [64]=true:=by
 have h1:(c.toNat:Int)=64:=by simpa using h
 rw[Rc,beq_iff_eq]
 apply UInt8.toNat_inj.1
 show c.toNat=64
 omega
theorem Tv{n:S}(h:(n==[])=true):n=[]:=by simpa using h
theorem Afh(t:Ts)(h1:t.name.length≤19)(h2:t.text.length≤19):Ad Tryz.prog 82 [tsA t] (fun r=>r= .tup [str (t.name++[61]++t.text),B (decide (t.op=4)&&!(pfx t.name [64]))]):=by
 have hl9:(t.name++[61]++t.text).length≤2048:=(by simp;omega)
 refine Au 31 Tryz.func82 ?_
 refine Aa 0 [1] ?_
 refine AJ 1 [1,4] ?_
 refine Ae 2 ?_
 refine Aq 5 ?_
 refine BV 15 (fun g15=>?_) (fun g15=>?_)
 any_goals refine Aq 4 ?_
 refine XO.split 19 (fun g19=>?_) (fun g19=>?_)
 all_goals try(obtain⟨c,cs,hcs⟩:=TB g19;have hx:t.name[0]? =some c:=(by rw[hcs];rfl))
 any_goals(refine Aq 7 ?_;(first|refine Gx 26 ?_|refine BE 26 ?_|refine XO.split 26 (fun g26=>?_) (fun g26=>?_)))
 any_goals(refine Aq 2 ?_;have hx:decide (((t.name++[61]++t.text).length:Int)≤2048)=true:=(by rw[decide_eq_true_iff];omega);refine Aq 4 ?_;refine XO.done [2,3] ?_;(refine Ap ?_;first|((refine Bc ?_;have e:=AaN (cs:=cs) g26;rw[← hcs]at e;simp[Ax,str,B,g15,e];done))|((refine Bc ?_;have e:=Aar (cs:=cs) g26;rw[← hcs]at e;simp[Ax,str,B,g15,e];done))|((refine Bc ?_;have e:=Tv g19;simp[Ax,str,B,g15,e,Abm];done))|((refine Bc ?_;simp[Ax,str,B,g15];done))))
theorem Aei(a b:List S)(ha:a.length≤2^30)(hb:b.length≤2^40):Ad Tryz.prog 84 [.sl 1 (Ay a),.sl 1 (Ay b)] (fun r=>r= .sl 1 (Ay (a.filter (C2 b)))):=by
 refine Au 33 Tryz.func84 ?_
 refine Aa 0 [0,1] ?_
 refine Aa 1 [0,1,5] ?_
 refine Aa 2 [0,1,5,6] ?_
 any_goals(refine AX 1 (fun i:Nat=>⟨[(0,.sl 1 (Ay a)),(1,.sl 1 (Ay b)),(5,.osl 0 ((a.take i).filter (C2 b)).length 1),(6,I i)],[(0,some ⟨9,1,Ay ((a.take i).filter (C2 b))⟩)]⟩) (fun i=>i≤a.length) (fun i=>a.length-i) 0 (AD Ay.eq_1 [none] []) ?_ (h0:=Nat.zero_le _);rintro i hI0 Y0 hY0;skip)
 refine Aa 3 [0,1,5,6,12] ?_
 refine Az 12 (fun c12=>?_) (fun c12=>?_)
 refine XW.at 5 ?_;obtain⟨x,hx,hxm⟩:=Bd a i (by omega);have hts:(a.take (i+1)).filter (C2 b)=(a.take i).filter (C2 b)++(if C2 b x=true then [x]else []):=(by rw[List.take_add_one,hx,List.filter_append];cases h:C2 b x<;>simp[h]);have hfl:=List.length_filter_le (C2 b) (a.take i);rw[List.length_take]at hfl
 refine Ae 5 ?_
 refine Aq 5 ?_
 refine AC (CL (Rf b x hb)) ?_;rintro _ rfl
 refine Aq 5 ?_
 any_goals(refine XO.done [0,1,5,6,8] ?_)
 refine Aa 6 [0,1,5,6,24] ?_
 refine By 24 (fun c24=>?_) (fun c24=>?_)
 refine Bl 7 [0,1,5,6] ?_
 any_goals(refine AJ 4 [0,1,5,6] ?_;(refine XH.le ?_;exact eY hY0 (i+1) (AD (And.intro hts c24) [some 0] [])))
 refine XW.at 8 ?_;obtain rfl:i=a.length:=(by omega)
 refine Aa 8 [4] ?_
 refine Ap ?_;exact Kv rfl
def rrO(ks:List Ts)(f:Ts→List S):Nat→List S
 |0=>[]
 |i+1=>match ks[i]? with
   |some k=>if i=0 then f k else(rrO ks f i).filter (C2 (f k))
   |none=>rrO ks f i
theorem Qw{ks:List Ts}(f:Ts→List S){i:Nat}{k:Ts}(h:ks[i]? =some k):rrO ks f (i+1)=if i=0 then f k else(rrO ks f i).filter (C2 (f k)):=by rw[rrO,h]
theorem Uj{ks:List Ts}{f:Ts→List S}{m:Nat}(hf: ∀ k∈ks,(f k).length≤m): ∀ i,i≤ks.length→(rrO ks f i).length≤m
 |0,_=>by simp[rrO]
 |i+1,h=>by
   have hx:=List.getElem?_eq_getElem (l:=ks) (i:=i) (by omega)
   have h1:=Uj hf i (by omega)
   have:=hf ks[i] (List.getElem_mem _)
   rw[Qw f hx]
   split
   · exact this
   · have:=List.length_filter_le (C2 (f ks[i])) (rrO ks f i)
     omega
def rrS(t:Ts)(f:Ts→List S):List S:=if t.op=1 then [t.text]else if t.op=4 then(if pfx t.name [64]then []else [t.name++[61]++t.text])else if t.op=6 then Bi (rqA t.kids f t.kids.length)else if t.op=7 then rrO t.kids f t.kids.length else []
def rrD:Nat→Ts→List S
 |0,t=>rrS t fun _=>[]
 |d+1,t=>rrS t (rrD d)
theorem XF(t:Ts)(h1:t.name.length≤19)(h2:t.text.length≤19)(hkl:t.kids.length≤3)(f:Ts→List S)(m:Nat)(hm:m≤100)(hfl: ∀ k∈t.kids,(f k).length≤m)(hf: ∀ k∈t.kids,Ad Tryz.prog 38 [tsA k] (fun r=>r= .sl 1 (Ay (f k)))):Ad Tryz.prog 38 [tsA t] (fun r=>r= .sl 1 (Ay (rrS t f))):=by
 have q0:=Afh t h1 h2
 have hAz:rqA t.kids f 0=[]:=rfl
 have hOz:rrO t.kids f 0=[]:=rfl
 have hla:=Pe hfl
 have hlo:=Uj hfl
 refine Au 68 Tryz.func38 ?_
 refine Aa 0 [1] ?_
 refine Aa 1 [1,11] ?_
 refine Aa 2 [1,11,12] ?_
 refine Az 12 (fun c12=>?_) (fun c12=>?_)
 refine Aa 3 [2] ?_
 refine Ap ?_;have hfin:rrS t f=[t.text]:=(by rw[rrS,if_pos c12]);rw[hfin];exact Kv rfl
 refine Aa 4 [1,11,17] ?_
 refine Az 17 (fun c17=>?_) (fun c17=>?_)
 refine Ae 5 ?_
 refine Ac 1 ?_
 refine AC (q0) ?_;rintro _ rfl
 refine Ac 5 ?_
 any_goals(refine XO.done [3,4] ?_)
 refine Aa 6 [3,24] ?_
 refine By 24 (fun c24=>?_) (fun c24=>?_)
 refine Aa 7 [2] ?_
 refine Ap ?_;have hp:pfx t.name [64]=false:=(by simp at c24;exact c24.2);have hfin:rrS t f=[t.name++[61]++t.text]:=(by rw[rrS,if_neg c12,if_pos c17,hp];rfl);rw[hfin];exact Kv rfl
 any_goals(refine Aa 8 [1,11,27] ?_;refine Az 27 (fun c27=>?_) (fun c27=>?_))
 any_goals(refine Aa 9 [1,5] ?_;refine Aa 10 [1,5,6] ?_;refine AX 2 (fun i:Nat=>⟨[(1,.ptr 0 5 0 0),(5,.osl 1 (rqA t.kids f i).length 1),(6,I i)],[(0,some ⟨26,5,[[I t.op,str t.name,str t.text,I t.num,.sl 5 (tsE t.kids)]]⟩),(1,some ⟨9,1,Ay (rqA t.kids f i)⟩)]⟩) (fun i=>i≤t.kids.length) (fun i=>t.kids.length-i) 0 (AD hAz [some 0,none] []) ?_;rintro i hI0 Y0 hY0;skip;refine XW.at 11 ?_;have hai:=hla i hI0;have ham:i*m≤3*m:=Nat.mul_le_mul_right m (by omega);refine Aa 11 [1,5,6,33] ?_;refine Az 33 (fun c33=>?_) (fun c33=>?_))
 any_goals(refine XW.at 13 ?_;obtain⟨k,hx,hkm⟩:=Bd t.kids i (by omega);have hAs:=OJ f hx;have hfk:=hfl k hkm;refine Ae 13 ?_;refine Aq 6 ?_;refine AC (hf k hkm) ?_;rintro _ rfl;refine Aq 2 ?_;refine XO.done [1,5,6] ?_;refine AJ 12 [1,5,6] ?_;(refine XH.le ?_;exact eY hY0 (i+1) (AD hAs [some 0,some 1] [])))
 any_goals(refine XW.at 14 ?_;obtain rfl:i=t.kids.length:=(by omega);refine Ae 14 ?_;refine Ac 1 ?_;refine AaM [1] [.sl 1 (Ay (rqA t.kids f t.kids.length))] (Gn _ _ (Nat.le_refl _) (by omega)) (hv:=⟨F6 (by simp) rfl rfl (by simp) rfl,trivial⟩) (hb:=by simp[DI,lkh]) ?_;refine Ac 1 ?_;refine XO.done [2] ?_;refine Ap ?_;have hfin:rrS t f=Bi (rqA t.kids f t.kids.length):=(by rw[rrS,if_neg c12,if_neg c17,if_pos c27]);rw[hfin];exact Kv rfl)
 any_goals(refine Aa 15 [1,46] ?_;refine Az 46 (fun c46=>?_) (fun c46=>?_))
 any_goals(refine Aa 16 [1,7] ?_;refine Aa 17 [1,7,8] ?_;refine AX 1 (fun i:Nat=>⟨[(1,.ptr 0 5 0 0),(7,.sl 1 (Ay (rrO t.kids f i))),(8,I i)],[(0,some ⟨26,5,[[I t.op,str t.name,str t.text,I t.num,.sl 5 (tsE t.kids)]]⟩)]⟩) (fun i=>i≤t.kids.length) (fun i=>t.kids.length-i) 0 (AD (And.intro hOz Ay.eq_1) [some 0] []) ?_;rintro i hI1 Y1 hY1;skip;refine Aa 18 [1,7,8,52] ?_;refine Az 52 (fun c52=>?_) (fun c52=>?_))
 any_goals(refine XW.at 20 ?_;obtain⟨k,hx,hkm⟩:=Bd t.kids i (by omega);have hOs:=Qw f hx;have hfk:=hfl k hkm;have hlo2:=hlo i hI1;refine Ae 20 ?_;refine Aq 5 ?_;refine AC (hf k hkm) ?_;rintro _ rfl;refine Aq 1 ?_;refine XO.done [1,7,8,9] ?_;refine Aa 21 [1,7,8,9,62] ?_;refine Az 62 (fun c62=>?_) (fun c62=>?_))
 any_goals refine Aa 22 [1,7,8] ?_
 any_goals(refine Ae 23 ?_;refine Ac 2 ?_;refine AC (Aei _ _ (by omega) (by omega)) ?_;rintro _ rfl;refine Ac 1 ?_;refine XO.done [1,7,8] ?_)
 any_goals(refine AJ 19 [1,7,8] ?_;(refine XH.le ?_;(first|(have hi0:=(show ¬ i=0 by omega);rw[if_neg hi0]at hOs)|(have hi0:=(show i=0 by omega);rw[if_pos hi0]at hOs));exact eY hY1 (i+1) (AD hOs [some 0] [])))
 any_goals(refine XW.at 24 ?_;obtain rfl:i=t.kids.length:=(by omega);refine Aa 24 [2] ?_;refine Ap ?_;have hfin:rrS t f=rrO t.kids f t.kids.length:=(by rw[rrS,if_neg c12,if_neg c17,if_neg c27,if_pos c46]);rw[hfin];exact BT rfl)
 any_goals(refine Aa 25 [2] ?_;(refine Ap ?_;first|((have hp:pfx t.name [64]=true:=(by simp[c17]at c24;exact c24);have hfin:rrS t f=[]:=(by rw[rrS,if_neg c12,if_pos c17,hp];rfl);rw[hfin];exact XP.ret [] (.sl 1 (Ay [])) rfl))|((have hfin:rrS t f=[]:=(by rw[rrS,if_neg c12,if_neg c17,if_neg c27,if_neg c46]);rw[hfin];exact XP.ret [] (.sl 1 (Ay [])) rfl))))
theorem Tk(A:List S)(x:S): ∀ j,E0 A x j≤j
 |0=>Nat.le_refl _
 |j+1=>by rw[E0];split;(have:=Tk A x j;omega);omega
theorem TR(A:List S)(x:S): ∀ j k,E0 A x j≤k→k<j→ltS x (A.getD k [])
 |0,k,_,h=>by omega
 |j+1,k,h1,h2=>by
   rw[E0]at h1
   split at h1
   · next h=>
     rcases Nat.lt_or_ge k j with h3|h3
     · exact TR A x j k h1 h3
     · rw[show k=j by omega];exact h
   · omega
theorem Ux(A:List S)(x:S): ∀ j,0<E0 A x j→ ¬ ltS x (A.getD (E0 A x j-1) [])
 |0,h=>by simp[E0]at h
 |j+1,h=>by
   rw[E0]at h ⊢
   split at h
   · next h1=>rw[if_pos h1];exact Ux A x j h
   · next h1=>rw[if_neg h1,Nat.add_sub_cancel];exact h1
def lqS(x y:S):Prop:= ¬ ltS y x
theorem WH{x y z:S}(h1:lqS x y)(h2:lqS y z):lqS x z:=by
 intro h
 rcases HO x y with a|a|a
 · rcases HO y z with b|b|b
   · exact JM (ES a b) h
   · subst b;exact JM a h
   · exact h2 b
 · subst a;exact h2 h
 · exact h1 a
theorem SL{A:List S}(x:S)(h:A.Pairwise lqS):(Hk A x).Pairwise lqS:=by
 have hle:=Tk A x A.length
 have hhi:=TR A x A.length
 have hlo:=Ux A x A.length
 unfold Hk
 generalize E0 A x A.length=j at*
 have hA:(A.take j++A.drop j).Pairwise lqS:=by rw[List.take_append_drop];exact h
 obtain⟨p1,p2,p3⟩:=List.pairwise_append.1 hA
 have hx1: ∀ y∈A.take j,lqS y x:=by
   intro y hy
   obtain⟨k,hk,rfl⟩:=List.mem_take_iff_getElem.1 hy
   have h1:=hlo (by omega)
   rw[show A.getD (j-1) []=A[j-1] by simp[List.getD,show j-1<A.length by omega]]at h1
   rcases Nat.lt_or_ge k (j-1)with h2|h2
   · exact WH (List.pairwise_iff_getElem.1 h k (j-1) (by omega) (by omega) h2) h1
   · have:k=j-1:=by omega
     subst this;exact h1
 have hx2: ∀ y∈A.drop j,lqS x y:=by
   intro y hy
   obtain⟨k,hk,rfl⟩:=List.mem_drop_iff_getElem.1 hy
   have h1:=hhi (j+k) (by omega) (by omega)
   rw[show A.getD (j+k) []=A[j+k] by simp[List.getD,show j+k<A.length by omega]]at h1
   exact JM h1
 rw[List.pairwise_append]
 refine⟨p1,List.pairwise_cons.2 ⟨hx2,p2⟩,?_⟩
 intro a ha b hb
 rcases List.mem_cons.1 hb with rfl|hb
 · exact hx1 a ha
 · exact p3 a ha b hb
theorem YN(A:List S)(x z:S):z∈Hk A x↔z=x∨z∈A:=by
 unfold Hk
 rw[List.mem_append,List.mem_cons]
 conv=>rhs;rw[← List.take_append_drop (E0 A x A.length) A,List.mem_append]
 constructor
 · rintro(h|h|h)
   · exact .inr (.inl h)
   · exact .inl h
   · exact .inr (.inr h)
 · rintro(h|h|h)
   · exact .inr (.inl h)
   · exact .inl h
   · exact .inr (.inr h)
theorem Sy: ∀ (l A:List S),A.Pairwise lqS→(l.foldl Hk A).Pairwise lqS∧ ∀ z,z∈l.foldl Hk A↔z∈l∨z∈A
 | [],A,h=>⟨h,fun z=>by simp⟩
 |x::l,A,h=>by
   obtain⟨h1,h2⟩:=Sy l (Hk A x) (SL x h)
   refine⟨h1,fun z=>?_⟩
   rw[List.foldl_cons,h2,YN,List.mem_cons]
   constructor
   · rintro(a|a|a)
     · exact .inl (.inr a)
     · exact .inl (.inl a)
     · exact .inr a
   · rintro((a|a)|a)
     · exact .inr (.inl a)
     · exact .inl a
     · exact .inr (.inr a)
theorem Ac1(l:List S):(Hm l).Pairwise lqS∧ ∀ z,z∈Hm l↔z∈l:=by
 have:=Sy (l.take l.length) [] List.Pairwise.nil
 refine⟨this.1,fun z=>?_⟩
 have h:=this.2 z
 rw[List.take_length]at h
 simpa [Hm,Dq] using h
theorem TE{l:List S}(h:l.Pairwise lqS): ∀ j,j≤l.length→(Cs l j).Pairwise ltS∧(∀ z,z∈Cs l j↔z∈l.take j)
 |0,_=>by simp[Cs]
 |j+1,hj=>by
   obtain⟨h1,h2⟩:=TE h j (by omega)
   have hx:=List.getElem?_eq_getElem (l:=l) (i:=j) (by omega)
   rw[Q1 hx,List.take_add_one,hx]
   split
   · next hc=>
     refine⟨h1,fun z=>?_⟩
     rw[h2]
     simp only[Option.toList,List.mem_append,List.mem_singleton]
     constructor
     · exact .inl
     · rintro(a|rfl)
       · exact a
       · obtain⟨hc1,hc2⟩:=hc
         rw[List.mem_take_iff_getElem]
         obtain⟨h3,h4⟩:=List.getElem?_eq_some_iff.1 hc2
         exact⟨j-1,by omega,h4⟩
   · next hc=>
     refine⟨?_,fun z=>by rw[List.mem_append,List.mem_append,h2];exact Iff.rfl⟩
     rw[List.pairwise_append]
     refine⟨h1,by simp,?_⟩
     intro a ha b hb
     simp at hb;subst hb
     have ha:=(h2 a).1 ha
     obtain⟨k,hk,rfl⟩:=List.mem_take_iff_getElem.1 ha
     have hle:lqS l[k] l[j]:=List.pairwise_iff_getElem.1 h k j (by omega) (by omega) (by omega)
     rcases HO l[k] l[j]with e|e|e
     · exact e
     · exfalso
       apply hc
       refine⟨by omega,?_⟩
       rw[List.getElem?_eq_getElem (by omega)]
       congr 1
       rcases Nat.lt_or_ge k (j-1)with h5|h5
       · have g1:lqS l[k] (l[j-1]'(by omega)):=List.pairwise_iff_getElem.1 h k (j-1) (by omega) (by omega) h5
         have g2:lqS (l[j-1]'(by omega)) l[j]:=List.pairwise_iff_getElem.1 h (j-1) j (by omega) (by omega) (by omega)
         rw[e]at g1
         rcases HO (l[j-1]'(by omega)) l[j]with q|q|q
         · exact absurd q g1
         · exact q
         · exact absurd q g2
       · have:k=j-1:=by omega
         subst this;exact e
     · exact absurd e hle
theorem P9{a b:List S}(ha:a.Pairwise ltS)(hb:b.Pairwise ltS)(h: ∀ z,z∈a↔z∈b):a=b:=by
 induction a generalizing b with
 |nil=>
   cases b with
   |nil=>rfl
   |cons y b=>exact absurd ((h y).2 (by simp)) (by simp)
 |cons x a ih=>
   cases b with
   |nil=>exact absurd ((h x).1 (by simp)) (by simp)
   |cons y b=>
     have ha':=List.pairwise_cons.1 ha
     have hb':=List.pairwise_cons.1 hb
     have e:x=y:=by
       rcases List.mem_cons.1 ((h x).1 (by simp))with e|e
       · exact e
       · rcases List.mem_cons.1 ((h y).2 (by simp))with e2|e2
         · exact e2.symm
         · exact absurd (ES (ha'.1 y e2) (hb'.1 x e)) (De _)
     subst e
     congr 1
     refine ih ha'.2 hb'.2 (fun z=>?_)
     constructor
     · intro hz
       rcases List.mem_cons.1 ((h z).1 (by simp[hz]))with e|e
       · subst e;exact absurd (ha'.1 z hz) (De _)
       · exact e
     · intro hz
       rcases List.mem_cons.1 ((h z).2 (by simp[hz]))with e|e
       · subst e;exact absurd (hb'.1 z hz) (De _)
       · exact e
theorem Abf(l:List S):Cs (Hm l) l.length=Bi l:=by
 obtain⟨h1,h2⟩:=Ac1 l
 have hl:=Nf l
 obtain⟨h3,h4⟩:=TE h1 l.length (by omega)
 refine P9 h3 (B2 l) (fun z=>?_)
 rw[h4,List.take_of_length_le (by omega),h2,C5]
theorem Xl{l:List S}(h:l.Pairwise ltS):Bi l=l:=P9 (B2 l) h (C5 l)
theorem G0{d:List S}{w:S}(hd:d.Pairwise ltS):C2 d w=true↔w∈d:=by
 unfold C2
 constructor
 · intro h
   split at h
   · next x hx=>simp at h;subst h;exact List.mem_of_getElem? hx
   · simp at h
 · intro h
   rw[(Fm d w hd h).1];simp
theorem Zn{d:List S}{w:S}:Ng d w=true↔w∈d:=by
 unfold Ng
 rw[List.any_eq_true]
 constructor
 · rintro⟨x,h1,h2⟩;rw[beq_iff_eq]at h2;rwa [h2]
 · intro h;exact⟨w,h,by simp⟩
theorem Tf{ks:List Ts}{f g:Ts→List S}(h: ∀ k∈ks,f k=g k∧(g k).Pairwise ltS): ∀ i,i≤ks.length→rqO ks f i=rrO ks g i∧(rrO ks g i).Pairwise ltS
 |0,_=>⟨rfl,List.Pairwise.nil⟩
 |i+1,hi=>by
   have hx:=List.getElem?_eq_getElem (l:=ks) (i:=i) (by omega)
   obtain⟨h1,h2⟩:=Tf h i (by omega)
   obtain⟨h3,h4⟩:=h ks[i] (List.getElem_mem _)
   rw[VI f hx,Qw g hx]
   by_cases h0:i=0
   · rw[if_pos h0,if_pos h0];exact⟨h3,h4⟩
   · rw[if_neg h0,if_neg h0]
     refine⟨?_,h2.filter _⟩
     rw[kpT,List.take_length,h1,h3]
     apply List.filter_congr
     intro x _
     simp only[Bool.not_not]
     rw[Bool.eq_iff_iff,Zn,G0 h4]
theorem Tz{ks:List Ts}{f g:Ts→List S}(h: ∀ k∈ks,f k=g k): ∀ i,i≤ks.length→rqA ks f i=rqA ks g i
 |0,_=>rfl
 |i+1,hi=>by
   have hx:=List.getElem?_eq_getElem (l:=ks) (i:=i) (by omega)
   rw[OJ f hx,OJ g hx,Tz h i (by omega),h _ (List.getElem_mem _)]
theorem Tl{t:Ts}{f g:Ts→List S}(h: ∀ k∈t.kids,f k=g k∧(g k).Pairwise ltS):rqS t f=rrS t g∧(rrS t g).Pairwise ltS:=by
 unfold rqS Jo rrS
 by_cases h1:t.op=1
 · simp only[h1,if_true];exact⟨trivial,by simp⟩
 · simp only[if_neg h1]
   by_cases h4:t.op=4
   · simp only[if_pos h4,h4,true_and]
     cases hp:pfx t.name [64]with
     |false=>simp
     |true=>
       have e:C1 t f t.kids.length=[]:=by unfold C1;rw[if_neg (by omega),if_neg (by omega)]
       rw[e]
       exact⟨rfl,List.Pairwise.nil⟩
   · simp only[if_neg h4,h4,false_and,if_false]
     rw[Abf]
     unfold C1
     by_cases h6:t.op=6
     · rw[if_pos h6,if_pos h6,Tz (fun k hk=>(h k hk).1) _ (Nat.le_refl _)]
       exact⟨rfl,B2 _⟩
     · rw[if_neg h6,if_neg h6]
       by_cases h7:t.op=7
       · rw[if_pos h7,if_pos h7]
         obtain⟨a,b⟩:=Tf h t.kids.length (Nat.le_refl _)
         rw[a]
         exact⟨Xl b,b⟩
       · rw[if_neg h7,if_neg h7]
         exact⟨rfl,List.Pairwise.nil⟩
theorem N8: ∀ (d:Nat) (t:Ts),TsB d t→rqD d t=rrD d t∧(rrD d t).Pairwise ltS
 |0,t,h=>Tl (by rw[h.2.2.2.2];simp)
 |d+1,t,h=>Tl (fun k hk=>N8 d k (h.2.2.2.2.2 k hk))
theorem AaL: ∀ (d:Nat) (t:Ts),TsB d t→d≤2→Ad Tryz.prog 38 [tsA t] (fun r=>r= .sl 1 (Ay (rrD d t)))
 |0,t,h,hd=>XF t h.1 h.2.1 (by rw[h.2.2.2.2];simp) (fun _=>[]) 0 (by decide) (by simp) (by rw[h.2.2.2.2];simp)
 |d+1,t,h,hd=>XF t h.1 h.2.1 h.2.2.2.2.1 (rrD d) 100 (by decide) (fun k hk=>by
     have h1:=(Oc d k (h.2.2.2.2.2 k hk) (by omega)).1
     rw[(N8 d k (h.2.2.2.2.2 k hk)).1]at h1
     split at h1
     · omega
     · split at h1<;>omega) (fun k hk=>AaL d k (h.2.2.2.2.2 k hk) (by omega))
end Go.Proofs.YtpkhodjlnodagaaGreatDoor
