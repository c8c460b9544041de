/- Part 38 of the proof of PlanSkipsOnlyWhatCannotMatch. -/
import Derived.Test.YtpkhodjlnodagaaGreatDoorB16
import Derived.Test.YtpkhodjlnodagaaGreatDoorB36
import Derived.Test.YtpkhodjlnodagaaGreatDoorB37
set_option linter.unusedSimpArgs false
set_option linter.unusedVariables false
set_option linter.unusedSectionVars false
namespace Go.Proofs.YtpkhodjlnodagaaGreatDoor
open Go.Av
set_option maxHeartbeats 4000000
set_option maxRecDepth 10000
attribute [local irreducible] XH XO Ae Ad AU
attribute [go_sem] spC
def Eg:Int:=253402300799999
def Du:Int×Int:=(0,Eg)
def GA:S:=[64,116,105,109,101]
abbrev tsA(t:Ts):AV:= .agg [I t.op,str t.name,str t.text,I t.num,.sl 5 (tsE t.kids)]
def Jq(t:Ts):Int×Int:=if t.name=GA then(if t.op=9∧t.num≤Eg then(0,mxP t.num 0-1)else if t.op=10∧0≤t.num then(mnP t.num Eg+1,Eg)else if t.op=11 then D0 Du (t.num,t.num)else Du)else Du
def GD(ks:List Ts)(f:Ts→Int×Int)(i:Nat):Int×Int:=(ks.take i).foldl (fun s k=>D0 s (f k)) Du
def Mg(ks:List Ts)(f:Ts→Int×Int)(i:Nat):Int×Int:=(ks.take i).foldl (fun s k=>G2 s (f k)) (1,0)
def tmS(t:Ts)(f:Ts→Int×Int):Int×Int:=if t.op=6 then GD t.kids f t.kids.length else if t.op=7 then Mg t.kids f t.kids.length else Jq t
def tmD:Nat→Ts→Int×Int
 |0,t=>tmS t fun _=>Du
 |d+1,t=>tmS t (tmD d)
theorem OB{α β:Type}(g:α→β→α)(z:α){l:List β}{i:Nat}{x:β}(h:l[i]? =some x):(l.take (i+1)).foldl g z=g ((l.take i).foldl g z) x:=by rw[List.take_add_one,h,List.foldl_append];rfl
theorem Aed{ks:List Ts}(f:Ts→Int×Int){i:Nat}{k:Ts}(h:ks[i]? =some k):GD ks f (i+1)=D0 (GD ks f i) (f k):=OB _ _ h
theorem Aey{ks:List Ts}(f:Ts→Int×Int){i:Nat}{k:Ts}(h:ks[i]? =some k):Mg ks f (i+1)=G2 (Mg ks f i) (f k):=OB _ _ h
abbrev spE(s:Int×Int):Ent:=⟨192,2,[[I s.1,I s.2]]⟩
theorem Qc(t:Ts)(hn:C6 t.num)(hkl:t.kids.length≤3)(f:Ts→Int×Int)(hf: ∀ k∈t.kids,Ae Tryz.prog 133 [tsA k] (fun r=>r=spC (f k))):Ae Tryz.prog 133 [tsA t] (fun r=>r=spC (tmS t f)):=by
 obtain⟨n1,n2⟩:=hn
 have andTo0:GD t.kids f 0=(0,253402300799999):=rfl
 have orTo0:Mg t.kids f 0=(1,0):=rfl
 refine Ax 86 Tryz.func133 ?_
 refine Aa 0 [1,2] ?_
 refine Ah 1 ?_
 refine XO.raw (Afd (t:=192) (v:= .agg [I 0,I 253402300799999]) (ob:=2≤2) (BU _) (fun hp'=>by simp only[Ic,go_sem,Jy,List.map];rfl) (Nat.le_refl _)) ?_
 refine Ac 2 ?_
 any_goals(refine XO.done [1,2,3] ?_)
 refine Aa 2 [1,2,3,9] ?_
 refine AC 9 (fun c9=>?_) (fun c9=>?_)
 refine Aa 3 [2,3,14,15,16] ?_
 any_goals(refine A8 2 (fun i:Nat=>⟨[(2,.ptr 0 2 0 0),(3,.ptr 1 2 0 0),(14,.sl 5 (tsE t.kids)),(15,I t.kids.length),(16,I i)],[(0,some ⟨192,2,[[I 0,I 0]]⟩),(1,some (spE (GD t.kids f i)))]⟩) (fun i=>i≤t.kids.length) (fun i=>t.kids.length-i) 0 (AO (And.intro spE.eq_1 andTo0) [some 0,some 1] []) ?_;rintro i hI0 Y0 hY0;skip)
 refine Aa 4 [2,3,14,15,16,17] ?_
 refine AC 17 (fun c17=>?_) (fun c17=>?_)
 refine XW.at 5 ?_;obtain⟨k,hx,hkm⟩:=Bm t.kids i oM;have hfs:=Aed f hx
 refine BJ 5 [2,3,5,14,15,16] ?_
 refine Ah 6 ?_
 refine Ac 2 ?_
 refine AG (hf k hkm) ?_;rintro _ rfl
 refine AG (UF (GD t.kids f i).1 (GD t.kids f i).2 (f k).1 (f k).2) ?_;rintro _ rfl
 refine Ac 1 ?_
 any_goals(refine XO.done [2,3,14,15,16] ?_)
 refine AQ 7 [2,3,14,15,16] ?_
 · refine XH.le ?_;exact eY hY0 (i+1) (AO (And.intro spE.eq_1 hfs) [some 0,some 1] [])
 any_goals(refine Aa 8 [1,2,3,25] ?_;refine AC 25 (fun c25=>?_) (fun c25=>?_))
 any_goals(refine Aa 9 [1,2,3] ?_;refine Aa 10 [2,3,31,32,33] ?_;refine A8 2 (fun i:Nat=>⟨[(2,.ptr 0 2 0 0),(3,.ptr 1 2 0 0),(31,.sl 5 (tsE t.kids)),(32,I t.kids.length),(33,I i)],[(0,some ⟨192,2,[[I 0,I 0]]⟩),(1,some (spE (Mg t.kids f i)))]⟩) (fun i=>i≤t.kids.length) (fun i=>t.kids.length-i) 0 (AO (And.intro spE.eq_1 orTo0) [some 0,some 1] []) ?_;rintro i hI1 Y1 hY1;skip;refine Aa 11 [2,3,31,32,33,34] ?_;refine AC 34 (fun c34=>?_) (fun c34=>?_))
 any_goals(refine XW.at 12 ?_;obtain⟨k,hx,hkm⟩:=Bm t.kids i oM;have hfs:=Aey f hx;refine BJ 12 [2,3,7,31,32,33] ?_;refine Ah 13 ?_;refine Ac 2 ?_;refine AG (hf k hkm) ?_;rintro _ rfl;refine AG (AcU (Mg t.kids f i).1 (Mg t.kids f i).2 (f k).1 (f k).2) ?_;rintro _ rfl;refine Ac 1 ?_;refine XO.done [2,3,31,32,33] ?_;refine AQ 14 [2,3,31,32,33] ?_;(refine XH.le ?_;exact eY hY1 (i+1) (AO (And.intro spE.eq_1 hfs) [some 0,some 1] [])))
 any_goals(refine Aa 15 [1,2,3,42] ?_;refine Bx 42 (fun c42=>?_) (fun c42=>?_))
 any_goals(refine Ah 16 ?_;refine Ac 4 ?_;refine Cn 50 (fun g50=>?_) (fun g50=>?_))
 any_goals(refine Ac 5 ?_;refine XO.done [1,2,3,46] ?_;(first|refine A3 46 ?_|refine AC 46 (fun c46=>?_) (fun c46=>?_)))
 any_goals refine AQ 17 [2,3] ?_
 any_goals(refine Ah 18 ?_;refine Ac 4 ?_;refine Cn 64 (fun g64=>?_) (fun g64=>?_))
 any_goals(exfalso;omega)
 any_goals(refine Ac 5 ?_;refine XO.done [1,2,3,60] ?_;(first|refine A3 60 ?_|refine AC 60 (fun c60=>?_) (fun c60=>?_)))
 any_goals refine AQ 19 [2,3] ?_
 any_goals(refine Aa 20 [1,2,3,74] ?_;refine AC 74 (fun c74=>?_) (fun c74=>?_))
 any_goals(exfalso;omega)
 any_goals(refine Ah 21 ?_;refine Ac 6 ?_;refine AG (UF 0 Eg t.num t.num) ?_;rintro _ rfl;refine Ac 1 ?_;refine XO.done [2,3] ?_)
 any_goals(refine Aa 22 [2] ?_;(refine Aq ?_;refine Bo ?_;simp only[tmS];first|(rw[if_pos c9,show t.kids.length=i by omega];rfl)|(rw[if_neg c9,if_pos c25,show t.kids.length=i by omega];rfl)|(rw[if_neg c9,if_neg c25];simp at c42;simp[Jq,GA,Az,spC,Eg,Du,mxP,mnP,I, *];done)|(rw[if_neg c9,if_neg c25];simp at c42;simp[Jq,GA,Az,spC,Eg,Du,mxP,mnP,I, *];omega)))
theorem SE: ∀ (d:Nat) (t:Ts),TsB d t→Ae Tryz.prog 133 [tsA t] (fun r=>r=spC (tmD d t))
 |0,t,h=>Qc t h.2.2.2.1 (by rw[h.2.2.2.2];simp) (fun _=>Du) (by rw[h.2.2.2.2];simp)
 |d+1,t,h=>Qc t h.2.2.2.1 h.2.2.2.2.1 (tmD d) (fun k hk=>SE d k (h.2.2.2.2.2 k hk))
def nzP(s:Int×Int):Int×Int:=if s.1>s.2 then(1,0)else s
abbrev spT(s:Int×Int):AV:= .tup [I s.1,I s.2]
def nrm(a b:Int):Int×Int:=nzP (mxP a 0,mnP b Eg)
def orR(s k:Int×Int):Int×Int:=if k.1>k.2 then s else if s.1>s.2 then k else(mnP s.1 k.1,mxP s.2 k.2)
def VV(ks:List Ts)(f:Ts→Int×Int)(i:Nat):Int×Int:=(ks.take i).foldl (fun s k=>orR s (f k)) (1,0)
def Abe(ks:List Ts)(f:Ts→Int×Int):Int×Int:=if ks.any fun k=>decide ((f k).1>(f k).2)then(1,0)else nrm (GD ks f ks.length).1 (GD ks f ks.length).2
def trS(t:Ts)(f:Ts→Int×Int):Int×Int:=if t.op=9∧t.name=GA then nrm 0 (t.num-1)else if t.op=10∧t.name=GA then nrm (t.num+1) Eg else if t.op=11∧t.name=GA then nrm t.num t.num else if t.op=6 then Abe t.kids f else if t.op=7 then VV t.kids f t.kids.length else Du
def trD:Nat→Ts→Int×Int
 |0,t=>trS t fun _=>Du
 |d+1,t=>trS t (trD d)
theorem Ac7(d:Nat)(t:Ts)(ht:TsB d t):Ae Tryz.prog 78 [tsA t] (fun r=>r=spT (nzP (tmD d t))):=by
 have q:=SE d t ht
 generalize tmD d t=z at*
 obtain⟨a,b⟩:=z
 refine Ax 13 Tryz.func78 ?_
 refine Aa 0 [1] ?_
 refine Ah 1 ?_
 refine Ac 1 ?_
 refine AG (q) ?_;rintro _ rfl
 refine Ac 2 ?_
 any_goals(refine XO.done [4] ?_)
 refine Ah 2 ?_
 refine Ac 1 ?_
 refine AG (Nr a b) ?_;rintro _ rfl
 any_goals(refine XO.done [4,8] ?_)
 refine AC 8 (fun c8=>?_) (fun c8=>?_)
 refine Aa 3 [2,3] ?_
 · refine Aq ?_;refine Bo ?_;simp[Az,nzP,I,c8];done
 refine Aa 4 [2,3] ?_
 · refine Aq ?_;refine Bo ?_;simp[Az,nzP,I,c8];done
def spR(s:Int×Int):Prop:=0≤s.1∧s.2≤Eg
theorem AeG{s k:Int×Int}(h:spR s)(hk:spR k):spR (D0 s k):=by
 unfold spR D0 mxP mnP at*
 simp only
 split<;>split<;>omega
theorem AfP{s k:Int×Int}(h:spR s)(hk:spR k):spR (G2 s k):=by
 unfold spR G2 mxP mnP at*
 split
 · exact hk
 · split
   · exact h
   · simp only
     split<;>split<;>omega
theorem AdX{s k:Int×Int}(h:k.1>k.2):(D0 s k).1>(D0 s k).2:=by
 unfold D0 mxP mnP;simp only
 split<;>split<;>omega
theorem Ac4{s k:Int×Int}(h:s.1>s.2):(D0 s k).1>(D0 s k).2:=by
 unfold D0 mxP mnP;simp only
 split<;>split<;>omega
theorem AhR{s:Int×Int}(h:spR s):nrm s.1 s.2=nzP s:=by
 have e1:mxP s.1 0=s.1:=by unfold mxP;unfold spR at h;split<;>omega
 have e2:mnP s.2 Eg=s.2:=by unfold mnP;unfold spR at h;split<;>omega
 rw[nrm,e1,e2]
theorem Pf{s:Int×Int}(h:s.1>s.2):nzP s=(1,0):=by rw[nzP,if_pos h]
theorem I4{s:Int×Int}(h: ¬ s.1>s.2):nzP s=s:=by rw[nzP,if_neg h]
theorem JE(s:Int×Int):(nzP s).1>(nzP s).2↔s.1>s.2:=by
 unfold nzP;split
 · simp_all
 · rfl
theorem PB:spR Du:=by unfold spR Du Eg;omega
theorem ZF{t:Ts}(h:C6 t.num):spR (Jq t):=by
 obtain⟨h1,h2⟩:=h
 have hw:=PB
 unfold Jq
 split
 · split
   · rename_i h3;unfold spR mxP Eg at*;simp only;split<;>omega
   · split
     · unfold spR mnP Eg at*;simp only;split<;>omega
     · split
       · unfold spR D0 mxP mnP Du Eg;simp only;split<;>split<;>omega
       · exact hw
 · exact hw
theorem VH{f:Ts→Int×Int}: ∀ (ks:List Ts) (s:Int×Int),(∀ k∈ks,spR (f k))→spR s→spR (ks.foldl (fun s k=>D0 s (f k)) s)
 | [],s,_,hs=>hs
 |k::ks,s,h,hs=>VH ks _ (fun x hx=>h x (by simp[hx])) (AeG hs (h k sP))
theorem or_R{f:Ts→Int×Int}: ∀ (ks:List Ts) (s:Int×Int),(∀ k∈ks,spR (f k))→spR s→spR (ks.foldl (fun s k=>G2 s (f k)) s)
 | [],s,_,hs=>hs
 |k::ks,s,h,hs=>or_R ks _ (fun x hx=>h x (by simp[hx])) (AfP hs (h k sP))
theorem Uc{f g:Ts→Int×Int}: ∀ (ks:List Ts) (s:Int×Int),(∀ k∈ks,nzP (f k)=g k)→(s.1>s.2→nzP (ks.foldl (fun s k=>D0 s (f k)) s)=(1,0))∧
   nzP (ks.foldl (fun s k=>D0 s (f k)) s)=if ks.any fun k=>decide ((g k).1>(g k).2)then(1,0)else nzP (ks.foldl (fun s k=>D0 s (g k)) s)
 | [],s,_=>⟨fun h=>Pf h,sP⟩
 |k::ks,s,h=>by
   obtain⟨a1,a2⟩:=Uc (f:=f) (g:=g) ks (D0 s (f k)) (fun x hx=>h x (by simp[hx]))
   refine⟨fun hs=>a1 (Ac4 hs),?_⟩
   have hk:=h k sP
   simp only[List.foldl_cons,List.any_cons]
   by_cases hg:(f k).1>(f k).2
   · have hg2:(g k).1>(g k).2:=by rw[← hk];exact(JE _).2 hg
     rw[a1 (AdX hg)]
     simp[hg2]
   · have e:g k=f k:=by rw[← hk,I4 hg]
     rw[a2]
     simp only[e,hg,decide_false,Bool.false_or]
theorem WI{f g:Ts→Int×Int}: ∀ (ks:List Ts) (s:Int×Int),(∀ k∈ks,nzP (f k)=g k)→nzP (ks.foldl (fun s k=>G2 s (f k)) s)=ks.foldl (fun s k=>orR s (g k)) (nzP s)
 | [],s,_=>rfl
 |k::ks,s,h=>by
   have ih:=WI (f:=f) (g:=g) ks (G2 s (f k)) (fun x hx=>h x (by simp[hx]))
   have hk:=h k sP
   simp only[List.foldl_cons]
   rw[ih]
   congr 1
   rw[← hk]
   unfold G2 orR
   by_cases h1:s.1>s.2
   · rw[if_pos h1]
     by_cases h2:(f k).1>(f k).2
     · rw[if_pos ((JE _).2 h2),Pf h2,Pf h1]
     · rw[if_neg (fun h=>h2 ((JE _).1 h)),if_pos ((JE _).2 h1)]
   · rw[if_neg h1]
     by_cases h2:(f k).1>(f k).2
     · rw[if_pos h2,if_pos ((JE _).2 h2)]
     · rw[if_neg h2,if_neg (fun h=>h2 ((JE _).1 h)),if_neg (fun h=>h1 ((JE _).1 h)),I4 h2,I4 h1]
       refine I4 ?_
       unfold mnP mxP;simp only
       split<;>split<;>omega
theorem Aar{t:Ts}(h:C6 t.num)(h6: ¬ t.op=6)(h7: ¬ t.op=7)(g:Ts→Int×Int):nzP (Jq t)=trS t g:=by
 obtain⟨n1,n2⟩:=h
 unfold Jq trS
 by_cases hn:t.name=GA
 · rw[if_pos hn]
   simp only[hn,and_true,h6,h7,if_false]
   by_cases h9:t.op=9
   · simp only[h9,true_and,if_true]
     simp only[show ¬ ((9:Int)=10) by decide,show ¬ ((9:Int)=11) by decide,false_and,if_false]
     unfold nrm nzP mxP mnP Du Eg
     repeat' split
     all_goals first|rfl|(simp at*;done)|(simp at*;omega)
   · simp only[h9,false_and,if_false]
     by_cases h10:t.op=10
     · simp only[h10,true_and,if_true]
       simp only[show ¬ ((10:Int)=11) by decide,if_false]
       unfold nrm nzP mxP mnP Du Eg
       repeat' split
       all_goals first|rfl|(simp at*;done)|(simp at*;omega)
     · simp only[h10,false_and,if_false]
       by_cases h11:t.op=11
       · simp only[h11,if_true]
         unfold nrm nzP D0 mxP mnP Du Eg
         repeat' split
         all_goals first|rfl|(simp at*;done)|(simp at*;omega)
       · simp only[h11,if_false]
         exact I4 (by unfold Du Eg;simp)
 · rw[if_neg hn]
   simp only[hn,and_false,h6,h7,if_false]
   exact I4 (by unfold Du Eg;simp)
theorem UI{t:Ts}{f g:Ts→Int×Int}(hn:C6 t.num)(hr: ∀ k∈t.kids,spR (f k))(hk: ∀ k∈t.kids,nzP (f k)=g k):nzP (tmS t f)=trS t g∧spR (tmS t f):=by
 unfold tmS
 by_cases h6:t.op=6
 · rw[if_pos h6]
   refine⟨?_,VH _ _ (fun k h=>hr k (List.mem_of_mem_take h)) PB⟩
   rw[GD,List.take_length,(Uc t.kids Du hk).2]
   unfold trS Abe
   simp only[h6,show ¬ ((6:Int)=9) by decide,show ¬ ((6:Int)=10) by decide,show ¬ ((6:Int)=11) by decide,false_and,if_false,if_true]
   split
   · rfl
   · rename_i hna
     rw[AhR]
     · rw[GD,List.take_length]
     · refine VH _ _ (fun k h=>?_) PB
       have h':=List.mem_of_mem_take h
       rw[← hk k h']
       have:=hr k h'
       unfold nzP;split
       · unfold spR Eg;simp
       · exact this
 · rw[if_neg h6]
   by_cases h7:t.op=7
   · rw[if_pos h7]
     refine⟨?_,or_R _ _ (fun k h=>hr k (List.mem_of_mem_take h)) (by unfold spR Eg;simp)⟩
     rw[Mg,List.take_length,WI t.kids (1,0) hk]
     unfold trS VV
     simp only[h7,show ¬ ((7:Int)=9) by decide,show ¬ ((7:Int)=10) by decide,show ¬ ((7:Int)=11) by decide,show ¬ ((7:Int)=6) by decide,false_and,if_false,if_true,List.take_length]
     rfl
   · rw[if_neg h7]
     exact⟨Aar hn h6 h7 g,ZF hn⟩
theorem SU: ∀ (d:Nat) (t:Ts),TsB d t→nzP (tmD d t)=trD d t∧spR (tmD d t)
 |0,t,h=>UI h.2.2.2.1 (by rw[h.2.2.2.2];simp) (by rw[h.2.2.2.2];simp)
 |d+1,t,h=>UI h.2.2.2.1 (fun k hk=>(SU d k (h.2.2.2.2.2 k hk)).2) (fun k hk=>(SU d k (h.2.2.2.2.2 k hk)).1)
theorem Z8(l:List S)(i:Nat)(s:S):(Au l).set i [AV.val (.string ⟨s.toArray⟩)]=Au (l.set i s):=by simp[Au,List.map_set,str]
attribute [go_sem] Z8
def E9(A:List S)(x:S):Nat→Nat
 |0=>0
 |j+1=>if Op.bytesLess x (A.getD j [])then E9 A x j else j+1
def HL(A:List S)(x:S):List S:=A.take (E9 A x A.length)++x::A.drop (E9 A x A.length)
def Dr(l:List S)(i:Nat):List S:=(l.take i).foldl HL []
def HA(l:List S):List S:=Dr l l.length
theorem Y5(A:List S)(x:S):(HL A x).length=A.length+1:=by simp[HL];omega
theorem PY: ∀ (l A:List S),(l.foldl HL A).length=A.length+l.length
 | [],A=>rfl
 |x::l,A=>by rw[List.foldl_cons,PY l,Y5,List.length_cons];omega
theorem JV(l:List S)(i:Nat)(h:i≤l.length):(Dr l i).length=i:=by rw[Dr,PY];simp;omega
theorem Ad6{l:List S}{i:Nat}{x:S}(h:l[i]? =some x):Dr l (i+1)=HL (Dr l i) x:=OB _ _ h
theorem AgD(l:List S):Dr l 1++l.drop 1=l:=by
 cases l with
 |nil=>rfl
 |cons x l=>simp[Dr,HL,E9]
def Ga(A:List S)(x:S)(j:Nat)(R:List S):List S:=A.take j++x::(A.drop j++R)
theorem AfL{l:List S}{i:Nat}{x:S}(h:l[i]? =some x):Dr l i++l.drop i=Ga (Dr l i) x i (l.drop (i+1)):=by
 obtain⟨hi,rfl⟩:=List.getElem?_eq_some_iff.1 h
 have hl:=JV l i oM
 have e:(Dr l i).drop i=[]:=List.drop_eq_nil_of_le oM
 rw[Ga,List.take_of_length_le (l:=Dr l i) oM,e,List.drop_eq_getElem_cons hi];rfl
theorem AaO(A:List S)(x:S)(j:Nat)(R:List S):(Ga A x j R).length=A.length+1+R.length:=by simp[Ga];omega
theorem Agf{A:List S}{x:S}{j:Nat}{R:List S}(h:j≤A.length):(Ga A x j R)[j]? =some x:=by
 rw[Ga,List.getElem?_append_right sO]
 simp[Nat.min_eq_left h]
theorem Ago{A:List S}{x a:S}{j:Nat}{R:List S}(h0:0<j)(ha:A[j-1]? =some a):(Ga A x j R)[j-1]? =some a:=by
 have:=(List.getElem?_eq_some_iff.1 ha).1
 rw[Ga,List.getElem?_append_left sO,List.getElem?_take,if_pos oM];exact ha
theorem Ad2{A:List S}{x a:S}{j:Nat}{R:List S}(h0:0<j)(ha:A[j-1]? =some a):((Ga A x j R).set j a)[j-1]? =some a∧((Ga A x j R).set j a).set (j-1) x=Ga A x (j-1) R:=by
 have hl:=(List.getElem?_eq_some_iff.1 ha).1
 have e1:A.take j=A.take (j-1)++[a]:=by
   obtain⟨k,rfl⟩: ∃ k,j=k+1:=⟨j-1,oM⟩
   rw[Nat.add_sub_cancel]at ha ⊢
   rw[List.take_add_one,ha];rfl
 have e2:A.drop (j-1)=a::A.drop j:=by
   obtain⟨h,e⟩:=List.getElem?_eq_some_iff.1 ha
   rw[List.drop_eq_getElem_cons h,e];congr 2;omega
 have e3:(Ga A x j R).set j a=A.take (j-1)++a::a::(A.drop j++R):=by
   rw[Ga,List.set_append_right _ _ sO]
   simp only[List.length_take,Nat.min_eq_left (show j≤A.length by omega),Nat.sub_self,List.set_cons_zero]
   rw[e1];simp
 rw[e3]
 constructor
 · rw[List.getElem?_append_right sO];simp[Nat.min_eq_left (show j-1≤A.length by omega)]
 · rw[List.set_append_right _ _ sO]
   simp only[List.length_take,Nat.min_eq_left (show j-1≤A.length by omega),Nat.sub_self,List.set_cons_zero]
   rw[Ga,e2];rfl
theorem AeN{A:List S}{x a:S}{j:Nat}(h0:0<j)(ha:A[j-1]? =some a):E9 A x j=if Op.bytesLess x a then E9 A x (j-1)else j:=by
 obtain⟨k,rfl⟩: ∃ k,j=k+1:=⟨j-1,oM⟩
 rw[Nat.add_sub_cancel]at ha ⊢
 rw[E9,Bz ha]
theorem AeO{l:List S}{i:Nat}{x:S}(h:l[i]? =some x):Ga (Dr l i) x (E9 (Dr l i) x i) (l.drop (i+1))=Dr l (i+1)++l.drop (i+1):=by
 have hl:=JV l i (by have:=(List.getElem?_eq_some_iff.1 h).1;omega)
 rw[Ad6 h,HL,hl,Ga];simp
theorem Abi(l:List S)(hl:l.length≤2^40):Ad Tryz.prog 228 [.osl 0 l.length 1,I 0,I l.length] [some ⟨9,1,Au l⟩] (.tup []) [some ⟨9,1,Au (HA l)⟩]:=by
 have h1:=AgD l
 rw[List.drop_one]at h1
 refine BD 49 1 Tryz.func228 ?_
 refine AQ 0 [0,1,2,6] ?_
 any_goals(refine A8 1 (fun i:Nat=>⟨[(0,.osl 0 l.length 1),(1,I 0),(2,I l.length),(6,I i)],[(0,some ⟨9,1,Au (Dr l i++l.drop i)⟩)]⟩) (fun i=>1≤i) (fun i=>l.length+1-i) 1 (AO h1 [some 0] []) ?_;rintro i hI0 Y0 hY0;skip)
 refine Aa 1 [0,1,2,6,12] ?_
 refine AC 12 (fun c12=>?_) (fun c12=>?_)
 refine XW.at 3 ?_;obtain⟨x,hx,hxm⟩:=Bm l i oM;have hri:=AfL hx;have hre:=AeO hx;have hsl:=JV l i oM;rw[hri];have hdl:(l.drop (i+1)).length=l.length- (i+1):=List.length_drop;have hrl: ∀ j,(Ga (Dr l i) x j (l.drop (i+1))).length=l.length:=fun j=>by rw[AaO];omega
 refine BJ 3 [0,1,2,6,7] ?_
 any_goals(refine A8 1 (fun j:Nat=>⟨[(0,.osl 0 l.length 1),(1,I 0),(2,I l.length),(6,I i),(7,I j)],[(0,some ⟨9,1,Au (Ga (Dr l i) x j (l.drop (i+1)))⟩)]⟩) (fun j=>j≤i∧E9 (Dr l i) x i=E9 (Dr l i) x j) (fun j=>j) i (AO trivial [some 0] []) ?_ (h0:=⟨Nat.le_refl _,rfl⟩);rintro j hI1 Y1 hY1;skip)
 refine Ah 4 ?_
 refine Aw 4 ?_
 refine Cn 19 (fun g19=>?_) (fun g19=>?_)
 have h0j:=(show 0<j by omega);obtain⟨a,ha,ham⟩:=Bm (Dr l i) (j-1) oM;have hj1:((j:Int)-1).toNat=j-1:=oM;have r1:=Agf (A:=Dr l i) (x:=x) (j:=j) (R:=l.drop (i+1)) oM;have r2:=Ago (x:=x) (R:=l.drop (i+1)) h0j ha;obtain⟨r3,r4⟩:=Ad2 (x:=x) (R:=l.drop (i+1)) h0j ha;have r5:=AeN (x:=x) h0j ha;have hx:=r1
 any_goals refine Aw 6 ?_
 have hx:=hj1;have hx2:=r2
 any_goals(refine A2 3 ?_;(first|(refine AG (U4 x a) ?_;rintro _ rfl)|refine Ac 1 ?_);refine Aw 1 ?_;refine XO.done [0,1,2,6,7,30] ?_;(first|refine A3 30 ?_|refine Bx 30 (fun c30=>?_) (fun c30=>?_)))
 refine Ah 6 ?_
 refine Aw 4 ?_
 refine A2 4 ?_
 have hx:=hj1;have hx2:=r2
 refine Aw 2 ?_
 have hx:=r1
 refine Aw 4 ?_
 refine Aw 1 ?_
 have hx:=r1
 refine Aw 1 ?_
 have hx:=hj1
 refine Aw 1 ?_
 have hx:=r3
 refine Aw 1 ?_
 any_goals(refine XO.done [0,1,2,6,7] ?_)
 refine AQ 5 [0,1,2,6,7] ?_
 · refine XH.le ?_;exact hY1 (j-1) (⟨oM,by rw[hI1.2,r5,c30];rfl⟩) oM _ _ (AO r4 [some 0] [])
 any_goals(refine AQ 2 [0,1,2,6] ?_;(refine XH.le ?_;(have hij:E9 (Dr l i) x i=j:=(by first|(have h0:=(show j=0 by omega);rw[hI1.2,h0];rfl)|(rw[hI1.2,r5,c30];rfl));rw[hij]at hre);exact eY hY0 (i+1) (AO hre [some 0] [])))
 have hfin:Dr l i++l.drop i=HA l:=(by rw[List.drop_eq_nil_of_le oM,List.append_nil,HA,Dr,Dr,List.take_of_length_le oM,List.take_length]);refine Kx [some 0] [] (hids:=⟨by simp[Al],by simp[Al],rfl⟩) (hwk:=by simp[Az,lk,lkh,wk,wkL,wkE,I]) (hwh:=?_);simp[Am,Ai,Ak,lkh,wkE,wkL,wk,B,I,hfin]
theorem Aft(l:List S)(hl:l.length≤12)(k:Int):Ad Tryz.prog 194 [.osl 0 l.length 1,I 0,I l.length,I k] [some ⟨9,1,Au l⟩] (.tup []) [some ⟨9,1,Au (HA l)⟩]:=by
 refine BD 134 1 Tryz.func194 ?_
 refine Aa 0 [0,1,2,3,8] ?_
 refine Aa 1 [0,1,2,3,8,9] ?_
 any_goals(refine A8 1 (fun i:Nat=>⟨[(0,.osl 0 l.length 1),(1,I 0),(2,I l.length),(3,I k),(8,B true),(9,B true)],[(0,some ⟨9,1,Au l⟩)]⟩) (fun i=>i=0) (fun i=>0) 0 (AO B.eq_1 [some 0] []) ?_ (h0:=rfl);rintro i hI0 Y0 hY0;skip)
 refine AQ 2 [0,1,2,3,8,9,10] ?_
 refine Aa 3 [0,1,2,3,8,9,10,23] ?_
 refine AC 23 (fun c23=>?_) (fun c23=>?_)
 any_goals(exfalso;omega)
 refine Ah 4 ?_
 refine Ac 3 ?_
 refine QI 0 (Abi l oM) ?_
 any_goals(refine XO.done [] ?_)
 refine Aq ?_;refine XB.ret [some 0] [] (hids:=⟨by simp[Al],by simp[Al],rfl⟩) (hwk:=by simp[Az,lk,lkh,wk,wkL,wkE,I]) (hwh:=?_);simp[Am,Ai,Ak,lkh,wkE,wkL,wk,B,I]
theorem AfG(x:Nat)(hx:x<2^64):Ae Tryz.prog 195 [U64 x] (fun r=>r=I (GU x)):=by
 refine Ax 8 Tryz.func195 ?_
 refine Aa 0 [0] ?_
 refine Xe ?_
 refine Ah 2 ?_
 refine Ac 1 ?_
 refine AG (Xm x hx) ?_;rintro _ rfl
 refine Ac 1 ?_
 any_goals(refine XO.done [2] ?_)
 refine Aq ?_;exact Bo rfl
theorem AcX(l:List S)(hl:l.length≤12):Ad Tryz.prog 139 [.osl 0 l.length 1] [some ⟨9,1,Au l⟩] (.tup []) [some ⟨9,1,Au (HA l)⟩]:=by
 refine BD 11 1 Tryz.func139 ?_
 refine Aa 0 [0,2] ?_
 refine XW.at 1 ?_;have hx:IntKind.u64.wrap ((l.length:Nat):Int)=l.length:=IntWalk.u64_in _ oM
 refine Ah 1 ?_
 refine A2 4 ?_
 refine AG (AfG l.length oM) ?_;rintro _ rfl
 refine QI 0 (Aft l hl _) ?_
 any_goals(refine XO.done [] ?_)
 refine Kx [some 0] [] (hids:=⟨by simp[Al],by simp[Al],rfl⟩) (hwk:=by simp[Az,lk,lkh,wk,wkL,wkE,I]) (hwh:=?_);simp[Am,Ai,Ak,lkh,wkE,wkL,wk,B,I]
theorem Af9(l:List S)(hl:l.length≤2^40)(x:S):Ae Tryz.prog 193 [.sl 1 (Au l),str x] (fun r=>r=I (GN (fun y=>x==y) l)):=by
 refine Ax 19 Tryz.func193 ?_
 refine Aa 0 [0,1] ?_
 refine Aa 1 [0,1,7,8] ?_
 any_goals(refine A8 0 (fun i:Nat=>⟨[(0,.sl 1 (Au l)),(1,str x),(7,I l.length),(8,I i)],[]⟩) (fun i=>i≤l.length∧ ∀ y∈l.take i,(x==y)=false) (fun i=>l.length-i) 0 (E7 [] []) ?_ (h0:=by simp);rintro i hI0 Y0 hY0;skip)
 refine XW.at 2 ?_;obtain⟨m1,m2⟩:=hI0
 refine Aa 2 [0,1,7,8,9] ?_
 refine AC 9 (fun c9=>?_) (fun c9=>?_)
 refine Aa 3 [0,1,5,7,8] ?_
 refine XW.at 4 ?_;obtain⟨y,hx,hxm⟩:=Bm l i oM
 refine BJ 4 [0,1,5,7,8,16] ?_
 refine Bx 16 (fun c16=>?_) (fun c16=>?_)
 refine XW.at 5 ?_;have hfin:=Ml m2 hx c16
 refine BJ 5 [4] ?_
 refine Aq ?_;refine Bo ?_;rw[hfin];rfl
 refine AQ 6 [0,1,7,8] ?_
 · refine XH.le ?_;exact hY0 (i+1) (⟨oM,F4 m2 hx c16⟩) (by first|omega|(simp;done)|(simp;omega)) _ _ (E7 [] [])
 refine XW.at 7 ?_;obtain rfl:i=l.length:=oM;rw[List.take_length]at m2;have hfin:=Mj m2
 refine Aa 7 [4] ?_
 refine Aq ?_;refine Bo ?_;rw[hfin];rfl
theorem Adw(l:List S)(hl:l.length≤2^40)(x:S):Ae Tryz.prog 138 [.sl 1 (Au l),str x] (fun r=>r=B (l.any fun y=>x==y)):=by
 refine Ax 9 Tryz.func138 ?_
 refine Aa 0 [0,1] ?_
 refine Ah 1 ?_
 refine Ac 2 ?_
 refine AG (Af9 l hl x) ?_;rintro _ rfl
 refine Ac 2 ?_
 any_goals(refine XO.done [4] ?_)
 refine Aq ?_;refine Bo ?_;rw[← Jt];rfl
theorem Afb(l:List S)(hl:l.length≤2^40)(x:S):Ae Tryz.prog 137 [str x,.rp [.sl 1 (Au l)]] (fun r=>r=B (!(l.any fun y=>x==y))):=by
 refine Ax 8 Tryz.func137 ?_
 refine Aa 0 [0,1] ?_
 refine Ah 1 ?_
 refine Ac 2 ?_
 refine AG (Adw l hl x) ?_;rintro _ rfl
 refine Ac 2 ?_
 any_goals(refine XO.done [3] ?_)
 refine Aq ?_;exact Bo rfl
def kpT(p:S→Bool)(l:List S)(j:Nat):List S:=(l.take j).filter fun x=>!p x
def FM(K l:List S):List S:=K++l.drop K.length
theorem AbI{p:S→Bool}{l:List S}{j:Nat}{x:S}(h:l[j]? =some x):kpT p l (j+1)=kpT p l j++(if p x=false then [x]else []):=by
 rw[kpT,List.take_add_one,h,List.filter_append,kpT]
 cases hp:p x<;>simp[hp]
theorem UW(p:S→Bool)(l:List S)(j:Nat):(kpT p l j).length≤j:=by
 have:=List.length_filter_le (fun x=>!p x) (l.take j)
 rw[List.length_take]at this
 unfold kpT;omega
theorem Ld{K l:List S}(h:K.length≤l.length):(FM K l).length=l.length:=by simp[FM];omega
theorem KD{K l:List S}{j:Nat}(h:K.length≤j):(FM K l)[j]? =l[j]? :=by
 rw[FM,List.getElem?_append_right h,List.getElem?_drop];congr 1;omega
theorem RR{K l:List S}(x:S)(h:K.length<l.length):(FM K l).set K.length x=FM (K++[x]) l:=by
 rw[FM,List.set_append_right _ _ (Nat.le_refl _),Nat.sub_self,List.drop_eq_getElem_cons h,List.set_cons_zero,FM];simp
theorem Q8{K l:List S}(h:K.length≤l.length):(Au (FM K l)).take K.length++(List.replicate (l.length-K.length) [AV.val (.string ⟨#[]⟩)]++(Au (FM K l)).drop (K.length+(l.length-K.length)))=Au (K++List.replicate (l.length-K.length) []):=by
 have hl:=Ld h
 rw[P1,Ql,List.drop_eq_nil_of_le oM,FM,List.take_left' rfl]
 simp[Au,str]
theorem Ads{α:Type}{p:α→Bool}{l:List α}(h: ¬ GN p l= -1): ∃ i x,GN p l=((i:Nat):Int)∧l[i]? =some x∧p x=true∧ ∀ y∈l.take i,p y=false:=by
 unfold GN at h ⊢
 cases hf:l.findIdx? p with
 |none=>rw[hf]at h;simp at h
 |some i=>
   obtain⟨hi,hp,hq⟩:=List.findIdx?_eq_some_iff_getElem.1 hf
   refine⟨i,l[i],rfl,List.getElem?_eq_getElem hi,hp,fun y hy=>?_⟩
   obtain⟨j,hj,rfl⟩:=List.mem_take_iff_getElem.1 hy
   have:=hq j oM
   simpa using this
theorem Ad8{α:Type}{p:α→Bool}{l:List α}(h:GN p l= -1): ∀ y∈l,p y=false:=by
 unfold GN at h
 cases hf:l.findIdx? p with
 |none=>exact List.findIdx?_eq_none_iff.1 hf
 |some i=>rw[hf]at h;simp only at h;omega
theorem Adf(g:Nat)(c:List AV)(hc:AF 0 c=true)(p:S→Bool)(l:List S)(hl:l.length≤2^40)(h: ∀ x∈l,Ae Tryz.prog g [str x,.rp c] (fun r=>r=B (p x))):Ad Tryz.prog 136 [.osl 0 l.length 1,.fn g 0 [.rp c]] [some ⟨9,1,Au l⟩] (.osl 0 (kpT p l l.length).length 1) [some ⟨9,1,Au (kpT p l l.length)⟩]:=by
 refine BD 42 1 Tryz.func136 ?_
 refine Aa 0 [0,1] ?_
 refine Ah 1 ?_
 refine Ac 2 ?_
 refine Wx [0] rfl rfl (W4 g c p l hl h) ⟨GL sP rfl rfl sP rfl,Cq _ _⟩ rfl ⟨sP,by simp[lkh],trivial⟩ (.inr (fun r hr=>by subst hr;rfl)) ?_;rintro _ rfl
 refine Ac 1 ?_
 any_goals(refine XO.done [0,1,5] ?_)
 refine Aa 2 [0,1,5,12] ?_
 refine AC 12 (fun c12=>?_) (fun c12=>?_)
 refine XW.at 3 ?_;have hno:=Ad8 c12;have hfin:kpT p l l.length=l:=(by rw[kpT,List.take_length,List.filter_eq_self];intro x hx;simp[hno x hx])
 refine BJ 3 [4] ?_
 refine Aq ?_;refine XB.ret [some 0] [] (hids:=⟨by simp[Al],by simp[Al],rfl⟩) (hwk:=by simp[Az,lk,lkh,wk,wkL,wkE,I,hfin]) (hwh:=?_);simp[Am,Ai,Ak,lkh,wkE,wkL,wk,B,I,hfin]
 refine XW.at 4 ?_;obtain⟨i0,x0,hfi,hx0,hp0,hq0⟩:=Ads c12;have hx:=hfi;have hi0:=(List.getElem?_eq_some_iff.1 hx0).1;have hk0:kpT p l (i0+1)=l.take i0:=(by rw[AbI hx0,kpT,hp0];simp only[Bool.true_eq_false,if_false,List.append_nil];rw[List.filter_eq_self];intro x hx;simp[hq0 x hx]);have hkl:(kpT p l (i0+1)).length=i0:=(by rw[hk0];simp;omega);have hrl:FM (kpT p l (i0+1)) l=l:=(by rw[FM,hkl,hk0,List.take_append_drop])
 refine A4 4 [0,1,5,6] ?_
 any_goals(refine A8 1 (fun j:Nat=>⟨[(0,.osl 0 l.length 1),(1,.fn g 0 [.rp c]),(5,I (kpT p l j).length),(6,I j)],[(0,some ⟨9,1,Au (FM (kpT p l j) l)⟩)]⟩) (fun j=>j≤l.length∧(kpT p l j).length<j) (fun j=>l.length-j) (i0+1) (AO (And.intro hkl hrl) [some 0] []) ?_ (h0:=⟨oM,oM⟩);rintro j hI0 Y0 hY0;skip)
 refine Aa 5 [0,1,5,6,19] ?_
 refine AC 19 (fun c19=>?_) (fun c19=>?_)
 refine XW.at 7 ?_;obtain⟨x,hx1,hxm⟩:=Bm l j oM;have hks:=AbI (p:=p) hx1;have hkj:=UW p l j;have hx:=KD (K:=kpT p l j) (l:=l) (j:=j) oM;rw[hx1]at hx;have hrn:=Ld (K:=kpT p l j) (l:=l) oM;have hrs:=RR (K:=kpT p l j) (l:=l) x oM
 refine BJ 7 [0,1,5,6,7] ?_
 refine Ah 8 ?_
 refine Ac 2 ?_
 refine Le (h x hxm) ?_;rintro _ rfl
 refine Ac 1 ?_
 any_goals(refine XO.done [0,1,5,6,7,29] ?_)
 refine Bx 29 (fun c29=>?_) (fun c29=>?_)
 refine XW.at 9 ?_;have hx:=KD (K:=kpT p l j) (l:=l) (j:=(kpT p l j).length) (Nat.le_refl _);obtain⟨y,hy,hym⟩:=Bm l (kpT p l j).length oM;rw[hy]at hx
 refine BJ 9 [0,1,5,6] ?_
 refine AQ 10 [0,1,5,6] ?_
 any_goals(refine AQ 6 [0,1,5,6] ?_;refine XH.le ?_;(first|(have cc:p x=false:=(by simpa using c29);simp only[cc,if_true]at hks)|(have cc:p x=true:=(by simpa using c29);simp only[cc,Bool.true_eq_false,if_false,List.append_nil]at hks));exact hY0 (j+1) (⟨oM,by rw[hks];first|omega|(simp;omega)⟩) (by first|omega|(simp;done)|(simp;omega)) _ _ (AO (And.intro hks (And.intro hrs cc)) [some 0] []))
 refine XW.at 11 ?_;obtain rfl:j=l.length:=oM;have hcl:=Q8 (K:=kpT p l l.length) (l:=l) oM;have hrn:=Ld (K:=kpT p l l.length) (l:=l) oM;have hfin:(1:Nat)=1:=rfl
 refine Ah 11 ?_
 refine A2 3 ?_
 refine Ya (Au (kpT p l l.length++List.replicate (l.length- (kpT p l l.length).length) [])) (x:= .tmp 38) (i:=0) (m:=l.length- (kpT p l l.length).length) (E:=⟨9,1,Au (FM (kpT p l l.length) l)⟩) (hd:=D28) (hte:=T9) oM (by rw[FI,hrn];omega) hcl ?_
 any_goals(refine XO.done [0,5] ?_)
 refine Ah 12 ?_
 refine Ac 2 ?_
 refine Abq (Au (kpT p l l.length)) ?_
 refine Ac 1 ?_
 any_goals(refine XO.done [4] ?_)
 refine Aq ?_;refine XB.ret [some 0] [] (hids:=⟨by simp[Al],by simp[Al],rfl⟩) (hwk:=by simp[Az,lk,lkh,wk,wkL,wkE,I,hfin]) (hwh:=?_);simp[Am,Ai,Ak,lkh,wkE,wkL,wk,B,I,hfin]
def Cw(l:List S):Nat→List S
 |0=>[]
 |j+1=>match l[j]? with
   |some x=>if 0<j∧l[j-1]? =some x then Cw l j else Cw l j++[x]
   |none=>Cw l j
theorem SX{l:List S}{j:Nat}{x:S}(h:l[j]? =some x):Cw l (j+1)=if 0<j∧l[j-1]? =some x then Cw l j else Cw l j++[x]:=by rw[Cw,h]
theorem Yo{l:List S}{j:Nat}{x y:S}(h:l[j]? =some x)(h0:0<j)(hy:l[j-1]? =some y)(e:x=y):Cw l (j+1)=Cw l j:=by rw[SX h,if_pos ⟨h0,by rw[hy,e]⟩]
theorem WQ{l:List S}{j:Nat}{x y:S}(h:l[j]? =some x)(hy:l[j-1]? =some y)(e: ¬ x=y):Cw l (j+1)=Cw l j++[x]:=by
 rw[SX h,if_neg]
 rintro⟨_,h2⟩;rw[hy]at h2;simp at h2;exact e h2.symm
theorem N1(l:List S): ∀ j,(Cw l j).length≤j
 |0=>by simp[Cw]
 |j+1=>by
   have:=N1 l j
   rw[Cw];split
   · split
     · omega
     · simp;omega
   · omega
theorem AeW(l:List S):Cw l 1=l.take 1:=by
 cases l with
 |nil=>rfl
 |cons x l=>simp[Cw]
theorem AdN(l:List S)(hl:l.length≤2^40):Ad Tryz.prog 140 [.osl 0 l.length 1] [some ⟨9,1,Au l⟩] (.osl 0 (Cw l l.length).length 1) [some ⟨9,1,Au (Cw l l.length)⟩]:=by
 have hd1:=AeW l
 refine BD 61 1 Tryz.func140 ?_
 refine Aa 0 [0] ?_
 refine Aa 1 [0,8] ?_
 refine AC 8 (fun c8=>?_) (fun c8=>?_)
 refine XW.at 2 ?_;have hfin:Cw l l.length=l:=(by rcases Nat.eq_zero_or_pos l.length with h|h;(rw[List.eq_nil_of_length_eq_zero h];rfl);(rw[show l.length=1 by omega,hd1];exact List.take_of_length_le oM))
 refine Aa 2 [2] ?_
 refine Aq ?_;refine XB.ret [some 0] [] (hids:=⟨by simp[Al],by simp[Al],rfl⟩) (hwk:=by simp[Az,lk,lkh,wk,wkL,wkE,I,hfin]) (hwh:=?_);simp[Am,Ai,Ak,lkh,wkE,wkL,wk,B,I,hfin]
 refine Aa 3 [0,3] ?_
 any_goals(refine A8 1 (fun k:Nat=>⟨[(0,.osl 0 l.length 1),(3,I k)],[(0,some ⟨9,1,Au l⟩)]⟩) (fun k=>1≤k∧k≤l.length∧Cw l k=l.take k) (fun k=>l.length-k) 1 (AO trivial [some 0] []) ?_ (h0:=⟨oM,oM,hd1⟩);rintro k hI0 Y0 hY0;skip)
 refine Aa 4 [0,3,13] ?_
 refine AC 13 (fun c13=>?_) (fun c13=>?_)
 refine XW.at 6 ?_;obtain⟨x,hx1,hxm⟩:=Bm l k oM;obtain⟨y,hy1,hym⟩:=Bm l (k-1) oM;have hk1:((k:Int)-1).toNat=k-1:=oM;have hdl:=N1 l k;have hdk:=hI0.2.2
 refine Ah 6 ?_
 refine Aw 2 ?_
 have hx:=hx1
 refine Aw 4 ?_
 have hx:=hk1;have hx2:=hy1
 refine A2 4 ?_
 any_goals(refine XO.done [0,3,25] ?_)
 refine Bx 25 (fun c25=>?_) (fun c25=>?_)
 refine XW.at 7 ?_;have hxy:x=y:=(by simpa using c25);have hdt:=Yo hx1 oM hy1 hxy;have hkl:(Cw l (k+1)).length=k:=(by rw[hdt,hdk,List.length_take];omega);have hkr:FM (Cw l (k+1)) l=l:=(by rw[FM,hkl,hdt,hdk,List.take_append_drop])
 refine A4 7 [0,3,4] ?_
 refine Aa 8 [0,3,4,5] ?_
 any_goals(refine A8 1 (fun q:Nat=>⟨[(0,.osl 0 l.length 1),(3,I (Cw l (k+q)).length),(4,.osv 0 k (l.length-k) 1),(5,I q)],[(0,some ⟨9,1,Au (FM (Cw l (k+q)) l)⟩)]⟩) (fun q=>1≤q∧k+q≤l.length∧(Cw l (k+q)).length<k+q) (fun q=>l.length-q) 1 (AO (And.intro hkl hkr) [some 0] []) ?_ (h0:=⟨oM,oM,oM⟩);rintro q hI1 Y1 hY1;skip)
 refine Aa 9 [0,3,4,5,32] ?_
 refine AC 32 (fun c32=>?_) (fun c32=>?_)
 refine XW.at 11 ?_;obtain⟨u,hu1,hum⟩:=Bm l (k+q) oM;obtain⟨v,hv1,hvm⟩:=Bm l (k+q-1) oM;have hq1:((q:Int)-1).toNat=q-1:=oM;have hK:=hI1.2.2;have e1:=KD (K:=Cw l (k+q)) (l:=l) (j:=k+q) oM;rw[hu1]at e1;have e2:=KD (K:=Cw l (k+q)) (l:=l) (j:=k+q-1) oM;rw[hv1,Nat.add_sub_assoc oM]at e2;have hrs:=RR (K:=Cw l (k+q)) (l:=l) u oM
 refine Ah 11 ?_
 refine Aw 2 ?_
 have hx:=e1
 refine Aw 4 ?_
 have hx:=hq1;have hx2:=e2
 refine A2 4 ?_
 any_goals(refine XO.done [0,3,4,5,44] ?_)
 refine Bx 44 (fun c44=>?_) (fun c44=>?_)
 refine XW.at 12 ?_;have e3:=KD (K:=Cw l (k+q)) (l:=l) (j:=(Cw l (k+q)).length) (Nat.le_refl _);obtain⟨z,hz,hzm⟩:=Bm l (Cw l (k+q)).length oM;rw[hz]at e3
 refine Ah 12 ?_
 refine Aw 4 ?_
 have hx:=e1
 refine Aw 2 ?_
 refine Aw 1 ?_
 have hx:=e3
 refine Aw 1 ?_
 any_goals(refine XO.done [0,3,4,5] ?_)
 refine AQ 13 [0,3,4,5] ?_
 any_goals(refine AQ 10 [0,3,4,5] ?_;refine XH.le ?_;(first|(have hsq:=WQ (j:=k+q) hu1 hv1 (by simpa using c44))|(have hsq:=Yo (j:=k+q) hu1 oM hv1 (by simpa using c44)));exact hY1 (q+1) (⟨oM,oM,by rw[← Nat.add_assoc,hsq];first|omega|(simp;omega)⟩) (by first|omega|(simp;done)|(simp;omega)) _ _ (CL [some 0] [] (by simp[AK,lk,lkh,I,str,B,U8,U64,U32,I,hsq,hrs,← Nat.add_assoc];first|done|omega) (by simp[Am,Ai,Ak,lkh,I,str,I,hsq,hrs,← Nat.add_assoc])))
 refine XW.at 14 ?_;have hK:=hI1.2.2;have hq:k+q=l.length:=oM;rw[hq]at hK ⊢;have hcl:=Q8 (K:=Cw l l.length) (l:=l) oM;have hrn:=Ld (K:=Cw l l.length) (l:=l) oM;have hfin:(1:Nat)=1:=rfl
 refine Ah 14 ?_
 refine A2 3 ?_
 refine Ya (Au (Cw l l.length++List.replicate (l.length- (Cw l l.length).length) [])) (x:= .tmp 56) (i:=0) (m:=l.length- (Cw l l.length).length) (E:=⟨9,1,Au (FM (Cw l l.length) l)⟩) (hd:=D28) (hte:=T9) oM (by rw[FI,hrn];omega) hcl ?_
 any_goals(refine XO.done [0,3] ?_)
 refine Ah 15 ?_
 refine Ac 2 ?_
 refine Abq (Au (Cw l l.length)) ?_
 refine Ac 1 ?_
 any_goals(refine XO.done [2] ?_)
 refine Aq ?_;refine XB.ret [some 0] [] (hids:=⟨by simp[Al],by simp[Al],rfl⟩) (hwk:=by simp[Az,lk,lkh,wk,wkL,wkE,I,hfin]) (hwh:=?_);simp[Am,Ai,Ak,lkh,wkE,wkL,wk,B,I,hfin]
 refine AQ 5 [0,3] ?_
 · refine XH.le ?_;exact hY0 (k+1) (⟨oM,oM,by rw[WQ hx1 hy1 (by simpa using c25),hdk,List.take_add_one,hx1];rfl⟩) (by first|omega|(simp;done)|(simp;omega)) _ _ (AO trivial [some 0] [])
 refine XW.at 16 ?_;have hdk:=hI0.2.2;have hkn:k=l.length:=oM;have hfin:Cw l l.length=l:=(by rw[← hkn,hdk,hkn,List.take_length])
 refine Aa 16 [2] ?_
 refine Aq ?_;refine XB.ret [some 0] [] (hids:=⟨by simp[Al],by simp[Al],rfl⟩) (hwk:=by simp[Az,lk,lkh,wk,wkL,wkE,I,hfin]) (hwh:=?_);simp[Am,Ai,Ak,lkh,wkE,wkL,wk,B,I,hfin]
def Jc(t:Ts):Option S:=if t.op=1 then some t.text else if t.op=4∧pfx t.name [64]=false then some (t.name++[61]++t.text)else none
def PU(o:Option S):AV:= .tup [str (o.getD []),B o.isSome]
theorem Adv(t:Ts)(h1:t.name.length≤19)(h2:t.text.length≤19):Ae Tryz.prog 135 [tsA t] (fun r=>r=PU (Jc t)):=by
 refine Ax 31 Tryz.func135 ?_
 refine Aa 0 [1] ?_
 refine Aa 1 [1,5] ?_
 refine AC 5 (fun c5=>?_) (fun c5=>?_)
 refine Aa 2 [2,3] ?_
 · refine Aq ?_;refine Bo ?_;simp[PU,Jc,Az,str,B,c5];done
 refine Ah 3 ?_
 refine Ac 4 ?_
 refine Cn 15 (fun g15=>?_) (fun g15=>?_)
 any_goals(refine Ac 2 ?_;(first|(refine AG (AbL t.name [64]) ?_;rintro _ rfl)|refine Ac 1 ?_);refine Ac 3 ?_;refine XO.done [1,11] ?_;(first|refine A3 11 ?_|refine Bx 11 (fun c11=>?_) (fun c11=>?_)))
 refine AQ 4 [4] ?_
 refine XW.at 5 ?_;have hl9:(t.name++[61]++t.text).length≤2048:=sO;have hx:decide (((t.name++[61]++t.text).length:Int)≤2048)=true:=(by rw[decide_eq_true_iff];omega)
 refine BJ 5 [2,3] ?_
 · refine Aq ?_;refine Bo ?_;(try simp at c11);simp[PU,Jc,Az,str,B,c5,c11,g15];done
 any_goals(refine Aa 6 [2,3] ?_;(refine Aq ?_;first|((refine Bo ?_;(try simp at c11);simp[PU,Jc,Az,str,B,c5,c11,g15];done))|((refine Bo ?_;simp[PU,Jc,Az,str,B,c5,g15];done))))
def Ny(l:List S)(s:S):Bool:=l.any fun y=>s==y
def rqA(ks:List Ts)(f:Ts→List S)(i:Nat):List S:=(ks.take i).flatMap f
def rqO(ks:List Ts)(f:Ts→List S):Nat→List S
 |0=>[]
 |i+1=>match ks[i]? with
   |some k=>if i=0 then f k else kpT (fun s=>!(Ny (f k) s)) (rqO ks f i) (rqO ks f i).length
   |none=>rqO ks f i
theorem QK{ks:List Ts}(f:Ts→List S){i:Nat}{k:Ts}(h:ks[i]? =some k):rqA ks f (i+1)=rqA ks f i++f k:=by rw[rqA,List.take_add_one,h,List.flatMap_append];simp[rqA]
theorem Vx{ks:List Ts}(f:Ts→List S){i:Nat}{k:Ts}(h:ks[i]? =some k):rqO ks f (i+1)=if i=0 then f k else kpT (fun s=>!(Ny (f k) s)) (rqO ks f i) (rqO ks f i).length:=by rw[rqO,h]
theorem Va{ks:List Ts}{f:Ts→List S}{m:Nat}(hf: ∀ k∈ks,(f k).length≤m): ∀ i,i≤ks.length→(rqA ks f i).length≤i*m
 |0,_=>by simp[rqA]
 |i+1,h=>by
   have hx:=List.getElem?_eq_getElem (l:=ks) (i:=i) oM
   have:=Va hf i oM
   have:=hf ks[i] (List.getElem_mem _)
   rw[QK f hx,List.length_append,Nat.succ_mul];omega
theorem TS{ks:List Ts}{f:Ts→List S}{m:Nat}(hf: ∀ k∈ks,(f k).length≤m): ∀ i,i≤ks.length→(rqO ks f i).length≤m
 |0,_=>by simp[rqO]
 |i+1,h=>by
   have hx:=List.getElem?_eq_getElem (l:=ks) (i:=i) oM
   have h1:=TS hf i oM
   have:=hf ks[i] (List.getElem_mem _)
   rw[Vx f hx]
   split
   · exact this
   · have:=UW (fun s=>!(Ny (f ks[i]) s)) (rqO ks f i) (rqO ks f i).length
     omega
def C4(t:Ts)(f:Ts→List S)(i:Nat):List S:=if t.op=6 then rqA t.kids f i else if t.op=7 then rqO t.kids f i else []
def rqS(t:Ts)(f:Ts→List S):List S:=match Jc t with
 |some s=>[s]
 |none=>Cw (HA (C4 t f t.kids.length)) (C4 t f t.kids.length).length
def rqD:Nat→Ts→List S
 |0,t=>rqS t fun _=>[]
 |d+1,t=>rqS t (rqD d)
theorem SN{t:Ts}{f:Ts→List S}{m:Nat}(hf: ∀ k∈t.kids,(f k).length≤m)(hk:t.kids.length≤3)(i:Nat)(hi:i≤t.kids.length):(C4 t f i).length≤3*m:=by
 have h1:=Va hf i hi
 have h2:=TS hf i hi
 have h3:i*m≤3*m:=Nat.mul_le_mul_right m oM
 unfold C4
 split
 · omega
 · split
   · omega
   · simp
theorem Nw(l:List S):(HA l).length=l.length:=JV l _ (Nat.le_refl _)
theorem Pj{t:Ts}{f:Ts→List S}{m:Nat}(hf: ∀ k∈t.kids,(f k).length≤m)(hk:t.kids.length≤3):(rqS t f).length≤3*m+1:=by
 unfold rqS
 split
 · simp
 · have:=N1 (HA (C4 t f t.kids.length)) (C4 t f t.kids.length).length
   have:=SN hf hk t.kids.length (Nat.le_refl _)
   omega
theorem Ri(t:Ts)(h1:t.name.length≤19)(h2:t.text.length≤19)(hkl:t.kids.length≤3)(f:Ts→List S)(m:Nat)(hm:3*m≤12)(hfl: ∀ k∈t.kids,(f k).length≤m)(hf: ∀ k∈t.kids,Ad Tryz.prog 79 [tsA k] [] (.osl 0 (f k).length 1) [some ⟨9,1,Au (f k)⟩]):Ad Tryz.prog 79 [tsA t] [] (.osl 0 (rqS t f).length 1) [some ⟨9,1,Au (rqS t f)⟩]:=by
 have q0:=Adv t h1 h2
 have hz:C4 t f 0=[]:=by unfold C4 rqA rqO;simp
 have hlen:=SN hfl hkl
 refine BD 55 0 Tryz.func79 ?_
 refine Aa 0 [1] ?_
 refine Ah 1 ?_
 refine Ac 1 ?_
 refine AG (q0) ?_;rintro _ rfl
 have hcs:PU (Jc t)= .tup [str ((Jc t).getD []),B (Jc t).isSome]:=rfl;rw[hcs]
 refine Ac 5 ?_
 any_goals(refine XO.done [1,3,4] ?_)
 refine Aa 2 [1,3,14] ?_
 refine Bx 14 (fun c14=>?_) (fun c14=>?_)
 refine XW.at 3 ?_;obtain⟨s,hs⟩:=Option.isSome_iff_exists.1 c14;have hfin:rqS t f=[s]:=(by rw[rqS,hs]);rw[hs]
 refine Aa 3 [2] ?_
 · refine Aq ?_;refine XB.ret [some 0] [] (hids:=⟨by simp[Al],by simp[Al],rfl⟩) (hwk:=by simp[Az,lk,lkh,wk,wkL,wkE,I,hfin]) (hwh:=?_);simp[Am,Ai,Ak,lkh,wkE,wkL,wk,B,I,str,Au,hfin];done
 refine XW.at 4 ?_;have hs:Jc t=none:=(by simpa using c14);have hrs:rqS t f=Cw (HA (C4 t f t.kids.length)) (C4 t f t.kids.length).length:=(by rw[rqS,hs])
 refine Aa 4 [1,5] ?_
 refine Aa 5 [1,5,18,19,20] ?_
 any_goals(refine A8 2 (fun i:Nat=>⟨[(1,.ptr 0 5 0 0),(5,.osl 1 (C4 t f i).length 1),(18,.sl 5 (tsE t.kids)),(19,I t.kids.length),(20,I i)],[(0,some ⟨26,5,[[I t.op,str t.name,str t.text,I t.num,.sl 5 (tsE t.kids)]]⟩),(1,some ⟨9,1,Au (C4 t f i)⟩)]⟩) (fun i=>i≤t.kids.length) (fun i=>t.kids.length-i) 0 (AO hz [some 0,none] []) ?_;rintro i hI0 Y0 hY0;skip)
 refine Aa 6 [1,5,18,19,20,21] ?_
 refine AC 21 (fun c21=>?_) (fun c21=>?_)
 refine XW.at 7 ?_;obtain⟨k,hx,hkm⟩:=Bm t.kids i oM;have hAs:=QK f hx;have hOs:=Vx f hx;have hli:=hlen i oM
 refine BJ 7 [1,5,6,7,18,19,20] ?_
 refine Ah 8 ?_
 refine Ac 1 ?_
 refine HO (hf k hkm) (hei:=by simp) ?_
 refine Ac 2 ?_
 any_goals(refine XO.done [1,5,6,8,18,19,20] ?_)
 refine Aa 9 [1,5,6,8,18,19,20,27] ?_
 refine AC 27 (fun c27=>?_) (fun c27=>?_)
 refine XW.at 10 ?_;have hfk:=hfl k hkm
 refine Aa 10 [1,5,18,19,20] ?_
 any_goals(refine Ah 11 ?_;refine Ac 4 ?_;refine Cn 38 (fun g38=>?_) (fun g38=>?_))
 any_goals(refine Ac 4 ?_;refine XO.done [1,5,8,18,19,20,34] ?_;(first|refine A3 34 ?_|refine AC 34 (fun c34=>?_) (fun c34=>?_)))
 any_goals refine Aa 12 [1,5,18,19,20] ?_
 any_goals(refine Aa 13 [1,5,8,18,19,20,43] ?_;refine AC 43 (fun c43=>?_) (fun c43=>?_))
 any_goals(exfalso;omega)
 any_goals(refine XW.at 14 ?_;refine Fq 14 3 ⟨[(1,.ptr 0 5 0 0),(5,.osl 1 (C4 t f i).length 1),(8,.ptr 2 1 0 0),(18,.sl 5 (tsE t.kids)),(19,I t.kids.length),(20,I i)],[(0,some ⟨26,5,[[I t.op,str t.name,str t.text,I t.num,.sl 5 (tsE t.kids)]]⟩),(1,some ⟨9,1,Au (C4 t f i)⟩),(2,some ⟨28,1,[[.sl 1 (Au (f k))]]⟩)]⟩ ⟨[some 0,some 1,some 2],[3],⟨by simp[Al],by simp[Al],by rfl⟩,sP,by simp[AK,lk,lkh,I],by simp[Am,Ai,Ak,lkh,I,str]⟩ ?_;refine Fq 14 2 ⟨[(1,.ptr 0 5 0 0),(5,.osl 1 (C4 t f i).length 1),(8,.rp [.sl 1 (Au (f k))]),(18,.sl 5 (tsE t.kids)),(19,I t.kids.length),(20,I i)],[(0,some ⟨26,5,[[I t.op,str t.name,str t.text,I t.num,.sl 5 (tsE t.kids)]]⟩),(1,some ⟨9,1,Au (C4 t f i)⟩)]⟩ ⟨[some 0,some 1],[2],⟨by simp[Al],by simp[Al],by rfl⟩,sP,by simp[AK,lk,lkh,I,AB,AF,AN],by simp[Am,Ai,Ak,lkh,I,str]⟩ ?_;refine Ah 14 ?_;refine Ac 2 ?_;refine XJ 1 (Adf 137 [.sl 1 (Au (f k))] (by simp[AF,AN]) (fun s=>!(Ny (f k) s)) (C4 t f i) (by have:=hlen i oM;omega) (fun x _=>Afb (f k) (by have:=hfl k hkm;omega) x)) ?_;refine Ac 1 ?_;refine XO.done [1,5,18,19,20] ?_)
 any_goals(refine AQ 15 [1,5,18,19,20] ?_;(refine XH.le ?_;(first|(have hst:C4 t f (i+1)=C4 t f i++f k:=(by simp only[C4,c27,if_true];exact hAs))|(have hi0:=(show i=0 by omega);have hro: ∀ i,C4 t f i=rqO t.kids f i:=(fun i=>by rw[C4,if_neg c27,if_pos g38]);have hst:C4 t f (i+1)=f k:=(by rw[hro,hOs,if_pos hi0]))|(have hi0:=(show ¬ i=0 by omega);have hro: ∀ i,C4 t f i=rqO t.kids f i:=(fun i=>by rw[C4,if_neg c27,if_pos c43]);have hst:C4 t f (i+1)=kpT (fun s=>!(Ny (f k) s)) (C4 t f i) (C4 t f i).length:=(by rw[hro,hro,hOs,if_neg hi0]))|(have hst:C4 t f (i+1)=C4 t f i:=(by simp only[C4,if_neg c27,if_neg c43])));refine eY hY0 (i+1) (AO hst [some 0,some 1] [])))
 refine XW.at 16 ?_;obtain rfl:i=t.kids.length:=oM
 refine Ah 16 ?_
 refine Ac 1 ?_
 refine QI 1 (AcX (C4 t f t.kids.length) (by have:=hlen _ (Nat.le_refl _);omega)) ?_
 any_goals(refine XO.done [5] ?_)
 refine XW.at 17 ?_;have hfin:=hrs;have q17:=AdN (HA (C4 t f t.kids.length)) (by have:=hlen _ (Nat.le_refl _);rw[Nw];omega);rw[Nw]at q17
 refine Ah 17 ?_
 refine Ac 1 ?_
 refine XJ 0 q17 ?_
 refine Ac 1 ?_
 any_goals(refine XO.done [2] ?_)
 · refine Aq ?_;refine XB.ret [some 0] [] (hids:=⟨by simp[Al],by simp[Al],rfl⟩) (hwk:=by simp[Az,lk,lkh,wk,wkL,wkE,I,hfin]) (hwh:=?_);simp[Am,Ai,Ak,lkh,wkE,wkL,wk,B,I,hfin];done
theorem V8: ∀ (d:Nat) (t:Ts),TsB d t→d≤2→(rqD d t).length≤(if d=0 then 1 else if d=1 then 4 else 13)∧(d≤2→Ad Tryz.prog 79 [tsA t] [] (.osl 0 (rqD d t).length 1) [some ⟨9,1,Au (rqD d t)⟩])
 |0,t,h,hd=>by
   have hk:t.kids=[]:=h.2.2.2.2
   have h3:=Pj (t:=t) (f:=fun _=>[]) (m:=0) sP (by rw[hk];simp)
   exact⟨by rw[if_pos rfl];exact h3,fun _=>Ri t h.1 h.2.1 (by rw[hk];simp) (fun _=>[]) 0 dC sP (by rw[hk];simp)⟩
 |1,t,h,hd=>by
   have hk:=fun k hk=>(V8 0 k (h.2.2.2.2.2 k hk) oM)
   have hl: ∀ k∈t.kids,(rqD 0 k).length≤1:=fun k h'=>(hk k h').1
   exact⟨by rw[if_neg dC,if_pos rfl];exact Pj hl h.2.2.2.2.1,fun _=>Ri t h.1 h.2.1 h.2.2.2.2.1 (rqD 0) 1 dC hl (fun k h'=>(hk k h').2 oM)⟩
 |2,t,h,hd=>by
   have hk:=fun k hk=>(V8 1 k (h.2.2.2.2.2 k hk) oM)
   have hl: ∀ k∈t.kids,(rqD 1 k).length≤4:=fun k h'=>(hk k h').1
   exact⟨by rw[if_neg dC,if_neg dC];exact Pj hl h.2.2.2.2.1,fun _=>Ri t h.1 h.2.1 h.2.2.2.2.1 (rqD 1) 4 dC hl (fun k h'=>(hk k h').2 oM)⟩
 |d+3,t,h,hd=>by omega
def rrO(ks:List Ts)(f:Ts→List S):Nat→List S
 |0=>[]
 |i+1=>match ks[i]? with
   |some k=>if i=0 then f k else(rrO ks f i).filter (DV (f k))
   |none=>rrO ks f i
theorem QF{ks:List Ts}(f:Ts→List S){i:Nat}{k:Ts}(h:ks[i]? =some k):rrO ks f (i+1)=if i=0 then f k else(rrO ks f i).filter (DV (f k)):=by rw[rrO,h]
theorem Ac2{ks:List Ts}{f:Ts→List S}{m:Nat}(hf: ∀ k∈ks,(f k).length≤m): ∀ i,i≤ks.length→(rrO ks f i).length≤m
 |0,_=>by simp[rrO]
 |i+1,h=>by
   have hx:=List.getElem?_eq_getElem (l:=ks) (i:=i) oM
   have h1:=Ac2 hf i oM
   have:=hf ks[i] (List.getElem_mem _)
   rw[QF f hx]
   split
   · exact this
   · have:=List.length_filter_le (DV (f ks[i])) (rrO ks f i)
     omega
def rrS(t:Ts)(f:Ts→List S):List S:=if t.op=1 then [t.text]else if t.op=4 then(if pfx t.name [64]then []else [t.name++[61]++t.text])else if t.op=6 then Bg (rqA t.kids f t.kids.length)else if t.op=7 then rrO t.kids f t.kids.length else []
def rrD:Nat→Ts→List S
 |0,t=>rrS t fun _=>[]
 |d+1,t=>rrS t (rrD d)
theorem Vp(A:List S)(x:S): ∀ j,E9 A x j≤j
 |0=>Nat.le_refl _
 |j+1=>by rw[E9];split;(have:=Vp A x j;omega);omega
theorem UT(A:List S)(x:S): ∀ j k,E9 A x j≤k→k<j→ltS x (A.getD k [])
 |0,k,_,h=>by omega
 |j+1,k,h1,h2=>by
   rw[E9]at h1
   split at h1
   · next h=>
     rcases Nat.lt_or_ge k j with h3|h3
     · exact UT A x j k h1 h3
     · rw[show k=j by omega];exact h
   · omega
theorem U0(A:List S)(x:S): ∀ j,0<E9 A x j→ ¬ ltS x (A.getD (E9 A x j-1) [])
 |0,h=>by simp[E9]at h
 |j+1,h=>by
   rw[E9]at h ⊢
   split at h
   · next h1=>rw[if_pos h1];exact U0 A x j h
   · next h1=>rw[if_neg h1,Nat.add_sub_cancel];exact h1
def lqS(x y:S):Prop:= ¬ ltS y x
theorem YS{x y z:S}(h1:lqS x y)(h2:lqS y z):lqS x z:=by
 intro h
 rcases HT x y with a|a|a
 · rcases HT y z with b|b|b
   · exact JQ (EH a b) h
   · subst b;exact JQ a h
   · exact h2 b
 · subst a;exact h2 h
 · exact h1 a
theorem Tb{A:List S}(x:S)(h:A.Pairwise lqS):(HL A x).Pairwise lqS:=by
 have hle:=Vp A x A.length
 have hhi:=UT A x A.length
 have hlo:=U0 A x A.length
 unfold HL
 generalize E9 A x A.length=j at*
 have hA:(A.take j++A.drop j).Pairwise lqS:=by rw[List.take_append_drop];exact h
 obtain⟨p1,p2,p3⟩:=List.pairwise_append.1 hA
 have hx1: ∀ y∈A.take j,lqS y x:=by
   intro y hy
   obtain⟨k,hk,rfl⟩:=List.mem_take_iff_getElem.1 hy
   have h1:=hlo oM
   rw[show A.getD (j-1) []=A[j-1] by simp[List.getD,show j-1<A.length by omega]]at h1
   rcases Nat.lt_or_ge k (j-1)with h2|h2
   · exact YS (List.pairwise_iff_getElem.1 h k (j-1) oM oM h2) h1
   · have:k=j-1:=by omega
     subst this;exact h1
 have hx2: ∀ y∈A.drop j,lqS x y:=by
   intro y hy
   obtain⟨k,hk,rfl⟩:=List.mem_drop_iff_getElem.1 hy
   have h1:=hhi (j+k) oM oM
   rw[show A.getD (j+k) []=A[j+k] by simp[List.getD,show j+k<A.length by omega]]at h1
   exact JQ h1
 rw[List.pairwise_append]
 refine⟨p1,List.pairwise_cons.2 ⟨hx2,p2⟩,?_⟩
 intro a ha b hb
 rcases List.mem_cons.1 hb with rfl|hb
 · exact hx1 a ha
 · exact p3 a ha b hb
theorem Aaw(A:List S)(x z:S):z∈HL A x↔z=x∨z∈A:=by
 unfold HL
 rw[List.mem_append,List.mem_cons]
 conv=>rhs;rw[← List.take_append_drop (E9 A x A.length) A,List.mem_append]
 constructor
 · rintro(h|h|h)
   · exact .inr (.inl h)
   · exact .inl h
   · exact .inr (.inr h)
 · rintro(h|h|h)
   · exact .inr (.inl h)
   · exact .inl h
   · exact .inr (.inr h)
theorem Q5: ∀ (l A:List S),A.Pairwise lqS→(l.foldl HL A).Pairwise lqS∧ ∀ z,z∈l.foldl HL A↔z∈l∨z∈A
 | [],A,h=>⟨h,fun z=>by simp⟩
 |x::l,A,h=>by
   obtain⟨h1,h2⟩:=Q5 l (HL A x) (Tb x h)
   refine⟨h1,fun z=>?_⟩
   rw[List.foldl_cons,h2,Aaw,List.mem_cons]
   constructor
   · rintro(a|a|a)
     · exact .inl (.inr a)
     · exact .inl (.inl a)
     · exact .inr a
   · rintro((a|a)|a)
     · exact .inr (.inl a)
     · exact .inl a
     · exact .inr (.inr a)
theorem Ac3(l:List S):(HA l).Pairwise lqS∧ ∀ z,z∈HA l↔z∈l:=by
 have:=Q5 (l.take l.length) [] List.Pairwise.nil
 refine⟨this.1,fun z=>?_⟩
 have h:=this.2 z
 rw[List.take_length]at h
 simpa [HA,Dr] using h
theorem Ue{l:List S}(h:l.Pairwise lqS): ∀ j,j≤l.length→(Cw l j).Pairwise ltS∧(∀ z,z∈Cw l j↔z∈l.take j)
 |0,_=>by simp[Cw]
 |j+1,hj=>by
   obtain⟨h1,h2⟩:=Ue h j oM
   have hx:=List.getElem?_eq_getElem (l:=l) (i:=j) oM
   rw[SX hx,List.take_add_one,hx]
   split
   · next hc=>
     refine⟨h1,fun z=>?_⟩
     rw[h2]
     simp only[Option.toList,List.mem_append,List.mem_singleton]
     constructor
     · exact .inl
     · rintro(a|rfl)
       · exact a
       · obtain⟨hc1,hc2⟩:=hc
         rw[List.mem_take_iff_getElem]
         obtain⟨h3,h4⟩:=List.getElem?_eq_some_iff.1 hc2
         exact⟨j-1,oM,h4⟩
   · next hc=>
     refine⟨?_,fun z=>by rw[List.mem_append,List.mem_append,h2];exact Iff.rfl⟩
     rw[List.pairwise_append]
     refine⟨h1,sP,?_⟩
     intro a ha b hb
     simp at hb;subst hb
     have ha:=(h2 a).1 ha
     obtain⟨k,hk,rfl⟩:=List.mem_take_iff_getElem.1 ha
     have hle:lqS l[k] l[j]:=List.pairwise_iff_getElem.1 h k j oM oM oM
     rcases HT l[k] l[j]with e|e|e
     · exact e
     · exfalso
       apply hc
       refine⟨oM,?_⟩
       rw[List.getElem?_eq_getElem oM]
       congr 1
       rcases Nat.lt_or_ge k (j-1)with h5|h5
       · have g1:lqS l[k] (l[j-1]'oM):=List.pairwise_iff_getElem.1 h k (j-1) oM oM h5
         have g2:lqS (l[j-1]'oM) l[j]:=List.pairwise_iff_getElem.1 h (j-1) j oM oM oM
         rw[e]at g1
         rcases HT (l[j-1]'oM) l[j]with q|q|q
         · exact absurd q g1
         · exact q
         · exact absurd q g2
       · have:k=j-1:=by omega
         subst this;exact e
     · exact absurd e hle
theorem Qo{a b:List S}(ha:a.Pairwise ltS)(hb:b.Pairwise ltS)(h: ∀ z,z∈a↔z∈b):a=b:=by
 induction a generalizing b with
 |nil=>
   cases b with
   |nil=>rfl
   |cons y b=>exact absurd ((h y).2 sP) sP
 |cons x a ih=>
   cases b with
   |nil=>exact absurd ((h x).1 sP) sP
   |cons y b=>
     have ha':=List.pairwise_cons.1 ha
     have hb':=List.pairwise_cons.1 hb
     have e:x=y:=by
       rcases List.mem_cons.1 ((h x).1 sP)with e|e
       · exact e
       · rcases List.mem_cons.1 ((h y).2 sP)with e2|e2
         · exact e2.symm
         · exact absurd (EH (ha'.1 y e2) (hb'.1 x e)) (C3 _)
     subst e
     congr 1
     refine ih ha'.2 hb'.2 (fun z=>?_)
     constructor
     · intro hz
       rcases List.mem_cons.1 ((h z).1 (by simp[hz]))with e|e
       · subst e;exact absurd (ha'.1 z hz) (C3 _)
       · exact e
     · intro hz
       rcases List.mem_cons.1 ((h z).2 (by simp[hz]))with e|e
       · subst e;exact absurd (hb'.1 z hz) (C3 _)
       · exact e
theorem Ad9(l:List S):Cw (HA l) l.length=Bg l:=by
 obtain⟨h1,h2⟩:=Ac3 l
 have hl:=Nw l
 obtain⟨h3,h4⟩:=Ue h1 l.length oM
 refine Qo h3 (BO l) (fun z=>?_)
 rw[h4,List.take_of_length_le oM,h2,Cd]
theorem W8{l:List S}(h:l.Pairwise ltS):Bg l=l:=Qo (BO l) h (Cd l)
theorem Jr{d:List S}{w:S}(hd:d.Pairwise ltS):DV d w=true↔w∈d:=by
 unfold DV
 constructor
 · intro h
   split at h
   · next x hx=>simp at h;subst h;exact List.mem_of_getElem? hx
   · simp at h
 · intro h
   rw[(Fa d w hd h).1];simp
theorem ZS{d:List S}{w:S}:Ny d w=true↔w∈d:=by
 unfold Ny
 rw[List.any_eq_true]
 constructor
 · rintro⟨x,h1,h2⟩;rw[beq_iff_eq]at h2;rwa [h2]
 · intro h;exact⟨w,h,sP⟩
theorem TT{ks:List Ts}{f g:Ts→List S}(h: ∀ k∈ks,f k=g k∧(g k).Pairwise ltS): ∀ i,i≤ks.length→rqO ks f i=rrO ks g i∧(rrO ks g i).Pairwise ltS
 |0,_=>⟨rfl,List.Pairwise.nil⟩
 |i+1,hi=>by
   have hx:=List.getElem?_eq_getElem (l:=ks) (i:=i) oM
   obtain⟨h1,h2⟩:=TT h i oM
   obtain⟨h3,h4⟩:=h ks[i] (List.getElem_mem _)
   rw[Vx f hx,QF g hx]
   by_cases h0:i=0
   · rw[if_pos h0,if_pos h0];exact⟨h3,h4⟩
   · rw[if_neg h0,if_neg h0]
     refine⟨?_,h2.filter _⟩
     rw[kpT,List.take_length,h1,h3]
     apply List.filter_congr
     intro x _
     simp only[Bool.not_not]
     rw[Bool.eq_iff_iff,ZS,Jr h4]
theorem T2{ks:List Ts}{f g:Ts→List S}(h: ∀ k∈ks,f k=g k): ∀ i,i≤ks.length→rqA ks f i=rqA ks g i
 |0,_=>rfl
 |i+1,hi=>by
   have hx:=List.getElem?_eq_getElem (l:=ks) (i:=i) oM
   rw[QK f hx,QK g hx,T2 h i oM,h _ (List.getElem_mem _)]
theorem TV{t:Ts}{f g:Ts→List S}(h: ∀ k∈t.kids,f k=g k∧(g k).Pairwise ltS):rqS t f=rrS t g∧(rrS t g).Pairwise ltS:=by
 unfold rqS Jc rrS
 by_cases h1:t.op=1
 · simp only[h1,if_true];exact⟨trivial,sP⟩
 · simp only[if_neg h1]
   by_cases h4:t.op=4
   · simp only[if_pos h4,h4,true_and]
     cases hp:pfx t.name [64]with
     |false=>simp
     |true=>
       have e:C4 t f t.kids.length=[]:=by unfold C4;rw[if_neg oM,if_neg oM]
       rw[e]
       exact⟨rfl,List.Pairwise.nil⟩
   · simp only[if_neg h4,h4,false_and,if_false]
     rw[Ad9]
     unfold C4
     by_cases h6:t.op=6
     · rw[if_pos h6,if_pos h6,T2 (fun k hk=>(h k hk).1) _ (Nat.le_refl _)]
       exact⟨rfl,BO _⟩
     · rw[if_neg h6,if_neg h6]
       by_cases h7:t.op=7
       · rw[if_pos h7,if_pos h7]
         obtain⟨a,b⟩:=TT h t.kids.length (Nat.le_refl _)
         rw[a]
         exact⟨W8 b,b⟩
       · rw[if_neg h7,if_neg h7]
         exact⟨rfl,List.Pairwise.nil⟩
theorem Xx: ∀ (d:Nat) (t:Ts),TsB d t→rqD d t=rrD d t∧(rrD d t).Pairwise ltS
 |0,t,h=>TV (by rw[h.2.2.2.2];simp)
 |d+1,t,h=>TV (fun k hk=>Xx d k (h.2.2.2.2.2 k hk))
end Go.Proofs.YtpkhodjlnodagaaGreatDoor
