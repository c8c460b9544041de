/- Part 41 of the proof of PlanSkipsOnlyWhatCannotMatch. -/
import Derived.Test.YtpkhodjlnodagaaGreatDoorB13
import Derived.Test.YtpkhodjlnodagaaGreatDoorB36
import Derived.Test.YtpkhodjlnodagaaGreatDoorB39
import Derived.Test.YtpkhodjlnodagaaGreatDoorB40
set_option linter.unusedSimpArgs false
set_option linter.unusedVariables false
set_option linter.unusedSectionVars false
namespace Go.Proofs.YtpkhodjlnodagaaGreatDoor
open Go.Av
set_option maxHeartbeats 4000000
attribute [local irreducible] Ad
theorem Ahk(cs:List UInt8)(hc:cs.length<2^63): ∃ L:List UInt8,L.length≤500∧Ad Tryz.prog 17 [.sl 1 (Ab cs),I 500] [] (.ptr 0 2 0 0) [some (cdE L 0)]:=by
 refine⟨cs.take (min cs.length 500),sO,?_⟩
 refine acN 13 0 Tryz.func17 fun C hN hk=>?_
 refine Af [0,1] ?_
 have e1:(if 500<(cs.length:Int)then 500 else(cs.length:Int))=((min cs.length 500:Nat):Int):=by split<;>omega
 have F:=e1;refine AD [4] ?_;clear F
 refine AW.ret (Ke [some 0] [])
def zev(t:Int):Ev:=⟨0,0,0,0,[],t,0,[],[],[]⟩
theorem Agd:Ad Tryz.prog 5 [] [] (B true) []:=by
 have hcb:GM [[zev 1],[zev 2]] 2=[zev 1,zev 2]:=by
   have ha:Asc [zev 1,zev 2]:=by
     unfold Asc
     simp[B7,zev]
   exact Agy [zev 1,zev 2] ha [fun i=>i==0,fun i=>i==1] (by
     intro i hi
     have:i=0∨i=1:=by simp at hi;omega
     rcases this with rfl|rfl<;>rfl)
 have q:=X9 [[zev 1],[zev 2]] sP sP
 rw[show([[zev 1],[zev 2]]:List (List Ev)).length=2 from rfl,hcb]at q
 refine acN 9 0 Tryz.func5 fun C hN hk=>?_
 refine Af [] ?_
 refine ME ?_
 refine OW.run hN hk noc [] [2,4,5] rfl 5 dC dK (fun K hK=>?_)
 simp only[Uq,List.drop_zero,List.take_succ_cons,List.take_zero]
 simp only[go_sem,seval]
 first|with_reducible refine hK _ _ ?_|refine⟨sP,hK _ _ ?_⟩|refine obK (hK _ _ ?_)
 clear hK K
 refine Ws hk 3 ⟨[(5,.osl 2 2 1)],[(0,some ⟨56,10,evE [zev 1]⟩),(1,some ⟨56,10,evE [zev 2]⟩),(2,some ⟨32,1,[[.osl 0 1 10],[.osl 1 1 10]]⟩)]⟩ (Hb (And.intro evE.eq_1 (And.intro evC.eq_1 zev.eq_1)) [some 0,some 1,some 2] []) ?_
 refine Ws hk 1 ⟨[(5,.osl 0 2 1)],[(0,some ⟨32,1,elE [[zev 1],[zev 2]]⟩)]⟩ (Hb (And.intro elE.eq_1 elC.eq_1) [some 2] [0,1]) ?_
 refine Ws hk 0 ⟨[(5,.sl 1 (elE [[zev 1],[zev 2]]))],[]⟩ (Hb trivial [] [0]) ?_
 refine OW.run hN hk (onc 5 (pcq q) noc) [] [0] rfl 4 dC dK (fun K hK=>?_)
 simp only[Uq,List.drop_succ_cons,List.drop_zero,List.take_succ_cons,List.take_zero]
 simp only[go_sem,seval]
 first|with_reducible refine hK _ _ ?_|refine⟨by first|exact FA q|exact⟨trivial,FA q⟩|exact⟨FA q,trivial⟩,hK _ _ ?_⟩|refine obK (hK _ _ ?_)
 clear hK K
 refine OW.done dC (As ?_)
 refine AW.ret (Dx [] [])
def nxV(L:List UInt8)(a n:Nat):Nat:=match L[a]? with
 |some b=>b.toNat*n / 256
 |none=>0
def nxA(L:List UInt8)(a:Nat):Nat:=if a<L.length then a+1 else a
theorem Ks{L:List UInt8}{a:Nat}(h:a≤L.length):nxA L a≤L.length:=by unfold nxA;split<;>omega
theorem LN(L:List UInt8)(a n:Nat)(hn:1≤n):nxV L a n<n:=by
 unfold nxV
 split
 · next b hb=>
   have:=b.toNat_lt
   have hm:b.toNat*n≤255*n:=Nat.mul_le_mul_right _ oM
   omega
 · omega
theorem QY(L:List UInt8)(hL:L.length≤2^20)(a n:Nat)(ha:a≤L.length)(hn:n≤2^30)(hn1:1≤n):
   Ad Tryz.prog 20 [.ptr 0 2 0 0,I n] [some (cdE L a)] (I (nxV L a n)) [some (cdE L (nxA L a))]:=by
 have q:=YE L a
 have d1:=GP (a:=(n:Int)) (b:=1) oM
 by_cases h:a<L.length
 · rw[Ze oM]at q
   have hx:=List.getElem?_eq_getElem h
   have e1:nxV L a n=L[a].toNat*n / 256:=by unfold nxV;rw[hx]
   have e2:nxA L a=a+1:=by unfold nxA;rw[if_pos h]
   rw[e1,e2]
   clear e1 e2
   generalize L[a]=b at*
   have hb:=b.toNat_lt
   have hm:b.toNat*n≤255*n:=Nat.mul_le_mul_right _ oM
   have e1:((b.toNat:Int)*(n:Int)).tdiv 256=((b.toNat*n / 256:Nat):Int):=by
     rw[Int.tdiv_eq_ediv_of_nonneg (Int.mul_nonneg oM oM),Int.natCast_ediv,Int.natCast_mul]
     rfl
   have w1:=Ar (n:=(b.toNat:Int)*(n:Int)) (by
     have:((b.toNat:Int)*(n:Int))=((b.toNat*n:Nat):Int):=by rw[Int.natCast_mul]
     omega)
   have w2:=Ar (n:=(b.toNat:Int)) oM
   have w3:=Ar (n:=((b.toNat*n / 256:Nat):Int)) oM
   refine acN 35 1 Tryz.func20 fun C hN hk=>?_
   refine Af [0,1] ?_ noc [0]
   refine rG hN hk (onc 1 (ocq 0 q) noc) [0] [0,1,12] fun K hK=>?_;simp only[go_sem,seval,d1]
   try simp (disch:=omega) only[au]
   try simp only[go_sem,seval,d1]
   refine obK (hK _ _ ?_);clear hK K;refine nx ?_;refine cF ?_;have F:=And.intro hx w2;refine DI [0,1,5] ?_ noc [0];clear F
   refine AL [1,5] ?_ noc [0]
   have F:=And.intro w1 (And.intro e1 w3);refine A6 [4] ?_ noc [0];clear F
   refine AW.ret (Ke [some 0] [])
 · rw[GP oM]at q
   have e1:nxV L a n=0:=by unfold nxV;rw[List.getElem?_eq_none oM]
   have e2:nxA L a=a:=by unfold nxA;rw[if_neg h]
   rw[e1,e2]
   refine acN 35 1 Tryz.func20 fun C hN hk=>?_
   refine Af [0,1] ?_ noc [0]
   refine rG hN hk (onc 1 (ocq 0 q) noc) [0] [0,1,12] fun K hK=>?_;simp only[go_sem,seval]
   try simp (disch:=omega) only[au]
   try simp only[go_sem,seval]
   refine obK (hK _ _ ?_);clear hK K;refine nx ?_;refine cT ?_;refine Af [4] ?_ noc [0]
   refine AW.ret (Ke [some 0] [])
def scS(L:List UInt8)(m a0:Nat):Nat→Nat×List (Nat×Option Nat)
 |0=>(a0,[])
 |i+1=>(nxA L (nxA L (nxA L (scS L m a0 i).1)),(scS L m a0 i).2++[(nxV L (scS L m a0 i).1 m,
     if nxV L (nxA L (nxA L (scS L m a0 i).1)) 4=3∧nxV L (nxA L (scS L m a0 i).1) m≠nxV L (scS L m a0 i).1 m then some (nxV L (nxA L (scS L m a0 i).1) m)else none)])
theorem TP(L:List UInt8)(m a0:Nat): ∀ i,(scS L m a0 i).2.length=i
 |0=>rfl
 |i+1=>by rw[scS,List.length_append,TP L m a0 i];rfl
theorem YP(L:List UInt8)(m a0:Nat)(h:a0≤L.length): ∀ i,(scS L m a0 i).1≤L.length
 |0=>h
 |i+1=>Ks (Ks (Ks (YP L m a0 h i)))
theorem W2(L:List UInt8)(m a0:Nat)(hm:1≤m): ∀ i,∀ c∈(scS L m a0 i).2,c.1<m
 |0=>by simp[scS]
 |i+1=>by
   intro c hc
   rw[scS]at hc
   rcases List.mem_append.1 hc with hc|hc
   · exact W2 L m a0 hm i c hc
   · rw[List.mem_singleton.1 hc];exact LN L _ m hm
theorem HC(X:List (List Ev)): ∀ L∈X.map evE,AB 0 L=true:=by
 intro L hL
 obtain⟨v,_,rfl⟩:=List.mem_map.1 hL
 simp
@[simp] theorem wkE_bb{hp:Hp}{ids:List (Option Nat)}{D:List Nat}(l:List (List UInt8))(x:List UInt8)(c:List AV):wkE hp ids D (bbE l++[c]) (bbE (l++[x]))↔wkL hp ids D c [.sl 1 (Ab x)]:=by
 rw[← RV];exact Gr (Ae6 0 l)
@[simp,go_sem] abbrev H3(L:List UInt8)(q:Qy)(a:Nat):List (Nat×Option Ent):=[(0,some ⟨31,19,[[I 0,str [],str [],I 0,AA,AA,I 0,I 0,B false,AA,AA,I 0,I 0,str [],str [],I 0,AA,str [],I 0]]⟩),(1,some ⟨98,2,[[.sl 1 (Ab L),I a]]⟩),(2,some ⟨31,19,[[I q.test.op,str q.test.name,str q.test.text,I q.test.num,.sl 5 (tsE q.test.kids),.sl 7 (sgE q.stages),I q.kind,I q.limit,B q.last,.sl 1 (Au q.names),.sl 2 (agE q.aggs),I q.sketch,I q.other.op,str q.other.name,str q.other.text,I q.other.num,.sl 5 (tsE q.other.kids),str q.key,I q.window]]⟩)]
theorem AeC(cs:List UInt8)(hc:cs.length<2^63): ∃ (l:List Ev) (m:Nat) (K:List (Nat×Option Nat)) (q:Qy) (L:List UInt8) (a:Nat),(L.length≤2^20∧a≤L.length∧QyG q)∧(Asc l∧(∀ e∈l,DrE e)∧l.length≤36)∧(1≤m∧m≤4)∧(K.length=l.length∧ ∀ c∈K,c.1<m)∧
   Ad Tryz.prog 6 [.sl 1 (Ab cs)] [] (.tup [.agg (qyC q),.sl 10 (evE l),.sl 1 (bbE (((scX l m K).drop 1).map Ee)),.sl 10 (evE ((scX l m K).getD 0 [])),.ptr 0 2 0 0]) [some (cdE L a)]:=by
 obtain⟨L,hL5,q1⟩:=Ahk cs hc
 have hL:L.length≤2^20:=by omega
 obtain⟨_,⟨q,a1,rfl,hqG,ha1⟩,q2⟩:=Adq L hL 0 oM
 obtain⟨_,⟨l,a2,rfl,⟨hasc,hdr,hll⟩,ha2⟩,q3⟩:=Aay L hL a1 ha1 6 oM
 simp only[qyC,B3,List.cons_append,List.nil_append]at q2 q3
 have q4:=QY L hL a2 4 ha2 oM oM
 have hv4:=LN L a2 4 oM
 have ha3:=Ks ha2
 generalize nxA L a2=a3 at*
 generalize nxV L a2 4=v at*
 obtain⟨m,hm⟩: ∃ m,m=v+1:=⟨_,rfl⟩
 have hm1:1≤m∧m≤4:=by omega
 have w4:=Ar (n:=1+(v:Int)) oM
 have e4:1+(v:Int)=(m:Int):=by omega
 have hsl:=TP L m a3
 have hsle:=YP L m a3 ha3
 have hsok:=W2 L m a3 hm1.1
 refine⟨l,m,(scS L m a3 l.length).2,q,L,(scS L m a3 l.length).1,⟨hL,hsle _,hqG⟩,⟨hasc,hdr,hll⟩,hm1,⟨hsl l.length,hsok l.length⟩,?_⟩
 refine acN 101 0 Tryz.func6 fun C hN hk=>?_
 refine Af [0,2] ?_
 refine Af [2,7] ?_ (onc 1 (pcq q1) noc)
 refine Af [2,7,8] ?_ (onc 1 (ocq 1 q2) noc)
 refine Af [2,7,8,9] ?_ (onc 1 (ocq 1 q3) noc)
 rw[e4]at w4
 have F:=And.intro e4 w4;refine A6 [2,7,8,9,10] ?_ (onc 1 (ocq 1 q4) noc);clear F;refine Af [2,7,8,9,10,11] ?_
 clear q1 q2 q3 q4 w4 e4 hm hv4
 have FC: ∀ {a:Nat} (env:List (Nat×AV)),K8 4 env=true→FamC 3 env (H3 L q a):=fun env he=>⟨rfl,rfl,he⟩
 refine LW (o:=3) (sz:=10) (ty:=56) (oty:=32) (m:=m) (hp:=(H3 L q a3)) hk oM (FC _ rfl) ?_
 refine JD (k:=0) (fun i:Nat=>SO [(2,.ptr 0 19 0 0),(7,.ptr 1 2 0 0),(8,.ptr 2 19 0 0),(9,.sl 10 (evE l)),(10,.osl 3 m 1),(11,I i)] (H3 L q (scS L m a3 i).1) 3 10 56 32 ((scX l m (scS L m a3 i).2).map evE)) (fun i=>i≤l.length) (fun i=>l.length-i) 0 oM (by simp[scS,AhN,I,str,B,AA]) ?_
 intro i h1
 have hai:=hsle i
 have hKl:=hsl i
 have hsS:scS L m a3 (i+1)=(nxA L (nxA L (nxA L (scS L m a3 i).1)),(scS L m a3 i).2++[(nxV L (scS L m a3 i).1 m,
     if nxV L (nxA L (nxA L (scS L m a3 i).1)) 4=3∧nxV L (nxA L (scS L m a3 i).1) m≠nxV L (scS L m a3 i).1 m then some (nxV L (nxA L (scS L m a3 i).1) m)else none)]):=rfl
 generalize hA:(scS L m a3 i).1=a at*
 obtain⟨K,hKE⟩: ∃ K,(scS L m a3 i).2=K:=⟨_,rfl⟩
 rw[hKE]at hKl hsS ⊢
 have hpl:=HC (scX l m K)
 have hxl:=Ef l m K
 have hm:3+1+m=3+1+((scX l m K).map evE).length:=by simp[hxl]
 have hno:((scX l m K).map evE)[m]? =none:=by simp[hxl]
 by_cases hi:i<l.length
 · have hx:=List.getElem?_eq_getElem hi
   have q1:=QY L hL a m hai oM hm1.1
   have hk1:=LN L a m hm1.1
   have hb1:=Ks hai
   have q2:=QY L hL (nxA L a) m hb1 oM hm1.1
   have hk2:=LN L (nxA L a) m hm1.1
   have hb2:=Ks hb1
   have q3:=QY L hL (nxA L (nxA L a)) 4 hb2 oM oM
   have hk3:=LN L (nxA L (nxA L a)) 4 oM
   have hXs:=AhI l m K oM (nxV L a m) hk1
   generalize nxA L (nxA L (nxA L a))=b3 at*
   generalize nxV L (nxA L (nxA L a)) 4=t at*
   generalize nxA L (nxA L a)=b2 at*
   generalize nxV L (nxA L a) m=k2 at*
   generalize nxA L a=b1 at*
   generalize nxV L a m=k1 at*
   simp only[hKl]at hXs
   generalize l[i]=e at*
   have hbig: ∀ p,((scX l m K).getD p []).length≤40:=by
     intro p
     by_cases hp:p<m
     · rw[Ol _ _ _ _ hp]
       have:=(HX (l.take K.length) (pOf K p)).length_le
       simp at this;omega
     · simp[List.getD,List.getElem?_eq_none (show(scX l m K).length≤p by rw[Ef];omega)]
   refine nx ?_
   rw[hm]
   refine B1 hN hk (m) (.normal) [(2,.ptr 0 19 0 0),(7,.ptr 1 2 0 0),(8,.ptr 2 19 0 0),(9,.sl 10 (evE l)),(10,.osl 3 m 1),(11,I i),(31,B true)] (H3 L q a) 3 (none) oM (FC _ rfl) hpl oM (FC _ rfl) sP (by first|(simp;done)|(simp[hxl];done)|(simp[hxl];omega)) ?_ ?_
   · intro C vs hN hk hvl
     rw[hno]
     simp only[Go.Av.ST,CK,Option.map_none,List.cons_append,List.nil_append,Nat.reduceAdd]
     refine nx ?_
     refine B8 Bh hN hk (noc) [0,1,2,3,4] [2,7,8,9,10,11,31] 5 oM rfl dK (fun K hK=>?_)
     simp only[go_sem,seval]
     try simp (disch:=omega) only[au]
     (first|with_reducible refine hK _ _ ?_|refine obK (hK _ _ ?_));clear hK K;refine nx ?_
     refine⟨rfl,[some 0,some 1,some 2,some 3],[],⟨by simp[Al],by simp[Al],sP⟩,sP,by simp[AK,lk,lkh,I,str,B,U8,U64,U32,B,AA]<;>omega,by first|(simp[Am,Ai,Ak,lkh,B,AA];done)|(simp[Am,Ai,Ak,lkh,I,str,B,AA];done)|simp[Am,Ai,Ak,lkh,I,str,B,AA]⟩
   rw[← hm]
   refine As ?_
   refine AX rfl (AW.skip (As ?_))
   simp only[BC]
   refine nx ?_
   rw[hm]
   refine B1 hN hk (m) (.normal) [(2,.ptr 0 19 0 0),(7,.ptr 1 2 0 0),(8,.ptr 2 19 0 0),(9,.sl 10 (evE l)),(10,.osl 3 m 1),(11,I i),(12,I k1)] (H3 L q b1) 3 (none) oM (FC _ rfl) hpl oM (FC _ rfl) sP (by first|(simp;done)|(simp[hxl];done)|(simp[hxl];omega)) ?_ ?_
   · intro C vs hN hk hvl
     rw[hno]
     simp only[Go.Av.ST,CK,Option.map_none,List.cons_append,List.nil_append,Nat.reduceAdd]
     refine nx ?_
     refine B8 Bh hN hk (onc 3 (ocq 1 q1) noc) [0,1,2,3,4] [2,7,8,9,10,11,12] 5 oM rfl dK (fun K hK=>?_)
     simp only[go_sem,seval];refine obK (hK _ _ ?_)
     clear hK K;refine nx ?_
     refine⟨rfl,[some 0,some 1,some 2,some 3],[],⟨by simp[Al],by simp[Al],sP⟩,sP,by simp[AK,lk,lkh,I,str,B,U8,U64,U32,B,AA]<;>omega,by first|(simp[Am,Ai,Ak,lkh,B,AA];done)|(simp[Am,Ai,Ak,lkh,I,str,B,AA];done)|simp[Am,Ai,Ak,lkh,I,str,B,AA]⟩
   rw[← hm]
   refine As ?_
   simp only[BC]
   have hpl2:k1<(scX l m K).length:=by omega
   have hat:((scX l m K).map evE)[k1]? =some (evE ((scX l m K).getD k1 [])):=by simp[List.getD,hpl2]
   have hbz:=hbig k1
   have hX1:((scX l m K).map evE).set k1 (evE ((scX l m K).getD k1 []++[e]))=(GI (scX l m K) k1 e).map evE:=by unfold GI;rw[List.map_set]
   generalize (scX l m K).getD k1 []=Z at*
   refine nx ?_
   rw[hm]
   refine B1 hN hk k1 .normal [(2,.ptr 0 19 0 0),(7,.ptr 1 2 0 0),(8,.ptr 2 19 0 0),(9,.sl 10 (evE l)),(10,.osl 3 m 1),(11,I i),(12,I k1)] (H3 L q b1) 3 (some (evE (Z++[e]))) oM (FC _ rfl) hpl oM (FC _ rfl) sP sO ?_ ?_
   · intro C vs hN hk hvl
     rw[hat]
     simp only[Go.Av.ST,CK,Option.map_some,List.cons_append,List.nil_append,Nat.reduceAdd]
     have hvp:k1<vs.length:=by rw[hvl];simpa using hpl2
     have hv0:=fun c=>Hl (c:=c) hvp
     have hfe:=LP Z e
     refine nx ?_
     refine Pi Bh hN hk (noc) [0,1,2,3,4] [2,7,8,9,10,11,12,49] 5 oM rfl dK (fun K tok htok hK=>?_)
     simp only[go_sem,seval,hv0,hx]
     refine⟨htok _ dK,?_⟩
     (first|with_reducible refine hK _ _ ?_|refine obK (hK _ _ ?_));clear hK K htok tok
     refine nx ?_
     refine⟨rfl,[some 0,some 1,some 2,some 3,some 5],[],⟨by simp[Al],by simp[Al],sP⟩,sP,by simp[AK,lk,lkh,I,str,B,U8,U64,U32,Cg hvp,hfe,AF,AN,B,AA]<;>omega,by first|(simp[Am,Ai,Ak,lkh,Cg hvp,hfe,AF,AN,B,AA];done)|(simp[Am,Ai,Ak,lkh,I,str,Cg hvp,hfe,AF,AN,B,AA];done)|simp[Am,Ai,Ak,lkh,I,str,Cg hvp,hfe,AF,AN,B,AA]⟩
   rw[← hm]
   refine As ?_
   simp only[BC]
   rw[hX1]
   clear hX1 hat hno hpl
   have hbig1: ∀ p,((GI (scX l m K) k1 e).getD p []).length≤41:=by
     intro p
     rw[Lm _ _ _ _ hpl2,List.length_append]
     have:=hbig p
     split<;>simp only[List.length_singleton,List.length_nil]<;>omega
   have hxl1:=Iv (scX l m K) k1 e
   obtain⟨X1,hX1⟩: ∃ X1,X1=GI (scX l m K) k1 e:=⟨_,rfl⟩
   rw[← hX1]at hbig1 hxl1 hXs ⊢
   have hpl:=HC X1
   have hm:3+1+m=3+1+(X1.map evE).length:=by simp[hxl1,hxl]
   have hno:(X1.map evE)[m]? =none:=by simp[hxl1,hxl]
   refine nx ?_
   rw[hm]
   refine B1 hN hk (m) (.normal) [(2,.ptr 0 19 0 0),(7,.ptr 1 2 0 0),(8,.ptr 2 19 0 0),(9,.sl 10 (evE l)),(10,.osl 3 m 1),(11,I i),(12,I k1),(13,I k2)] (H3 L q b2) 3 (none) oM (FC _ rfl) hpl oM (FC _ rfl) sP (by first|(simp;done)|(simp[hxl];done)|(simp[hxl];omega)) ?_ ?_
   · intro C vs hN hk hvl
     rw[hno]
     simp only[Go.Av.ST,CK,Option.map_none,List.cons_append,List.nil_append,Nat.reduceAdd]
     refine nx ?_
     refine B8 Bh hN hk (onc 3 (ocq 1 q2) noc) [0,1,2,3,4] [2,7,8,9,10,11,12,13] 5 oM rfl dK (fun K hK=>?_)
     simp only[go_sem,seval];refine obK (hK _ _ ?_)
     clear hK K;refine nx ?_
     refine⟨rfl,[some 0,some 1,some 2,some 3],[],⟨by simp[Al],by simp[Al],sP⟩,sP,by simp[AK,lk,lkh,I,str,B,U8,U64,U32,B,AA]<;>omega,by first|(simp[Am,Ai,Ak,lkh,B,AA];done)|(simp[Am,Ai,Ak,lkh,I,str,B,AA];done)|simp[Am,Ai,Ak,lkh,I,str,B,AA]⟩
   rw[← hm]
   refine As ?_
   simp only[BC]
   by_cases hc:t=3∧k2≠k1
   · obtain⟨rfl,hne⟩:=hc
     have dn:((k2:Int) !=(k1:Int))=true:=by simp;omega
     have hsS2:scS L m a3 (i+1)=(b3,K++[(k1,some k2)]):=by rw[hsS];simp[hne]
     have hXn:=hXs (some k2) (by intro k3 h;cases h;exact⟨hk2,hne⟩)
     simp only at hXn
     refine nx ?_
     rw[hm]
     refine B1 hN hk (m) (.normal) [(2,.ptr 0 19 0 0),(7,.ptr 1 2 0 0),(8,.ptr 2 19 0 0),(9,.sl 10 (evE l)),(10,.osl 3 m 1),(11,I i),(13,I k2),(62,B true)] (H3 L q b3) 3 (none) oM (FC _ rfl) hpl oM (FC _ rfl) sP (by first|(simp;done)|(simp[hxl];done)|(simp[hxl];omega)) ?_ ?_
     · intro C vs hN hk hvl
       rw[hno]
       simp only[Go.Av.ST,CK,Option.map_none,List.cons_append,List.nil_append,Nat.reduceAdd]
       refine nx ?_
       refine B8 Bh hN hk (onc 1 (ocq 1 q3) noc) [0,1,2,3,4] [2,7,8,9,10,11,13,62] 5 oM rfl dK (fun K hK=>?_)
       simp only[go_sem,seval,dn]
       try simp (disch:=omega) only[au]
       try simp only[go_sem,seval,dn]
       refine obK (hK _ _ ?_);clear hK K;refine nx ?_
       refine⟨rfl,[some 0,some 1,some 2,some 3],[],⟨by simp[Al],by simp[Al],sP⟩,sP,by simp[AK,lk,lkh,I,str,B,U8,U64,U32,B,AA]<;>omega,by first|(simp[Am,Ai,Ak,lkh,B,AA];done)|(simp[Am,Ai,Ak,lkh,I,str,B,AA];done)|simp[Am,Ai,Ak,lkh,I,str,B,AA]⟩
     rw[← hm]
     refine As ?_
     refine cT ?_
     simp only[BC]
     have hpl2:k2<X1.length:=by omega
     have hat:(X1.map evE)[k2]? =some (evE (X1.getD k2 [])):=by simp[List.getD,hpl2]
     have hbz:=hbig1 k2
     have hX2:(X1.map evE).set k2 (evE (X1.getD k2 []++[e]))=(GI X1 k2 e).map evE:=by unfold GI;rw[List.map_set]
     generalize X1.getD k2 []=Z2 at*
     refine nx ?_
     rw[hm]
     refine B1 hN hk k2 .normal [(2,.ptr 0 19 0 0),(7,.ptr 1 2 0 0),(8,.ptr 2 19 0 0),(9,.sl 10 (evE l)),(10,.osl 3 m 1),(11,I i)] (H3 L q b3) 3 (some (evE (Z2++[e]))) oM (FC _ rfl) hpl oM (FC _ rfl) sP sO ?_ ?_
     · intro C vs hN hk hvl
       rw[hat]
       simp only[Go.Av.ST,CK,Option.map_some,List.cons_append,List.nil_append,Nat.reduceAdd]
       have hvp:k2<vs.length:=by rw[hvl];simpa using hpl2
       have hv0:=fun c=>Hl (c:=c) hvp
       have hfe:=LP Z2 e
       refine nx ?_
       refine Pi Bh hN hk (noc) [0,1,2,3,4] [2,7,8,9,10,11,74] 5 oM rfl dK (fun K tok htok hK=>?_)
       simp only[go_sem,seval,hv0,hx]
       refine⟨htok _ dK,?_⟩
       (first|with_reducible refine hK _ _ ?_|refine obK (hK _ _ ?_));clear hK K htok tok
       refine nx ?_
       refine⟨rfl,[some 0,some 1,some 2,some 3,some 5],[],⟨by simp[Al],by simp[Al],sP⟩,sP,by simp[AK,lk,lkh,I,str,B,U8,U64,U32,Cg hvp,hfe,AF,AN,B,AA]<;>omega,by first|(simp[Am,Ai,Ak,lkh,Cg hvp,hfe,AF,AN,B,AA];done)|(simp[Am,Ai,Ak,lkh,I,str,Cg hvp,hfe,AF,AN,B,AA];done)|simp[Am,Ai,Ak,lkh,I,str,Cg hvp,hfe,AF,AN,B,AA]⟩
     simp only[BC]
     rw[hX2,← hXn,← hm]
     refine nx ?_
     clear hpl hno hm
     have hpl:=HC (scX l m (K++[(k1,some k2)]))
     have hxl2:=Ef l m (K++[(k1,some k2)])
     have hm:3+1+m=3+1+((scX l m (K++[(k1,some k2)])).map evE).length:=by simp[hxl2]
     have hno:((scX l m (K++[(k1,some k2)])).map evE)[m]? =none:=by simp[hxl2]
     refine nx ?_
     rw[hm]
     refine B1 hN hk (m) (.normal) [(2,.ptr 0 19 0 0),(7,.ptr 1 2 0 0),(8,.ptr 2 19 0 0),(9,.sl 10 (evE l)),(10,.osl 3 m 1),(11,I (i+1:Nat))] (H3 L q b3) 3 (none) oM (FC _ rfl) hpl oM (FC _ rfl) sP (by first|(simp;done)|(simp[hxl];done)|(simp[hxl];omega)) ?_ ?_
     · intro C vs hN hk hvl
       rw[hno]
       simp only[Go.Av.ST,CK,Option.map_none,List.cons_append,List.nil_append,Nat.reduceAdd]
       refine nx ?_
       refine B8 Bh hN hk (noc) [0,1,2,3,4] [2,7,8,9,10,11] 5 oM rfl dK (fun K hK=>?_)
       simp only[go_sem,seval]
       try simp (disch:=omega) only[au]
       refine hK _ _ ?_;clear hK K;refine nx ?_
       refine⟨rfl,[some 0,some 1,some 2,some 3],[],⟨by simp[Al],by simp[Al],sP⟩,sP,by simp[AK,lk,lkh,I,str,B,U8,U64,U32,B,AA]<;>omega,by first|(simp[Am,Ai,Ak,lkh,B,AA];done)|(simp[Am,Ai,Ak,lkh,I,str,B,AA];done)|simp[Am,Ai,Ak,lkh,I,str,B,AA]⟩
     refine As ⟨by first|rfl|exact hm.symm,i+1,oM,oM,?_⟩
     simp only[BC]
     rw[hsS2]
   · have hsS2:scS L m a3 (i+1)=(b3,K++[(k1,none)]):=by rw[hsS];simp only[if_neg hc]
     have hXn:=hXs none (by intro k3 h;cases h)
     simp only at hXn
     have hcb:((t:Int)==3)=false∨(((t:Int)==3)=true∧((k2:Int) !=(k1:Int))=false):=by
       by_cases ht:t=3
       · refine .inr ⟨by simp[ht],?_⟩
         have:k2=k1:=by
           rcases Nat.decEq k2 k1 with h|h
           · exact absurd ⟨ht,h⟩ hc
           · exact h
         simp[this]
       · exact .inl sO
     rcases hcb with d1|⟨d1,d2⟩
     · clear hXs hbig1
       refine nx ?_
       rw[hm]
       refine B1 hN hk (m) (.normal) [(2,.ptr 0 19 0 0),(7,.ptr 1 2 0 0),(8,.ptr 2 19 0 0),(9,.sl 10 (evE l)),(10,.osl 3 m 1),(11,I i),(13,I k2),(62,B false)] (H3 L q b3) 3 (none) oM (FC _ rfl) hpl oM (FC _ rfl) sP (by first|(simp;done)|(simp[hxl];done)|(simp[hxl];omega)) ?_ ?_
       · intro C vs hN hk hvl
         rw[hno]
         simp only[Go.Av.ST,CK,Option.map_none,List.cons_append,List.nil_append,Nat.reduceAdd]
         refine nx ?_
         refine B8 Bh hN hk (onc 1 (ocq 1 q3) noc) [0,1,2,3,4] [2,7,8,9,10,11,13,62] 5 oM rfl dK (fun K hK=>?_)
         simp only[go_sem,seval,d1]
         try simp (disch:=omega) only[au]
         try simp only[go_sem,seval,d1]
         refine obK (hK _ _ ?_);clear hK K;refine nx ?_
         refine⟨rfl,[some 0,some 1,some 2,some 3],[],⟨by simp[Al],by simp[Al],sP⟩,sP,by simp[AK,lk,lkh,I,str,B,U8,U64,U32,B,AA]<;>omega,by first|(simp[Am,Ai,Ak,lkh,B,AA];done)|(simp[Am,Ai,Ak,lkh,I,str,B,AA];done)|simp[Am,Ai,Ak,lkh,I,str,B,AA]⟩
       rw[← hm]
       refine As ?_
       refine Ay rfl (AW.skip ?_)
       simp only[BC]
       rw[← hXn]
       refine nx ?_
       clear hpl hno hm
       have hpl:=HC (scX l m (K++[(k1,none)]))
       have hxl2:=Ef l m (K++[(k1,none)])
       have hm:3+1+m=3+1+((scX l m (K++[(k1,none)])).map evE).length:=by simp[hxl2]
       have hno:((scX l m (K++[(k1,none)])).map evE)[m]? =none:=by simp[hxl2]
       refine nx ?_
       rw[hm]
       refine B1 hN hk (m) (.normal) [(2,.ptr 0 19 0 0),(7,.ptr 1 2 0 0),(8,.ptr 2 19 0 0),(9,.sl 10 (evE l)),(10,.osl 3 m 1),(11,I (i+1:Nat))] (H3 L q b3) 3 (none) oM (FC _ rfl) hpl oM (FC _ rfl) sP (by first|(simp;done)|(simp[hxl];done)|(simp[hxl];omega)) ?_ ?_
       · intro C vs hN hk hvl
         rw[hno]
         simp only[Go.Av.ST,CK,Option.map_none,List.cons_append,List.nil_append,Nat.reduceAdd]
         refine nx ?_
         refine B8 Bh hN hk (noc) [0,1,2,3,4] [2,7,8,9,10,11] 5 oM rfl dK (fun K hK=>?_)
         simp only[go_sem,seval]
         try simp (disch:=omega) only[au]
         refine hK _ _ ?_;clear hK K;refine nx ?_
         refine⟨rfl,[some 0,some 1,some 2,some 3],[],⟨by simp[Al],by simp[Al],sP⟩,sP,by simp[AK,lk,lkh,I,str,B,U8,U64,U32,B,AA]<;>omega,by first|(simp[Am,Ai,Ak,lkh,B,AA];done)|(simp[Am,Ai,Ak,lkh,I,str,B,AA];done)|simp[Am,Ai,Ak,lkh,I,str,B,AA]⟩
       refine As ⟨by first|rfl|exact hm.symm,i+1,oM,oM,?_⟩
       simp only[BC]
       rw[hsS2]
     · clear hXs hbig1
       refine nx ?_
       rw[hm]
       refine B1 hN hk (m) (.normal) [(2,.ptr 0 19 0 0),(7,.ptr 1 2 0 0),(8,.ptr 2 19 0 0),(9,.sl 10 (evE l)),(10,.osl 3 m 1),(11,I i),(13,I k2),(62,B false)] (H3 L q b3) 3 (none) oM (FC _ rfl) hpl oM (FC _ rfl) sP (by first|(simp;done)|(simp[hxl];done)|(simp[hxl];omega)) ?_ ?_
       · intro C vs hN hk hvl
         rw[hno]
         simp only[Go.Av.ST,CK,Option.map_none,List.cons_append,List.nil_append,Nat.reduceAdd]
         refine nx ?_
         refine B8 Bh hN hk (onc 1 (ocq 1 q3) noc) [0,1,2,3,4] [2,7,8,9,10,11,13,62] 5 oM rfl dK (fun K hK=>?_)
         simp only[go_sem,seval,d1,d2]
         try simp (disch:=omega) only[au]
         try simp only[go_sem,seval,d1,d2]
         refine obK (hK _ _ ?_);clear hK K;refine nx ?_
         refine⟨rfl,[some 0,some 1,some 2,some 3],[],⟨by simp[Al],by simp[Al],sP⟩,sP,by simp[AK,lk,lkh,I,str,B,U8,U64,U32,B,AA]<;>omega,by first|(simp[Am,Ai,Ak,lkh,B,AA];done)|(simp[Am,Ai,Ak,lkh,I,str,B,AA];done)|simp[Am,Ai,Ak,lkh,I,str,B,AA]⟩
       rw[← hm]
       refine As ?_
       refine Ay rfl (AW.skip ?_)
       simp only[BC]
       rw[← hXn]
       refine nx ?_
       clear hpl hno hm
       have hpl:=HC (scX l m (K++[(k1,none)]))
       have hxl2:=Ef l m (K++[(k1,none)])
       have hm:3+1+m=3+1+((scX l m (K++[(k1,none)])).map evE).length:=by simp[hxl2]
       have hno:((scX l m (K++[(k1,none)])).map evE)[m]? =none:=by simp[hxl2]
       refine nx ?_
       rw[hm]
       refine B1 hN hk (m) (.normal) [(2,.ptr 0 19 0 0),(7,.ptr 1 2 0 0),(8,.ptr 2 19 0 0),(9,.sl 10 (evE l)),(10,.osl 3 m 1),(11,I (i+1:Nat))] (H3 L q b3) 3 (none) oM (FC _ rfl) hpl oM (FC _ rfl) sP (by first|(simp;done)|(simp[hxl];done)|(simp[hxl];omega)) ?_ ?_
       · intro C vs hN hk hvl
         rw[hno]
         simp only[Go.Av.ST,CK,Option.map_none,List.cons_append,List.nil_append,Nat.reduceAdd]
         refine nx ?_
         refine B8 Bh hN hk (noc) [0,1,2,3,4] [2,7,8,9,10,11] 5 oM rfl dK (fun K hK=>?_)
         simp only[go_sem,seval]
         try simp (disch:=omega) only[au]
         refine hK _ _ ?_;clear hK K;refine nx ?_
         refine⟨rfl,[some 0,some 1,some 2,some 3],[],⟨by simp[Al],by simp[Al],sP⟩,sP,by simp[AK,lk,lkh,I,str,B,U8,U64,U32,B,AA]<;>omega,by first|(simp[Am,Ai,Ak,lkh,B,AA];done)|(simp[Am,Ai,Ak,lkh,I,str,B,AA];done)|simp[Am,Ai,Ak,lkh,I,str,B,AA]⟩
       refine As ⟨by first|rfl|exact hm.symm,i+1,oM,oM,?_⟩
       simp only[BC]
       rw[hsS2]
 · have hie:i=l.length:=by omega
   rw[hm]
   refine B1 hN hk m (.exit 0) [(2,.ptr 0 19 0 0),(7,.ptr 1 2 0 0),(8,.ptr 2 19 0 0),(9,.sl 10 (evE l)),(10,.osl 3 m 1)] (H3 L q a) 3 none oM (FC _ rfl) hpl oM (FC _ rfl) sP (by simp[hxl]) ?_ ?_
   · intro C vs hN hk hvl
     rw[hno]
     simp only[Go.Av.ST,CK,Option.map_none,List.cons_append,List.nil_append,Nat.reduceAdd]
     refine nx ?_
     refine B8 Bh hN hk (noc) [0,1,2,3,4] [2,7,8,9,10,11,31] 5 oM rfl dK (fun K hK=>?_)
     simp only[go_sem,seval]
     try simp (disch:=omega) only[au]
     (first|with_reducible refine hK _ _ ?_|refine obK (hK _ _ ?_));clear hK K;refine nx ?_
     refine cF ?_;refine nx ?_
     refine⟨rfl,[some 0,some 1,some 2,some 3],[],⟨by simp[Al],by simp[Al],sP⟩,sP,by simp[AK,lk,lkh,I,str,B,U8,U64,U32,B,AA]<;>omega,by first|(simp[Am,Ai,Ak,lkh,B,AA];done)|(simp[Am,Ai,Ak,lkh,I,str,B,AA];done)|simp[Am,Ai,Ak,lkh,I,str,B,AA]⟩
   refine nx ?_
   simp only[BC]
   rw[← hm]
   subst hie
   have hxm: ∀ i,i<m→(scX l m K)[i]? =some ((scX l m K).getD i []):=by intro i hi;simp[List.getD,show i<(scX l m K).length by omega]
   have hsgG: ∀ i,i<m→SegG ((scX l m K).getD i []):=by
     intro i hi
     rw[Ol _ _ _ _ hi]
     exact Rq ((HX _ _).trans (List.take_sublist _ _)) hasc hdr hll
   have hx0:=hxm 0 oM
   have hdl: ∀ i,i+1<m→(((scX l m K).drop 1).take (i+1)).map Ee=(((scX l m K).drop 1).take i).map Ee++[Ee ((scX l m K).getD (i+1) [])]:=by
     intro i hi
     have h1:((scX l m K).drop 1)[i]? =some ((scX l m K).getD (i+1) []):=by rw[List.getElem?_drop,Nat.add_comm 1 i];exact hxm (i+1) hi
     rw[List.take_add_one,h1]
     simp
   have hda:(((scX l m K).drop 1).take (m-1)).map Ee=((scX l m K).drop 1).map Ee:=by rw[List.take_of_length_le sO]
   obtain⟨SF,hSF⟩: ∃ SF:Nat→List (List UInt8),∀ i,(((scX l m K).drop 1).take i).map Ee=SF i:=⟨_,fun _=>rfl⟩
   have hS0:SF 0=[]:=by rw[← hSF];simp
   have hSl: ∀ i,i≤m→(SF i).length≤4:=by intro i hi;rw[← hSF];simp;omega
   simp only[hSF]at hdl hda
   rw[hKE,hA,← hda]
   clear hSF hda hKE hA
   generalize (scX l m K).getD 0 []=x0 at*
   have hpx:=hpl
   have FO:=ML (sz:=10) (ty:=56) (oty:=32) (FC (a:=a) [(2,.ptr 0 19 0 0),(7,.ptr 1 2 0 0),(8,.ptr 2 19 0 0),(9,.sl 10 (evE l)),(10,.osl 3 m 1)] rfl) hpl
   generalize scX l m K=X at*
   refine IR hk 4 ⟨[(2,.ptr 0 19 0 0),(7,.ptr 1 2 0 0),(8,.ptr 2 19 0 0),(9,.sl 10 (evE l)),(10,.osl 3 m 1)],[(0,some ⟨31,19,[[I 0,str [],str [],I 0,AA,AA,I 0,I 0,B false,AA,AA,I 0,I 0,str [],str [],I 0,AA,str [],I 0]]⟩),(1,some ⟨98,2,[[.sl 1 (Ab L),I a]]⟩),(2,some ⟨31,19,[[I q.test.op,str q.test.name,str q.test.text,I q.test.num,.sl 5 (tsE q.test.kids),.sl 7 (sgE q.stages),I q.kind,I q.limit,B q.last,.sl 1 (Au q.names),.sl 2 (agE q.aggs),I q.sketch,I q.other.op,str q.other.name,str q.other.text,I q.other.num,.sl 5 (tsE q.other.kids),str q.key,I q.window]]⟩),(3,some ⟨32,1,elE X⟩)]⟩ (CL [some 0,some 1,some 2,some 3] (List.range' 4 X.length) (by simp[AK,lk,SO]) ?_) ?_
   · refine⟨.inl ⟨0,_,rfl,rfl,rfl,rfl,.inl ⟨rfl,rfl⟩⟩,.inl ⟨1,_,rfl,rfl,rfl,rfl,.inl ⟨rfl,rfl⟩⟩,.inl ⟨2,_,rfl,rfl,rfl,rfl,.inl ⟨rfl,rfl⟩⟩,.inl ⟨3,⟨32,1,He 4 10 (X.map evE)⟩,rfl,rfl,rfl,rfl,.inr ?_⟩,trivial⟩
     have:=Mx (hp:=lkh (SO [(2,.ptr 0 19 0 0),(7,.ptr 1 2 0 0),(8,.ptr 2 19 0 0),(9,.sl 10 (evE l)),(10,.osl 3 m 1)] (H3 L q a) 3 10 56 32 (X.map evE)).hp) (ids:=[some 0,some 1,some 2,some 3]) (D:=List.range' 4 X.length) (ty:=56) (sz:=10) (X.map evE) 4 (fun j hj=>by simp at hj ⊢;omega) (fun j L hj=>FO.inn j L hj) hpl
     rw[List.map_map]at this
     exact this
   refine IR hk 3 ⟨[(2,.ptr 0 19 0 0),(7,.ptr 1 2 0 0),(8,.ptr 2 19 0 0),(9,.sl 10 (evE l)),(10,.sl 1 (elE X))],(H3 L q a)⟩ (Hb (And.intro hxl AA.eq_1) [some 0,some 1,some 2] [3]) ?_
   clear FO hpx hpl hno hm
   refine Af [2,7,8,9,10,14] ?_
   refine Af [2,7,8,9,10,14,15] ?_
   refine lpF hk 4 (fun i:Nat=>⟨[(2,.ptr 0 19 0 0),(7,.ptr 1 2 0 0),(8,.ptr 2 19 0 0),(9,.sl 10 (evE l)),(10,.sl 1 (elE X)),(14,.osl 3 (SF i).length 1),(15,I (i+1:Nat))],[(0,some ⟨31,19,[[I 0,str [],str [],I 0,AA,AA,I 0,I 0,B false,AA,AA,I 0,I 0,str [],str [],I 0,AA,str [],I 0]]⟩),(1,some ⟨98,2,[[.sl 1 (Ab L),I a]]⟩),(2,some ⟨31,19,[[I q.test.op,str q.test.name,str q.test.text,I q.test.num,.sl 5 (tsE q.test.kids),.sl 7 (sgE q.stages),I q.kind,I q.limit,B q.last,.sl 1 (Au q.names),.sl 2 (agE q.aggs),I q.sketch,I q.other.op,str q.other.name,str q.other.text,I q.other.num,.sl 5 (tsE q.other.kids),str q.key,I q.window]]⟩),(3,some ⟨22,1,bbE (SF i)⟩)]⟩) (fun i=>i+1≤m) (fun i=>m-i) 0 (Cz (And.intro hS0 (And.intro AA.eq_1 B.eq_1)) [some 0,some 1,some 2,none] []) ?_
   intro i hi0
   have hol:=hSl i oM
   by_cases hi:i+1<m
   · have hx:=hxm (i+1) hi
     have hs:=hdl i hi
     have hG:=hsgG (i+1) hi
     generalize X.getD (i+1) []=y at*
     have q:=Su y hG
     generalize Ee y=by1 at*
     generalize SF i=sg at*
     refine AL [2,7,8,9,10,14,15,79] ?_
     refine cT ?_;refine Do [2,7,8,9,10,14,15,16] ?_ (onc 4 (pcq q) noc)
     refine Af [2,7,8,9,10,14,15,16] ?_
     refine AL [2,7,8,9,10,14,15,16] ?_
     refine eE (i+1) (Cz (And.intro hs (And.intro AA.eq_1 B.eq_1)) [some 0,some 1,some 2,some 3] [4])
   · have:i=m-1:=by omega
     subst this
     generalize SF (m-1)=sg at*
     refine AL [2,7,8,9,10,14,15,79] ?_
     refine cF ?_;have F:=hx0;refine DI [2,3,4,5,6] ?_;clear F
     refine AW.ret (BY [some 2] [1] (by simp only[AY,go_sem,seval];rfl) (by simp[Az,lk,lkh,I,str,B,U8,U64,U32,qyC,B3,B,AA,cdE]<;>omega) (by first|(simp[Am,Ai,Ak,lkh,qyC,B3,B,AA,cdE];done)|simp[Am,Ai,Ak,lkh,I,str,qyC,B3,B,AA,cdE]))
end Go.Proofs.YtpkhodjlnodagaaGreatDoor
namespace Go.Proofs.YtpkhodjlnodagaaGreatDoor
open Go.Av
set_option maxHeartbeats 4000000
set_option maxRecDepth 10000
attribute [local irreducible] XH XO Ae Ad AU
abbrev QC(q:Qy):List AV:=[I q.test.op,str q.test.name,str q.test.text,I q.test.num,.sl 5 (tsE q.test.kids),.sl 7 (sgE q.stages),I q.kind,I q.limit,B q.last,.sl 1 (Au q.names),.sl 2 (agE q.aggs),I q.sketch,I q.other.op,str q.other.name,str q.other.text,I q.other.num,.sl 5 (tsE q.other.kids),str q.key,I q.window]
@[simp,go_sem] theorem QC_ids(q:Qy):IC (QC q)=[]:=rfl
@[go_sem] theorem QC_ren(q:Qy)(L:List Nat):GJ L (QC q)=QC q:=rfl
theorem AgU(q:Qy):qyC q=QC q:=by rw[qyC,B3,B3];rfl
abbrev cdC(L:List UInt8)(a:Nat):Ent:=⟨98,2,[[.sl 1 (Ab L),I a]]⟩
theorem fd_s{cn:List Int}{n k:Nat}{y:Int}{f:Bool}(h: ∀ z∈cn.take n,z=(k:Int)→f=true)(hx:cn[n]? =some y)(hf:f=false): ∀ z∈cn.take (n+1),z=(k:Int)→(y==(k:Int))=true:=by
 intro z hz e
 rw[List.take_add_one,hx]at hz
 rcases List.mem_append.1 hz with h1|h1
 · have:=h z h1 e;rw[hf]at this;cases this
 · simp at h1;subst h1;exact beq_iff_eq.2 e
theorem AgO(cs L:List UInt8)(a0:Nat)(q:Qy)(hq:QyG q)(XS:List (List Ev))(hsl:XS.length≤2^30)(hsg: ∀ X∈XS,SegG X)(u v:List (List AV))(hu:AB 0 u=true)(hv:AB 0 v=true)(q5:Ad Tryz.prog 6 [.sl 1 (Ab cs)] [] (.tup [.agg (QC q),.sl 10 u,.sl 1 (bbE (XS.map Ee)),.sl 10 v,.ptr 0 2 0 0]) [some (cdC L a0)]):Ae Tryz.prog 4 [.sl 1 (Ab cs)] (fun r=>r=B true):=by
 have qa:=Ep Agd
 have hml:(XS.map Ee).length=XS.length:=List.length_map ..
 refine Ax 105 Tryz.func4 ?_
 refine Aa 0 [0] ?_
 refine Ah 1 ?_
 refine AG (qa) ?_;rintro _ rfl
 refine Ac 1 ?_
 any_goals(refine XO.done [0,19] ?_)
 refine A3 19 ?_
 refine Ah 3 ?_
 refine Ac 1 ?_
 refine HO q5 ?_
 refine Ac 12 ?_
 any_goals(refine XO.done [3,5] ?_)
 refine Aa 4 [3,5,8] ?_
 any_goals(refine A8 1 (fun i:Nat=>⟨[(3,.ptr 0 19 0 0),(5,.sl 1 (bbE (XS.map Ee))),(8,I i)],[(0,some ⟨31,19,[QC q]⟩)]⟩) (fun i=>i≤XS.length) (fun i=>XS.length-i) 0 (AO B.eq_1 [some 0] []) ?_ (h0:=Nat.zero_le _);rintro i hI0 Y0 hY0;skip)
 refine Aa 5 [3,5,8,31] ?_
 refine AC 31 (fun c31=>?_) (fun c31=>?_)
 refine XW.at 7 ?_;obtain⟨X,hX,hXm⟩:=Bm XS i oM;have hg:=hsg X hXm;have hgl:=hg.len;have hx:(XS.map Ee)[i]? =some (Ee X):=(by rw[List.getElem?_map,hX];rfl);have qd:=Wi (YZ X hg) sP sP;have qs:=Acz (ixP hg) 2 q.test hq.test oM;have qc:Ae Tryz.prog 9 [tsA q.test,.sl 1 (Ab (Ee X)),I X.length] (fun r=>r= .tup [.sl 1 (An (cnD (ixE X) 2 q.test)),I 0]):=VY (ixP hg) 2 q.test hq.test oM;have hcl:=MH (ixP hg) 2 q.test hq.test oM;have hlaw:=fun k e (hk:X[k]? =some e)=>Aav hg hk 2 q.test hq.test;generalize cnD (ixE X) 2 q.test=cn at*;generalize skD (ixE X) 2 q.test=sk at*
 refine Ah 7 ?_
 refine Aw 4 ?_
 refine AG (qd) ?_;rintro _ rfl
 refine Aw 5 ?_
 any_goals(refine XO.done [3,5,8,9] ?_)
 refine Ah 8 ?_
 refine Aw 6 ?_
 refine AG (qs) ?_;rintro _ rfl
 refine Ac 5 ?_
 any_goals(refine XO.done [3,5,8,9,11,12] ?_)
 refine Ah 9 ?_
 refine Aw 8 ?_
 refine AG (qc) ?_;rintro _ rfl
 refine Ac 5 ?_
 any_goals(refine XO.done [3,5,8,9,11,12,13,14] ?_)
 refine Ah 10 ?_
 refine Ac 3 ?_
 refine BQ 66 ?_
 refine Ac 3 ?_
 any_goals(refine XO.done [3,5,8,9,11,13,69] ?_)
 refine A3 69 ?_
 refine Aa 12 [3,5,8,9,11,13,15] ?_
 any_goals(refine A8 1 (fun k:Nat=>⟨[(3,.ptr 0 19 0 0),(5,.sl 1 (bbE (XS.map Ee))),(8,I i),(9,.sl 10 (evE X)),(11,I sk),(13,.sl 1 (An cn)),(15,I k)],[(0,some ⟨31,19,[QC q]⟩)]⟩) (fun k=>k≤X.length) (fun k=>X.length-k) 0 (AO B.eq_1 [some 0] []) ?_ (h0:=Nat.zero_le _);rintro k hI1 Y1 hY1;skip)
 refine Aa 13 [3,5,8,9,11,13,15,73] ?_
 refine AC 73 (fun c73=>?_) (fun c73=>?_)
 refine XW.at 15 ?_;obtain⟨e,hx2,hem⟩:=Bm X k oM;have qh:=TK e (hg.ev e hem) 2 q.test hq.test;simp only[evC]at qh;have hlk:=hlaw k e hx2
 refine Ah 15 ?_
 refine Aw 6 ?_
 refine AG (qh) ?_;rintro _ ⟨b,rfl,hb1⟩
 refine Aw 1 ?_
 any_goals(refine XO.done [3,5,8,9,11,13,15,83] ?_)
 refine Bx 83 (fun c83=>?_) (fun c83=>?_)
 any_goals(refine Aa 16 [3,5,8,9,11,13,15,16] ?_;refine Aa 17 [3,5,8,9,11,13,15,16,17] ?_;refine A8 1 (fun s:Nat×Bool=>⟨[(3,.ptr 0 19 0 0),(5,.sl 1 (bbE (XS.map Ee))),(8,I i),(9,.sl 10 (evE X)),(11,I sk),(13,.sl 1 (An cn)),(15,I k),(16,B s.2),(17,I s.1)],[(0,some ⟨31,19,[QC q]⟩)]⟩) (fun s=>s.1≤cn.length∧ ∀ y∈cn.take s.1,y=(k:Int)→s.2=true) (fun s=>cn.length-s.1) (0,false) (AO B.eq_1 [some 0] []) ?_ (h0:=⟨Nat.zero_le _,sP⟩);rintro⟨n,f⟩ hI2 Y2 hY2;simp only at hI2;refine Aa 18 [3,5,8,9,11,13,15,16,17,87] ?_;refine AC 87 (fun c87=>?_) (fun c87=>?_))
 any_goals(refine XW.at 20 ?_;obtain⟨y,hx,hym⟩:=Bm cn n oM;refine Ah 20 ?_;refine Aw 2 ?_;refine XO.split 91 (fun g91=>?_) (fun g91=>?_))
 any_goals(refine Aw 8 ?_;refine XO.done [3,5,8,9,11,13,15,16,17] ?_;refine AQ 19 [3,5,8,9,11,13,15,16,17] ?_;(refine XH.le ?_;first|(refine hY2 (n+1,true) ?_ ?_ _ _ (CL [some 0] [] ?_ ?_);(next=>exact⟨by simp only;omega,fun _ _ _=>rfl⟩);(next=>first|omega|(simp;done)|(simp;omega));(next=>simp[AK,lk,lkh,I,str,B,U8,U64,U32,I,str,B];first|done|omega);(next=>simp[Am,Ai,Ak,lkh,I,str,I,str,B]))|(refine hY2 (n+1,y==(k:Int)) ?_ ?_ _ _ (CL [some 0] [] ?_ ?_);(next=>exact⟨by simp only;omega,fd_s hI2.2 hx g91⟩);(next=>first|omega|(simp;done)|(simp;omega));(next=>simp[AK,lk,lkh,I,str,B,U8,U64,U32,I,str,B];first|done|omega);(next=>simp[Am,Ai,Ak,lkh,I,str,I,str,B]))))
 any_goals(refine XW.at 21 ?_;have hbt:b=true:=(by simpa using c83);obtain⟨hs0,hmem⟩:=hlk (hb1 hbt);subst hs0;obtain rfl:f=true:=hI2.2 k (by rw[List.take_of_length_le oM];exact hmem) rfl;refine Ah 21 ?_;refine Ac 3 ?_;refine BQ 101 ?_;refine Ac 3 ?_;refine XO.done [3,5,8,9,11,13,15,104] ?_;refine A3 104 ?_)
 any_goals(refine AQ 14 [3,5,8,9,11,13,15] ?_;(refine XH.le ?_;exact eY hY1 (k+1) (AO B.eq_1 [some 0] [])))
 refine AQ 6 [3,5,8] ?_
 · refine XH.le ?_;exact eY hY0 (i+1) (AO B.eq_1 [some 0] [])
 refine Aa 23 [2] ?_
 refine Aq ?_;exact Bi rfl
theorem law4(cs:List UInt8)(hc:cs.length<2^63):Ae Tryz.prog 4 [.sl 1 (Ab cs)] (fun r=>r=B true):=by
 obtain⟨l,m,K,q,L,a,⟨hL,ha,hq⟩,⟨hasc,hdr,hll⟩,hm,hK,q5⟩:=AeC cs hc
 rw[AgU]at q5
 have hi: ∀ v,AB 0 (evE v)=true:=fun v=>by simp
 refine AgO cs L a q hq ((scX l m K).drop 1) ?_ ?_ _ _ (hi _) (hi _) q5
 · rw[List.length_drop,Ef];omega
 · intro X hX
   have hX2:=List.mem_of_mem_drop hX
   unfold scX at hX2
   obtain⟨j,hj,rfl⟩:=List.mem_map.1 hX2
   exact Rq ((HX _ _).trans (List.take_sublist _ _)) hasc hdr hll
end Go.Proofs.YtpkhodjlnodagaaGreatDoor
