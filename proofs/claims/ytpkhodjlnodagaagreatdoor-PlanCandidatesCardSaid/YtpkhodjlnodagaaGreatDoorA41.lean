/- Part 41 of the proof of PlanCandidates. -/
import Derived.Test.YtpkhodjlnodagaaGreatDoorA13
import Derived.Test.YtpkhodjlnodagaaGreatDoorA39
import Derived.Test.YtpkhodjlnodagaaGreatDoorA40
set_option linter.unusedSimpArgs false
set_option linter.unusedVariables false
set_option linter.unusedSectionVars false
namespace Go.Proofs.YtpkhodjlnodagaaGreatDoor
open Go.Av
set_option maxHeartbeats 4000000
attribute [local irreducible] Af
theorem Af3(cs:List UInt8)(hc:cs.length<2^63): ∃ L:List UInt8,L.length≤500∧Af Tryz.prog 17 [.sl 1 (Ab cs),I 500] [] (.ptr 0 2 0 0) [some (cdE L 0)]:=by
 refine⟨cs.take (min cs.length 500),by simp;omega,?_⟩
 refine acN 13 0 Tryz.func17 fun C hN hk=>?_
 refine Ah [0,1] ?_
 have e1:(if 500<(cs.length:Int)then 500 else(cs.length:Int))=((min cs.length 500:Nat):Int):=by split<;>omega
 have F:=e1;refine AB [4] ?_;clear F
 refine AW.ret (J6 [some 0] [])
def zev(t:Int):Ev:=⟨0,0,0,0,[],t,0,[],[],[]⟩
theorem Ad3:Af Tryz.prog 5 [] [] (B true) []:=by
 have hcb:GD [[zev 1],[zev 2]] 2=[zev 1,zev 2]:=by
   have ha:Asc [zev 1,zev 2]:=by
     unfold Asc
     simp[B8,zev]
   exact Aep [zev 1,zev 2] ha [fun i=>i==0,fun i=>i==1] (by
     intro i hi
     have:i=0∨i=1:=by simp at hi;omega
     rcases this with rfl|rfl<;>rfl)
 have q:=Xz [[zev 1],[zev 2]] (by simp) (by simp)
 rw[show([[zev 1],[zev 2]]:List (List Ev)).length=2 from rfl,hcb]at q
 refine acN 9 0 Tryz.func5 fun C hN hk=>?_
 refine Ah [] ?_
 refine Mq ?_
 refine OW.run hN hk noc [] [2,4,5] rfl 5 (by decide) (by decide+kernel) (fun K hK=>?_)
 simp only[Tx,List.drop_zero,List.take_succ_cons,List.take_zero]
 simp only[go_sem,seval]
 first|with_reducible refine hK _ _ ?_|refine⟨by simp,hK _ _ ?_⟩|refine obK (hK _ _ ?_)
 clear hK K
 refine Vw hk 3 ⟨[(5,.osl 2 2 1)],[(0,some ⟨56,10,evE [zev 1]⟩),(1,some ⟨56,10,evE [zev 2]⟩),(2,some ⟨32,1,[[.osl 0 1 10],[.osl 1 1 10]]⟩)]⟩ (Gg (And.intro evE.eq_1 (And.intro evC.eq_1 zev.eq_1)) [some 0,some 1,some 2] []) ?_
 refine Vw hk 1 ⟨[(5,.osl 0 2 1)],[(0,some ⟨32,1,elE [[zev 1],[zev 2]]⟩)]⟩ (Gg (And.intro elE.eq_1 elC.eq_1) [some 2] [0,1]) ?_
 refine Vw hk 0 ⟨[(5,.sl 1 (elE [[zev 1],[zev 2]]))],[]⟩ (Gg trivial [] [0]) ?_
 refine OW.run hN hk (onc 5 (pcq q) noc) [] [0] rfl 4 (by decide) (by decide+kernel) (fun K hK=>?_)
 simp only[Tx,List.drop_succ_cons,List.drop_zero,List.take_succ_cons,List.take_zero]
 simp only[go_sem,seval]
 first|with_reducible refine hK _ _ ?_|refine⟨by first|exact Fv q|exact⟨trivial,Fv q⟩|exact⟨Fv q,trivial⟩,hK _ _ ?_⟩|refine obK (hK _ _ ?_)
 clear hK K
 refine OW.done (by decide) (Aw ?_)
 refine AW.ret (DX [] [])
def nxV(L:List UInt8)(a n:Nat):Nat:=match L[a]? with
 |some b=>b.toNat*n / 256
 |none=>0
def nxA(L:List UInt8)(a:Nat):Nat:=if a<L.length then a+1 else a
theorem Kr{L:List UInt8}{a:Nat}(h:a≤L.length):nxA L a≤L.length:=by unfold nxA;split<;>omega
theorem Lz(L:List UInt8)(a n:Nat)(hn:1≤n):nxV L a n<n:=by
 unfold nxV
 split
 · next b hb=>
   have:=b.toNat_lt
   have hm:b.toNat*n≤255*n:=Nat.mul_le_mul_right _ (by omega)
   omega
 · omega
theorem Qt(L:List UInt8)(hL:L.length≤2^20)(a n:Nat)(ha:a≤L.length)(hn:n≤2^30)(hn1:1≤n):
   Af Tryz.prog 20 [.ptr 0 2 0 0,I n] [some (cdE L a)] (I (nxV L a n)) [some (cdE L (nxA L a))]:=by
 have q:=VU L a
 have d1:=HB (a:=(n:Int)) (b:=1) (by omega)
 by_cases h:a<L.length
 · rw[Zf (by omega)]at q
   have hx:=List.getElem?_eq_getElem h
   have e1:nxV L a n=L[a].toNat*n / 256:=by unfold nxV;rw[hx]
   have e2:nxA L a=a+1:=by unfold nxA;rw[if_pos h]
   rw[e1,e2]
   clear e1 e2
   generalize L[a]=b at*
   have hb:=b.toNat_lt
   have hm:b.toNat*n≤255*n:=Nat.mul_le_mul_right _ (by omega)
   have e1:((b.toNat:Int)*(n:Int)).tdiv 256=((b.toNat*n / 256:Nat):Int):=by
     rw[Int.tdiv_eq_ediv_of_nonneg (Int.mul_nonneg (by omega) (by omega)),Int.natCast_ediv,Int.natCast_mul]
     rfl
   have w1:=As (n:=(b.toNat:Int)*(n:Int)) (by
     have:((b.toNat:Int)*(n:Int))=((b.toNat*n:Nat):Int):=by rw[Int.natCast_mul]
     omega)
   have w2:=As (n:=(b.toNat:Int)) (by omega)
   have w3:=As (n:=((b.toNat*n / 256:Nat):Int)) (by omega)
   refine acN 35 1 Tryz.func20 fun C hN hk=>?_
   refine Ah [0,1] ?_ noc [0]
   refine rG hN hk (onc 1 (ocq 0 q) noc) [0] [0,1,12] fun K hK=>?_;simp only[go_sem,seval,d1]
   try simp (disch:=omega) only[au]
   try simp only[go_sem,seval,d1]
   refine obK (hK _ _ ?_);clear hK K;refine nx ?_;refine cF ?_;have F:=And.intro hx w2;refine DV [0,1,5] ?_ noc [0];clear F
   refine AU [1,5] ?_ noc [0]
   have F:=And.intro w1 (And.intro e1 w3);refine A5 [4] ?_ noc [0];clear F
   refine AW.ret (J6 [some 0] [])
 · rw[HB (by omega)]at q
   have e1:nxV L a n=0:=by unfold nxV;rw[List.getElem?_eq_none (by omega)]
   have e2:nxA L a=a:=by unfold nxA;rw[if_neg h]
   rw[e1,e2]
   refine acN 35 1 Tryz.func20 fun C hN hk=>?_
   refine Ah [0,1] ?_ noc [0]
   refine rG hN hk (onc 1 (ocq 0 q) noc) [0] [0,1,12] fun K hK=>?_;simp only[go_sem,seval]
   try simp (disch:=omega) only[au]
   try simp only[go_sem,seval]
   refine obK (hK _ _ ?_);clear hK K;refine nx ?_;refine cT ?_;refine Ah [4] ?_ noc [0]
   refine AW.ret (J6 [some 0] [])
def scS(L:List UInt8)(m a0:Nat):Nat→Nat×List (Nat×Option Nat)
 |0=>(a0,[])
 |i+1=>(nxA L (nxA L (nxA L (scS L m a0 i).1)),(scS L m a0 i).2++[(nxV L (scS L m a0 i).1 m,
     if nxV L (nxA L (nxA L (scS L m a0 i).1)) 4=3∧nxV L (nxA L (scS L m a0 i).1) m≠nxV L (scS L m a0 i).1 m then some (nxV L (nxA L (scS L m a0 i).1) m)else none)])
theorem TZ(L:List UInt8)(m a0:Nat): ∀ i,(scS L m a0 i).2.length=i
 |0=>rfl
 |i+1=>by rw[scS,List.length_append,TZ L m a0 i];rfl
theorem XV(L:List UInt8)(m a0:Nat)(h:a0≤L.length): ∀ i,(scS L m a0 i).1≤L.length
 |0=>h
 |i+1=>Kr (Kr (Kr (XV L m a0 h i)))
theorem Xs(L:List UInt8)(m a0:Nat)(hm:1≤m): ∀ i,∀ c∈(scS L m a0 i).2,c.1<m
 |0=>by simp[scS]
 |i+1=>by
   intro c hc
   rw[scS]at hc
   rcases List.mem_append.1 hc with hc|hc
   · exact Xs L m a0 hm i c hc
   · rw[List.mem_singleton.1 hc];exact Lz L _ m hm
theorem Hz(X:List (List Ev)): ∀ L∈X.map evE,AA 0 L=true:=by
 intro L hL
 obtain⟨v,_,rfl⟩:=List.mem_map.1 hL
 simp
@[simp] theorem wkE_bb{hp:Hp}{ids:List (Option Nat)}{D:List Nat}(l:List (List UInt8))(x:List UInt8)(c:List AV):wkE hp ids D (bbE l++[c]) (bbE (l++[x]))↔wkL hp ids D c [.sl 1 (Ab x)]:=by
 rw[← Si];exact Hi (Afc 0 l)
@[simp,go_sem] abbrev H3(L:List UInt8)(q:Qy)(a:Nat):List (Nat×Option Ent):=[(0,some ⟨31,19,[[I 0,str [],str [],I 0,AH,AH,I 0,I 0,B false,AH,AH,I 0,I 0,str [],str [],I 0,AH,str [],I 0]]⟩),(1,some ⟨98,2,[[.sl 1 (Ab L),I a]]⟩),(2,some ⟨31,19,[[I q.test.op,str q.test.name,str q.test.text,I q.test.num,.sl 5 (tsE q.test.kids),.sl 7 (sgE q.stages),I q.kind,I q.limit,B q.last,.sl 1 (Ay q.names),.sl 2 (agE q.aggs),I q.sketch,I q.other.op,str q.other.name,str q.other.text,I q.other.num,.sl 5 (tsE q.other.kids),str q.key,I q.window]]⟩)]
theorem AeD(cs:List UInt8)(hc:cs.length<2^63): ∃ (l:List Ev) (m:Nat) (K:List (Nat×Option Nat)) (q:Qy) (L:List UInt8) (a:Nat),(L.length≤2^20∧a≤L.length∧QyG q)∧(Asc l∧(∀ e∈l,DrE e)∧l.length≤36)∧(1≤m∧m≤4)∧(K.length=l.length∧ ∀ c∈K,c.1<m)∧
   Af Tryz.prog 6 [.sl 1 (Ab cs)] [] (.tup [.agg (qyC q),.sl 10 (evE l),.sl 1 (bbE (((scX l m K).drop 1).map G1)),.sl 10 (evE ((scX l m K).getD 0 [])),.ptr 0 2 0 0]) [some (cdE L a)]:=by
 obtain⟨L,hL5,q1⟩:=Af3 cs hc
 have hL:L.length≤2^20:=by omega
 obtain⟨_,⟨q,a1,rfl,hqG,ha1⟩,q2⟩:=Ab8 L hL 0 (by omega)
 obtain⟨_,⟨l,a2,rfl,⟨hasc,hdr,hll⟩,ha2⟩,q3⟩:=X0 L hL a1 ha1 6 (by omega)
 simp only[qyC,BS,List.cons_append,List.nil_append]at q2 q3
 have q4:=Qt L hL a2 4 ha2 (by omega) (by omega)
 have hv4:=Lz L a2 4 (by omega)
 have ha3:=Kr ha2
 generalize nxA L a2=a3 at*
 generalize nxV L a2 4=v at*
 obtain⟨m,hm⟩: ∃ m,m=v+1:=⟨_,rfl⟩
 have hm1:1≤m∧m≤4:=by omega
 have w4:=As (n:=1+(v:Int)) (by omega)
 have e4:1+(v:Int)=(m:Int):=by omega
 have hsl:=TZ L m a3
 have hsle:=XV L m a3 ha3
 have hsok:=Xs L m a3 hm1.1
 refine⟨l,m,(scS L m a3 l.length).2,q,L,(scS L m a3 l.length).1,⟨hL,hsle _,hqG⟩,⟨hasc,hdr,hll⟩,hm1,⟨hsl l.length,hsok l.length⟩,?_⟩
 refine acN 101 0 Tryz.func6 fun C hN hk=>?_
 refine Ah [0,2] ?_
 refine Ah [2,7] ?_ (onc 1 (pcq q1) noc)
 refine Ah [2,7,8] ?_ (onc 1 (ocq 1 q2) noc)
 refine Ah [2,7,8,9] ?_ (onc 1 (ocq 1 q3) noc)
 rw[e4]at w4
 have F:=And.intro e4 w4;refine A5 [2,7,8,9,10] ?_ (onc 1 (ocq 1 q4) noc);clear F;refine Ah [2,7,8,9,10,11] ?_
 clear q1 q2 q3 q4 w4 e4 hm hv4
 have FC: ∀ {a:Nat} (env:List (Nat×AV)),Mv 4 env=true→FamC 3 env (H3 L q a):=fun env he=>⟨rfl,rfl,he⟩
 refine P3 (o:=3) (sz:=10) (ty:=56) (oty:=32) (m:=m) (hp:=(H3 L q a3)) hk (by omega) (FC _ rfl) ?_
 refine NE (k:=0) (fun i:Nat=>SO [(2,.ptr 0 19 0 0),(7,.ptr 1 2 0 0),(8,.ptr 2 19 0 0),(9,.sl 10 (evE l)),(10,.osl 3 m 1),(11,I i)] (H3 L q (scS L m a3 i).1) 3 10 56 32 ((scX l m (scS L m a3 i).2).map evE)) (fun i=>i≤l.length) (fun i=>l.length-i) 0 (by omega) (by simp[scS,AfH,I,str,B,AH]) ?_
 intro i h1
 have hai:=hsle i
 have hKl:=hsl i
 have hsS:scS L m a3 (i+1)=(nxA L (nxA L (nxA L (scS L m a3 i).1)),(scS L m a3 i).2++[(nxV L (scS L m a3 i).1 m,
     if nxV L (nxA L (nxA L (scS L m a3 i).1)) 4=3∧nxV L (nxA L (scS L m a3 i).1) m≠nxV L (scS L m a3 i).1 m then some (nxV L (nxA L (scS L m a3 i).1) m)else none)]):=rfl
 generalize hA:(scS L m a3 i).1=a at*
 obtain⟨K,hKE⟩: ∃ K,(scS L m a3 i).2=K:=⟨_,rfl⟩
 rw[hKE]at hKl hsS ⊢
 have hpl:=Hz (scX l m K)
 have hxl:=D8 l m K
 have hm:3+1+m=3+1+((scX l m K).map evE).length:=by simp[hxl]
 have hno:((scX l m K).map evE)[m]? =none:=by simp[hxl]
 by_cases hi:i<l.length
 · have hx:=List.getElem?_eq_getElem hi
   have q1:=Qt L hL a m hai (by omega) hm1.1
   have hk1:=Lz L a m hm1.1
   have hb1:=Kr hai
   have q2:=Qt L hL (nxA L a) m hb1 (by omega) hm1.1
   have hk2:=Lz L (nxA L a) m hm1.1
   have hb2:=Kr hb1
   have q3:=Qt L hL (nxA L (nxA L a)) 4 hb2 (by omega) (by omega)
   have hk3:=Lz L (nxA L (nxA L a)) 4 (by omega)
   have hXs:=AgD l m K (by omega) (nxV L a m) hk1
   generalize nxA L (nxA L (nxA L a))=b3 at*
   generalize nxV L (nxA L (nxA L a)) 4=t at*
   generalize nxA L (nxA L a)=b2 at*
   generalize nxV L (nxA L a) m=k2 at*
   generalize nxA L a=b1 at*
   generalize nxV L a m=k1 at*
   simp only[hKl]at hXs
   generalize l[i]=e at*
   have hbig: ∀ p,((scX l m K).getD p []).length≤40:=by
     intro p
     by_cases hp:p<m
     · rw[NI _ _ _ _ hp]
       have:=(HM (l.take K.length) (pOf K p)).length_le
       simp at this;omega
     · simp[List.getD,List.getElem?_eq_none (show(scX l m K).length≤p by rw[D8];omega)]
   refine nx ?_
   rw[hm]
   refine Dg hN hk (m) (.normal) [(2,.ptr 0 19 0 0),(7,.ptr 1 2 0 0),(8,.ptr 2 19 0 0),(9,.sl 10 (evE l)),(10,.osl 3 m 1),(11,I i),(31,B true)] (H3 L q a) 3 (none) (by omega) (FC _ rfl) hpl (by omega) (FC _ rfl) (by simp) (by first|(simp;done)|(simp[hxl];done)|(simp[hxl];omega)) ?_ ?_
   · intro C vs hN hk hvl
     rw[hno]
     simp only[Go.Av.ST,Eg,Option.map_none,List.cons_append,List.nil_append,Nat.reduceAdd]
     refine nx ?_
     refine Dy AZ hN hk (noc) [0,1,2,3,4] [2,7,8,9,10,11,31] 5 (by omega) rfl (by decide+kernel) (fun K hK=>?_)
     simp only[go_sem,seval]
     try simp (disch:=omega) only[au]
     (first|with_reducible refine hK _ _ ?_|refine obK (hK _ _ ?_));clear hK K;refine nx ?_
     refine⟨rfl,[some 0,some 1,some 2,some 3],[],⟨by simp[Al],by simp[Al],by simp⟩,by simp,by simp[AR,lk,lkh,I,str,B,U8,U64,U32,B,AH]<;>omega,by first|(simp[Am,Ai,Aj,lkh,B,AH];done)|(simp[Am,Ai,Aj,lkh,I,str,B,AH];done)|simp[Am,Ai,Aj,lkh,I,str,B,AH]⟩
   rw[← hm]
   refine Aw ?_
   refine AI rfl (AW.skip (Aw ?_))
   simp only[Cj]
   refine nx ?_
   rw[hm]
   refine Dg hN hk (m) (.normal) [(2,.ptr 0 19 0 0),(7,.ptr 1 2 0 0),(8,.ptr 2 19 0 0),(9,.sl 10 (evE l)),(10,.osl 3 m 1),(11,I i),(12,I k1)] (H3 L q b1) 3 (none) (by omega) (FC _ rfl) hpl (by omega) (FC _ rfl) (by simp) (by first|(simp;done)|(simp[hxl];done)|(simp[hxl];omega)) ?_ ?_
   · intro C vs hN hk hvl
     rw[hno]
     simp only[Go.Av.ST,Eg,Option.map_none,List.cons_append,List.nil_append,Nat.reduceAdd]
     refine nx ?_
     refine Dy AZ hN hk (onc 3 (ocq 1 q1) noc) [0,1,2,3,4] [2,7,8,9,10,11,12] 5 (by omega) rfl (by decide+kernel) (fun K hK=>?_)
     simp only[go_sem,seval];refine obK (hK _ _ ?_)
     clear hK K;refine nx ?_
     refine⟨rfl,[some 0,some 1,some 2,some 3],[],⟨by simp[Al],by simp[Al],by simp⟩,by simp,by simp[AR,lk,lkh,I,str,B,U8,U64,U32,B,AH]<;>omega,by first|(simp[Am,Ai,Aj,lkh,B,AH];done)|(simp[Am,Ai,Aj,lkh,I,str,B,AH];done)|simp[Am,Ai,Aj,lkh,I,str,B,AH]⟩
   rw[← hm]
   refine Aw ?_
   simp only[Cj]
   have hpl2:k1<(scX l m K).length:=by omega
   have hat:((scX l m K).map evE)[k1]? =some (evE ((scX l m K).getD k1 [])):=by simp[List.getD,hpl2]
   have hbz:=hbig k1
   have hX1:((scX l m K).map evE).set k1 (evE ((scX l m K).getD k1 []++[e]))=(Gv (scX l m K) k1 e).map evE:=by unfold Gv;rw[List.map_set]
   generalize (scX l m K).getD k1 []=Z at*
   refine nx ?_
   rw[hm]
   refine Dg hN hk k1 .normal [(2,.ptr 0 19 0 0),(7,.ptr 1 2 0 0),(8,.ptr 2 19 0 0),(9,.sl 10 (evE l)),(10,.osl 3 m 1),(11,I i),(12,I k1)] (H3 L q b1) 3 (some (evE (Z++[e]))) (by omega) (FC _ rfl) hpl (by omega) (FC _ rfl) (by simp) (by simp;omega) ?_ ?_
   · intro C vs hN hk hvl
     rw[hat]
     simp only[Go.Av.ST,Eg,Option.map_some,List.cons_append,List.nil_append,Nat.reduceAdd]
     have hvp:k1<vs.length:=by rw[hvl];simpa using hpl2
     have hv0:=fun c=>If (c:=c) hvp
     have hfe:=PP Z e
     refine nx ?_
     refine Ta AZ hN hk (noc) [0,1,2,3,4] [2,7,8,9,10,11,12,49] 5 (by omega) rfl (by decide+kernel) (fun K tok htok hK=>?_)
     simp only[go_sem,seval,hv0,hx]
     refine⟨htok _ (by decide+kernel),?_⟩
     (first|with_reducible refine hK _ _ ?_|refine obK (hK _ _ ?_));clear hK K htok tok
     refine nx ?_
     refine⟨rfl,[some 0,some 1,some 2,some 3,some 5],[],⟨by simp[Al],by simp[Al],by simp⟩,by simp,by simp[AR,lk,lkh,I,str,B,U8,U64,U32,CT hvp,hfe,AE,AO,B,AH]<;>omega,by first|(simp[Am,Ai,Aj,lkh,CT hvp,hfe,AE,AO,B,AH];done)|(simp[Am,Ai,Aj,lkh,I,str,CT hvp,hfe,AE,AO,B,AH];done)|simp[Am,Ai,Aj,lkh,I,str,CT hvp,hfe,AE,AO,B,AH]⟩
   rw[← hm]
   refine Aw ?_
   simp only[Cj]
   rw[hX1]
   clear hX1 hat hno hpl
   have hbig1: ∀ p,((Gv (scX l m K) k1 e).getD p []).length≤41:=by
     intro p
     rw[KR _ _ _ _ hpl2,List.length_append]
     have:=hbig p
     split<;>simp only[List.length_singleton,List.length_nil]<;>omega
   have hxl1:=Ii (scX l m K) k1 e
   obtain⟨X1,hX1⟩: ∃ X1,X1=Gv (scX l m K) k1 e:=⟨_,rfl⟩
   rw[← hX1]at hbig1 hxl1 hXs ⊢
   have hpl:=Hz X1
   have hm:3+1+m=3+1+(X1.map evE).length:=by simp[hxl1,hxl]
   have hno:(X1.map evE)[m]? =none:=by simp[hxl1,hxl]
   refine nx ?_
   rw[hm]
   refine Dg hN hk (m) (.normal) [(2,.ptr 0 19 0 0),(7,.ptr 1 2 0 0),(8,.ptr 2 19 0 0),(9,.sl 10 (evE l)),(10,.osl 3 m 1),(11,I i),(12,I k1),(13,I k2)] (H3 L q b2) 3 (none) (by omega) (FC _ rfl) hpl (by omega) (FC _ rfl) (by simp) (by first|(simp;done)|(simp[hxl];done)|(simp[hxl];omega)) ?_ ?_
   · intro C vs hN hk hvl
     rw[hno]
     simp only[Go.Av.ST,Eg,Option.map_none,List.cons_append,List.nil_append,Nat.reduceAdd]
     refine nx ?_
     refine Dy AZ hN hk (onc 3 (ocq 1 q2) noc) [0,1,2,3,4] [2,7,8,9,10,11,12,13] 5 (by omega) rfl (by decide+kernel) (fun K hK=>?_)
     simp only[go_sem,seval];refine obK (hK _ _ ?_)
     clear hK K;refine nx ?_
     refine⟨rfl,[some 0,some 1,some 2,some 3],[],⟨by simp[Al],by simp[Al],by simp⟩,by simp,by simp[AR,lk,lkh,I,str,B,U8,U64,U32,B,AH]<;>omega,by first|(simp[Am,Ai,Aj,lkh,B,AH];done)|(simp[Am,Ai,Aj,lkh,I,str,B,AH];done)|simp[Am,Ai,Aj,lkh,I,str,B,AH]⟩
   rw[← hm]
   refine Aw ?_
   simp only[Cj]
   by_cases hc:t=3∧k2≠k1
   · obtain⟨rfl,hne⟩:=hc
     have dn:((k2:Int) !=(k1:Int))=true:=by simp;omega
     have hsS2:scS L m a3 (i+1)=(b3,K++[(k1,some k2)]):=by rw[hsS];simp[hne]
     have hXn:=hXs (some k2) (by intro k3 h;cases h;exact⟨hk2,hne⟩)
     simp only at hXn
     refine nx ?_
     rw[hm]
     refine Dg hN hk (m) (.normal) [(2,.ptr 0 19 0 0),(7,.ptr 1 2 0 0),(8,.ptr 2 19 0 0),(9,.sl 10 (evE l)),(10,.osl 3 m 1),(11,I i),(13,I k2),(62,B true)] (H3 L q b3) 3 (none) (by omega) (FC _ rfl) hpl (by omega) (FC _ rfl) (by simp) (by first|(simp;done)|(simp[hxl];done)|(simp[hxl];omega)) ?_ ?_
     · intro C vs hN hk hvl
       rw[hno]
       simp only[Go.Av.ST,Eg,Option.map_none,List.cons_append,List.nil_append,Nat.reduceAdd]
       refine nx ?_
       refine Dy AZ hN hk (onc 1 (ocq 1 q3) noc) [0,1,2,3,4] [2,7,8,9,10,11,13,62] 5 (by omega) rfl (by decide+kernel) (fun K hK=>?_)
       simp only[go_sem,seval,dn]
       try simp (disch:=omega) only[au]
       try simp only[go_sem,seval,dn]
       refine obK (hK _ _ ?_);clear hK K;refine nx ?_
       refine⟨rfl,[some 0,some 1,some 2,some 3],[],⟨by simp[Al],by simp[Al],by simp⟩,by simp,by simp[AR,lk,lkh,I,str,B,U8,U64,U32,B,AH]<;>omega,by first|(simp[Am,Ai,Aj,lkh,B,AH];done)|(simp[Am,Ai,Aj,lkh,I,str,B,AH];done)|simp[Am,Ai,Aj,lkh,I,str,B,AH]⟩
     rw[← hm]
     refine Aw ?_
     refine cT ?_
     simp only[Cj]
     have hpl2:k2<X1.length:=by omega
     have hat:(X1.map evE)[k2]? =some (evE (X1.getD k2 [])):=by simp[List.getD,hpl2]
     have hbz:=hbig1 k2
     have hX2:(X1.map evE).set k2 (evE (X1.getD k2 []++[e]))=(Gv X1 k2 e).map evE:=by unfold Gv;rw[List.map_set]
     generalize X1.getD k2 []=Z2 at*
     refine nx ?_
     rw[hm]
     refine Dg hN hk k2 .normal [(2,.ptr 0 19 0 0),(7,.ptr 1 2 0 0),(8,.ptr 2 19 0 0),(9,.sl 10 (evE l)),(10,.osl 3 m 1),(11,I i)] (H3 L q b3) 3 (some (evE (Z2++[e]))) (by omega) (FC _ rfl) hpl (by omega) (FC _ rfl) (by simp) (by simp;omega) ?_ ?_
     · intro C vs hN hk hvl
       rw[hat]
       simp only[Go.Av.ST,Eg,Option.map_some,List.cons_append,List.nil_append,Nat.reduceAdd]
       have hvp:k2<vs.length:=by rw[hvl];simpa using hpl2
       have hv0:=fun c=>If (c:=c) hvp
       have hfe:=PP Z2 e
       refine nx ?_
       refine Ta AZ hN hk (noc) [0,1,2,3,4] [2,7,8,9,10,11,74] 5 (by omega) rfl (by decide+kernel) (fun K tok htok hK=>?_)
       simp only[go_sem,seval,hv0,hx]
       refine⟨htok _ (by decide+kernel),?_⟩
       (first|with_reducible refine hK _ _ ?_|refine obK (hK _ _ ?_));clear hK K htok tok
       refine nx ?_
       refine⟨rfl,[some 0,some 1,some 2,some 3,some 5],[],⟨by simp[Al],by simp[Al],by simp⟩,by simp,by simp[AR,lk,lkh,I,str,B,U8,U64,U32,CT hvp,hfe,AE,AO,B,AH]<;>omega,by first|(simp[Am,Ai,Aj,lkh,CT hvp,hfe,AE,AO,B,AH];done)|(simp[Am,Ai,Aj,lkh,I,str,CT hvp,hfe,AE,AO,B,AH];done)|simp[Am,Ai,Aj,lkh,I,str,CT hvp,hfe,AE,AO,B,AH]⟩
     simp only[Cj]
     rw[hX2,← hXn,← hm]
     refine nx ?_
     clear hpl hno hm
     have hpl:=Hz (scX l m (K++[(k1,some k2)]))
     have hxl2:=D8 l m (K++[(k1,some k2)])
     have hm:3+1+m=3+1+((scX l m (K++[(k1,some k2)])).map evE).length:=by simp[hxl2]
     have hno:((scX l m (K++[(k1,some k2)])).map evE)[m]? =none:=by simp[hxl2]
     refine nx ?_
     rw[hm]
     refine Dg hN hk (m) (.normal) [(2,.ptr 0 19 0 0),(7,.ptr 1 2 0 0),(8,.ptr 2 19 0 0),(9,.sl 10 (evE l)),(10,.osl 3 m 1),(11,I (i+1:Nat))] (H3 L q b3) 3 (none) (by omega) (FC _ rfl) hpl (by omega) (FC _ rfl) (by simp) (by first|(simp;done)|(simp[hxl];done)|(simp[hxl];omega)) ?_ ?_
     · intro C vs hN hk hvl
       rw[hno]
       simp only[Go.Av.ST,Eg,Option.map_none,List.cons_append,List.nil_append,Nat.reduceAdd]
       refine nx ?_
       refine Dy AZ hN hk (noc) [0,1,2,3,4] [2,7,8,9,10,11] 5 (by omega) rfl (by decide+kernel) (fun K hK=>?_)
       simp only[go_sem,seval]
       try simp (disch:=omega) only[au]
       refine hK _ _ ?_;clear hK K;refine nx ?_
       refine⟨rfl,[some 0,some 1,some 2,some 3],[],⟨by simp[Al],by simp[Al],by simp⟩,by simp,by simp[AR,lk,lkh,I,str,B,U8,U64,U32,B,AH]<;>omega,by first|(simp[Am,Ai,Aj,lkh,B,AH];done)|(simp[Am,Ai,Aj,lkh,I,str,B,AH];done)|simp[Am,Ai,Aj,lkh,I,str,B,AH]⟩
     refine Aw ⟨by first|rfl|exact hm.symm,i+1,by omega,by omega,?_⟩
     simp only[Cj]
     rw[hsS2]
   · have hsS2:scS L m a3 (i+1)=(b3,K++[(k1,none)]):=by rw[hsS];simp only[if_neg hc]
     have hXn:=hXs none (by intro k3 h;cases h)
     simp only at hXn
     have hcb:((t:Int)==3)=false∨(((t:Int)==3)=true∧((k2:Int) !=(k1:Int))=false):=by
       by_cases ht:t=3
       · refine .inr ⟨by simp[ht],?_⟩
         have:k2=k1:=by
           rcases Nat.decEq k2 k1 with h|h
           · exact absurd ⟨ht,h⟩ hc
           · exact h
         simp[this]
       · exact .inl (by simp;omega)
     rcases hcb with d1|⟨d1,d2⟩
     · clear hXs hbig1
       refine nx ?_
       rw[hm]
       refine Dg hN hk (m) (.normal) [(2,.ptr 0 19 0 0),(7,.ptr 1 2 0 0),(8,.ptr 2 19 0 0),(9,.sl 10 (evE l)),(10,.osl 3 m 1),(11,I i),(13,I k2),(62,B false)] (H3 L q b3) 3 (none) (by omega) (FC _ rfl) hpl (by omega) (FC _ rfl) (by simp) (by first|(simp;done)|(simp[hxl];done)|(simp[hxl];omega)) ?_ ?_
       · intro C vs hN hk hvl
         rw[hno]
         simp only[Go.Av.ST,Eg,Option.map_none,List.cons_append,List.nil_append,Nat.reduceAdd]
         refine nx ?_
         refine Dy AZ hN hk (onc 1 (ocq 1 q3) noc) [0,1,2,3,4] [2,7,8,9,10,11,13,62] 5 (by omega) rfl (by decide+kernel) (fun K hK=>?_)
         simp only[go_sem,seval,d1]
         try simp (disch:=omega) only[au]
         try simp only[go_sem,seval,d1]
         refine obK (hK _ _ ?_);clear hK K;refine nx ?_
         refine⟨rfl,[some 0,some 1,some 2,some 3],[],⟨by simp[Al],by simp[Al],by simp⟩,by simp,by simp[AR,lk,lkh,I,str,B,U8,U64,U32,B,AH]<;>omega,by first|(simp[Am,Ai,Aj,lkh,B,AH];done)|(simp[Am,Ai,Aj,lkh,I,str,B,AH];done)|simp[Am,Ai,Aj,lkh,I,str,B,AH]⟩
       rw[← hm]
       refine Aw ?_
       refine Ar rfl (AW.skip ?_)
       simp only[Cj]
       rw[← hXn]
       refine nx ?_
       clear hpl hno hm
       have hpl:=Hz (scX l m (K++[(k1,none)]))
       have hxl2:=D8 l m (K++[(k1,none)])
       have hm:3+1+m=3+1+((scX l m (K++[(k1,none)])).map evE).length:=by simp[hxl2]
       have hno:((scX l m (K++[(k1,none)])).map evE)[m]? =none:=by simp[hxl2]
       refine nx ?_
       rw[hm]
       refine Dg hN hk (m) (.normal) [(2,.ptr 0 19 0 0),(7,.ptr 1 2 0 0),(8,.ptr 2 19 0 0),(9,.sl 10 (evE l)),(10,.osl 3 m 1),(11,I (i+1:Nat))] (H3 L q b3) 3 (none) (by omega) (FC _ rfl) hpl (by omega) (FC _ rfl) (by simp) (by first|(simp;done)|(simp[hxl];done)|(simp[hxl];omega)) ?_ ?_
       · intro C vs hN hk hvl
         rw[hno]
         simp only[Go.Av.ST,Eg,Option.map_none,List.cons_append,List.nil_append,Nat.reduceAdd]
         refine nx ?_
         refine Dy AZ hN hk (noc) [0,1,2,3,4] [2,7,8,9,10,11] 5 (by omega) rfl (by decide+kernel) (fun K hK=>?_)
         simp only[go_sem,seval]
         try simp (disch:=omega) only[au]
         refine hK _ _ ?_;clear hK K;refine nx ?_
         refine⟨rfl,[some 0,some 1,some 2,some 3],[],⟨by simp[Al],by simp[Al],by simp⟩,by simp,by simp[AR,lk,lkh,I,str,B,U8,U64,U32,B,AH]<;>omega,by first|(simp[Am,Ai,Aj,lkh,B,AH];done)|(simp[Am,Ai,Aj,lkh,I,str,B,AH];done)|simp[Am,Ai,Aj,lkh,I,str,B,AH]⟩
       refine Aw ⟨by first|rfl|exact hm.symm,i+1,by omega,by omega,?_⟩
       simp only[Cj]
       rw[hsS2]
     · clear hXs hbig1
       refine nx ?_
       rw[hm]
       refine Dg hN hk (m) (.normal) [(2,.ptr 0 19 0 0),(7,.ptr 1 2 0 0),(8,.ptr 2 19 0 0),(9,.sl 10 (evE l)),(10,.osl 3 m 1),(11,I i),(13,I k2),(62,B false)] (H3 L q b3) 3 (none) (by omega) (FC _ rfl) hpl (by omega) (FC _ rfl) (by simp) (by first|(simp;done)|(simp[hxl];done)|(simp[hxl];omega)) ?_ ?_
       · intro C vs hN hk hvl
         rw[hno]
         simp only[Go.Av.ST,Eg,Option.map_none,List.cons_append,List.nil_append,Nat.reduceAdd]
         refine nx ?_
         refine Dy AZ hN hk (onc 1 (ocq 1 q3) noc) [0,1,2,3,4] [2,7,8,9,10,11,13,62] 5 (by omega) rfl (by decide+kernel) (fun K hK=>?_)
         simp only[go_sem,seval,d1,d2]
         try simp (disch:=omega) only[au]
         try simp only[go_sem,seval,d1,d2]
         refine obK (hK _ _ ?_);clear hK K;refine nx ?_
         refine⟨rfl,[some 0,some 1,some 2,some 3],[],⟨by simp[Al],by simp[Al],by simp⟩,by simp,by simp[AR,lk,lkh,I,str,B,U8,U64,U32,B,AH]<;>omega,by first|(simp[Am,Ai,Aj,lkh,B,AH];done)|(simp[Am,Ai,Aj,lkh,I,str,B,AH];done)|simp[Am,Ai,Aj,lkh,I,str,B,AH]⟩
       rw[← hm]
       refine Aw ?_
       refine Ar rfl (AW.skip ?_)
       simp only[Cj]
       rw[← hXn]
       refine nx ?_
       clear hpl hno hm
       have hpl:=Hz (scX l m (K++[(k1,none)]))
       have hxl2:=D8 l m (K++[(k1,none)])
       have hm:3+1+m=3+1+((scX l m (K++[(k1,none)])).map evE).length:=by simp[hxl2]
       have hno:((scX l m (K++[(k1,none)])).map evE)[m]? =none:=by simp[hxl2]
       refine nx ?_
       rw[hm]
       refine Dg hN hk (m) (.normal) [(2,.ptr 0 19 0 0),(7,.ptr 1 2 0 0),(8,.ptr 2 19 0 0),(9,.sl 10 (evE l)),(10,.osl 3 m 1),(11,I (i+1:Nat))] (H3 L q b3) 3 (none) (by omega) (FC _ rfl) hpl (by omega) (FC _ rfl) (by simp) (by first|(simp;done)|(simp[hxl];done)|(simp[hxl];omega)) ?_ ?_
       · intro C vs hN hk hvl
         rw[hno]
         simp only[Go.Av.ST,Eg,Option.map_none,List.cons_append,List.nil_append,Nat.reduceAdd]
         refine nx ?_
         refine Dy AZ hN hk (noc) [0,1,2,3,4] [2,7,8,9,10,11] 5 (by omega) rfl (by decide+kernel) (fun K hK=>?_)
         simp only[go_sem,seval]
         try simp (disch:=omega) only[au]
         refine hK _ _ ?_;clear hK K;refine nx ?_
         refine⟨rfl,[some 0,some 1,some 2,some 3],[],⟨by simp[Al],by simp[Al],by simp⟩,by simp,by simp[AR,lk,lkh,I,str,B,U8,U64,U32,B,AH]<;>omega,by first|(simp[Am,Ai,Aj,lkh,B,AH];done)|(simp[Am,Ai,Aj,lkh,I,str,B,AH];done)|simp[Am,Ai,Aj,lkh,I,str,B,AH]⟩
       refine Aw ⟨by first|rfl|exact hm.symm,i+1,by omega,by omega,?_⟩
       simp only[Cj]
       rw[hsS2]
 · have hie:i=l.length:=by omega
   rw[hm]
   refine Dg hN hk m (.exit 0) [(2,.ptr 0 19 0 0),(7,.ptr 1 2 0 0),(8,.ptr 2 19 0 0),(9,.sl 10 (evE l)),(10,.osl 3 m 1)] (H3 L q a) 3 none (by omega) (FC _ rfl) hpl (by omega) (FC _ rfl) (by simp) (by simp[hxl]) ?_ ?_
   · intro C vs hN hk hvl
     rw[hno]
     simp only[Go.Av.ST,Eg,Option.map_none,List.cons_append,List.nil_append,Nat.reduceAdd]
     refine nx ?_
     refine Dy AZ hN hk (noc) [0,1,2,3,4] [2,7,8,9,10,11,31] 5 (by omega) rfl (by decide+kernel) (fun K hK=>?_)
     simp only[go_sem,seval]
     try simp (disch:=omega) only[au]
     (first|with_reducible refine hK _ _ ?_|refine obK (hK _ _ ?_));clear hK K;refine nx ?_
     refine cF ?_;refine nx ?_
     refine⟨rfl,[some 0,some 1,some 2,some 3],[],⟨by simp[Al],by simp[Al],by simp⟩,by simp,by simp[AR,lk,lkh,I,str,B,U8,U64,U32,B,AH]<;>omega,by first|(simp[Am,Ai,Aj,lkh,B,AH];done)|(simp[Am,Ai,Aj,lkh,I,str,B,AH];done)|simp[Am,Ai,Aj,lkh,I,str,B,AH]⟩
   refine nx ?_
   simp only[Cj]
   rw[← hm]
   subst hie
   have hxm: ∀ i,i<m→(scX l m K)[i]? =some ((scX l m K).getD i []):=by intro i hi;simp[List.getD,show i<(scX l m K).length by omega]
   have hsgG: ∀ i,i<m→SegG ((scX l m K).getD i []):=by
     intro i hi
     rw[NI _ _ _ _ hi]
     exact RN ((HM _ _).trans (List.take_sublist _ _)) hasc hdr hll
   have hx0:=hxm 0 (by omega)
   have hdl: ∀ i,i+1<m→(((scX l m K).drop 1).take (i+1)).map G1=(((scX l m K).drop 1).take i).map G1++[G1 ((scX l m K).getD (i+1) [])]:=by
     intro i hi
     have h1:((scX l m K).drop 1)[i]? =some ((scX l m K).getD (i+1) []):=by rw[List.getElem?_drop,Nat.add_comm 1 i];exact hxm (i+1) hi
     rw[List.take_add_one,h1]
     simp
   have hda:(((scX l m K).drop 1).take (m-1)).map G1=((scX l m K).drop 1).map G1:=by rw[List.take_of_length_le (by simp;omega)]
   obtain⟨SF,hSF⟩: ∃ SF:Nat→List (List UInt8),∀ i,(((scX l m K).drop 1).take i).map G1=SF i:=⟨_,fun _=>rfl⟩
   have hS0:SF 0=[]:=by rw[← hSF];simp
   have hSl: ∀ i,i≤m→(SF i).length≤4:=by intro i hi;rw[← hSF];simp;omega
   simp only[hSF]at hdl hda
   rw[hKE,hA,← hda]
   clear hSF hda hKE hA
   generalize (scX l m K).getD 0 []=x0 at*
   have hpx:=hpl
   have FO:=N1 (sz:=10) (ty:=56) (oty:=32) (FC (a:=a) [(2,.ptr 0 19 0 0),(7,.ptr 1 2 0 0),(8,.ptr 2 19 0 0),(9,.sl 10 (evE l)),(10,.osl 3 m 1)] rfl) hpl
   generalize scX l m K=X at*
   refine Jz hk 4 ⟨[(2,.ptr 0 19 0 0),(7,.ptr 1 2 0 0),(8,.ptr 2 19 0 0),(9,.sl 10 (evE l)),(10,.osl 3 m 1)],[(0,some ⟨31,19,[[I 0,str [],str [],I 0,AH,AH,I 0,I 0,B false,AH,AH,I 0,I 0,str [],str [],I 0,AH,str [],I 0]]⟩),(1,some ⟨98,2,[[.sl 1 (Ab L),I a]]⟩),(2,some ⟨31,19,[[I q.test.op,str q.test.name,str q.test.text,I q.test.num,.sl 5 (tsE q.test.kids),.sl 7 (sgE q.stages),I q.kind,I q.limit,B q.last,.sl 1 (Ay q.names),.sl 2 (agE q.aggs),I q.sketch,I q.other.op,str q.other.name,str q.other.text,I q.other.num,.sl 5 (tsE q.other.kids),str q.key,I q.window]]⟩),(3,some ⟨32,1,elE X⟩)]⟩ (Cy [some 0,some 1,some 2,some 3] (List.range' 4 X.length) (by simp[AR,lk,SO]) ?_) ?_
   · refine⟨.inl ⟨0,_,rfl,rfl,rfl,rfl,.inl ⟨rfl,rfl⟩⟩,.inl ⟨1,_,rfl,rfl,rfl,rfl,.inl ⟨rfl,rfl⟩⟩,.inl ⟨2,_,rfl,rfl,rfl,rfl,.inl ⟨rfl,rfl⟩⟩,.inl ⟨3,⟨32,1,Ho 4 10 (X.map evE)⟩,rfl,rfl,rfl,rfl,.inr ?_⟩,trivial⟩
     have:=Pq (hp:=lkh (SO [(2,.ptr 0 19 0 0),(7,.ptr 1 2 0 0),(8,.ptr 2 19 0 0),(9,.sl 10 (evE l)),(10,.osl 3 m 1)] (H3 L q a) 3 10 56 32 (X.map evE)).hp) (ids:=[some 0,some 1,some 2,some 3]) (D:=List.range' 4 X.length) (ty:=56) (sz:=10) (X.map evE) 4 (fun j hj=>by simp at hj ⊢;omega) (fun j L hj=>FO.inn j L hj) hpl
     rw[List.map_map]at this
     exact this
   refine Jz hk 3 ⟨[(2,.ptr 0 19 0 0),(7,.ptr 1 2 0 0),(8,.ptr 2 19 0 0),(9,.sl 10 (evE l)),(10,.sl 1 (elE X))],(H3 L q a)⟩ (Gg (And.intro hxl AH.eq_1) [some 0,some 1,some 2] [3]) ?_
   clear FO hpx hpl hno hm
   refine Ah [2,7,8,9,10,14] ?_
   refine Ah [2,7,8,9,10,14,15] ?_
   refine lpF hk 4 (fun i:Nat=>⟨[(2,.ptr 0 19 0 0),(7,.ptr 1 2 0 0),(8,.ptr 2 19 0 0),(9,.sl 10 (evE l)),(10,.sl 1 (elE X)),(14,.osl 3 (SF i).length 1),(15,I (i+1:Nat))],[(0,some ⟨31,19,[[I 0,str [],str [],I 0,AH,AH,I 0,I 0,B false,AH,AH,I 0,I 0,str [],str [],I 0,AH,str [],I 0]]⟩),(1,some ⟨98,2,[[.sl 1 (Ab L),I a]]⟩),(2,some ⟨31,19,[[I q.test.op,str q.test.name,str q.test.text,I q.test.num,.sl 5 (tsE q.test.kids),.sl 7 (sgE q.stages),I q.kind,I q.limit,B q.last,.sl 1 (Ay q.names),.sl 2 (agE q.aggs),I q.sketch,I q.other.op,str q.other.name,str q.other.text,I q.other.num,.sl 5 (tsE q.other.kids),str q.key,I q.window]]⟩),(3,some ⟨22,1,bbE (SF i)⟩)]⟩) (fun i=>i+1≤m) (fun i=>m-i) 0 (C9 (And.intro hS0 (And.intro AH.eq_1 B.eq_1)) [some 0,some 1,some 2,none] []) ?_
   intro i hi0
   have hol:=hSl i (by omega)
   by_cases hi:i+1<m
   · have hx:=hxm (i+1) hi
     have hs:=hdl i hi
     have hG:=hsgG (i+1) hi
     generalize X.getD (i+1) []=y at*
     have q:=YS y hG
     generalize G1 y=by1 at*
     generalize SF i=sg at*
     refine AU [2,7,8,9,10,14,15,79] ?_
     refine cT ?_;refine Dw [2,7,8,9,10,14,15,16] ?_ (onc 4 (pcq q) noc)
     refine Ah [2,7,8,9,10,14,15,16] ?_
     refine AU [2,7,8,9,10,14,15,16] ?_
     refine eE (i+1) (C9 (And.intro hs (And.intro AH.eq_1 B.eq_1)) [some 0,some 1,some 2,some 3] [4])
   · have:i=m-1:=by omega
     subst this
     generalize SF (m-1)=sg at*
     refine AU [2,7,8,9,10,14,15,79] ?_
     refine cF ?_;have F:=hx0;refine DV [2,3,4,5,6] ?_;clear F
     refine AW.ret (B0 [some 2] [1] (by simp only[AY,go_sem,seval];rfl) (by simp[Ax,lk,lkh,I,str,B,U8,U64,U32,qyC,BS,B,AH,cdE]<;>omega) (by first|(simp[Am,Ai,Aj,lkh,qyC,BS,B,AH,cdE];done)|simp[Am,Ai,Aj,lkh,I,str,qyC,BS,B,AH,cdE]))
end Go.Proofs.YtpkhodjlnodagaaGreatDoor
namespace Go.Proofs.YtpkhodjlnodagaaGreatDoor
open Go.Av
set_option maxHeartbeats 4000000
set_option maxRecDepth 10000
attribute [local irreducible] XH XO Ad Af A0
abbrev QC(q:Qy):List AV:=[I q.test.op,str q.test.name,str q.test.text,I q.test.num,.sl 5 (tsE q.test.kids),.sl 7 (sgE q.stages),I q.kind,I q.limit,B q.last,.sl 1 (Ay q.names),.sl 2 (agE q.aggs),I q.sketch,I q.other.op,str q.other.name,str q.other.text,I q.other.num,.sl 5 (tsE q.other.kids),str q.key,I q.window]
@[simp,go_sem] theorem QC_ids(q:Qy):HY (QC q)=[]:=rfl
@[go_sem] theorem QC_ren(q:Qy)(L:List Nat):Fz L (QC q)=QC q:=rfl
theorem Af5(q:Qy):qyC q=QC q:=by rw[qyC,BS,BS];rfl
abbrev cdC(L:List UInt8)(a:Nat):Ent:=⟨98,2,[[.sl 1 (Ab L),I a]]⟩
theorem Aeo(L:List UInt8)(hL:L.length≤2^20)(a:Nat)(ha:a≤L.length):A0 Tryz.prog 8 2 [I 2] (cdC L a) (fun r e=> ∃ (t:Ts) (a':Nat),r=tsA t∧e=cdC L a'∧TsB 2 t∧a'≤L.length):=by
 obtain⟨x,⟨t,a',rfl,ht,ha'⟩,q⟩:=LR 2 (by omega) L hL a ha
 unfold A0
 rw[BS]at q
 exact⟨_,_,⟨t,a',rfl,rfl,ht,ha'⟩,rfl,by simp[tsA,AO,AE,I,str],by simp[cdC,AO,AE,AA,I],by simp[cdC,AO,AE,AA,I],q⟩
theorem Afq(cs L:List UInt8)(hL:L.length≤2^20)(a0:Nat)(ha0:a0≤L.length)(q:Qy)(hq:QyG q)(sg:List S)(hsl:sg.length≤2^30)(hsg: ∀ b∈sg,∃ x,IxP b x∧IxR b x)(u v:List (List AV))(hu:AA 0 u=true)(hv:AA 0 v=true)(q5:Af Tryz.prog 6 [.sl 1 (Ab cs)] [] (.tup [.agg (QC q),.sl 10 u,.sl 1 (bbE sg),.sl 10 v,.ptr 0 2 0 0]) [some (cdC L a0)]):Ad Tryz.prog 3 [.sl 1 (Ab cs)] (fun r=>r=B true):=by
 have qa:=CL Ad3
 refine Au 115 Tryz.func3 ?_
 refine Aa 0 [0] ?_
 refine Ae 1 ?_
 refine AC (qa) ?_;rintro _ rfl
 refine Ac 1 ?_
 any_goals(refine XO.done [0,22] ?_)
 refine AM 22 ?_
 refine Ae 3 ?_
 refine Ac 1 ?_
 refine HE q5 ?_
 refine Ac 12 ?_
 any_goals(refine XO.done [3,5,7] ?_)
 refine Aa 4 [3,5,7,8] ?_
 any_goals(refine AX 2 (fun s:Nat×Nat=>⟨[(3,.ptr 0 19 0 0),(5,.sl 1 (bbE sg)),(7,.ptr 1 2 0 0),(8,I s.1)],[(0,some ⟨31,19,[QC q]⟩),(1,some (cdC L s.2))]⟩) (fun s=>s.1≤sg.length∧s.2≤L.length) (fun s=>sg.length-s.1) (0,a0) (AD B.eq_1 [some 0,some 1] []) ?_ (h0:=⟨Nat.zero_le _,ha0⟩);rintro⟨i,a⟩ hI0 Y0 hY0;skip)
 refine XW.at 5 ?_;have ha:=hI0.2;simp only at ha
 refine Aa 5 [3,5,7,8,34] ?_
 refine Az 34 (fun c34=>?_) (fun c34=>?_)
 refine XW.at 7 ?_;obtain⟨b,hx,hbm⟩:=Bd sg i (by have h1:=hI0.1;simp only at h1;omega);obtain⟨x,hx0,hr0⟩:=hsg b hbm
 refine Ae 7 ?_
 refine Aq 4 ?_
 refine AC (hr0.r7) ?_;rintro _ rfl
 refine Aq 6 ?_
 any_goals(refine XO.done [3,5,7,8,9] ?_)
 refine Ae 8 ?_
 refine Ac 3 ?_
 refine BM 1 (Aeo L hL a ha) ?_;rintro _ _ ⟨t2,a2,rfl,rfl,ht2,ha2⟩
 refine Ac 3 ?_
 any_goals(refine XO.done [3,5,7,8,9,49,50,51] ?_)
 any_goals(refine AX 4 (fun j:Nat=>⟨[(3,.ptr 0 19 0 0),(5,.sl 1 (bbE sg)),(7,.ptr 1 2 0 0),(8,I i),(9,.ptr 2 3 0 0),(49,.osl 3 2 5),(50,I 2),(51,I j)],[(0,some ⟨31,19,[QC q]⟩),(1,some (cdC L a2)),(2,some ⟨38,3,[[I x.c,I x.a,I x.z]]⟩),(3,some ⟨26,5,tsE [q.test,t2]⟩)]⟩) (fun j=>j≤2) (fun j=>2-j) 0 (AD (And.intro tsE.eq_1 (And.intro @BS B.eq_1)) [some 0,some 1,some 2,some 3] []) ?_ (h0:=Nat.zero_le _);rintro j hI1 Y1 hY1;skip)
 refine XW.at 9 ?_;have hts: ∀ t∈[q.test,t2],TsB 2 t:=(by intro t h;simp at h;rcases h with rfl|rfl;exact hq.test;exact ht2)
 refine Aa 9 [3,5,7,8,9,49,50,51,52] ?_
 refine Az 52 (fun c52=>?_) (fun c52=>?_)
 refine XW.at 10 ?_;obtain⟨t,hx3,htm⟩:=Bd [q.test,t2] j (by simp;omega);have ht:=hts t htm;have hcl:=IY hx0 2 t ht (by omega);have hx2:=hx3
 refine Bl 10 [3,5,7,8,9,12,49,50,51] ?_
 refine Ae 11 ?_
 refine Aq 7 ?_
 refine AC (VH hx0 2 t ht (by omega)) ?_;rintro _ rfl
 refine Ac 5 ?_
 any_goals(refine XO.done [3,5,7,8,9,12,13,14,49,50,51] ?_)
 refine Ae 12 ?_
 refine Aq 7 ?_
 refine AC (Rt hx0 hr0 2 t ht (by omega)) ?_;rintro _ rfl
 refine Ac 5 ?_
 any_goals(refine XO.done [3,5,7,8,9,12,13,14,15,16,49,50,51] ?_)
 refine Ae 13 ?_
 refine Aq 5 ?_
 refine AC (AcO hx0 2 t ht (by omega)) ?_;rintro _ rfl
 refine Ac 5 ?_
 any_goals(refine XO.done [3,5,7,8,9,12,13,14,15,16,17,18,49,50,51] ?_)
 refine Ae 14 ?_
 refine Aq 5 ?_
 refine AC (Acq hx0 hr0 2 t ht (by omega)) ?_;rintro _ rfl
 refine Ac 5 ?_
 any_goals(refine XO.done [3,5,7,8,9,13,14,15,16,17,18,19,20,49,50,51] ?_)
 refine Ae 15 ?_
 refine Ac 4 ?_
 refine BE 98 ?_
 refine Ac 2 ?_
 refine AC (Adn _ (by omega)) ?_;rintro _ rfl
 refine Ac 3 ?_
 refine BE 104 ?_
 refine Ac 5 ?_
 refine BE 109 ?_
 refine Ac 4 ?_
 any_goals(refine XO.done [3,5,7,8,9,49,50,51,113] ?_)
 refine AM 113 ?_
 refine AJ 17 [3,5,7,8,9,49,50,51] ?_
 · refine XH.le ?_;exact eY hY1 (j+1) (AD B.eq_1 [some 0,some 1,some 2,some 3] [])
 refine AJ 6 [3,5,7,8] ?_
 · refine XH.le ?_;exact hY0 (i+1,a2) (⟨by simp only;omega,by simp only;omega⟩) (by first|omega|(simp;done)|(simp;omega)) _ _ (AD B.eq_1 [some 0,some 1] [])
 refine Aa 18 [2] ?_
 refine Ap ?_;exact BT rfl
end Go.Proofs.YtpkhodjlnodagaaGreatDoor
namespace Go.Proofs.YtpkhodjlnodagaaGreatDoor
open Go.Av
theorem Ty(k:Nat)(l:List Ev):AA k (evE l)=true:=by simp
theorem law3(cs:List UInt8)(hc:cs.length<2^63):Ad Tryz.prog 3 [.sl 1 (Ab cs)] (fun r=>r=B true):=by
 obtain⟨l,m,K,q,L,a,⟨hL,ha,hq⟩,⟨hasc,hdr,hll⟩,hm,hK,q5⟩:=AeD cs hc
 rw[Af5]at q5
 refine Afq cs L hL a ha q hq _ ?_ ?_ _ _ (Ty 0 _) (Ty 0 _) q5
 · rw[List.length_map,List.length_drop,D8];omega
 · intro b hb
   obtain⟨X,hX,rfl⟩:=List.mem_map.1 hb
   have hX2:=List.mem_of_mem_drop hX
   unfold scX at hX2
   obtain⟨j,hj,rfl⟩:=List.mem_map.1 hX2
   refine⟨_,ixP ?_,ixR ?_⟩<;>exact RN ((HM _ _).trans (List.take_sublist _ _)) hasc hdr hll
end Go.Proofs.YtpkhodjlnodagaaGreatDoor
