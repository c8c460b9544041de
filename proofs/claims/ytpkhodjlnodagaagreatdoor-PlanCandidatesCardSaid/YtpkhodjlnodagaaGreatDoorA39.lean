/- Part 39 of the proof of PlanCandidates. -/
import Derived.Test.YtpkhodjlnodagaaGreatDoorA17
import Derived.Test.YtpkhodjlnodagaaGreatDoorA37
import Derived.Test.YtpkhodjlnodagaaGreatDoorA38
set_option linter.unusedSimpArgs false
set_option linter.unusedVariables false
set_option linter.unusedSectionVars false
namespace Go.Proofs.YtpkhodjlnodagaaGreatDoor
open Go.Av
set_option maxHeartbeats 4000000
set_option maxRecDepth 10000
attribute [local irreducible] XH XO Ad Af A0
theorem Vf{bs:List UInt8}{c a z:Nat}{ss:List S}(V:SegV bs c a z ss)(q:Nat)(x:S)(hq:ss[q]? =some x)(hq12:q<12):Ad Tryz.prog 70 [.sl 1 (Ab bs),I (q+1:Nat)] (fun r=>r= .tup [.sl 1 (Ab x),I 0]):=by
 have hl:=V.len
 have hT:=V.b.total
 have hq1:=(List.getElem?_eq_some_iff.1 hq).1
 have hqe:=(List.getElem?_eq_some_iff.1 hq).2
 have hs:=V.sec q hq1
 have hr:=Aba V (q+1) (by omega) (by omega)
 have hp:=MH V (q+1) (by omega) (by omega)
 simp only[Nat.add_sub_cancel]at hp
 rw[hqe]at hs hp
 have ho1:=Ie ss q hq1
 have ho2:=G4 ss (q+1)
 rw[hqe]at ho1
 have hx:(((124+CF ss q:Nat):Int)+(x.length:Int)).toNat=124+CF ss q+x.length:=(by omega)
 have hx2:=hs
 refine Au 41 Tryz.func70 ?_
 refine Aa 0 [0,1] ?_
 refine Ae 1 ?_
 refine Ac 3 ?_
 refine BE 12 ?_
 refine Ac 3 ?_
 any_goals(refine XO.done [0,1,15] ?_)
 refine Az 15 (fun c15=>?_) (fun c15=>?_)
 exfalso;omega
 refine Ae 3 ?_
 refine Ac 1 ?_
 refine AC (CL (PU V)) ?_;rintro _ rfl
 refine Ac 6 ?_
 any_goals(refine XO.done [0,1,7] ?_)
 refine Aa 4 [0,1,7,22] ?_
 refine AM 22 ?_
 refine Ae 6 ?_
 refine Ac 2 ?_
 refine AC (CL hr) ?_;rintro _ rfl
 refine Ac 1 ?_
 any_goals(refine XO.done [0,1,27] ?_)
 refine AM 27 ?_
 refine Ae 8 ?_
 refine Ac 2 ?_
 refine AC (CL hp) ?_;rintro _ rfl
 refine Ac 5 ?_
 any_goals(refine XO.done [0,8,9] ?_)
 refine Ba 9 [4,5] ?_
 refine Ap ?_;exact Ff rfl
def J3(d:List S)(X:List (List Int))(w:S):List Int:=if C2 d w then X.getD (CZ d w) []else []
theorem Aef{bs:List UInt8}{c a z:Nat}{ss:List S}(V:SegV bs c a z ss)(d:List S)(X:List (List Int))(hq:ss[10]? =some (AF (AG d)++bX X 0))(hc:A6 d=0)(hp:d.Pairwise ltS)(hdl:d.length≤2^40)(hbl:(AF (AG d)++bX X 0).length≤2^40)(hX: ∀ L∈X,Post L)(hXd:X.length=d.length)(w:S):
   Ad Tryz.prog 27 [.sl 1 (Ab bs),str w] (fun r=>r= .tup [.sl 1 (Ak (J3 d X w)),I 0]):=by
 unfold J3
 cases hw:C2 d w with
 |false=>exact OH (Ad.toA (Abx V d X hq hc hp hdl hbl w hw))
 |true=>
   have hm:=(G0 hp).1 hw
   have hg:=Fm d w hp hm
   exact Aby V d X hq hc hp hdl hbl w hw hX (CZ d w) rfl (by omega) (by omega)
theorem WK{d:List S}(hp:d.Pairwise ltS){i:Nat}{w:S}(h:d[i]? =some w):CZ d w=i:=by
 obtain⟨h1,h2⟩:=Fm d w hp (List.mem_of_getElem? h)
 obtain⟨hi,e⟩:=List.getElem?_eq_some_iff.1 h
 obtain⟨_,e2⟩:=List.getElem?_eq_some_iff.1 h1
 rcases Nat.lt_trichotomy (CZ d w) i with g|g|g
 · have:=List.pairwise_iff_getElem.1 hp _ _ h2 hi g
   rw[e,e2]at this;exact absurd this (De _)
 · exact g
 · have:=List.pairwise_iff_getElem.1 hp _ _ hi h2 g
   rw[e,e2]at this;exact absurd this (De _)
theorem Adz(X:List (List Int))(i:Nat):bX X 0=(X.take i).flatMap (fun L=>AF (Bq L))++bX X i:=by
 rw[bX,bX,← List.flatMap_append,List.take_append_drop];rfl
def oX(d:List S)(X:List (List Int))(i:Nat):Nat:=(AF (AG d)).length+((X.take i).flatMap fun L=>AF (Bq L)).length
theorem oX_s{d:List S}{X:List (List Int)}{i:Nat}{L:List Int}(h:X[i]? =some L):oX d X i+(AF (Bq L)).length=oX d X (i+1):=by
 rw[oX,oX,List.take_add_one,h,List.flatMap_append];simp;omega
theorem oX_b{d:List S}{X:List (List Int)}{i:Nat}{L:List Int}(h:X[i]? =some L): ∃ A R,AF (AG d)++bX X 0=A++AF (Bq L)++R∧A.length=oX d X i:=
 ⟨AF (AG d)++(X.take i).flatMap (fun L=>AF (Bq L)),bX X (i+1),by rw[Adz X i,VO h];simp,by simp[oX]⟩
theorem Adq{bs:List UInt8}{c a z:Nat}{ss:List S}(V:SegV bs c a z ss)(d:List S)(X:List (List Int))(hq:ss[10]? =some (AF (AG d)++bX X 0))(hc:A6 d=0)(hp:d.Pairwise ltS)(hdl:d.length≤2^40)(hbl:(AF (AG d)++bX X 0).length≤2^40)(hX: ∀ L∈X,Post L)(hXd:X.length=d.length)(w:S):Ad Tryz.prog 32 [.sl 1 (Ab bs),str w] (fun r=>r= .tup [.sl 1 (Ak (J3 d X w)),I 0]):=by
 have q0:=Vf V 10 _ hq (by decide)
 have q1:=CL (Kw (AF (AG d)++bX X 0) 0 (AG d) ⟨[],bX X 0,rfl,rfl⟩ hbl)
 have q2:=Gt (NH d hc) (by simp) (by simp)
 have hob:=fun i L h=>oX_b (d:=d) (X:=X) (i:=i) (L:=L) h
 have h0:oX d X 0=0+(AF (AG d)).length:=by simp[oX]
 generalize AF (AG d)++bX X 0=sb at*
 refine Au 63 Tryz.func32 ?_
 refine Aa 0 [0,1] ?_
 refine Ae 1 ?_
 refine Ac 1 ?_
 refine AC (q0) ?_;rintro _ rfl
 refine Ac 5 ?_
 any_goals(refine XO.done [1,6,7] ?_)
 refine Aa 2 [1,6,7,19] ?_
 refine AM 19 ?_
 refine Ae 4 ?_
 refine Ac 1 ?_
 refine AC (q1) ?_;rintro _ rfl
 refine Ac 7 ?_
 any_goals(refine XO.done [1,6,8,9,10] ?_)
 refine Ae 5 ?_
 refine Ac 1 ?_
 refine AC (q2) ?_;rintro _ rfl
 refine Ac 5 ?_
 any_goals(refine XO.done [1,6,7,9,10,11] ?_)
 refine Ae 6 ?_
 refine Ac 3 ?_
 refine BE 34 ?_
 refine Ac 3 ?_
 any_goals(refine XO.done [1,6,9,11,37] ?_)
 refine AM 37 ?_
 refine Aa 8 [1,6,9,11,12] ?_
 any_goals(refine AX 0 (fun i:Nat=>⟨[(1,str w),(6,.sl 1 (Ab sb)),(9,I (oX d X i)),(11,.sl 1 (Ay d)),(12,I i)],[]⟩) (fun i=>i≤d.length∧ ∀ y∈d.take i,¬ y=w) (fun i=>d.length-i) 0 (AD h0 [] []) ?_ (h0:=⟨Nat.zero_le _,by simp⟩);rintro i hI0 Y0 hY0;skip)
 refine Aa 9 [1,6,9,11,12,41] ?_
 refine Az 41 (fun c41=>?_) (fun c41=>?_)
 refine XW.at 11 ?_;obtain⟨L,hL,hLm⟩:=Bd X i (by omega);have hos:=oX_s (d:=d) hL;obtain⟨y,hy,hym⟩:=Bd d i (by omega)
 refine Ae 11 ?_
 refine Ac 2 ?_
 refine AC (CL (Kw sb (oX d X i) (Bq L) (hob i L hL) hbl)) ?_;rintro _ rfl
 refine Ac 7 ?_
 any_goals(refine XO.done [1,6,8,9,10,11,12] ?_)
 refine Aa 12 [1,6,8,9,11,12,52] ?_
 refine AM 52 ?_
 refine XW.at 14 ?_;have hx:=hy
 refine Bl 14 [1,6,8,9,11,12,58] ?_
 refine By 58 (fun c58=>?_) (fun c58=>?_)
 refine Ae 15 ?_
 refine Ac 1 ?_
 refine AC (Gt (RZ L (hX L hLm)) (by simp) (by simp)) ?_;rintro _ rfl
 refine Ac 4 ?_
 any_goals(refine XO.done [4,5] ?_)
 refine Ap ?_;have hyw:y=w:=(by simpa using c58);subst hyw;have hi:=WK hp hy;have hb:=(G0 hp).2 hym;have hfin:J3 d X y=L:=(by rw[J3,hb,hi];exact BC hL);rw[hfin];exact BT rfl
 refine AJ 10 [1,6,9,11,12] ?_
 · refine XH.le ?_;exact hY0 (i+1) (⟨by omega,fun y2 h2=>by rw[List.take_add_one,hy]at h2;rcases List.mem_append.1 h2 with h|h;exact hI0.2 y2 h;simp at h;subst h;simpa using c58⟩) (by first|omega|(simp;done)|(simp;omega)) _ _ (AD hos [] [])
 refine Aa 16 [4,5] ?_
 refine Ap ?_;have hnb:C2 d w=false:=(by rw[← Bool.not_eq_true];intro h;exact hI0.2 w (by rw[List.take_of_length_le (by omega)];exact(G0 hp).1 h) rfl);have hfin:J3 d X w=[]:=(by rw[J3,hnb];rfl);rw[hfin];exact V9 rfl
theorem Z8(T:Nat)(v:List Int)(hvl:v.length≤16384)(m:Nat)(hm:m≤2^40)(hv: ∀ x∈v,0≤x∧x<m)(R b:List UInt8)(hb:b=AF (BF v)++R)(hl:b.length≤2^40):A0 Tryz.prog 66 2 [I v.length,I m] (cuE T b false) (fun r e=>r= .sl 1 (Ak v)∧e=cuE T R false):=by
 have hel:=Hf v hvl
 have hi: ∀ x∈v,Ce x:=fun x hx=>by have:=hv x hx;unfold Ce;omega
 have hcf:=Wa 119 [I m] (fun x=>decide (x<0)||decide (x≥(m:Int))) v (by omega) (fun x _=>Ab4 m x)
 have hcl:v.any (fun x=>decide (x<0)||decide (x≥(m:Int)))=false:=(by rw[List.any_eq_false];intro x hx;have:=hv x hx;simp;omega)
 rw[hcl]at hcf
 all_goals refine D7 41 (fn:=Tryz.f66) Tryz.func66 rfl rfl rfl (by simp) rfl ?_
 refine Aa 0 [0,1,5] ?_
 any_goals(refine XW.at 1 ?_;refine EG 1 1 ⟨[(0,.ptr 0 2 0 0),(1,I v.length),(5,.rp [I m])],[(0,some (cuE T b false))]⟩ (Gg cuE.eq_1 [some 0] [1]) ?_)
 refine Ae 1 ?_
 refine Ac 3 ?_
 refine BM 0 (Kn T (BF v) R b hb (by omega) hl) ?_;rintro _ _ ⟨rfl,rfl⟩
 refine AC (Abk v hvl hi) ?_;rintro _ rfl
 refine Ac 5 ?_
 any_goals(refine XO.done [0,1,5,7,8] ?_)
 refine Ae 2 ?_
 refine Ac 2 ?_
 refine BM 0 (Pm T R) ?_;rintro _ _ ⟨rfl,rfl⟩
 any_goals(refine XO.done [0,1,5,7] ?_)
 refine Ae 3 ?_
 refine Ac 6 ?_
 refine BE 25 ?_
 refine Ac 6 ?_
 refine BE 31 ?_
 refine Ac 2 ?_
 refine AC (hcf) ?_;rintro _ rfl
 refine Ac 1 ?_
 any_goals(refine XO.done [0,7,35] ?_)
 refine AM 35 ?_
 refine Aa 6 [6] ?_
 refine Ap ?_;refine GM ?_;simp[Ax,cuE,B]
def bB(L:List S)(i:Nat):List UInt8:=(L.drop i).flatMap AF
theorem O3{L:List S}{i:Nat}{x:S}(h:L[i]? =some x):bB L i=AF x++bB L (i+1):=by
 obtain⟨hl,rfl⟩:=List.getElem?_eq_some_iff.1 h
 rw[bB,List.drop_eq_getElem_cons hl,List.flatMap_cons];rfl
theorem Ov(L:List S): ∀ i,(bB L i).length≤(bB L 0).length
 |0=>Nat.le_refl _
 |i+1=>by
   have ih:=Ov L i
   cases h:L[i]? with
   |none=>
     have h2:L.length≤i:=List.getElem?_eq_none_iff.1 h
     rw[bB,List.drop_eq_nil_of_le (by omega)];simp
   |some x=>rw[O3 h,List.length_append]at ih;omega
abbrev Zt:=List Int×List S
def zB(z:Zt):List S:=[Bq z.1,AG (Bi z.2),BF (DW z.2 z.2.length)]
def zBs(Z:List Zt):List S:=Z.flatMap zB
theorem AbE(Z:List Zt):(zBs Z).length=3*Z.length:=by
 induction Z with
 |nil=>rfl
 |cons z Z ih=>
   have e:zBs (z::Z)=zB z++zBs Z:=by simp[zBs]
   rw[e,List.length_append,ih,List.length_cons];simp[zB];omega
theorem Xe{Z:List Zt}: ∀ {j:Nat} {z:Zt},Z[j]? =some z→(zBs Z)[3*j]? =some (Bq z.1)∧(zBs Z)[3*j+1]? =some (AG (Bi z.2))∧(zBs Z)[3*j+2]? =some (BF (DW z.2 z.2.length)):=by
 induction Z with
 |nil=>intro j z h;simp at h
 |cons y Z ih=>
   intro j z h
   cases j with
   |zero=>simp at h;subst h;simp[zBs,zB]
   |succ j=>
     have:=ih (by simpa using h)
     have e:zBs (y::Z)=zB y++zBs Z:=by simp[zBs]
     rw[e]
     have e3:(zB y).length=3:=rfl
     rw[List.getElem?_append_right (by rw[e3];omega),List.getElem?_append_right (by rw[e3];omega),List.getElem?_append_right (by rw[e3];omega),e3]
     rw[show 3*(j+1)-3=3*j by omega,show 3*(j+1)+1-3=3*j+1 by omega,show 3*(j+1)+2-3=3*j+2 by omega]
     exact this
def DU(z:Zt)(w:S):Nat→List Int
 |0=>[]
 |k+1=>if z.2[k]? =some w then DU z w k++[z.1.getD k 0]else DU z w k
structure ZOk(z:Zt):Prop where
 post:Post z.1
 len:z.1.length=z.2.length
 vl:z.2.length≤4096
 sh: ∀ s∈z.2,s.length≤2048
theorem K6(ts:List S):(DW ts ts.length).length=ts.length:=by simp[DW]
theorem Agp{Z:List Zt}(hZ: ∀ z∈Z,ZOk z): ∀ x∈zBs Z,x.length≤100000000:=by
 intro x hx
 obtain⟨z,hz,hx⟩:=List.mem_flatMap.1 hx
 have h:=hZ z hz
 simp only[zB,List.mem_cons,List.not_mem_nil,or_false]at hx
 have hd:=Do z.2
 have hv:=h.vl
 rcases hx with rfl|rfl|rfl
 · have:=DA _ h.post;omega
 · have:=FF _ (Gb z.2 (by omega) h.sh);omega
 · have:=Hf (DW z.2 z.2.length) (by rw[K6];omega)
   rw[K6]at this;omega
def JZ(d:List S)(Z:List Zt)(n w:S):List Int:=if C2 d n then DU (Z.getD (CZ d n) ([],[])) w (Z.getD (CZ d n) ([],[])).1.length else []
theorem KU(z:Zt)(w:S): ∀ k,(DU z w k).length≤k
 |0=>by simp[DU]
 |k+1=>by
   have:=KU z w k
   rw[DU];split
   · simp;omega
   · omega
theorem Rq(ts:List S): ∀ x∈DW ts ts.length,0≤x∧x<(Bi ts).length:=by
 intro x hx
 simp only[DW,List.take_length,List.mem_map]at hx
 obtain⟨t,ht,rfl⟩:=hx
 have:=(Fm (Bi ts) t (B2 ts) ((C5 ts t).2 ht)).2
 omega
theorem X9{bs:List UInt8}{c a z:Nat}{ss:List S}(V:SegV bs c a z ss)(d:List S)(Z:List Zt)(hq:ss[9]? =some (AF (AG d)++bB (zBs Z) 0))(hc:A6 d=0)(hp:d.Pairwise ltS)(hdl:d.length≤32768)(hbl:(AF (AG d)++bB (zBs Z) 0).length≤2^40)(hZ: ∀ z∈Z,ZOk z)(hZd:Z.length=d.length)(n w:S)(hn:C2 d n=false):Ad Tryz.prog 29 [.sl 1 (Ab bs),str n,str w] (fun r=>r= .tup [.val (.slice none 0 0),I 0]):=by
 refine Au 80 Tryz.func29 ?_
 refine Aa 0 [0,1,2] ?_
 refine Ae 1 ?_
 refine Ac 1 ?_
 refine HE (NT V 9 _ hq) ?_
 refine Ac 5 ?_
 any_goals(refine XO.done [1,2,8,9] ?_)
 refine Aa 2 [1,2,8,9,24] ?_
 refine AM 24 ?_
 refine Ae 4 ?_
 refine Ac 1 ?_
 refine BM 0 (Ka 122 d (bB (zBs Z) 0) _ rfl hc hp hbl) ?_;rintro _ _ ⟨rfl,rfl⟩
 refine Ac 1 ?_
 refine AC (Qj d n (by omega)) ?_;rintro _ rfl
 rw[hn]
 refine Ac 5 ?_
 any_goals(refine XO.done [2,8,10,11] ?_)
 refine Aa 5 [2,8,10,34] ?_
 refine Cd 34 ?_
 refine Ae 6 ?_
 refine Ac 1 ?_
 refine BM 0 (Qo 122 (bB (zBs Z) 0)) ?_;rintro _ _ ⟨rfl,rfl⟩
 refine Ac 2 ?_
 any_goals(refine XO.done [6,7] ?_)
 refine Ap ?_;exact Bc rfl
theorem ZP{bs:List UInt8}{c a z:Nat}{ss:List S}(V:SegV bs c a z ss)(d:List S)(Z:List Zt)(hq:ss[9]? =some (AF (AG d)++bB (zBs Z) 0))(hc:A6 d=0)(hp:d.Pairwise ltS)(hdl:d.length≤32768)(hbl:(AF (AG d)++bB (zBs Z) 0).length≤2^40)(hZ: ∀ z∈Z,ZOk z)(hZd:Z.length=d.length)(n w:S)(hn:C2 d n=true)(j:Nat)(hj:CZ d n=j)(y:Zt)(hy:Z[j]? =some y):Ad Tryz.prog 29 [.sl 1 (Ab bs),str n,str w] (fun r=>r= .tup [.sl 1 (Ak (DU y w y.1.length)),I 0]):=by
 have hz:=hZ y (List.mem_of_getElem? hy)
 obtain⟨z1,z2,z3⟩:=Xe hy
 have hzl:=AbE Z
 have hzb:=Agp hZ
 have hjl:=(List.getElem?_eq_some_iff.1 hy).1
 have hyl:=hz.len
 have hyv:=hz.vl
 have hil:=K6 y.2
 have hir:=Rq y.2
 have hdl2:=Do y.2
 have hl0:=Q9 y.2
 have qcol:=Z8 122 (DW y.2 y.2.length) (by omega) (Bi y.2).length (by omega) hir (bB (zBs Z) (3*j+3)) (bB (zBs Z) (3*j+2)) (O3 z3) (by have:=Ov (zBs Z) (3*j+2);rw[List.length_append]at hbl;omega)
 rw[hil]at qcol
 refine Au 80 Tryz.func29 ?_
 refine Aa 0 [0,1,2] ?_
 refine Ae 1 ?_
 refine Ac 1 ?_
 refine HE (NT V 9 _ hq) ?_
 refine Ac 5 ?_
 any_goals(refine XO.done [1,2,8,9] ?_)
 refine Aa 2 [1,2,8,9,24] ?_
 refine AM 24 ?_
 refine Ae 4 ?_
 refine Ac 1 ?_
 refine BM 0 (Ka 122 d (bB (zBs Z) 0) _ rfl hc hp hbl) ?_;rintro _ _ ⟨rfl,rfl⟩
 refine Ac 1 ?_
 refine AC (Qj d n (by omega)) ?_;rintro _ rfl
 rw[hn,hj]
 refine Ac 5 ?_
 any_goals(refine XO.done [2,8,10,11] ?_)
 refine Aa 5 [2,8,10,34] ?_
 refine AM 34 ?_
 refine AJ 7 [2,8,38,39] ?_
 any_goals(refine AX 1 (fun t:Nat=>⟨[(2,str w),(8,.ptr 0 2 0 0),(38,I (3*j:Nat)),(39,I t)],[(0,some (cuE 122 (bB (zBs Z) t) false))]⟩) (fun t=>t≤3*j) (fun t=>3*j-t) 0 (AD (And.intro cuE.eq_1 B.eq_1) [some 0] []) ?_ (h0:=Nat.zero_le _);rintro t hI0 Y0 hY0;skip)
 refine Aa 8 [2,8,38,39,40] ?_
 refine Az 40 (fun c40=>?_) (fun c40=>?_)
 refine XW.at 9 ?_;obtain⟨x,hL,hLm⟩:=Bd (zBs Z) t (by omega)
 refine Ae 9 ?_
 refine Ac 3 ?_
 refine BM 0 (Kn 122 x (bB (zBs Z) (t+1)) (bB (zBs Z) t) (O3 hL) (by have:=hzb x hLm;omega) (by have:=Ov (zBs Z) t;rw[List.length_append]at hbl;omega)) ?_;rintro _ _ ⟨rfl,rfl⟩
 any_goals(refine XO.done [2,8,38,39] ?_)
 refine AJ 10 [2,8,38,39] ?_
 · refine XH.le ?_;exact eY hY0 (t+1) (AD (And.intro cuE.eq_1 B.eq_1) [some 0] [])
 refine XW.at 11 ?_;obtain rfl:t=3*j:=(by omega)
 refine Ae 11 ?_
 refine Ac 1 ?_
 refine BM 0 (Wj 122 y.1 hz.post (bB (zBs Z) (3*j+1)) (bB (zBs Z) (3*j)) (O3 z1) (by have:=Ov (zBs Z) (3*j);rw[List.length_append]at hbl;omega)) ?_;rintro _ _ ⟨rfl,rfl⟩
 refine Ac 1 ?_
 refine BM 0 (Ka 122 (Bi y.2) (bB (zBs Z) (3*j+2)) (bB (zBs Z) (3*j+1)) (O3 z2) (Gb _ (by have:=hz.vl;omega) hz.sh) (B2 _) (by have:=Ov (zBs Z) (3*j+1);rw[List.length_append]at hbl;omega)) ?_;rintro _ _ ⟨rfl,rfl⟩
 refine Ac 2 ?_
 any_goals(refine XO.done [2,8,12,13] ?_)
 refine Ae 12 ?_
 refine Ac 5 ?_
 rw[hyl]
 refine BM 0 (qcol) ?_;rintro _ _ ⟨rfl,rfl⟩
 refine Ac 1 ?_
 any_goals(refine XO.done [2,8,12,13,14] ?_)
 refine Aa 13 [2,8,12,13,14,15] ?_
 refine Aa 14 [2,8,12,13,15,56,57,58] ?_
 any_goals(refine AX 2 (fun k:Nat=>⟨[(2,str w),(8,.ptr 0 2 0 0),(12,.sl 1 (Ak y.1)),(13,.sl 1 (Ay (Bi y.2))),(15,.osl 1 (DU y w k).length 1),(56,.sl 1 (Ak (DW y.2 y.2.length))),(57,I y.2.length),(58,I k)],[(0,some (cuE 122 (bB (zBs Z) (3*j+3)) false)),(1,some ⟨3,1,Ak (DU y w k)⟩)]⟩) (fun k=>k≤y.2.length) (fun k=>y.2.length-k) 0 (AD (And.intro cuE.eq_1 (And.intro (And.intro DU.eq_1 DU.eq_2) (And.intro hil B.eq_1))) [some 0,none] []) ?_ (h0:=Nat.zero_le _);rintro k hI1 Y1 hY1;skip)
 refine Aa 15 [2,8,12,13,15,56,57,58,59] ?_
 refine Az 59 (fun c59=>?_) (fun c59=>?_)
 refine XW.at 16 ?_;obtain⟨u,hu,hum⟩:=Bd y.2 k (by omega);obtain⟨q,hq1,hq2,hq3⟩:=hl0 k (by omega);obtain⟨i1,hi1,hi1m⟩:=Bd y.1 k (by omega);have hx:=hq1;have hue:=(List.getElem?_eq_some_iff.1 hu).2;rw[hue]at hq2;have hvl:=KU y w k
 refine Bl 16 [2,8,12,13,15,16,17,56,57,58] ?_
 refine XW.at 17 ?_;have hx:=hq2
 refine Bl 17 [2,8,12,13,15,16,56,57,58,68] ?_
 refine By 68 (fun c68=>?_) (fun c68=>?_)
 refine XW.at 18 ?_;have hx:=hi1
 refine Bl 18 [2,8,12,13,15,56,57,58] ?_
 any_goals(refine AJ 19 [2,8,12,13,15,56,57,58] ?_;(refine XH.le ?_;(first|(have huw:u=w:=(by simpa using c68);have hvs:DU y w (k+1)=DU y w k++[i1]:=(by rw[DU,hu,huw,if_pos rfl,BC hi1]))|(have huw: ¬ u=w:=(by simpa using c68);have hvs:DU y w (k+1)=DU y w k:=(by rw[DU,hu,if_neg (by simpa using huw)])));exact eY hY1 (k+1) (AD (And.intro cuE.eq_1 (And.intro hvs B.eq_1)) [some 0,some 1] [])))
 refine XW.at 20 ?_;have hk:k=y.1.length:=(by omega);rw[hk]
 refine Ae 20 ?_
 refine Ac 2 ?_
 refine BM 0 (Qo 122 (bB (zBs Z) (3*j+3))) ?_;rintro _ _ ⟨rfl,rfl⟩
 refine Ac 2 ?_
 any_goals(refine XO.done [6,7] ?_)
 refine Ap ?_;rw[hyl];exact Ff rfl
theorem Abd{bs:List UInt8}{c a z:Nat}{ss:List S}(V:SegV bs c a z ss)(d:List S)(Z:List Zt)(hq:ss[9]? =some (AF (AG d)++bB (zBs Z) 0))(hc:A6 d=0)(hp:d.Pairwise ltS)(hdl:d.length≤32768)(hbl:(AF (AG d)++bB (zBs Z) 0).length≤2^40)(hZ: ∀ z∈Z,ZOk z)(hZd:Z.length=d.length)(n w:S):
   Ad Tryz.prog 29 [.sl 1 (Ab bs),str n,str w] (fun r=>r= .tup [.sl 1 (Ak (JZ d Z n w)),I 0]):=by
 unfold JZ
 cases hw:C2 d n with
 |false=>exact OH (Ad.toA (X9 V d Z hq hc hp hdl hbl hZ hZd n w hw))
 |true=>
   have hg:=Fm d n hp ((G0 hp).1 hw)
   obtain⟨y,hy,_⟩:=Bd Z (CZ d n) (by omega)
   rw[if_pos rfl,BC hy]
   exact ZP V d Z hq hc hp hdl hbl hZ hZd n w hw _ rfl y hy
@[go_sem] theorem E132n:Av.elemOf (Ao Tryz.prog) 132=none:=by kernel_rfl
theorem AdQ(L:List S)(i:Nat):bB L 0=(L.take i).flatMap AF++bB L i:=by
 rw[bB,bB,← List.flatMap_append,List.take_append_drop];rfl
def oB(d:List S)(L:List S)(i:Nat):Nat:=(AF (AG d)).length+((L.take i).flatMap AF).length
theorem oB_s{d:List S}{L:List S}{i:Nat}{x:S}(h:L[i]? =some x):oB d L i+(AF x).length=oB d L (i+1):=by
 rw[oB,oB,List.take_add_one,h,List.flatMap_append];simp;omega
theorem oB_b{d:List S}{L:List S}{i:Nat}{x:S}(h:L[i]? =some x): ∃ A R,AF (AG d)++bB L 0=A++AF x++R∧A.length=oB d L i:=
 ⟨AF (AG d)++(L.take i).flatMap AF,bB L (i+1),by rw[AdQ L i,O3 h];simp,by simp[oB]⟩
def ceP(z:Zt)(k:Nat):List AV:=[if 0<k then .sl 1 (Ab (Bq z.1))else .val (.slice none 0 0),if 1<k then .sl 1 (Ab (AG (Bi z.2)))else .val (.slice none 0 0),if 2<k then .sl 1 (Ab (BF (DW z.2 z.2.length)))else .val (.slice none 0 0)]
theorem Wq(z:Zt)(k:Nat):AE 0 (ceP z k)=true:=by
 unfold ceP;simp only[AE,Bool.and_eq_true]
 refine⟨?_,?_,?_,trivial⟩<;>split<;>rfl
@[go_sem] theorem AhW(z:Zt)(k:Nat):HY (ceP z k)=[]:=U6 _ (Wq z k)
theorem Zx(L:List Nat)(c:Prop)[Decidable c](a:List (List AV)):GC L (if c then .sl 1 a else .val (.slice none 0 0))=if c then .sl 1 a else .val (.slice none 0 0):=by split<;>rfl
@[go_sem] theorem AhE(L:List Nat)(z:Zt)(k:Nat):Fz L (ceP z k)=ceP z k:=by
 unfold ceP;simp only[Fz,Zx]
@[simp,go_sem] theorem AhG(z:Zt)(k:Nat):(ceP z k).length=3:=rfl
theorem Afy{z:Zt}{k:Nat}{x:S}(h:(zB z)[k]? =some x):(ceP z k).take k++(AV.sl 1 (Ab x)::(ceP z k).drop (k+1))=ceP z (k+1):=by
 unfold zB at h
 match k,h with
 |0,h=>simp at h;subst h;rfl
 |1,h=>simp at h;subst h;rfl
 |2,h=>simp at h;subst h;rfl
 |k+3,h=>simp at h
theorem AgC{Z:List Zt}{i k:Nat}{z:Zt}(h:Z[i]? =some z)(hk:k<3): ∃ x,(zB z)[k]? =some x∧(zBs Z)[3*i+k]? =some x:=by
 obtain⟨h0,h1,h2⟩:=Xe h
 match k,hk with
 |0,_=>exact⟨_,rfl,h0⟩
 |1,_=>exact⟨_,rfl,h1⟩
 |2,_=>exact⟨_,rfl,h2⟩
theorem ZQ{bs:List UInt8}{c a z:Nat}{ss:List S}(V:SegV bs c a z ss)(d:List S)(Z:List Zt)(hq:ss[9]? =some (AF (AG d)++bB (zBs Z) 0))(hc:A6 d=0)(hp:d.Pairwise ltS)(hdl:d.length≤32768)(hbl:(AF (AG d)++bB (zBs Z) 0).length≤2^40)(hZ: ∀ z∈Z,ZOk z)(hZd:Z.length=d.length)(n w:S):Ad Tryz.prog 33 [.sl 1 (Ab bs),str n,str w] (fun r=>r= .tup [.sl 1 (Ak (JZ d Z n w)),I 0]):=by
 have q0:=Vf V 9 _ hq (by decide)
 have q1:=CL (Kw (AF (AG d)++bB (zBs Z) 0) 0 (AG d) ⟨[],bB (zBs Z) 0,rfl,rfl⟩ hbl)
 have q2:=Gt (NH d hc) (by simp) (by simp)
 have hob:=fun i x h=>oB_b (d:=d) (L:=zBs Z) (i:=i) (x:=x) h
 have h0:oB d (zBs Z) 0=0+(AF (AG d)).length:=by simp[oB]
 generalize AF (AG d)++bB (zBs Z) 0=sb at*
 refine Au 151 Tryz.func33 ?_
 refine Aa 0 [0,1,2] ?_
 refine Ae 1 ?_
 refine Ac 1 ?_
 refine AC (q0) ?_;rintro _ rfl
 refine Ac 5 ?_
 any_goals(refine XO.done [1,2,8,9] ?_)
 refine Aa 2 [1,2,8,9,31] ?_
 refine AM 31 ?_
 refine Ae 4 ?_
 refine Ac 1 ?_
 refine AC (q1) ?_;rintro _ rfl
 refine Ac 7 ?_
 any_goals(refine XO.done [1,2,8,10,11,12] ?_)
 refine Ae 5 ?_
 refine Ac 1 ?_
 refine AC (q2) ?_;rintro _ rfl
 refine Ac 5 ?_
 any_goals(refine XO.done [1,2,8,9,11,12,13] ?_)
 refine Ae 6 ?_
 refine Ac 3 ?_
 refine BE 46 ?_
 refine Ac 3 ?_
 any_goals(refine XO.done [1,2,8,11,13,49] ?_)
 refine AM 49 ?_
 refine Aa 8 [1,2,8,11,13,14] ?_
 any_goals(refine AX 0 (fun i:Nat=>⟨[(1,str n),(2,str w),(8,.sl 1 (Ab sb)),(11,I (oB d (zBs Z) (3*i))),(13,.sl 1 (Ay d)),(14,I i)],[]⟩) (fun i=>i≤d.length∧ ∀ y∈d.take i,¬ y=n) (fun i=>d.length-i) 0 (AD h0 [] []) ?_ (h0:=⟨Nat.zero_le _,by simp⟩);rintro i hI0 Y0 hY0;skip)
 refine Aa 9 [1,2,8,11,13,14,53] ?_
 refine Az 53 (fun c53=>?_) (fun c53=>?_)
 refine XW.at 11 ?_;obtain⟨y,hy,hym⟩:=Bd Z i (by omega);have hz:=hZ y hym;obtain⟨m,hm,hmm⟩:=Bd d i (by omega)
 refine Aa 11 [1,2,8,11,13,14,15] ?_
 refine Aa 12 [1,2,8,11,13,14,15,16] ?_
 any_goals(refine AX 1 (fun k:Nat=>⟨[(1,str n),(2,str w),(8,.sl 1 (Ab sb)),(11,I (oB d (zBs Z) (3*i+k))),(13,.sl 1 (Ay d)),(14,I i),(15,.ptr 0 3 0 0),(16,I k)],[(0,some ⟨132,3,[ceP y k]⟩)]⟩) (fun k=>k≤3) (fun k=>3-k) 0 (AD ceP.eq_1 [some 0] []) ?_ (h0:=Nat.zero_le _);rintro k hI1 Y1 hY1;skip)
 refine Aa 13 [1,2,8,11,13,14,15,16,57] ?_
 refine Az 57 (fun c57=>?_) (fun c57=>?_)
 refine XW.at 15 ?_;obtain⟨x,hxk,hL⟩:=AgC hy (k:=k) (by omega);have hos:=oB_s (d:=d) hL;have hce:=Afy hxk;have hce2:List.take (0+k*1) (ceP y k)++AV.sl 1 (Ab x)::List.drop (0+k*1+1) (ceP y k)=ceP y (k+1):=(by rw[Nat.zero_add,Nat.mul_one];exact hce)
 refine Ae 15 ?_
 refine Aq 3 ?_
 refine AC (CL (Kw sb (oB d (zBs Z) (3*i+k)) x (hob _ x hL) hbl)) ?_;rintro _ rfl
 refine Aq 5 ?_
 have hx:=hce2
 refine Aq 3 ?_
 any_goals(refine XO.done [1,2,8,11,12,13,14,15,16] ?_)
 refine Aa 16 [1,2,8,11,13,14,15,16,70] ?_
 refine AM 70 ?_
 refine AJ 14 [1,2,8,11,13,14,15,16] ?_
 · refine XH.le ?_;exact eY hY1 (k+1) (AD (And.intro hos (And.intro hce (And.intro @Wq @Nat.add_assoc))) [some 0] [])
 refine XW.at 18 ?_;obtain rfl:k=3:=(by omega);have hx:=hm;have hfe:ceP y 3=[.sl 1 (Ab (Bq y.1)),.sl 1 (Ab (AG (Bi y.2))),.sl 1 (Ab (BF (DW y.2 y.2.length)))]:=rfl;rw[hfe]
 refine Bl 18 [1,2,8,11,13,14,15,76] ?_
 refine By 76 (fun c76=>?_) (fun c76=>?_)
 any_goals(refine XW.at 19 ?_;have hyl:=hz.len;have hyv:=hz.vl;have hil:=K6 y.2;have hir:=Rq y.2;have hdl2:=Do y.2;have hl0:=Q9 y.2;have hix: ∀ x∈DW y.2 y.2.length,Ce x:=(fun x hx=>by have:=hir x hx;unfold Ce;omega);refine Ae 19 ?_;refine Aq 2 ?_;refine AC (Gt (RZ y.1 hz.post) (by simp) (by simp)) ?_;rintro _ rfl;refine Aq 5 ?_;refine XO.done [2,15,17,18] ?_;refine Ae 20 ?_;refine Aq 2 ?_;refine AC (Gt (NH (Bi y.2) (Gb _ (by omega) hz.sh)) (by simp) (by simp)) ?_;rintro _ rfl;refine Ac 5 ?_;refine XO.done [2,15,17,18,19,20] ?_;refine Ae 21 ?_;refine Aq 2 ?_;refine AC (Gt (ZS (DW y.2 y.2.length) _ (JJ _ 3) (by omega) hix) (by simp) (by simp)) ?_;rintro _ rfl;refine Ac 5 ?_;refine XO.done [2,17,18,19,20,21,22] ?_;refine XW.at 22 ?_;have hx:=hyl;have hx2:=hil;refine Ae 22 ?_;refine Aq 3 ?_;refine BE 97 ?_;refine Aq 4 ?_;refine BE 101 ?_;refine Aq 4 ?_;refine BE 105 ?_;refine Aq 6 ?_;refine XO.done [2,17,19,21,111] ?_;refine AM 111 ?_;refine Aa 24 [2,17,19,21,23] ?_;refine Aa 25 [2,17,19,21,23,24] ?_;refine AX 1 (fun k:Nat=>⟨[(2,str w),(17,.sl 1 (Ak y.1)),(19,.sl 1 (Ay (Bi y.2))),(21,.sl 1 (Ak (DW y.2 y.2.length))),(23,.osl 0 (DU y w k).length 1),(24,I k)],[(0,some ⟨3,1,Ak (DU y w k)⟩)]⟩) (fun k=>k≤y.1.length) (fun k=>y.1.length-k) 0 (AD (And.intro DU.eq_1 DU.eq_2) [none] []) ?_ (h0:=Nat.zero_le _);rintro k hI2 Y2 hY2;skip;refine Aa 26 [2,17,19,21,23,24,115] ?_;refine Az 115 (fun c115=>?_) (fun c115=>?_))
 any_goals(refine XW.at 28 ?_;obtain⟨u,hu,hum⟩:=Bd y.2 k (by omega);obtain⟨q,hq1,hq2,hq3⟩:=hl0 k (by omega);obtain⟨i1,hi1,hi1m⟩:=Bd y.1 k (by omega);have hue:=(List.getElem?_eq_some_iff.1 hu).2;rw[hue]at hq2;have hvl:=KU y w k;have hx:=hq1;have hx2:=hq2;refine Ae 28 ?_;refine Aq 6 ?_;refine Gx 123 ?_;refine Aq 9 ?_;refine BV 132 (fun g132=>?_) (fun g132=>?_))
 any_goals(exfalso;omega)
 any_goals(refine Aq 10 ?_;refine XO.done [2,17,19,21,23,24,142] ?_;refine By 142 (fun c142=>?_) (fun c142=>?_))
 any_goals(refine XW.at 29 ?_;have hx:=hi1;refine Bl 29 [2,17,19,21,23,24] ?_)
 any_goals(refine AJ 27 [2,17,19,21,23,24] ?_;(refine XH.le ?_;(first|(have huw:u=w:=(by simpa using c142);have hvs:DU y w (k+1)=DU y w k++[i1]:=(by rw[DU,hu,huw,if_pos rfl,BC hi1]))|(have huw: ¬ u=w:=(by simpa using c142);have hvs:DU y w (k+1)=DU y w k:=(by rw[DU,hu,if_neg (by simpa using huw)])));exact eY hY2 (k+1) (AD hvs [some 0] [])))
 any_goals(refine Aa 30 [6,7] ?_;refine Ap ?_;have hmn:m=n:=(by simpa using c76);subst hmn;have hi:=WK hp hm;have hb:=(G0 hp).2 hmm;have hk:k=y.1.length:=(by omega);have hfin:JZ d Z m w=DU y w k:=(by rw[JZ,hb,if_pos rfl,hi,BC hy,hk]);rw[hfin];exact Ff rfl)
 refine AJ 10 [1,2,8,11,13,14] ?_
 · refine XH.le ?_;exact hY0 (i+1) (⟨by omega,fun y2 h2=>by rw[List.take_add_one,hm]at h2;rcases List.mem_append.1 h2 with h|h;exact hI0.2 y2 h;simp at h;subst h;simpa using c76⟩) (by first|omega|(simp;done)|(simp;omega)) _ _ (AD @Nat.mul_add [] [])
 refine Aa 31 [6,7] ?_
 refine Ap ?_;have hnb:C2 d n=false:=(by rw[← Bool.not_eq_true];intro h;exact hI0.2 n (by rw[List.take_of_length_le (by omega)];exact(G0 hp).1 h) rfl);have hfin:JZ d Z n w=[]:=(by rw[JZ,hnb];rfl);rw[hfin];exact V9 rfl
theorem Rd(b:List Int):(Dp b)[0]? =some 3∧(Dp b)[1]? =some (Ct b.length 1)∧(Dp b)[2]? =some (Ct b.length 0):=⟨rfl,rfl,rfl⟩
theorem VE: ∀ (b:List Int) (j k:Nat) (c:Int),b[j]? =some c→k<8→(b.flatMap fun c=>DS c 8)[8*j+k]? =some (Ct c k)
 | [],j,k,c,h,_=>by simp at h
 |x::b,0,k,c,h,hk=>by
   simp at h;subst h
   rw[List.flatMap_cons,List.getElem?_append_left (by rw[Fs];omega)]
   simp[DS,hk]
 |x::b,j+1,k,c,h,hk=>by
   rw[List.flatMap_cons,List.getElem?_append_right (by rw[Fs];omega),Fs,show 8*(j+1)+k-8=8*j+k by omega]
   exact VE b j k c (by simpa using h) hk
theorem ZR{b:List Int}{j k:Nat}{c:Int}(h:b[j]? =some c)(hk:k<8):(Dp b)[3+8*j+k]? =some (Ct c k):=by
 rw[Dp,DD,List.take_length,List.getElem?_append_right (by simp;omega)]
 simp only[List.length_cons,List.length_nil]
 rw[show 3+8*j+k- (0+1+1+1)=8*j+k by omega]
 exact VE b j k c h hk
def W64(b:List Int):Prop:= ∀ c∈b,0≤c∧c<18446744073709551616
theorem Ns{c:Int}(h:0≤c){k:Nat}(hk:k<8):(Ct c k).toNat=c.toNat / 256^k%256:=by
 have e:=ME c k
 have e2:c.fdiv (2^min (8*k) 64)=((c.toNat / 2^(8*k):Nat):Int):=by
   have:=fdM c.toNat (8*k) 64 (by omega)
   rwa [show((c.toNat:Nat):Int)=c by omega]at this
 rw[e2,IU]at e
 have e3:(256:Nat)^k=2^(8*k):=by rw[Nat.pow_mul]
 rw[e3];omega
def F0(c:Int)(m:Nat):Nat:=c.toNat / 256^(8-m)
theorem VR{c:Int}(h:0≤c∧c<18446744073709551616):F0 c 0=0:=by
 unfold F0
 exact Nat.div_eq_of_lt (by have:(256:Nat)^(8-0)=18446744073709551616:=by decide
                            omega)
theorem Xp{c:Int}(h:0≤c∧c<18446744073709551616):((F0 c 8:Nat):Int)=c:=by
 unfold F0;simp;omega
theorem AcW{c:Int}(h:0≤c∧c<18446744073709551616){m:Nat}(hm:m<8):F0 c m<2^56:=by
 unfold F0
 rw[Nat.div_lt_iff_lt_mul (Nat.pow_pos (by decide))]
 have h1:(256:Nat)^1≤256^(8-m):=Nat.pow_le_pow_right (by decide) (by omega)
 have:c.toNat<2^56*256:=by omega
 exact Nat.lt_of_lt_of_le this (Nat.mul_le_mul_left _ (by simpa using h1))
theorem AdZ{c:Int}(h:0≤c∧c<18446744073709551616){m:Nat}(hm:m<8):F0 c (m+1)=F0 c m*256+(Ct c (7-m)).toNat:=by
 rw[Ns h.1 (by omega),F0,F0,show 8- (m+1)=7-m by omega,show 8-m=(7-m)+1 by omega,Nat.pow_succ,← Nat.div_div_eq_div_mul]
 omega
theorem Agx(a b:Nat)(ha:a<2^64)(hb:b<2^64):AN .or .u64 (a:Int) (b:Int)=((a ||| b:Nat):Int):=by
 simp only[AN]
 have e:IntKind.u64.bits=64:=rfl
 rw[BitVec.toNat_or,BitVec.ofInt_natCast,BitVec.ofInt_natCast,BitVec.toNat_ofNat,BitVec.toNat_ofNat,e,Nat.mod_eq_of_lt ha,Nat.mod_eq_of_lt hb]
 have:=Nat.or_lt_two_pow ha hb
 exact IntWalk.u64_in _ (by omega)
theorem AaV(a b:Nat)(hb:b<256):a*256 ||| b=a*256+b:=by
 have:=Nat.two_pow_add_eq_or_of_lt (i:=8) hb a
 rw[Nat.mul_comm,← this]
theorem accE{c:Int}(h:0≤c∧c<18446744073709551616){m:Nat}(hm:m<8):AN .or .u64 (IntKind.u64.wrap ((F0 c m:Int)*2^min 8 64)) ((Ct c (7-m)).toNat:Int)=((F0 c (m+1):Nat):Int):=by
 have h1:=AcW h hm
 have h2:=(Ct c (7-m)).toNat_lt
 have e1:((F0 c m:Int)*2^min 8 64)=((F0 c m*256:Nat):Int):=by
   rw[show(2:Int)^min 8 64=256 by decide];push_cast;rfl
 rw[e1,IntWalk.u64_in _ (by omega),Agx _ _ (by omega) (by omega),AaV _ _ h2,AdZ h hm]
theorem AaU{n:Nat}(h:n≤1024):AN .or .i64 (IntKind.i64.wrap (((Ct (n:Int) 1).toNat:Int)*2^min 8 64)) ((Ct (n:Int) 0).toNat:Int)=(n:Int):=by
 have h1:=Ns (c:=(n:Int)) (by omega) (k:=1) (by omega)
 have h0:=Ns (c:=(n:Int)) (by omega) (k:=0) (by omega)
 simp only[Int.toNat_natCast,Nat.pow_zero,Nat.div_one,Nat.pow_one]at h0 h1
 have e1:(((Ct (n:Int) 1).toNat:Int)*2^min 8 64)=(((Ct (n:Int) 1).toNat*256:Nat):Int):=by
   rw[show(2:Int)^min 8 64=256 by decide];push_cast;rfl
 rw[e1,As (by omega),Yo _ _ (by omega) (by omega),AaV _ _ (by omega)]
 omega
theorem AfU(b:List Int)(h1:1≤b.length)(h2:b.length≤1024)(hb:W64 b):Ad Tryz.prog 85 [.sl 1 (Ab (Dp b))] (fun r=>r= .tup [.agg [I 3,.sl 1 (Bu b)],I 0]):=by
 have hl:=Iu b
 obtain⟨e0,e1,e2⟩:=Rd b
 have hh:=AaU h2
 have hz:b.take 0=[]:=rfl
 have hw1:IntKind.i64.wrap ((Ct b.length 1).toNat:Int)=(Ct b.length 1).toNat:=As (by have:=(Ct b.length 1).toNat_lt;omega)
 have hw2:IntKind.i64.wrap ((Ct b.length 0).toNat:Int)=(Ct b.length 0).toNat:=As (by have:=(Ct b.length 0).toNat_lt;omega)
 have hw3:IntKind.i64.wrap (8*(b.length:Int))=8*(b.length:Int):=As (by omega)
 have hw4:IntKind.i64.wrap (3+8*(b.length:Int))=3+8*(b.length:Int):=As (by omega)
 have q0:=CL (TH 3 b (by omega) (by omega) h1 h2)
 refine Au 65 Tryz.func85 ?_
 refine Ae 0 ?_
 refine Ac 2 ?_
 refine Bv [0,2] ?_
 refine Ae 1 ?_
 refine Aq 4 ?_
 refine BE 11 ?_
 refine Aq 4 ?_
 have hx:=e1
 refine Aq 1 ?_
 have hx:=hw1
 refine AP 1 ?_
 refine AP 3 ?_
 have hx:=e2
 refine Aq 1 ?_
 have hx:=hw2
 refine AP 1 ?_
 have hx:=hh
 refine AP 1 ?_
 have hx:=hw3
 refine AP 1 ?_
 have hx:=hw4
 refine AP 1 ?_
 have hx:((Dp b).length:Int)=3+8*(b.length:Int):=(by omega);have hx2:decide (3+8*(b.length:Int)=3+8*(b.length:Int))=true:=(by simp)
 refine Aq 2 ?_
 refine Bv [0,2,27] ?_
 refine AM 27 ?_
 refine XW.at 3 ?_;have hx:=e0
 refine Ae 3 ?_
 refine AP 7 ?_
 refine Bv [0,2,4] ?_
 refine Ae 4 ?_
 refine Ac 1 ?_
 refine Bv [0,2,4,5] ?_
 any_goals(refine AX 3 (fun j:Nat=>⟨[(0,.sl 1 (Ab (Dp b))),(2,.ptr 0 2 0 0),(4,.ptr 1 2 0 0),(5,I (3+8*j:Nat))],[(0,some ⟨139,2,[[I 0,.val (.slice none 0 0)]]⟩),(1,some ⟨139,2,[[I 3,.osl 2 j 1]]⟩),(2,some ⟨65,1,Bu (b.take j)⟩)]⟩) (fun j=>j≤b.length) (fun j=>b.length-j) 0 (AD Bu.eq_1 [some 0,some 1,none] []) ?_ (h0:=Nat.zero_le _);rintro j hI0 Y0 hY0;skip)
 refine Ae 5 ?_
 refine Ac 4 ?_
 refine Bv [0,2,4,5,37] ?_
 refine Az 37 (fun c37=>?_) (fun c37=>?_)
 refine XW.at 7 ?_;obtain⟨c,hc,hcm⟩:=Bd b j (by omega);have hcr:=hb c hcm;have ha0:=VR hcr;have hts:b.take j++[c]=b.take (j+1):=(by rw[List.take_add_one,hc];rfl)
 refine Ae 7 ?_
 refine Ac 1 ?_
 refine Bv [0,2,4,5,6] ?_
 refine Ae 8 ?_
 refine Ac 1 ?_
 refine Bv [0,2,4,5,6,7] ?_
 any_goals(refine AX 3 (fun m:Nat=>⟨[(0,.sl 1 (Ab (Dp b))),(2,.ptr 0 2 0 0),(4,.ptr 1 2 0 0),(5,I (3+8*j:Nat)),(6,U64 (F0 c m)),(7,I (7- (m:Int)))],[(0,some ⟨139,2,[[I 0,.val (.slice none 0 0)]]⟩),(1,some ⟨139,2,[[I 3,.osl 2 j 1]]⟩),(2,some ⟨65,1,Bu (b.take j)⟩)]⟩) (fun m=>m≤8) (fun m=>8-m) 0 (AD (And.intro ha0 U64.eq_1) [some 0,some 1,some 2] []) ?_ (h0:=Nat.zero_le _);rintro m hI1 Y1 hY1;skip)
 refine Ae 9 ?_
 refine Ac 2 ?_
 refine Bv [0,2,4,5,6,7,41] ?_
 refine Az 41 (fun c41=>?_) (fun c41=>?_)
 refine XW.at 11 ?_;have hm8:=(show m<8 by omega);have hoc:=ZR hc (k:=7-m) (by omega);have hac:=accE hcr hm8;have hu8:IntKind.u64.wrap ((Ct c (7-m)).toNat:Int)=((Ct c (7-m)).toNat:Int):=IntWalk.u64_in _ (by have:=(Ct c (7-m)).toNat_lt;omega);have hidx:((3+8*j:Nat):Int)+(7- (m:Int))=((3+8*j+(7-m):Nat):Int):=(by omega)
 refine Ae 11 ?_
 refine Aq 1 ?_
 refine AP 4 ?_
 have hx:=hidx;have hx2:=hoc
 refine AP 3 ?_
 have hx:=hu8
 refine AP 1 ?_
 have hx:=hac
 refine AP 2 ?_
 refine Bv [0,2,4,5,6,7] ?_
 refine Ae 10 ?_
 refine EW 3 ?_
 refine Bv [0,2,4,5,6,7] ?_
 · refine XH.le ?_;exact eY hY1 (m+1) (AD U64.eq_1 [some 0,some 1,some 2] [])
 refine XW.at 12 ?_;obtain rfl:m=8:=(by omega);have hx:=Xp hcr
 refine Ae 12 ?_
 refine Aq 7 ?_
 refine Bv [0,2,4,5] ?_
 refine Ae 6 ?_
 refine EW 3 ?_
 refine Bv [0,2,4,5] ?_
 · refine XH.le ?_;exact eY hY0 (j+1) (AD (And.intro hts @Nat.mul_add) [some 0,some 1,some 2] [])
 refine XW.at 13 ?_;obtain rfl:j=b.length:=(by omega)
 refine Ae 13 ?_
 refine Ac 1 ?_
 refine Qi [2] rfl rfl q0 ⟨Kg ⟨LX,LC (by simp) rfl rfl (by simp) rfl,trivial⟩,trivial⟩ rfl ⟨by simp,by simp[lkh],trivial⟩ (.inr (fun r hr=>by subst hr;rfl)) ?_;rintro _ rfl
 refine Ac 1 ?_
 refine Bv [2,4,62] ?_
 refine AM 62 ?_
 refine Ae 15 ?_
 refine Ac 3 ?_
 refine Bv [2,3] ?_
 · refine Ap ?_;refine XP.ret [1] (.tup [.agg [I 3,.sl 1 (Bu b)],I 0]) rfl (hwk:=?_);simp[Ax,lkh,I];done
def K2(b:List Int)(w:S):Bool:=!((psL w (64*b.length) 3).any fun p=>!(HA b p.toNat))
theorem Acv(b:List Int)(hb0:0<b.length)(hb:b.length≤2^20)(w:S)(hw:w.length≤2^40): ∃ ps:List Int,ps=psL w (64*b.length) 3∧ps.length=3∧(∀ p∈ps,0≤p∧p<(64*b.length:Nat))∧Ad Tryz.prog 145 [.agg [I 3,.sl 1 (Bu b)],str w] (fun r=>r= .sl 1 (Ak ps)):=by
 obtain⟨ps,h1,h2,h3,h4⟩:=T0 b hb0 hb w hw
 exact⟨ps,h1,h2,h3,Ad.osl h4 (by simpa using h2) (by simp)⟩
theorem AdH(x:Int):AN .and .u64 x 1=0∨AN .and .u64 x 1=1:=by
 simp only[AN]
 have h:(BitVec.ofInt IntKind.u64.bits x &&& BitVec.ofInt IntKind.u64.bits 1).toNat≤1:=by
   rw[BitVec.toNat_and]
   have:(BitVec.ofInt IntKind.u64.bits (1:Int)).toNat=1:=by decide
   rw[this];exact Nat.and_le_right
 have h2:IntKind.u64.wrap (((BitVec.ofInt IntKind.u64.bits x &&& BitVec.ofInt IntKind.u64.bits 1).toNat:Nat):Int)=((BitVec.ofInt IntKind.u64.bits x &&& BitVec.ofInt IntKind.u64.bits 1).toNat:Int):=IntWalk.u64_in _ (by omega)
 rw[h2];omega
theorem AfE(b:List Int)(hb0:0<b.length)(hb:b.length≤1024)(w:S)(ps:List Int)(hpl:ps.length=3)(hpr: ∀ p∈ps,0≤p∧p<(64*b.length:Nat))(qp:Ad Tryz.prog 145 [.agg [I 3,.sl 1 (Bu b)],str w] (fun r=>r= .sl 1 (Ak ps))):Ad Tryz.prog 86 [.agg [I 3,.sl 1 (Bu b)],str w] (fun r=>r=B (!(ps.any fun p=>!(HA b p.toNat)))):=by
 refine Au 33 Tryz.func86 ?_
 refine Aa 0 [1,2] ?_
 refine Ae 1 ?_
 refine Ac 2 ?_
 refine AC (qp) ?_;rintro _ rfl
 refine Ac 1 ?_
 any_goals(refine XO.done [2,5] ?_)
 refine Aa 2 [2,5,6] ?_
 any_goals(refine AX 1 (fun i:Nat=>⟨[(2,.ptr 0 2 0 0),(5,.sl 1 (Ak ps)),(6,I i)],[(0,some ⟨139,2,[[I 3,.sl 1 (Bu b)]]⟩)]⟩) (fun i=>i≤ps.length∧ ∀ p∈ps.take i,(!(HA b p.toNat))=false) (fun i=>ps.length-i) 0 (AD trivial [some 0] []) ?_ (h0:=⟨Nat.zero_le _,by simp⟩);rintro i hI0 Y0 hY0;skip)
 refine Aa 3 [2,5,6,13] ?_
 refine Az 13 (fun c13=>?_) (fun c13=>?_)
 refine XW.at 5 ?_;obtain⟨p,hp1,hpm⟩:=Bd ps i (by omega);have hr:=hpr p hpm;obtain⟨c,hc1,hcm⟩:=Bd b (p / 64).toNat (by omega);have hq1:IntKind.i64.wrap (p.tdiv 64)=p / 64:=(by rw[Int.tdiv_eq_ediv_of_nonneg hr.1,As (by omega)]);have hr1:p.tmod 64=p%64:=Int.tmod_eq_emod_of_nonneg hr.1;have hpp:0≤p / 64∧p / 64<(b.length:Int):=(by omega);have hhw:HA b p.toNat=(AN .and .u64 (c.fdiv (2^min (p%64).toNat 64)) 1==1):=(by unfold HA;rw[show p.toNat / 64=(p / 64).toNat by omega,show p.toNat%64=(p%64).toNat by omega,BC hc1]);have hab:=AdH (c.fdiv (2^min (p%64).toNat 64))
 refine Ae 5 ?_
 refine Aq 4 ?_
 have hx:=hp1
 refine Aq 2 ?_
 have hx:=hq1
 refine AP 1 ?_
 have hx:=hc1
 refine Aq 2 ?_
 have hx:=hp1
 refine Aq 4 ?_
 have hx:=hr1
 refine AP 1 ?_
 refine AP 1 ?_
 refine AP 2 ?_
 any_goals(refine XO.done [2,5,6,32] ?_)
 refine Az 32 (fun c32=>?_) (fun c32=>?_)
 refine Aa 6 [4] ?_
 refine Ap ?_;have hb0:AN .and .u64 (c.fdiv (2^min (p%64).toNat 64)) 1=0:=(by simpa using c32);have ha:(ps.any fun p=>!(HA b p.toNat))=true:=List.any_eq_true.2 ⟨p,hpm,by rw[hhw,hb0];rfl⟩;rw[ha];exact BT rfl
 refine AJ 4 [2,5,6] ?_
 · refine XH.le ?_;(have hnw:(!(HA b p.toNat))=false:=(by rw[hhw];rcases hab with h|h;(rw[h]at c32;simp at c32);(rw[h];rfl)));exact hY0 (i+1) (⟨by omega,EA hI0.2 hp1 hnw⟩) (by first|omega|(simp;done)|(simp;omega)) _ _ (AD trivial [some 0] [])
 refine Aa 7 [4] ?_
 refine Ap ?_;have ha:(ps.any fun p=>!(HA b p.toNat))=false:=(by rw[List.any_eq_false];intro p hp;have:=hI0.2 p (by rw[List.take_of_length_le (by omega)];exact hp);simpa using this);rw[ha];exact BT rfl
theorem AdB(b:List Int)(h1:1≤b.length)(h2:b.length≤1024)(w:S)(hw:w.length≤2^40):Ad Tryz.prog 86 [.agg [I 3,.sl 1 (Bu b)],str w] (fun r=>r=B (K2 b w)):=by
 obtain⟨ps,e,hl,hr,q⟩:=Acv b h1 (by omega) w hw
 have:=AfE b h1 h2 w ps hl hr q
 unfold K2;rwa [← e]
theorem Af0{bs:List UInt8}{c a z:Nat}{ss:List S}(V:SegV bs c a z ss)(b:List Int)(hq:ss[11]? =some (Dp b))(h1:1≤b.length)(h2:b.length≤1024)(hb:W64 b)(w:S)(hw:w.length≤2^40):Ad Tryz.prog 39 [.sl 1 (Ab bs),str w] (fun r=>r= .tup [B (K2 b w),I 0]):=by
 have q:=AdB b h1 h2 w hw
 generalize K2 b w=tt at*
 refine Au 28 Tryz.func39 ?_
 refine Aa 0 [0,1] ?_
 refine Ae 1 ?_
 refine Ac 1 ?_
 refine AC (Vf V 11 _ hq (by decide)) ?_;rintro _ rfl
 refine Ac 5 ?_
 any_goals(refine XO.done [1,6,7] ?_)
 refine Aa 2 [1,6,7,15] ?_
 refine AM 15 ?_
 refine Ae 4 ?_
 refine Ac 1 ?_
 refine AC (AfU b h1 h2 hb) ?_;rintro _ rfl
 refine Ac 6 ?_
 any_goals(refine XO.done [1,7,8] ?_)
 refine Aa 5 [1,7,8,23] ?_
 refine AM 23 ?_
 refine Ae 7 ?_
 refine Ac 2 ?_
 refine AC (q) ?_;rintro _ rfl
 refine Ac 2 ?_
 any_goals(refine XO.done [4,5] ?_)
 refine Ap ?_;exact BT rfl
theorem Te(s:Int)(w:S): ∀ i,I4 s w i=Ge s w i
 |0=>rfl
 |i+1=>by
   have h1:=(w.getD i 0).toNat_lt
   have h2:IntKind.u32.wrap ((w.getD i 0).toNat:Int)=((w.getD i 0).toNat:Int):=IntWalk.u32_in _ (by omega)
   rw[I4,Ge,Te s w i,h2]
theorem ZB(s:Int)(w:S):Aan (I4 s w w.length)=Mx s w:=by rw[Te];rfl
theorem RV(s:Int)(w:S)(hl:w.length≤2^40):Ad Tryz.prog 239 [Gq s,str w] (fun r=>r=Gq (Mx s w)):=by
 have:=AbD s w hl
 rwa [ZB]at this
theorem AeI(a b:Int)(m i:Nat)(hm:0<m)(hm2:m<4294967296):IntKind.i64.wrap ((IntKind.u32.wrap (a+IntKind.u32.wrap (IntKind.u32.wrap (i:Int)*b))).tmod (m:Int))=psF a b m i:=by
 have h:=W2 (a+IntKind.u32.wrap (IntKind.u32.wrap (i:Int)*b))
 rw[Int.tmod_eq_emod_of_nonneg h.1,As (by have:=Int.emod_nonneg (IntKind.u32.wrap (a+IntKind.u32.wrap (IntKind.u32.wrap (i:Int)*b))) (show(m:Int)≠0 by omega);have:=Int.emod_lt_of_pos (IntKind.u32.wrap (a+IntKind.u32.wrap (IntKind.u32.wrap (i:Int)*b))) (show(0:Int)<m by omega);omega),psF]
 congr 1
 rw[So,So,So]
 have e:((i:Int)%4294967296*b)%4294967296=((i:Int)*b)%4294967296:=by rw[Int.mul_emod,Int.emod_emod_of_dvd _ (Int.dvd_refl _),← Int.mul_emod]
 rw[e];omega
theorem Abo(h:Nat)(hh:h≤8)(b:List Int)(hb0:0<b.length)(hb:b.length≤1024)(w:S)(u v:Int)(q0:Ad Tryz.prog 239 [Gq 0,str w] (fun r=>r=Gq u))(q1:Ad Tryz.prog 239 [Gq 1,str w] (fun r=>r=Gq v)):Ad Tryz.prog 199 [.agg [I h,.sl 1 (Bu b)],str w] (fun r=>r= .sl 1 (Ak (psA u v (64*b.length) h))):=by
 have hpf:=fun i=>AeI u v (64*b.length) i (by omega) (by omega)
 have hps:=AaK u v (64*b.length)
 have h0:psA u v (64*b.length) 0=[]:=rfl
 have hsz:=AbG b (by omega)
 have hms:IntKind.u32.wrap ((b.length*64:Nat):Int)=((64*b.length:Nat):Int):=by rw[Nat.mul_comm];exact IntWalk.u32_in _ (by omega)
 refine Au 37 Tryz.func199 ?_
 refine Aa 0 [1,2] ?_
 refine Ae 1 ?_
 refine Aq 1 ?_
 refine AC (q0) ?_;rintro _ rfl
 refine Aq 1 ?_
 refine AC (q1) ?_;rintro _ rfl
 refine Aq 2 ?_
 refine AC (hsz) ?_;rintro _ rfl
 have hx:=hms
 refine AP 4 ?_
 any_goals(refine XO.done [2,5,6,7] ?_)
 refine Aa 2 [2,5,6,7,8] ?_
 refine Aa 3 [5,6,7,8,19,20] ?_
 any_goals(refine AX 1 (fun i:Nat=>⟨[(5,Gq u),(6,Gq v),(7,Gq (64*b.length:Nat)),(8,.osl 0 i 1),(19,I h),(20,I i)],[(0,some ⟨3,1,Ak (psA u v (64*b.length) i)⟩)]⟩) (fun i=>i≤h) (fun i=>h-i) 0 (AD (And.intro h0 Gq.eq_1) [none] []) ?_ (h0:=Nat.zero_le _);rintro i hI0 Y0 hY0;skip)
 refine Aa 4 [5,6,7,8,19,20,21] ?_
 refine Az 21 (fun c21=>?_) (fun c21=>?_)
 refine Aa 5 [5,6,7,8,9,19,20] ?_
 refine Ae 6 ?_
 refine Aq 3 ?_
 refine Aq 1 ?_
 refine Aq 1 ?_
 refine Aq 3 ?_
 refine Aq 1 ?_
 have hx:=hpf i
 refine Aq 1 ?_
 refine Aq 3 ?_
 any_goals(refine XO.done [5,6,7,8,19,20] ?_)
 refine AJ 7 [5,6,7,8,19,20] ?_
 · refine XH.le ?_;exact eY hY0 (i+1) (AD (And.intro hps Gq.eq_1) [some 0] [])
 refine XW.at 8 ?_;obtain rfl:i=h:=(by omega)
 refine Aa 8 [4] ?_
 refine Ap ?_;exact Kv rfl
theorem Aaa(b:List Int)(h1:1≤b.length)(h2:b.length≤1024):Ad Tryz.prog 198 [.agg [I 3,.sl 1 (Bu b)]] (fun r=>r=I 0):=by
 refine Au 23 Tryz.func198 ?_
 refine Aa 0 [1] ?_
 refine Ae 1 ?_
 refine Ac 4 ?_
 refine BE 6 ?_
 refine Ac 5 ?_
 refine BE 11 ?_
 refine Ac 6 ?_
 refine BV 17 (fun g17=>?_) (fun g17=>?_)
 exfalso;omega
 refine Ac 5 ?_
 any_goals(refine XO.done [22] ?_)
 refine Az 22 (fun c22=>?_) (fun c22=>?_)
 exfalso;omega
 refine Aa 3 [2] ?_
 refine Ap ?_;exact BT rfl
def wB(b:List Int):List UInt8:=b.flatMap fun c=>DS c 8
theorem Sj(b:List Int):(wB b).length=8*b.length:=by
 have h:=Iu b
 have:Dp b=[3,Ct b.length 1,Ct b.length 0]++wB b:=by rw[Dp,DD,List.take_length];rfl
 rw[this]at h;simp at h;omega
theorem ZM(b:List Int):(Dp b).drop 3=wB b:=by rw[Dp,DD,List.take_length];rfl
theorem Aco{b:List Int}{j:Nat}{c:Int}(h:b[j]? =some c):((wB b).take (8*j+8)).drop (8*j)=DS c 8:=by
 have hl:=Sj b
 have hj:=(List.getElem?_eq_some_iff.1 h).1
 apply List.ext_getElem?
 intro k
 rw[List.getElem?_drop,List.getElem?_take]
 rcases Nat.lt_or_ge k 8 with hk|hk
 · rw[if_pos (by omega),wB,VE b j k c h hk,DS,List.getElem?_map,List.getElem?_range hk];rfl
 · rw[if_neg (by omega),List.getElem?_eq_none (by rw[Fs];exact hk)]
theorem AbP(c:Int){k:Nat}(h:k<8):(DS c 8)[k]? =some (Ct c k):=by
 rw[DS,List.getElem?_map,List.getElem?_range h];rfl
theorem AeB(c:Int):(DS c 8).length=8:=Fs c 8
theorem min8(b:List Int)(j:Nat)(h:j<b.length):(if(((wB b).drop (8*j)).length:Int)<8 then(((wB b).drop (8*j)).length:Int)else 8)=((8:Nat):Int):=by
 have:=Sj b
 rw[List.length_drop];split<;>omega
abbrev fE0:Ent:=⟨139,2,[[I 0,.val (.slice none 0 0)]]⟩
abbrev chH(b:List Int)(j:Nat):List (Nat×Option Ent):=[(0,some fE0),(1,some ⟨139,2,[[I 3,.osl 4 j 1]]⟩),(2,some ⟨22,1,[[.sl 1 (Ab (wB b))]]⟩),(3,some ⟨3,1,[[I 8]]⟩),(4,some ⟨65,1,Bu (b.take j)⟩)]
abbrev chH'(b:List Int)(j:Nat):List (Nat×Option Ent):=[(0,some fE0),(1,some ⟨139,2,[[I 3,.osl 5 j 1]]⟩),(2,some ⟨22,1,[[.sl 1 (Ab (wB b))]]⟩),(3,some ⟨3,1,[[I 8]]⟩),(4,none),(5,some ⟨65,1,Bu (b.take j)⟩)]
abbrev chF(b:List Int):List (Option Ent):=[some fE0,some ⟨139,2,[[I 3,.osl 4 b.length 1]]⟩,some ⟨22,1,[[.sl 1 (Ab (wB b))]]⟩,some ⟨3,1,[[I 8]]⟩,some ⟨65,1,Bu (b.take b.length)⟩]
abbrev bkH(b:List Int)(j:Nat)(c:Int)(m:Nat):List (Nat×Option Ent):=[(0,some fE0),(1,some ⟨139,2,[[I 3,.osl 4 j 1]]⟩),(2,some ⟨22,1,[[.sl 1 (Ab (wB b))]]⟩),(3,some ⟨3,1,[[I 8]]⟩),(4,some ⟨65,1,Bu (b.take j)⟩),(5,some ⟨65,1,[[U64 (F0 c m)]]⟩),(6,some ⟨22,1,[[.sl 1 (Ab (DS c 8))]]⟩)]
abbrev bkF(b:List Int)(j:Nat)(c:Int):List (Option Ent):=[some fE0,some ⟨139,2,[[I 3,.osl 4 j 1]]⟩,some ⟨22,1,[[.sl 1 (Ab (wB b))]]⟩,some ⟨3,1,[[I 8]]⟩,some ⟨65,1,Bu (b.take j)⟩,some ⟨65,1,[[U64 (F0 c 8)]]⟩,some ⟨22,1,[[.sl 1 (Ab (DS c 8))]]⟩]
theorem ZK(es:List (List AV))(he:AA 0 es=true):Af Tryz.prog 196 [.sl 1 es,I 8] [] (.fn 237 0 [.ptr 0 1 0 0,.ptr 1 1 0 0]) [some ⟨22,1,[[.sl 1 es]]⟩,some ⟨3,1,[[I 8]]⟩]:=by
 refine BB 9 0 Tryz.func196 ?_
 refine Aa 0 [2,3] ?_
 refine Aa 1 [2,3,6] ?_
 refine AM 6 ?_
 refine Aa 3 [4] ?_
 refine Ap ?_;refine XB.ret [some 0,some 1] [] (hids:=⟨by simp[Al],by simp[Al],rfl⟩) (hwk:=?_) (hwh:=?_);(next=>simp[Ax,lk,lkh,wk,wkL,wkE,I]);(next=>simp[Am,Ai,Aj,lkh,wkE,wkL,wk,B,I])
theorem AcS(es:List (List AV))(he:AA 0 es=true):Af Tryz.prog 197 [.sl 1 es] [] (.fn 238 0 [.ptr 0 1 0 0]) [some ⟨22,1,[[.sl 1 es]]⟩]:=by
 refine BB 4 0 Tryz.func197 ?_
 refine Aa 0 [1] ?_
 refine Aa 1 [2] ?_
 refine Ap ?_;refine XB.ret [some 0] [] (hids:=⟨by simp[Al],by simp[Al],rfl⟩) (hwk:=?_) (hwh:=?_);(next=>simp[Ax,lk,lkh,wk,wkL,wkE,I]);(next=>simp[Am,Ai,Aj,lkh,wkE,wkL,wk,B,I])
theorem Afu(b:List Int)(hb:b.length≤1024)(y0:Nat)(assign body:Code)(cenv:List (Nat×AV))(c:Code)(hcode:Tryz.f237.body=some c)(hB: ∀ (j:Nat) (v:Int),b[j]? =some v→ ∃ nB sB,RD Tryz.prog 59 5 assign 5 ⟨E7 ([38].zip [.sl 1 (Ab (DS v 8))]) cenv,chH b j⟩ nB sB∧RD Tryz.prog 59 5 body nB sB 6 ⟨[],chH' b (j+1)⟩): @XW ⟨some ⟨y0,59,lk cenv,#[38],assign,body⟩⟩ Tryz.prog 31 4 (fun x=>x=(.tup [],chF b)) [] c [] 4 ⟨[(0,YV y0),(1,.ptr 2 1 0 0),(2,.ptr 3 1 0 0)],[(0,some fE0),(1,some ⟨139,2,[[I 3,.val (.slice none 0 0)]]⟩),(2,some ⟨22,1,[[.sl 1 (Ab (wB b))]]⟩),(3,some ⟨3,1,[[I 8]]⟩)]⟩:=by
 have hwl:=Sj b
 letI Y:Yl:=⟨some ⟨y0,59,lk cenv,#[38],assign,body⟩⟩;obtain rfl:=Option.some.inj (show some _=some c from hcode);refine Qp ?_
 refine Ae 0 ?_
 refine Ac 1 ?_
 refine A4 [0,1,2,4] ?_
 any_goals(refine AX 5 (fun j:Nat=>⟨[(0,YV y0),(1,.ptr 2 1 0 0),(2,.ptr 3 1 0 0),(4,I (8*j:Nat))],chH b j⟩) (fun j=>j≤b.length) (fun j=>b.length-j) 0 (AD (And.intro Bu.eq_1 B.eq_1) [some 0,some 1,some 2,some 3,none] []) ?_;rintro j hI0 Y0 hY0;skip)
 refine Ae 1 ?_
 refine Ac 4 ?_
 refine A4 [0,1,2,4,9] ?_
 refine Az 9 (fun c9=>?_) (fun c9=>?_)
 refine XW.at 3 ?_;have hjl:=(show j<b.length by omega);have hx:=min8 b j hjl
 refine Ae 3 ?_
 refine AP 7 ?_
 refine A4 [0,1,2,4,5] ?_
 refine XW.at 4 ?_;obtain⟨v,hv,hvm⟩:=Bd b j (by omega);obtain⟨nB,sB,hb1,hb2⟩:=hB j v hv;rw[← Aco hv]at hb1;have hx:((8*j:Nat):Int)+((8:Nat):Int)=((8*j+8:Nat):Int):=(by omega)
 refine XOW.start 4 ?_
 refine Gh 9 [0,1,2,4,19,20,21,24,27] ?_
 refine XOW.raw [0,1,2,4,19,28] (Uw (x:= .tmp 20) (lo:= .tmp 21) (hi:= .tmp 24) (mx:= .tmp 27) (l:=8*j) (h:=8*j+8) (m:=8*j+8) (es:=Ab (wB b)) (BQ _) D22 T5 rfl rfl rfl rfl rfl (by omega) (by omega) (by rw[Cw];omega)) ?_
 refine XOW.yield hb1 hb2 ?_
 refine Gh 1 [0,1,2,4,30] ?_
 any_goals(refine XOW.done ?_)
 refine AM 30 ?_
 refine Ae 2 ?_
 refine EW 4 ?_
 refine A4 [0,1,2,4] ?_
 · refine XH.le ?_;exact eY hY0 (j+1) (AD (And.intro @Nat.mul_add B.eq_1) [some 0,some 1,some 2,some 3,some 4] [])
 obtain rfl:j=b.length:=(by omega);refine Ke [some 0,some 1,some 2,some 3,some 4] [] (hids:=⟨by simp[Al],by simp[Al],rfl⟩) (hwk:=by simp[Ax,lk,lkh,wk,wkL,wkE,I]) (hwh:=?_);simp[Am,Ai,Aj,lkh,wkE,wkL,wk,B,I]
theorem Af4(b:List Int)(j:Nat)(v:Int)(y0:Nat)(assign body:Code)(cenv:List (Nat×AV))(c:Code)(hcode:Tryz.f238.body=some c)(hB: ∀ m:Nat,m<8→ ∃ nB sB,RD Tryz.prog 59 7 assign 7 ⟨E7 ([41,42].zip [I (7- (m:Int)),U8 (Ct v (7-m))]) cenv,bkH b j v m⟩ nB sB∧RD Tryz.prog 59 7 body nB sB 7 ⟨[],bkH b j v (m+1)⟩): @XW ⟨some ⟨y0,59,lk cenv,#[41,42],assign,body⟩⟩ Tryz.prog 19 7 (fun x=>x=(.tup [],bkF b j v)) [] c [] 7 ⟨[(0,YV y0),(1,.ptr 6 1 0 0)],bkH b j v 0⟩:=by
 have ho8:=AeB v
 letI Y:Yl:=⟨some ⟨y0,59,lk cenv,#[41,42],assign,body⟩⟩;obtain rfl:=Option.some.inj (show some _=some c from hcode);refine Qp ?_
 refine XW.at 0 ?_;have hx:((DS v 8).length:Int)-1=7:=(by omega)
 refine Ae 0 ?_
 refine AP 4 ?_
 refine A4 [0,1,3] ?_
 any_goals(refine AX 7 (fun m:Nat=>⟨[(0,YV y0),(1,.ptr 6 1 0 0),(3,I (7- (m:Int)))],bkH b j v m⟩) (fun m=>m≤8) (fun m=>8-m) 0 (AD (And.intro ho8 (And.intro B.eq_1 U64.eq_1)) [some 0,some 1,some 2,some 3,some 4,some 5,some 6] []) ?_;rintro m hI0 Y0 hY0;skip)
 refine Ae 1 ?_
 refine Ac 2 ?_
 refine A4 [0,1,3,8] ?_
 refine Az 8 (fun c8=>?_) (fun c8=>?_)
 refine XW.at 3 ?_;have hm8:=(show m<8 by omega);obtain⟨nB,sB,hb1,hb2⟩:=hB m hm8;have hx:(7- (m:Int)).toNat=7-m:=(by omega);have hx2:=AbP v (k:=7-m) (by omega)
 refine XOW.start 3 ?_
 refine Gh 6 [0,1,3,11,12,16] ?_
 refine XOW.yield hb1 hb2 ?_
 refine Gh 1 [0,1,3,18] ?_
 any_goals(refine XOW.done ?_)
 refine AM 18 ?_
 refine Ae 2 ?_
 refine EW 3 ?_
 refine A4 [0,1,3] ?_
 · refine XH.le ?_;exact eY hY0 (m+1) (AD (And.intro B.eq_1 U64.eq_1) [some 0,some 1,some 2,some 3,some 4,some 5,some 6] [])
 obtain rfl:m=8:=(by omega);refine Ke [some 0,some 1,some 2,some 3,some 4,some 5,some 6] [] (hids:=⟨by simp[Al],by simp[Al],rfl⟩) (hwk:=by simp[Ax,lk,lkh,wk,wkL,wkE,I]) (hwh:=?_);simp[Am,Ai,Aj,lkh,wkE,wkL,wk,B,I,U64]
theorem Aes(b:List Int)(h1:1≤b.length)(h2:b.length≤1024)(hb:W64 b):Ad Tryz.prog 141 [.sl 1 (Ab (Dp b))] (fun r=>r= .tup [.agg [I 3,.sl 1 (Bu b)],I 0]):=by
 have hl:=Iu b
 obtain⟨e0,e1,e2⟩:=Rd b
 have hh:=AaU h2
 have hz:b.take 0=[]:=rfl
 have hw1:IntKind.i64.wrap ((Ct b.length 1).toNat:Int)=(Ct b.length 1).toNat:=As (by have:=(Ct b.length 1).toNat_lt;omega)
 have hw2:IntKind.i64.wrap ((Ct b.length 0).toNat:Int)=(Ct b.length 0).toNat:=As (by have:=(Ct b.length 0).toNat_lt;omega)
 have hw3:IntKind.i64.wrap (8*(b.length:Int))=8*(b.length:Int):=As (by omega)
 have hw4:IntKind.i64.wrap (3+8*(b.length:Int))=3+8*(b.length:Int):=As (by omega)
 have q0:=Aaa b h1 h2
 have hdr:=ZM b
 refine Au 59 Tryz.func141 ?_
 refine Ae 0 ?_
 refine Ac 2 ?_
 refine A4 [0,2] ?_
 refine Ae 1 ?_
 refine Aq 4 ?_
 refine BE 12 ?_
 refine Aq 4 ?_
 have hx:=e1
 refine Aq 1 ?_
 have hx:=hw1
 refine AP 1 ?_
 refine AP 3 ?_
 have hx:=e2
 refine Aq 1 ?_
 have hx:=hw2
 refine AP 1 ?_
 have hx:=hh
 refine AP 1 ?_
 have hx:=hw3
 refine AP 1 ?_
 have hx:=hw4
 refine AP 1 ?_
 have hx:((Dp b).length:Int)=3+8*(b.length:Int):=(by omega)
 refine Aq 2 ?_
 refine A4 [0,2,28] ?_
 refine AM 28 ?_
 refine XW.at 3 ?_;have hx:=e0
 refine Ae 3 ?_
 refine AP 7 ?_
 refine A4 [0,2,4] ?_
 refine XW.at 4 ?_;have hx:=hdr
 refine Ae 4 ?_
 refine AP 2 ?_
 refine XJ (ZK (Ab (wB b)) (by simp)) ?_
 refine A4 [2,4,37] ?_
 refine Qm (gf:=237) (j:=0) (cs:=[.ptr 2 1 0 0,.ptr 3 1 0 0]) (Ni:=31) (chF b) Tryz.func237 rfl rfl rfl (by decide) rfl (fun l0=>Afu b h2 l0 _ _ _ _ rfl ?_) ?_
 · intro j c hc
   have hcr:=hb c (List.mem_of_getElem? hc)
   have ha0:=VR hcr
   have hts:b.take j++[c]=b.take (j+1):=by rw[List.take_add_one,hc];rfl
   have hjl:=(List.getElem?_eq_some_iff.1 hc).1
   refine⟨5,⟨[(4,.ptr 1 2 0 0),(5,.sl 1 (Ab (DS c 8)))],chH b j⟩,Ju ?_,Ju ?_⟩
   · simp only[E7,List.zip_cons_cons,List.zip_nil_right]
     refine Aa 5 [4,5] ?_
     exact XH.rd ⟨[some 0,some 1,some 2,some 3,some 4],[],⟨by simp[Al],by simp[Al],by rfl⟩,by simp,by simp[AR,lk,lkh,I,str,U8],by simp[Am,Ai,Aj,lkh,wkE,wkL,wk,B,I]⟩
   · skip
     all_goals try refine Ae 6 ?_
     all_goals try refine Ac 2 ?_
     all_goals try refine A4 [4,5,6] ?_
     all_goals try(refine XW.at 7 ?_;refine EG 7 6 ⟨[(4,.ptr 1 2 0 0),(5,.sl 1 (Ab (DS c 8))),(6,.ptr 5 1 0 0)],[(0,some fE0),(1,some ⟨139,2,[[I 3,.osl 4 j 1]]⟩),(2,some ⟨22,1,[[.sl 1 (Ab (wB b))]]⟩),(3,some ⟨3,1,[[I 8]]⟩),(4,some ⟨65,1,Bu (b.take j)⟩),(5,some ⟨65,1,[[U64 (F0 c 0)]]⟩)]⟩ (Gg (And.intro ha0 U64.eq_1) [some 0,some 1,some 2,some 3,some 4,some 5] []) ?_)
     all_goals try refine Ae 7 ?_
     all_goals try refine Ac 1 ?_
     all_goals try(refine HE (AcS (Ab (DS c 8)) (by simp)) (hei:=by simp) ?_)
     all_goals try refine A4 [4,6,40] ?_
     refine Qm (gf:=238) (j:=0) (cs:=[.ptr 6 1 0 0]) (Ni:=19) (bkF b j c) Tryz.func238 rfl rfl rfl (by decide) rfl (fun l1=>Af4 b j c l1 _ _ _ _ rfl ?_) ?_
     · intro m hm8
       have hac:=accE hcr hm8
       have hu8:IntKind.u64.wrap ((Ct c (7-m)).toNat:Int)=((Ct c (7-m)).toNat:Int):=IntWalk.u64_in _ (by have:=(Ct c (7-m)).toNat_lt;omega)
       refine⟨7,⟨[(6,.ptr 5 1 0 0),(8,U8 (Ct c (7-m)))],bkH b j c m⟩,Ju ?_,Ju ?_⟩
       · simp only[E7,List.zip_cons_cons,List.zip_nil_right]
         refine Aa 8 [6,8] ?_
         exact XH.rd ⟨[some 0,some 1,some 2,some 3,some 4,some 5,some 6],[],⟨by simp[Al],by simp[Al],by rfl⟩,by simp,by simp[AR,lk,lkh,I,str,U8,U64],by simp[Am,Ai,Aj,lkh,wkE,wkL,wk,B,I,U64]⟩
       · skip
         all_goals try refine Ae 9 ?_
         all_goals try refine AP 3 ?_
         all_goals try(have hx:=hu8)
         all_goals try refine AP 1 ?_
         all_goals try(have hx:=hac)
         all_goals try refine AP 1 ?_
         all_goals try(skip)
         all_goals try refine Aq 1 ?_
         all_goals try refine A4 [] ?_
         exact XH.rd ⟨[some 0,some 1,some 2,some 3,some 4,some 5,some 6],[],⟨by simp[Al],by simp[Al],by rfl⟩,by simp,by simp[AR,lk,lkh,I,str,U8,U64],by simp[Am,Ai,Aj,lkh,wkE,wkL,wk,B,I,U64]⟩
     simp only[bkF,List.zipIdx_cons,List.zipIdx_nil,List.map_cons,List.map_nil,List.length_cons,List.length_nil,Nat.reduceAdd,Nat.zero_add]
     all_goals try(refine XW.at 10 ?_;have hx:=Xp hcr)
     all_goals try refine Ae 10 ?_
     all_goals try refine Aq 7 ?_
     all_goals try refine A4 [] ?_
     exact XH.rd ⟨[some 0,some 1,some 2,some 3,some 4,some 5],[],⟨by simp[Al],by simp[Al],by rfl⟩,by simp,by simp[AR,lk,lkh,I,str,U8,hts],by simp[Am,Ai,Aj,lkh,wkE,wkL,wk,B,I,hts]⟩
 simp only[chF,List.zipIdx_cons,List.zipIdx_nil,List.map_cons,List.map_nil,List.length_cons,List.length_nil,Nat.reduceAdd,Nat.zero_add]
 refine XW.at 11 ?_;have hx:b.take b.length=b:=List.take_length
 refine Ae 11 ?_
 refine Aq 1 ?_
 refine Qi [4] rfl rfl q0 ⟨Kg ⟨LX,LC (by simp) rfl rfl (by simp) rfl,trivial⟩,trivial⟩ rfl ⟨by simp,by simp[lkh],trivial⟩ (.inr (fun r hr=>by subst hr;rfl)) ?_;rintro _ rfl
 refine Aq 1 ?_
 refine A4 [2,4,56] ?_
 refine AM 56 ?_
 refine Ae 13 ?_
 refine Ac 3 ?_
 refine A4 [2,3] ?_
 · refine Ap ?_;refine XP.ret [1] (.tup [.agg [I 3,.sl 1 (Bu b)],I 0]) rfl (hwk:=?_);simp[Ax,lkh,I];done
theorem AdN(b:List Int)(hb0:0<b.length)(hb:b.length≤1024)(w:S)(hw:w.length≤2^40): ∃ ps:List Int,ps=psL w (64*b.length) 3∧ps.length=3∧(∀ p∈ps,0≤p∧p<(64*b.length:Nat))∧Ad Tryz.prog 199 [.agg [I 3,.sl 1 (Bu b)],str w] (fun r=>r= .sl 1 (Ak ps)):=
 ⟨_,rfl,UF _ _ _,UG _ _ _ (by omega),Abo 3 (by omega) b hb0 hb w _ _ (RV 0 w hw) (RV 1 w hw)⟩
theorem AcT(b:List Int)(h1:1≤b.length)(h2:b.length≤1024)(w:S)(hw:w.length≤2^40):Ad Tryz.prog 142 [.agg [I 3,.sl 1 (Bu b)],str w] (fun r=>r=B (K2 b w)):=by
 obtain⟨ps,e,hl,hr,q⟩:=AdN b h1 h2 w hw
 have:=Aek 3 b w ps (by omega) (fun p hp=>by have:=hr p hp;exact⟨by omega,by omega,by omega⟩) q
 unfold K2;rwa [← e]
theorem Afv{bs:List UInt8}{c a z:Nat}{ss:List S}(V:SegV bs c a z ss)(b:List Int)(hq:ss[11]? =some (Dp b))(h1:1≤b.length)(h2:b.length≤1024)(hb:W64 b)(w:S)(hw:w.length≤2^40):Ad Tryz.prog 80 [.sl 1 (Ab bs),str w] (fun r=>r= .tup [B (K2 b w),I 0]):=by
 have q:=AcT b h1 h2 w hw
 generalize K2 b w=tt at*
 refine Au 30 Tryz.func80 ?_
 refine Aa 0 [0,1] ?_
 refine Ae 1 ?_
 refine Ac 1 ?_
 refine AC (OD V 11 _ hq) ?_;rintro _ rfl
 refine Ac 5 ?_
 any_goals(refine XO.done [1,6,7] ?_)
 refine Aa 2 [1,6,7,15] ?_
 refine AM 15 ?_
 refine Ae 4 ?_
 refine Ac 1 ?_
 refine AC (Aes b h1 h2 hb) ?_;rintro _ rfl
 refine Ac 6 ?_
 any_goals(refine XO.done [1,7,8] ?_)
 refine Ae 5 ?_
 refine Ac 3 ?_
 refine Gx 24 ?_
 refine Ac 2 ?_
 refine AC (q) ?_;rintro _ rfl
 refine Ac 4 ?_
 any_goals(refine XO.done [4,5] ?_)
 refine Ap ?_;exact BT rfl
structure Ix where
 wf:S→List Int
 vf:S→S→List Int
 mf:S→Bool
 c:Nat
 a:Nat
 z:Nat
structure IxP(bs:S)(x:Ix):Prop where
 p27: ∀ w,Ad Tryz.prog 27 [.sl 1 (Ab bs),str w] (fun r=>r= .tup [.sl 1 (Ak (x.wf w)),I 0])
 p29: ∀ n w,Ad Tryz.prog 29 [.sl 1 (Ab bs),str n,str w] (fun r=>r= .tup [.sl 1 (Ak (x.vf n w)),I 0])
 p80: ∀ w:S,w.length≤2^40→Ad Tryz.prog 80 [.sl 1 (Ab bs),str w] (fun r=>r= .tup [B (x.mf w),I 0])
 p77:Ad Tryz.prog 77 [.sl 1 (Ab bs)] (fun r=>r= .tup [.agg [I x.c,I x.a,I x.z],I 0])
 wl: ∀ w,(x.wf w).length≤4096
 vl: ∀ n w,(x.vf n w).length≤4096
 cl:x.c≤4096
 az:x.c≠0→x.a≤x.z
 zl:x.z≤253402300799999∧x.a≤253402300799999
structure IxR(bs:S)(x:Ix):Prop where
 r32: ∀ w,Ad Tryz.prog 32 [.sl 1 (Ab bs),str w] (fun r=>r= .tup [.sl 1 (Ak (x.wf w)),I 0])
 r33: ∀ n w,Ad Tryz.prog 33 [.sl 1 (Ab bs),str n,str w] (fun r=>r= .tup [.sl 1 (Ak (x.vf n w)),I 0])
 r39: ∀ w:S,w.length≤2^40→Ad Tryz.prog 39 [.sl 1 (Ab bs),str w] (fun r=>r= .tup [B (x.mf w),I 0])
 r7:Ad Tryz.prog 7 [.sl 1 (Ab bs)] (fun r=>r= .tup [.agg [I x.c,I x.a,I x.z],I 0])
def rgI(i:Nat):List Int:=(List.range i).map fun k:Nat=>(k:Int)
theorem AaR(i:Nat):rgI i++[(i:Int)]=rgI (i+1):=by simp[rgI,List.range_succ]
@[simp] theorem AbS(i:Nat):(rgI i).length=i:=by simp[rgI]
def cnS(x:Ix)(t:Ts)(f:Ts→List Int):List Int:=if t.op=1 then x.wf t.text else if t.op=4∧pfx t.name [64]=false then x.vf t.name t.text else if t.op=6 then Cz mgA (t.kids.map f)else if t.op=7 then Cz mgO (t.kids.map f)else rgI x.c
def cnD(x:Ix):Nat→Ts→List Int
 |0,t=>cnS x t fun _=>[]
 |d+1,t=>cnS x t (cnD x d)
theorem VZ{ks:List Ts}{f:Ts→List Int}{i:Nat}{k:Ts}(h:ks[i]? =some k):(ks.map f).take i++[f k]=(ks.map f).take (i+1):=by
 have h2:(ks.map f)[i]? =some (f k):=by rw[List.getElem?_map,h];rfl
 rw[List.take_add_one (l:=ks.map f),h2];rfl
theorem Nu{ks:List Ts}{f:Ts→List Int}{m:Nat}(h: ∀ k∈ks,(f k).length≤m):Fp (ks.map f)≤ks.length*m:=by
 induction ks with
 |nil=>simp[Fp]
 |cons k ks ih=>
   have h1:=ih (fun x hx=>h x (by simp[hx]))
   have h2:=h k (by simp)
   simp only[Fp,List.map_cons,List.sum_cons,List.length_cons,Nat.succ_mul]at*
   omega
theorem Uh{x:Ix}{bs:S}(hx:IxP bs x){t:Ts}{f:Ts→List Int}{m:Nat}(hk:t.kids.length≤3)(h: ∀ k∈t.kids,(f k).length≤m):(cnS x t f).length≤4096+3*m:=by
 have hs:=Nu h
 have hm:t.kids.length*m≤3*m:=Nat.mul_le_mul_right m hk
 have hA:=G7 Pi (t.kids.map f) _ (Nat.le_refl _)
 have hO:=G7 OM (t.kids.map f) _ (Nat.le_refl _)
 rw[List.take_length]at hA hO
 unfold cnS
 split
 · have:=hx.wl t.text;omega
 · split
   · have:=hx.vl t.name t.text;omega
   · split
     · omega
     · split
       · omega
       · have:=hx.cl;rw[AbS];omega
theorem W0(x:Ix)(bs:S)(hx0:IxP bs x)(t:Ts)(hkl:t.kids.length≤3)(f:Ts→List Int)(m:Nat)(hm:m≤2^30)(hfl: ∀ k∈t.kids,(f k).length≤m)(hf: ∀ k∈t.kids,Ad Tryz.prog 9 [tsA k,.sl 1 (Ab bs),I x.c] (fun r=>r= .tup [.sl 1 (Ak (f k)),I 0])):Ad Tryz.prog 9 [tsA t,.sl 1 (Ab bs),I x.c] (fun r=>r= .tup [.sl 1 (Ak (cnS x t f)),I 0]):=by
 have hss:=Nu hfl
 have hm3:t.kids.length*m≤3*m:=Nat.mul_le_mul_right m hkl
 have hml:(t.kids.map f).length=t.kids.length:=List.length_map ..
 have hz0:rgI 0=[]:=rfl
 have hcl:=hx0.cl
 refine Au 91 Tryz.func9 ?_
 refine Aa 0 [1,2,3] ?_
 refine Aa 1 [1,2,3,15] ?_
 refine Az 15 (fun c15=>?_) (fun c15=>?_)
 refine Ae 2 ?_
 refine Ac 3 ?_
 refine AC (hx0.p27 t.text) ?_;rintro _ rfl
 refine Ac 4 ?_
 any_goals(refine XO.done [6,7] ?_)
 refine Ap ?_;have hfin:cnS x t f=x.wf t.text:=(by rw[cnS,if_pos c15]);rw[hfin];exact BT rfl
 refine Ae 3 ?_
 refine Ac 4 ?_
 refine BV 29 (fun g29=>?_) (fun g29=>?_)
 any_goals(refine Ac 2 ?_;(first|(refine AC (Aai t.name [64]) ?_;rintro _ rfl)|refine Ac 1 ?_);refine Ac 3 ?_;refine XO.done [1,2,3,25] ?_;(first|refine AM 25 ?_|refine By 25 (fun c25=>?_) (fun c25=>?_)))
 refine Ae 4 ?_
 refine Ac 5 ?_
 refine AC (hx0.p29 t.name t.text) ?_;rintro _ rfl
 refine Ac 4 ?_
 any_goals(refine XO.done [6,7] ?_)
 refine Ap ?_;have hp:pfx t.name [64]=false:=(by simpa using c25);have hfin:cnS x t f=x.vf t.name t.text:=(by rw[cnS,if_neg c15,if_pos ⟨by assumption,hp⟩]);rw[hfin];exact BT rfl
 any_goals(refine Ae 5 ?_;refine Ac 4 ?_;refine BV 47 (fun g47=>?_) (fun g47=>?_))
 exfalso;omega
 any_goals(refine Ac 5 ?_;refine XO.done [1,2,3,43] ?_;(first|refine Cd 43 ?_|refine Az 43 (fun c43=>?_) (fun c43=>?_)))
 exfalso;omega
 any_goals(refine Aa 6 [1,2,3,8] ?_;refine Aa 7 [1,2,3,8,53,54,55] ?_;refine AX 2 (fun i:Nat=>⟨[(1,.sl 1 (Ab bs)),(2,I x.c),(3,.ptr 0 5 0 0),(8,.osl 1 i 1),(53,.sl 5 (tsE t.kids)),(54,I t.kids.length),(55,I i)],[(0,some ⟨26,5,[[I t.op,str t.name,str t.text,I t.num,.sl 5 (tsE t.kids)]]⟩),(1,some ⟨43,1,iiE ((t.kids.map f).take i)⟩)]⟩) (fun i=>i≤t.kids.length) (fun i=>t.kids.length-i) 0 (AD trivial [some 0,none] []) ?_ (h0:=Nat.zero_le _);rintro i hI0 Y0 hY0;skip;refine Aa 8 [1,2,3,8,53,54,55,56] ?_;refine Az 56 (fun c56=>?_) (fun c56=>?_))
 any_goals(refine XW.at 9 ?_;obtain⟨k,hx,hkm⟩:=Bd t.kids i (by omega);have hms:=VZ (f:=f) hx;refine Bl 9 [1,2,3,8,10,53,54,55] ?_;refine Ae 10 ?_;refine Ac 3 ?_;refine AC (hf k hkm) ?_;rintro _ rfl;refine Ac 5 ?_;refine XO.done [1,2,3,8,11,12,53,54,55] ?_;refine Aa 11 [1,2,3,8,11,12,53,54,55,67] ?_;refine AM 67 ?_;refine Aa 13 [1,2,3,8,53,54,55] ?_;refine AJ 14 [1,2,3,8,53,54,55] ?_;(refine XH.le ?_;exact eY hY0 (i+1) (AD hms [some 0,some 1] [])))
 any_goals(refine XW.at 15 ?_;have hik:i=t.kids.length:=(by omega);have hfull:(t.kids.map f).take i=t.kids.map f:=List.take_of_length_le (by omega);rw[hfull];refine Aa 15 [8,76] ?_;refine Az 76 (fun c76=>?_) (fun c76=>?_))
 any_goals(exfalso;omega)
 any_goals(refine XW.at 16 ?_;refine EG 16 0 ⟨[(8,.sl 1 (iiE (t.kids.map f)))],[]⟩ (Gg (And.intro hml hik) [] [0]) ?_;refine Ae 16 ?_;refine Ac 1 ?_;refine AC (Af9 (t.kids.map f) (by omega) (by omega)) ?_;rintro _ rfl;refine Ac 2 ?_;refine XO.done [6,7] ?_;refine Ap ?_;have h4:=(show ¬ t.op=4 by omega);have hfin:cnS x t f=Cz mgA (t.kids.map f):=(by rw[cnS,if_neg c15,if_neg (fun h=>h4 h.1),if_pos (by assumption)]);rw[hfin];exact BT rfl)
 any_goals(refine XW.at 17 ?_;refine EG 17 0 ⟨[(8,.sl 1 (iiE (t.kids.map f)))],[]⟩ (Gg (And.intro hml hik) [] [0]) ?_;refine Ae 17 ?_;refine Ac 1 ?_;refine AC (Afp (t.kids.map f) (by omega) (by omega)) ?_;rintro _ rfl;refine Ac 2 ?_;refine XO.done [6,7] ?_;refine Ap ?_;have h6:=(show ¬ t.op=6 by omega);have h4:=(show ¬ t.op=4 by omega);have hfin:cnS x t f=Cz mgO (t.kids.map f):=(by rw[cnS,if_neg c15,if_neg (fun h=>h4 h.1),if_neg h6,if_pos (by assumption)]);rw[hfin];exact BT rfl)
 any_goals(refine Aa 18 [2,13] ?_;refine Aa 19 [13,81,82] ?_;refine AX 1 (fun i:Nat=>⟨[(13,.osl 0 i 1),(81,I x.c),(82,I i)],[(0,some ⟨3,1,Ak (rgI i)⟩)]⟩) (fun i=>i≤x.c) (fun i=>x.c-i) 0 (AD (And.intro hz0 Ak.eq_1) [none] []) ?_ (h0:=Nat.zero_le _);rintro i hI1 Y1 hY1;skip;refine Aa 20 [13,81,82,83] ?_;refine Az 83 (fun c83=>?_) (fun c83=>?_))
 any_goals(refine Aa 21 [13,14,81,82] ?_;refine Aa 22 [13,81,82] ?_;refine AJ 23 [13,81,82] ?_;(refine XH.le ?_;exact eY hY1 (i+1) (AD @AaR [some 0] [])))
 any_goals(refine Aa 24 [6,7] ?_;(refine Ap ?_;first|((have hi:i=x.c:=(by omega);have h4: ¬ (t.op=4∧pfx t.name [64]=false):=(by intro h;have:=h.2;simp[this]at c25);have hfin:cnS x t f=rgI i:=(by rw[cnS,if_neg c15,if_neg h4,if_neg (by assumption),if_neg (by assumption),hi]);rw[hfin];exact Ff rfl))|((have hi:i=x.c:=(by omega);have h4: ¬ (t.op=4∧pfx t.name [64]=false):=(fun h=>by have:=h.1;omega);have hfin:cnS x t f=rgI i:=(by rw[cnS,if_neg c15,if_neg h4,if_neg (by assumption),if_neg (by assumption),hi]);rw[hfin];exact Ff rfl))))
theorem Tt(x:Ix)(bs:S)(hx0:IxP bs x)(hr0:IxR bs x)(t:Ts)(hkl:t.kids.length≤3)(f:Ts→List Int)(m:Nat)(hm:m≤2^30)(hfl: ∀ k∈t.kids,(f k).length≤m)(hf: ∀ k∈t.kids,Ad Tryz.prog 10 [tsA k,.sl 1 (Ab bs),I x.c] (fun r=>r= .tup [.sl 1 (Ak (f k)),I 0])):Ad Tryz.prog 10 [tsA t,.sl 1 (Ab bs),I x.c] (fun r=>r= .tup [.sl 1 (Ak (cnS x t f)),I 0]):=by
 have hss:=Nu hfl
 have hm3:t.kids.length*m≤3*m:=Nat.mul_le_mul_right m hkl
 have hml:(t.kids.map f).length=t.kids.length:=List.length_map ..
 have hz0:rgI 0=[]:=rfl
 have hcl:=hx0.cl
 refine Au 98 Tryz.func10 ?_
 refine Aa 0 [1,2,3] ?_
 refine Aa 1 [1,2,3,14] ?_
 refine Az 14 (fun c14=>?_) (fun c14=>?_)
 refine Ae 2 ?_
 refine Ac 3 ?_
 refine AC (hr0.r32 t.text) ?_;rintro _ rfl
 refine Ac 4 ?_
 any_goals(refine XO.done [6,7] ?_)
 refine Ap ?_;have hfin:cnS x t f=x.wf t.text:=(by rw[cnS,if_pos c14]);rw[hfin];exact BT rfl
 refine Ae 3 ?_
 refine Aq 4 ?_
 refine BV 28 (fun g28=>?_) (fun g28=>?_)
 any_goals refine Aq 4 ?_
 refine XO.split 32 (fun g32=>?_) (fun g32=>?_)
 all_goals try(obtain⟨c,cs,hcs⟩:=TB g32;have hx:t.name[0]? =some c:=(by rw[hcs];rfl))
 any_goals(refine Aq 7 ?_;refine XO.done [1,2,3,24] ?_;(first|refine Cd 24 ?_|refine AM 24 ?_|refine By 24 (fun c24=>?_) (fun c24=>?_)))
 any_goals(refine Ae 4 ?_;refine Ac 5 ?_;refine AC (hr0.r33 t.name t.text) ?_;rintro _ rfl;refine Ac 4 ?_;refine XO.done [6,7] ?_;(refine Ap ?_;first|((have hp:pfx t.name [64]=false:=(by rw[Tv g32];rfl);have hfin:cnS x t f=x.vf t.name t.text:=(by rw[cnS,if_neg c14,if_pos ⟨by assumption,hp⟩]);rw[hfin];exact BT rfl))|((have hp:pfx t.name [64]=false:=(by rw[hcs];exact AaN (by simpa using c24));have hfin:cnS x t f=x.vf t.name t.text:=(by rw[cnS,if_neg c14,if_pos ⟨by assumption,hp⟩]);rw[hfin];exact BT rfl))))
 any_goals(refine Ae 5 ?_;refine Ac 4 ?_;refine BV 51 (fun g51=>?_) (fun g51=>?_))
 exfalso;omega
 any_goals(refine Ac 5 ?_;refine XO.done [1,2,3,47] ?_;(first|refine Cd 47 ?_|refine Az 47 (fun c47=>?_) (fun c47=>?_)))
 exfalso;omega
 any_goals(refine Aa 6 [1,2,3,8] ?_;refine Aa 7 [1,2,3,8,9] ?_;refine AX 2 (fun i:Nat=>⟨[(1,.sl 1 (Ab bs)),(2,I x.c),(3,.ptr 0 5 0 0),(8,.osl 1 i 1),(9,I i)],[(0,some ⟨26,5,[[I t.op,str t.name,str t.text,I t.num,.sl 5 (tsE t.kids)]]⟩),(1,some ⟨43,1,iiE ((t.kids.map f).take i)⟩)]⟩) (fun i=>i≤t.kids.length) (fun i=>t.kids.length-i) 0 (AD trivial [some 0,none] []) ?_ (h0:=Nat.zero_le _);rintro i hI0 Y0 hY0;skip;refine Aa 8 [1,2,3,8,9,60] ?_;refine Az 60 (fun c60=>?_) (fun c60=>?_))
 any_goals(refine XW.at 10 ?_;obtain⟨k,hx,hkm⟩:=Bd t.kids i (by omega);have hms:=VZ (f:=f) hx;refine Ae 10 ?_;refine Aq 7 ?_;refine AC (hf k hkm) ?_;rintro _ rfl;refine Aq 5 ?_;refine XO.done [1,2,3,8,9,10,11] ?_;refine Aa 11 [1,2,3,8,9,10,11,75] ?_;refine AM 75 ?_;refine Aa 13 [1,2,3,8,9] ?_;refine AJ 9 [1,2,3,8,9] ?_;(refine XH.le ?_;exact eY hY0 (i+1) (AD hms [some 0,some 1] [])))
 any_goals(refine XW.at 14 ?_;have hik:i=t.kids.length:=(by omega);have hfull:(t.kids.map f).take i=t.kids.map f:=List.take_of_length_le (by omega);rw[hfull];refine Aa 14 [8,83] ?_;refine Az 83 (fun c83=>?_) (fun c83=>?_))
 any_goals(exfalso;omega)
 any_goals(refine XW.at 15 ?_;refine EG 15 0 ⟨[(8,.sl 1 (iiE (t.kids.map f)))],[]⟩ (Gg (And.intro hml hik) [] [0]) ?_;refine Ae 15 ?_;refine Ac 1 ?_;refine AC (Afs (t.kids.map f) (by omega) (by omega)) ?_;rintro _ rfl;refine Ac 2 ?_;refine XO.done [6,7] ?_;refine Ap ?_;have h4:=(show ¬ t.op=4 by omega);have hfin:cnS x t f=Cz mgA (t.kids.map f):=(by rw[cnS,if_neg c14,if_neg (fun h=>h4 h.1),if_pos (by assumption)]);rw[hfin];exact BT rfl)
 any_goals(refine XW.at 16 ?_;refine EG 16 0 ⟨[(8,.sl 1 (iiE (t.kids.map f)))],[]⟩ (Gg (And.intro hml hik) [] [0]) ?_;refine Ae 16 ?_;refine Ac 1 ?_;refine AC (Agb (t.kids.map f) (by omega) (by omega)) ?_;rintro _ rfl;refine Ac 2 ?_;refine XO.done [6,7] ?_;refine Ap ?_;have h6:=(show ¬ t.op=6 by omega);have h4:=(show ¬ t.op=4 by omega);have hfin:cnS x t f=Cz mgO (t.kids.map f):=(by rw[cnS,if_neg c14,if_neg (fun h=>h4 h.1),if_neg h6,if_pos (by assumption)]);rw[hfin];exact BT rfl)
 any_goals(refine Aa 17 [2,12] ?_;refine Aa 18 [2,12,13] ?_;refine AX 1 (fun i:Nat=>⟨[(2,I x.c),(12,.osl 0 i 1),(13,I i)],[(0,some ⟨3,1,Ak (rgI i)⟩)]⟩) (fun i=>i≤x.c) (fun i=>x.c-i) 0 (AD (And.intro hz0 Ak.eq_1) [none] []) ?_ (h0:=Nat.zero_le _);rintro i hI1 Y1 hY1;skip;refine Aa 19 [2,12,13,90] ?_;refine Az 90 (fun c90=>?_) (fun c90=>?_))
 any_goals(refine XW.at 21 ?_;skip;refine Aa 21 [2,12,13] ?_;refine AJ 20 [2,12,13] ?_;(refine XH.le ?_;exact eY hY1 (i+1) (AD @AaR [some 0] [])))
 any_goals(refine Aa 22 [6,7] ?_;(refine Ap ?_;first|((have hi:i=x.c:=(by omega);have h4: ¬ (t.op=4∧pfx t.name [64]=false):=(by intro h;have e:=Aar (cs:=cs) (by simpa using c24);rw[← hcs,h.2]at e;cases e);have hfin:cnS x t f=rgI i:=(by rw[cnS,if_neg c14,if_neg h4,if_neg (by assumption),if_neg (by assumption),hi]);rw[hfin];exact Ff rfl))|((have hi:i=x.c:=(by omega);have h4: ¬ (t.op=4∧pfx t.name [64]=false):=(fun h=>by have:=h.1;omega);have hfin:cnS x t f=rgI i:=(by rw[cnS,if_neg c14,if_neg h4,if_neg (by assumption),if_neg (by assumption),hi]);rw[hfin];exact Ff rfl))))
theorem IY{x:Ix}{bs:S}(hx:IxP bs x): ∀ (d:Nat) (t:Ts),TsB d t→d≤2→(cnD x d t).length≤4096*4^(d+1)
 |0,t,h,hd=>by
   have:=Uh hx (t:=t) (f:=fun _=>[]) (m:=0) (by rw[h.2.2.2.2];simp) (by simp)
   simpa [cnD] using Nat.le_trans this (by decide)
 |d+1,t,h,hd=>by
   have ih:=fun k hk=>IY hx d k (h.2.2.2.2.2 k hk) (by omega)
   have:=Uh hx (t:=t) (f:=cnD x d) h.2.2.2.2.1 ih
   have e:4^(d+1+1)=4^(d+1)*4:=Nat.pow_succ ..
   have e2:1≤4^(d+1):=Nat.pow_pos (by decide)
   rw[cnD,e];omega
theorem Qr{d:Nat}(h:d≤2):4096*4^(d+1)≤2^30:=by
 have:4^(d+1)≤4^3:=Nat.pow_le_pow_right (by decide) (by omega)
 simp at this ⊢;omega
theorem VH{x:Ix}{bs:S}(hx:IxP bs x): ∀ (d:Nat) (t:Ts),TsB d t→d≤2→Ad Tryz.prog 9 [tsA t,.sl 1 (Ab bs),I x.c] (fun r=>r= .tup [.sl 1 (Ak (cnD x d t)),I 0])
 |0,t,h,hd=>W0 x bs hx t (by rw[h.2.2.2.2];simp) (fun _=>[]) 0 (by decide) (by simp) (by rw[h.2.2.2.2];simp)
 |d+1,t,h,hd=>W0 x bs hx t h.2.2.2.2.1 (cnD x d) _ (Qr (d:=d) (by omega)) (fun k hk=>IY hx d k (h.2.2.2.2.2 k hk) (by omega)) (fun k hk=>VH hx d k (h.2.2.2.2.2 k hk) (by omega))
theorem Rt{x:Ix}{bs:S}(hx:IxP bs x)(hr:IxR bs x): ∀ (d:Nat) (t:Ts),TsB d t→d≤2→Ad Tryz.prog 10 [tsA t,.sl 1 (Ab bs),I x.c] (fun r=>r= .tup [.sl 1 (Ak (cnD x d t)),I 0])
 |0,t,h,hd=>Tt x bs hx hr t (by rw[h.2.2.2.2];simp) (fun _=>[]) 0 (by decide) (by simp) (by rw[h.2.2.2.2];simp)
 |d+1,t,h,hd=>Tt x bs hx hr t h.2.2.2.2.1 (cnD x d) _ (Qr (d:=d) (by omega)) (fun k hk=>IY hx d k (h.2.2.2.2.2 k hk) (by omega)) (fun k hk=>Rt hx hr d k (h.2.2.2.2.2 k hk) (by omega))
def lkR(x:Ix)(sp:Int×Int)(req:List S)(cn:List Int):Int:=if x.c=0∨sp.1>sp.2∨sp.1>x.z∨sp.2<x.a then 1 else if(req.any fun w=>!(x.mf w))then 2 else if cn=[]then 3 else 0
def lkL(x:Ix)(sp:Int×Int)(req:List S)(cn:List Int):List Int:=if lkR x sp req cn=0 then cn else []
theorem MI{s1 s2 a z:Int}(h:a≤z):((if a>s1 then a else s1)>(if z<s2 then z else s2))↔(s1>s2∨s1>z∨s2<a):=by
 split<;>split<;>omega
theorem Vx{x:Ix}{sp:Int×Int}{req:List S}{cn:List Int}(h:x.c=0∨sp.1>sp.2∨sp.1>x.z∨sp.2<x.a):lkR x sp req cn=1∧lkL x sp req cn=[]:=by
 have:lkR x sp req cn=1:=by rw[lkR,if_pos h]
 exact⟨this,by rw[lkL,this];rfl⟩
theorem Aal{x:Ix}{sp:Int×Int}{req:List S}{cn:List Int}(h: ¬ (x.c=0∨sp.1>sp.2∨sp.1>x.z∨sp.2<x.a))(h2:(req.any fun w=>!(x.mf w))=true):lkR x sp req cn=2∧lkL x sp req cn=[]:=by
 have:lkR x sp req cn=2:=by rw[lkR,if_neg h,if_pos h2]
 exact⟨this,by rw[lkL,this];rfl⟩
theorem Aak{x:Ix}{sp:Int×Int}{req:List S}{cn:List Int}(h: ¬ (x.c=0∨sp.1>sp.2∨sp.1>x.z∨sp.2<x.a))(h2:(req.any fun w=>!(x.mf w))=false)(h3:cn=[]):lkR x sp req cn=3∧lkL x sp req cn=[]:=by
 have:lkR x sp req cn=3:=by rw[lkR,if_neg h,if_neg (by simp[h2]),if_pos h3]
 exact⟨this,by rw[lkL,this];rfl⟩
theorem AaT{x:Ix}{sp:Int×Int}{req:List S}{cn:List Int}(h: ¬ (x.c=0∨sp.1>sp.2∨sp.1>x.z∨sp.2<x.a))(h2:(req.any fun w=>!(x.mf w))=false)(h3: ¬ cn=[]):lkR x sp req cn=0∧lkL x sp req cn=cn:=by
 have:lkR x sp req cn=0:=by rw[lkR,if_neg h,if_neg (by simp[h2]),if_neg h3]
 exact⟨this,by rw[lkL,this];rfl⟩
theorem Qn{α:Type}{p:α→Bool}{l:List α}(h: ∀ x∈l,p x=false):l.any p=false:=by
 rw[List.any_eq_false];intro x hx;simp[h x hx]
theorem Rp{d:Nat}: ∀ (t:Ts),TsB d t→ ∀ w∈rrD d t,w.length≤2048:=by
 induction d with
 |zero=>
   intro t h w hw
   have hk:t.kids=[]:=h.2.2.2.2
   have h1:=h.1;have h2:=h.2.1
   simp only[rrD,rrS,hk]at hw
   split at hw
   · simp at hw;subst hw;omega
   · split at hw
     · split at hw
       · simp at hw
       · simp at hw;subst hw;simp;omega
     · split at hw
       · have:=(C5 _ _).1 hw;simp[rqA]at this
       · split at hw
         · simp[rrO]at hw
         · simp at hw
 |succ d ih=>
   intro t h w hw
   have h1:=h.1;have h2:=h.2.1
   have hkk:=h.2.2.2.2.2
   simp only[rrD,rrS]at hw
   split at hw
   · simp at hw;subst hw;omega
   · split at hw
     · split at hw
       · simp at hw
       · simp at hw;subst hw;simp;omega
     · split at hw
       · have hw:=(C5 _ _).1 hw
         rw[rqA,List.take_length]at hw
         obtain⟨k,hk,hw⟩:=List.mem_flatMap.1 hw
         exact ih k (hkk k hk) w hw
       · split at hw
         · have: ∀ i,i≤t.kids.length→ ∀ w∈rrO t.kids (rrD d) i,w.length≤2048:=by
             intro i
             induction i with
             |zero=>intro _ w hw;simp[rrO]at hw
             |succ i ihi=>
               intro hi w hw
               have hx:=List.getElem?_eq_getElem (l:=t.kids) (i:=i) (by omega)
               rw[Qw _ hx]at hw
               split at hw
               · exact ih _ (hkk _ (List.getElem_mem _)) w hw
               · exact ihi (by omega) w (List.mem_filter.1 hw).1
           exact this _ (Nat.le_refl _) w hw
         · simp at hw
theorem Ad2(x:Ix)(bs:S)(hx0:IxP bs x)(t:Ts)(sp:Int×Int)(req:List S)(cn:List Int)(hcn:cn.length≤2^30)(hrl:req.length≤2^30)(hrq: ∀ w∈req,w.length≤2048)(hsp:Ad Tryz.prog 78 [tsA t] (fun r=>r=spT sp))(hreq:Af Tryz.prog 79 [tsA t] [] (.osl 0 req.length 1) [some ⟨9,1,Ay req⟩])(hc9:Ad Tryz.prog 9 [tsA t,.sl 1 (Ab bs),I x.c] (fun r=>r= .tup [.sl 1 (Ak cn),I 0])):Ad Tryz.prog 36 [tsA t,.sl 1 (Ab bs)] (fun r=>r= .tup [I (lkR x sp req cn),.sl 1 (Ak (lkL x sp req cn)),I 0]):=by
 obtain⟨s1,s2⟩:=sp
 have haz:=hx0.az
 refine Au 79 Tryz.func36 ?_
 refine Aa 0 [1,2] ?_
 refine Ae 1 ?_
 refine Ac 1 ?_
 refine AC (hx0.p77) ?_;rintro _ rfl
 refine Ac 6 ?_
 any_goals(refine XO.done [1,2,7,8] ?_)
 refine Aa 2 [1,2,7,8,22] ?_
 refine AM 22 ?_
 refine Ae 4 ?_
 refine Ac 1 ?_
 refine AC (hsp) ?_;rintro _ rfl
 refine Ac 5 ?_
 any_goals(refine XO.done [1,2,7,9,10] ?_)
 refine Ae 5 ?_
 refine Ac 4 ?_
 refine BV 32 (fun g32=>?_) (fun g32=>?_)
 any_goals(refine Ac 10 ?_;refine XO.done [1,2,7,42] ?_;(first|refine Cd 42 ?_|refine Az 42 (fun c42=>?_) (fun c42=>?_)))
 any_goals(refine Aa 6 [4,5,6] ?_;(refine Ap ?_;first|((have hc0:=(show x.c=0 by omega);obtain⟨e1,e2⟩:=Vx (x:=x) (sp:=(s1,s2)) (req:=req) (cn:=cn) (.inl hc0);rw[e1,e2];exact OE rfl))|((have hc0:=(show x.c≠0 by omega);have hz:=haz hc0;have hcc:=(MI (s1:=s1) (s2:=s2) (show(x.a:Int)≤x.z by omega)).1 c42;obtain⟨e1,e2⟩:=Vx (x:=x) (sp:=(s1,s2)) (req:=req) (cn:=cn) (.inr hcc);rw[e1,e2];exact OE rfl))))
 refine Ae 7 ?_
 refine Ac 1 ?_
 refine HE hreq (hei:=by simp) ?_
 refine Ac 2 ?_
 any_goals(refine XO.done [1,2,7,44,45,46] ?_)
 any_goals(refine AX 3 (fun i:Nat=>⟨[(1,.sl 1 (Ab bs)),(2,.ptr 0 5 0 0),(7,.ptr 1 3 0 0),(44,.osl 2 req.length 1),(45,I req.length),(46,I i)],[(0,some ⟨26,5,[[I t.op,str t.name,str t.text,I t.num,.sl 5 (tsE t.kids)]]⟩),(1,some ⟨38,3,[[I x.c,I x.a,I x.z]]⟩),(2,some ⟨9,1,Ay req⟩)]⟩) (fun i=>i≤req.length∧ ∀ w∈req.take i,(!(x.mf w))=false) (fun i=>req.length-i) 0 (AD trivial [some 0,some 1,some 2] []) ?_ (h0:=⟨Nat.zero_le _,by simp⟩);rintro i hI0 Y0 hY0;skip)
 refine Aa 8 [1,2,7,44,45,46,47] ?_
 refine Az 47 (fun c47=>?_) (fun c47=>?_)
 refine XW.at 9 ?_;obtain⟨w,hx,hwm⟩:=Bd req i (by omega)
 refine Bl 9 [1,2,7,12,44,45,46] ?_
 refine Ae 10 ?_
 refine Ac 2 ?_
 refine AC (hx0.p80 w (by have:=hrq w hwm;omega)) ?_;rintro _ rfl
 refine Ac 5 ?_
 any_goals(refine XO.done [1,2,7,13,14,44,45,46] ?_)
 refine Aa 11 [1,2,7,14,44,45,46,57] ?_
 refine By 57 (fun c57=>?_) (fun c57=>?_)
 refine Aa 12 [14,59] ?_
 refine Cd 59 ?_
 refine Aa 13 [4,5,6] ?_
 refine Ap ?_;have hc0:=(show x.c≠0 by omega);have hz:=haz hc0;have hci:=MI (s1:=s1) (s2:=s2) (show(x.a:Int)≤x.z by omega);have hnc: ¬ (x.c=0∨s1>s2∨s1>x.z∨s2<x.a):=(fun h=>h.elim hc0 (fun h2=>c42 (hci.2 h2)));obtain⟨e1,e2⟩:=Aal (x:=x) (sp:=(s1,s2)) (req:=req) (cn:=cn) hnc (List.any_eq_true.2 ⟨w,hwm,c57⟩);rw[e1,e2];exact OE rfl
 refine AJ 15 [1,2,7,44,45,46] ?_
 · refine XH.le ?_;exact hY0 (i+1) (⟨by omega,EA hI0.2 hx c57⟩) (by first|omega|(simp;done)|(simp;omega)) _ _ (AD trivial [some 0,some 1,some 2] [])
 refine Ae 16 ?_
 refine Ac 4 ?_
 refine AC (hc9) ?_;rintro _ rfl
 refine Ac 5 ?_
 any_goals(refine XO.done [8,15] ?_)
 refine Ae 17 ?_
 refine Ac 3 ?_
 refine Gx 72 ?_
 refine Ac 4 ?_
 any_goals(refine XO.done [8,15,76] ?_)
 refine Az 76 (fun c76=>?_) (fun c76=>?_)
 refine Aa 18 [4,5,6] ?_
 refine Ap ?_;have hc0:=(show x.c≠0 by omega);have hz:=haz hc0;have hci:=MI (s1:=s1) (s2:=s2) (show(x.a:Int)≤x.z by omega);have hnc: ¬ (x.c=0∨s1>s2∨s1>x.z∨s2<x.a):=(fun h=>h.elim hc0 (fun h2=>c42 (hci.2 h2)));have hna:=Qn (p:=fun w=>!(x.mf w)) (l:=req) (fun w hw=>hI0.2 w (by rw[List.take_of_length_le (by omega)];exact hw));(obtain⟨e1,e2⟩:=Aak (x:=x) (sp:=(s1,s2)) (req:=req) (cn:=cn) hnc hna (List.eq_nil_of_length_eq_zero (Int.ofNat.inj c76));rw[e1,e2];exact OE rfl)
 refine Aa 19 [4,5,6] ?_
 refine Ap ?_;have hc0:=(show x.c≠0 by omega);have hz:=haz hc0;have hci:=MI (s1:=s1) (s2:=s2) (show(x.a:Int)≤x.z by omega);have hnc: ¬ (x.c=0∨s1>s2∨s1>x.z∨s2<x.a):=(fun h=>h.elim hc0 (fun h2=>c42 (hci.2 h2)));have hna:=Qn (p:=fun w=>!(x.mf w)) (l:=req) (fun w hw=>hI0.2 w (by rw[List.take_of_length_le (by omega)];exact hw));(obtain⟨e1,e2⟩:=AaT (x:=x) (sp:=(s1,s2)) (req:=req) (cn:=cn) hnc hna (fun h=>c76 (by rw[h];rfl));rw[e1,e2];exact BT rfl)
theorem Adc(x:Ix)(bs:S)(hx0:IxP bs x)(t:Ts)(sp:Int×Int)(req:List S)(cn:List Int)(hcn:cn.length≤2^30)(hrl:req.length≤2^30)(hrq: ∀ w∈req,w.length≤2048)(q36:Ad Tryz.prog 36 [tsA t,.sl 1 (Ab bs)] (fun r=>r= .tup [I (lkR x sp req cn),.sl 1 (Ak (lkL x sp req cn)),I 0])):Ad Tryz.prog 11 [tsA t,.sl 1 (Ab bs)] (fun r=>r= .tup [I (lkR x sp req cn),I 0]):=by
 refine Au 18 Tryz.func11 ?_
 refine Aa 0 [1,2] ?_
 refine Ae 1 ?_
 refine Ac 2 ?_
 refine AC (q36) ?_;rintro _ rfl
 refine Ac 7 ?_
 any_goals(refine XO.done [6,8] ?_)
 refine Aa 2 [4,5] ?_
 refine Ap ?_;exact BT rfl
theorem AeX(x:Ix)(bs:S)(hx0:IxP bs x)(hr0:IxR bs x)(t:Ts)(sp:Int×Int)(req:List S)(cn:List Int)(hcn:cn.length≤2^30)(hrl:req.length≤2^30)(hrq: ∀ w∈req,w.length≤2048)(hsp:Ad Tryz.prog 37 [tsA t] (fun r=>r=spT sp))(hreq:Ad Tryz.prog 38 [tsA t] (fun r=>r= .sl 1 (Ay req)))(hc9:Ad Tryz.prog 10 [tsA t,.sl 1 (Ab bs),I x.c] (fun r=>r= .tup [.sl 1 (Ak cn),I 0])):Ad Tryz.prog 12 [tsA t,.sl 1 (Ab bs)] (fun r=>r= .tup [I (lkR x sp req cn),I 0]):=by
 obtain⟨s1,s2⟩:=sp
 refine Au 84 Tryz.func12 ?_
 refine Aa 0 [1,2] ?_
 refine Ae 1 ?_
 refine Ac 1 ?_
 refine AC (hr0.r7) ?_;rintro _ rfl
 refine Ac 6 ?_
 any_goals(refine XO.done [1,2,6,7] ?_)
 refine Aa 2 [1,2,6,7,21] ?_
 refine AM 21 ?_
 refine Ae 4 ?_
 refine Ac 1 ?_
 refine AC (hsp) ?_;rintro _ rfl
 refine Ac 5 ?_
 any_goals(refine XO.done [1,2,6,8,9] ?_)
 refine Ae 5 ?_
 refine Ac 4 ?_
 refine BV 31 (fun g31=>?_) (fun g31=>?_)
 any_goals(refine Ac 5 ?_;(first|refine Gx 36 ?_|refine BV 36 (fun g36=>?_) (fun g36=>?_)))
 any_goals(refine Ac 6 ?_;(first|refine Gx 42 ?_|refine BV 42 (fun g42=>?_) (fun g42=>?_)))
 any_goals(refine Ac 5 ?_;refine XO.done [1,2,6,47] ?_;(first|refine Cd 47 ?_|refine Az 47 (fun c47=>?_) (fun c47=>?_)))
 any_goals(refine Aa 6 [4,5] ?_;refine Ap ?_;have hc:=(show x.c=0∨s1>s2∨s1>x.z∨s2<x.a by omega);obtain⟨e1,e2⟩:=Vx (x:=x) (sp:=(s1,s2)) (req:=req) (cn:=cn) hc;rw[e1];exact BT rfl)
 refine Ae 7 ?_
 refine Ac 1 ?_
 refine AC (hreq) ?_;rintro _ rfl
 refine Ac 1 ?_
 any_goals(refine XO.done [1,2,6,10] ?_)
 refine Aa 8 [1,2,6,10,11] ?_
 any_goals(refine AX 2 (fun i:Nat=>⟨[(1,.sl 1 (Ab bs)),(2,.ptr 0 5 0 0),(6,.ptr 1 3 0 0),(10,.sl 1 (Ay req)),(11,I i)],[(0,some ⟨26,5,[[I t.op,str t.name,str t.text,I t.num,.sl 5 (tsE t.kids)]]⟩),(1,some ⟨38,3,[[I x.c,I x.a,I x.z]]⟩)]⟩) (fun i=>i≤req.length∧ ∀ w∈req.take i,(!(x.mf w))=false) (fun i=>req.length-i) 0 (AD trivial [some 0,some 1] []) ?_ (h0:=⟨Nat.zero_le _,by simp⟩);rintro i hI0 Y0 hY0;skip)
 refine Aa 9 [1,2,6,10,11,53] ?_
 refine Az 53 (fun c53=>?_) (fun c53=>?_)
 refine XW.at 11 ?_;obtain⟨w,hx,hwm⟩:=Bd req i (by omega)
 refine Ae 11 ?_
 refine Aq 5 ?_
 refine AC (hr0.r39 w (by have:=hrq w hwm;omega)) ?_;rintro _ rfl
 refine Aq 5 ?_
 any_goals(refine XO.done [1,2,6,10,11,12,13] ?_)
 refine Aa 12 [1,2,6,10,11,12,13,66] ?_
 refine AM 66 ?_
 refine Aa 14 [1,2,6,10,11,69] ?_
 refine By 69 (fun c69=>?_) (fun c69=>?_)
 refine Aa 15 [4,5] ?_
 refine Ap ?_;have hnc:=(show ¬ (x.c=0∨s1>s2∨s1>x.z∨s2<x.a) by omega);obtain⟨e1,e2⟩:=Aal (x:=x) (sp:=(s1,s2)) (req:=req) (cn:=cn) hnc (List.any_eq_true.2 ⟨w,hwm,c69⟩);rw[e1];exact BT rfl
 refine AJ 10 [1,2,6,10,11] ?_
 · refine XH.le ?_;exact hY0 (i+1) (⟨by omega,EA hI0.2 hx c69⟩) (by first|omega|(simp;done)|(simp;omega)) _ _ (AD trivial [some 0,some 1] [])
 refine Ae 16 ?_
 refine Ac 4 ?_
 refine AC (hc9) ?_;rintro _ rfl
 refine Ac 5 ?_
 any_goals(refine XO.done [7,14] ?_)
 refine Aa 17 [7,14,79] ?_
 refine AM 79 ?_
 refine Aa 19 [83] ?_
 refine Az 83 (fun c83=>?_) (fun c83=>?_)
 refine Aa 20 [4,5] ?_
 refine Ap ?_;have hnc:=(show ¬ (x.c=0∨s1>s2∨s1>x.z∨s2<x.a) by omega);have hna:=Qn (p:=fun w=>!(x.mf w)) (l:=req) (fun w hw=>hI0.2 w (by rw[List.take_of_length_le (by omega)];exact hw));(obtain⟨e1,e2⟩:=Aak (x:=x) (sp:=(s1,s2)) (req:=req) (cn:=cn) hnc hna (List.eq_nil_of_length_eq_zero (Int.ofNat.inj c83));rw[e1];exact BT rfl)
 refine Aa 21 [4,5] ?_
 refine Ap ?_;have hnc:=(show ¬ (x.c=0∨s1>s2∨s1>x.z∨s2<x.a) by omega);have hna:=Qn (p:=fun w=>!(x.mf w)) (l:=req) (fun w hw=>hI0.2 w (by rw[List.take_of_length_le (by omega)];exact hw));(obtain⟨e1,e2⟩:=AaT (x:=x) (sp:=(s1,s2)) (req:=req) (cn:=cn) hnc hna (fun h=>c83 (by rw[h];rfl));rw[e1];exact BT rfl)
theorem O4(l:List Ev)(n:S): ∀ i,(Cf l n i).1.length=(Cf l n i).2.length
 |0=>rfl
 |i+1=>by
   have ih:=O4 l n i
   unfold Cf
   split
   · split
     · simp;exact ih
     · exact ih
   · exact ih
def zsE(l:List Ev):List Zt:=(A9 l).map fun n=>Cf l n l.length
noncomputable def ixE(l:List Ev):Ix:=⟨J3 (AQ l) (CM (AQ l) l l.length),JZ (A9 l) (zsE l),K2 (GS l),l.length,DL l 0,DL l (l.length-1)⟩
theorem AdV{b:List Int}(p:Int)(h:W64 b):W64 (HI b p):=by
 intro c hc
 rcases List.mem_or_eq_of_mem_set hc with h1|h1
 · exact h c h1
 · rw[h1];exact Abb _ _
theorem TK: ∀ (l:List Int) (b:List Int),W64 b→W64 (l.foldl HI b)
 | [],b,h=>h
 |p::l,b,h=>by rw[List.foldl_cons];exact TK l _ (AdV p h)
theorem Uo(m:Nat): ∀ (l:List S) (b:List Int),W64 b→W64 (l.foldl (Pp m) b)
 | [],b,h=>h
 |w::l,b,h=>by rw[List.foldl_cons];exact Uo m l _ (TK _ _ h)
theorem Afg(m:Nat)(ts:List S)(i:Nat):W64 (Fa m ts i):=by
 unfold Fa
 exact Uo m (ts.take i) (List.replicate (m / 64) 0) (fun c hc=>by rw[(List.mem_replicate.1 hc).2];exact⟨by omega,by omega⟩)
theorem Us(l:List Ev):W64 (GS l):=by unfold GS;exact Afg _ _ _
theorem Mi(l:List Ev):GH l=AF (AG (AQ l))++bX (CM (AQ l) l l.length) 0:=by
 unfold GH J1 bX;rw[List.take_length];rfl
theorem Ags(l:List Ev)(n:S):fdP l n=(zB (Cf l n l.length)).flatMap AF:=by
 unfold fdP ixF zB
 simp only[List.flatMap_cons,List.flatMap_nil,List.append_nil]
theorem KC(l:List Ev):FU l=AF (AG (A9 l))++bB (zBs (zsE l)) 0:=by
 have e:fdP l=fun n=>(zB (Cf l n l.length)).flatMap AF:=funext (Ags l)
 unfold FU JY bB zBs zsE
 rw[List.take_length,List.drop_zero,List.flatMap_assoc,List.flatMap_map,e]
theorem Agh{l:List Ev}(h:SegG l)(h0:l.length≠0):DL l 0≤DL l (l.length-1):=by
 rcases Nat.eq_or_lt_of_le (show 1≤l.length by omega)with h1|h1
 · rw[← h1];exact Nat.le_refl _
 · have hlt:B8 (l[0]'(by omega)) (l[l.length-1]'(by omega))=true:=List.pairwise_iff_getElem.1 h.asc 0 (l.length-1) (by omega) (by omega) (by omega)
   have ha:=(h.ev _ (List.getElem_mem (show 0<l.length by omega))).time
   have hb:=(h.ev _ (List.getElem_mem (show l.length-1<l.length by omega))).time
   have hle:(l[0]'(by omega)).time≤(l[l.length-1]'(by omega)).time:=by
     unfold B8 at hlt
     split at hlt
     · have:=of_decide_eq_true hlt;omega
     · rename_i h2;have:=Decidable.of_not_not h2;omega
   unfold DL
   rw[List.getElem?_eq_getElem (show 0<l.length by omega),List.getElem?_eq_getElem (show l.length-1<l.length by omega)]
   simp only
   omega
theorem ixP{l:List Ev}(h:SegG l):IxP (G1 l) (ixE l):=by
 have V:=Wg h
 have hok:=h.ok
 have hl:=h.len
 have hevT: ∀ e∈l,EvT e:=fun e he=>(h.ev e he).evT
 have hs: ∀ k,k<12→(CN l)[k]? =some (DY l (k+1)):=fun k hk=>by
   rw[List.getElem?_eq_getElem (by rw[Lv];exact hk),Pw]
 have hln: ∀ k,(DY l k).length<2^32:=fun k=>Nm h k
 have q10:(CN l)[10]? =some (AF (AG (AQ l))++bX (CM (AQ l) l l.length) 0):=by rw[hs 10 (by omega),← Mi];rfl
 have b10:(AF (AG (AQ l))++bX (CM (AQ l) l l.length) 0).length≤2^40:=by rw[← Mi];have:=hln 11;unfold DY at this;simp at this;omega
 have c10:A6 (AQ l)=0:=DP _ h.words (IM l)
 have s10:(AQ l).Pairwise ltS:=B2 _
 have hpx:=JA (AQ l) l (by omega) s10 (fun e he w hw=>(C5 _ _).2 (by unfold Fc;rw[List.take_length];exact List.mem_flatMap.2 ⟨e,he,hw⟩))
 have l10:=h.words
 have hpl:=G2 (AQ l) l l.length
 have q9:(CN l)[9]? =some (AF (AG (A9 l))++bB (zBs (zsE l)) 0):=by rw[hs 9 (by omega),← KC];rfl
 have b9:(AF (AG (A9 l))++bB (zBs (zsE l)) 0).length≤2^40:=by rw[← KC];have:=hln 10;unfold DY at this;simp at this;omega
 have c9:A6 (A9 l)=0:=DP (F4 l l.length) (Nat.le_trans (show(A9 l).length≤100 from h.names) (by decide)) (IP l hevT _)
 have s9:(A9 l).Pairwise ltS:=B2 _
 have hz: ∀ z∈zsE l,ZOk z:=by
   intro z hz
   obtain⟨n,_,rfl⟩:=List.mem_map.1 hz
   exact⟨JR l n (by omega),O4 l n _,by have:=(GY l n l.length).2;omega,Hv l n hevT _⟩
 have hzd:(zsE l).length=(A9 l).length:=by simp[zsE]
 have l9:=h.names
 have q11:(CN l)[11]? =some (Dp (GS l)):=by rw[hs 11 (by omega)];rfl
 obtain⟨f1,f2⟩:=JO l
 have f3:=Us l
 refine {p27:=fun w=>Aef V _ _ q10 c10 s10 (by omega) b10 hpx hpl w,p29:=fun n w=>Abd V _ _ q9 c9 s9 (by omega) b9 hz hzd n w,p80:=fun w hw=>Afv V _ q11 f1 f2 f3 w hw,p77:=XM V,wl:=?_,vl:=?_,cl:=by show l.length≤4096;omega,az:=fun h0=>Agh h h0,zl:=⟨IX h _,IX h _⟩}
 · intro w
   show(J3 _ _ w).length≤4096
   unfold J3
   split
   · cases hg:(CM (AQ l) l l.length)[CZ (AQ l) w]? with
     |none=>simp[List.getD,hg]
     |some L=>rw[BC hg];exact(hpx L (List.mem_of_getElem? hg)).len
   · simp
 · intro n w
   show(JZ _ _ n w).length≤4096
   unfold JZ
   split
   · have h1:=KU ((zsE l).getD (CZ (A9 l) n) ([],[])) w ((zsE l).getD (CZ (A9 l) n) ([],[])).1.length
     cases hg:(zsE l)[CZ (A9 l) n]? with
     |none=>
       have e:(zsE l).getD (CZ (A9 l) n) ([],[])=([],[]):=by simp[List.getD,hg]
       rw[e]at h1 ⊢
       exact Nat.le_trans h1 (Nat.zero_le _)
     |some z=>rw[BC hg]at h1 ⊢;have:=(hz z (List.mem_of_getElem? hg)).post.len;omega
   · simp
theorem ixR{l:List Ev}(h:SegG l):IxR (G1 l) (ixE l):=by
 have V:=Wg h
 have hok:=h.ok
 have hl:=h.len
 have hevT: ∀ e∈l,EvT e:=fun e he=>(h.ev e he).evT
 have hs: ∀ k,k<12→(CN l)[k]? =some (DY l (k+1)):=fun k hk=>by
   rw[List.getElem?_eq_getElem (by rw[Lv];exact hk),Pw]
 have hln: ∀ k,(DY l k).length<2^32:=fun k=>Nm h k
 have q10:(CN l)[10]? =some (AF (AG (AQ l))++bX (CM (AQ l) l l.length) 0):=by rw[hs 10 (by omega),← Mi];rfl
 have b10:(AF (AG (AQ l))++bX (CM (AQ l) l l.length) 0).length≤2^40:=by rw[← Mi];have:=hln 11;unfold DY at this;simp at this;omega
 have c10:A6 (AQ l)=0:=DP _ h.words (IM l)
 have s10:(AQ l).Pairwise ltS:=B2 _
 have hpx:=JA (AQ l) l (by omega) s10 (fun e he w hw=>(C5 _ _).2 (by unfold Fc;rw[List.take_length];exact List.mem_flatMap.2 ⟨e,he,hw⟩))
 have l10:=h.words
 have hpl:=G2 (AQ l) l l.length
 have q9:(CN l)[9]? =some (AF (AG (A9 l))++bB (zBs (zsE l)) 0):=by rw[hs 9 (by omega),← KC];rfl
 have b9:(AF (AG (A9 l))++bB (zBs (zsE l)) 0).length≤2^40:=by rw[← KC];have:=hln 10;unfold DY at this;simp at this;omega
 have c9:A6 (A9 l)=0:=DP (F4 l l.length) (Nat.le_trans (show(A9 l).length≤100 from h.names) (by decide)) (IP l hevT _)
 have s9:(A9 l).Pairwise ltS:=B2 _
 have hz: ∀ z∈zsE l,ZOk z:=by
   intro z hz
   obtain⟨n,_,rfl⟩:=List.mem_map.1 hz
   exact⟨JR l n (by omega),O4 l n _,by have:=(GY l n l.length).2;omega,Hv l n hevT _⟩
 have hzd:(zsE l).length=(A9 l).length:=by simp[zsE]
 have l9:=h.names
 have q11:(CN l)[11]? =some (Dp (GS l)):=by rw[hs 11 (by omega)];rfl
 obtain⟨f1,f2⟩:=JO l
 have f3:=Us l
 exact {r32:=fun w=>Adq V _ _ q10 c10 s10 (by omega) b10 hpx hpl w,r33:=fun n w=>ZQ V _ _ q9 c9 s9 (by omega) b9 hz hzd n w,r39:=fun w hw=>Af0 V _ q11 f1 f2 f3 w hw,r7:=CL (PU V)}
def skD(x:Ix)(d:Nat)(t:Ts):Int:=lkR x (trD d t) (rrD d t) (cnD x d t)
theorem AcO{x:Ix}{bs:S}(hx:IxP bs x)(d:Nat)(t:Ts)(h:TsB d t)(hd:d≤2):Ad Tryz.prog 11 [tsA t,.sl 1 (Ab bs)] (fun r=>r= .tup [I (skD x d t),I 0]):=by
 have hr:=(Oc d t h hd)
 have hq:=(N8 d t h).1
 have ht:=(Rm d t h).1
 have hrl:(rrD d t).length≤2^30:=by rw[← hq];have:=hr.1;(split at this;omega;split at this<;>omega)
 have hcl:=IY hx d t h hd
 have hpb:=Qr hd
 have hc:(cnD x d t).length≤2^30:=Nat.le_trans hcl hpb
 have q:=Ad2 x bs hx t (trD d t) (rrD d t) (cnD x d t) hc hrl (Rp t h) (by rw[← ht];exact AcQ d t h) (by rw[← hq];exact hr.2 hd) (VH hx d t h hd)
 exact Adc x bs hx t (trD d t) (rrD d t) (cnD x d t) hc hrl (Rp t h) q
theorem Acq{x:Ix}{bs:S}(hx:IxP bs x)(hr0:IxR bs x)(d:Nat)(t:Ts)(h:TsB d t)(hd:d≤2):Ad Tryz.prog 12 [tsA t,.sl 1 (Ab bs)] (fun r=>r= .tup [I (skD x d t),I 0]):=by
 have hr:=(Oc d t h hd)
 have hq:=(N8 d t h).1
 have hrl:(rrD d t).length≤2^30:=by rw[← hq];have:=hr.1;(split at this;omega;split at this<;>omega)
 have hcl:=IY hx d t h hd
 have hpb:=Qr hd
 have hc:(cnD x d t).length≤2^30:=Nat.le_trans hcl hpb
 exact AeX x bs hx hr0 t (trD d t) (rrD d t) (cnD x d t) hc hrl (Rp t h) (T2 d t h) (AaL d t h hd) (Rt hx hr0 d t h hd)
theorem Adn(l:List Int)(hl:l.length≤2^40):Ad Tryz.prog 13 [.sl 1 (Ak l),.sl 1 (Ak l)] (fun r=>r=B true):=by
 refine Au 26 Tryz.func13 ?_
 refine Aa 0 [0,1] ?_
 refine Aa 1 [0,1,10] ?_
 refine AM 10 ?_
 refine Aa 3 [0,1,5] ?_
 any_goals(refine AX 0 (fun i:Nat=>⟨[(0,.sl 1 (Ak l)),(1,.sl 1 (Ak l)),(5,I i)],[]⟩) (fun i=>i≤l.length) (fun i=>l.length-i) 0 (AD trivial [] []) ?_ (h0:=Nat.zero_le _);rintro i hI0 Y0 hY0;skip)
 refine Aa 4 [0,1,5,14] ?_
 refine Az 14 (fun c14=>?_) (fun c14=>?_)
 refine XW.at 6 ?_;obtain⟨y,hx,hxm⟩:=Bd l i (by omega)
 refine Bl 6 [0,1,5,25] ?_
 refine AM 25 ?_
 refine AJ 5 [0,1,5] ?_
 · refine XH.le ?_;exact eY hY0 (i+1) (AD trivial [] [])
 refine Aa 8 [4] ?_
 refine Ap ?_;exact BT rfl
end Go.Proofs.YtpkhodjlnodagaaGreatDoor
namespace Go.Proofs.YtpkhodjlnodagaaGreatDoor
open Go.Av
set_option maxHeartbeats 4000000
attribute [local irreducible] Af
structure Sg where
 ext:Bool
 src:S
 test:Ts
def sgC(x:Sg):List AV:=B x.ext::str x.src::tsC x.test
def sgE(l:List Sg):List (List AV):=l.map sgC
theorem S6(l:List Sg):(sgE l).length=l.length:=by simp[sgE]
@[simp] theorem AeE(k:Nat)(l:List Sg):AA k (sgE l)=true:=by
 simp only[AA,sgE,List.all_map,List.all_eq_true]
 intro x _
 obtain⟨a,b,⟨⟩⟩:=x;rfl
theorem Aa4(L:List Nat)(l:List Sg):BK L (sgE l)=sgE l:=by
 simp only[BK,sgE,List.map_map]
 apply List.map_congr_left
 intro x _
 obtain⟨a,b,⟨⟩⟩:=x;rfl
@[simp] theorem AhL:sgE []=[]:=rfl
attribute [go_sem] S6 Aa4 sgC
structure Ag where
 kind:Int
 fld:S
def agC(x:Ag):List AV:=[I x.kind,str x.fld]
def agE(l:List Ag):List (List AV):=l.map agC
theorem Ul(l:List Ag):(agE l).length=l.length:=by simp[agE]
@[simp] theorem agE_id(k:Nat)(l:List Ag):AA k (agE l)=true:=by
 simp only[AA,agE,List.all_map,List.all_eq_true]
 intro x _
 rfl
theorem AbY(L:List Nat)(l:List Ag):BK L (agE l)=agE l:=by
 simp only[BK,agE,List.map_map]
 apply List.map_congr_left
 intro x _
 rfl
@[simp] theorem AhY:agE []=[]:=rfl
attribute [go_sem] Ul AbY agC
attribute [simp] S6 Ul
structure Qy where
 test:Ts
 stages:List Sg
 kind:Int
 limit:Int
 last:Bool
 names:List S
 aggs:List Ag
 sketch:Int
 other:Ts
 key:S
 window:Int
def qyC(q:Qy):List AV:=tsC q.test++[.sl 7 (sgE q.stages),I q.kind,I q.limit,B q.last,.sl 1 (Ay q.names),.sl 2 (agE q.aggs),I q.sketch]++tsC q.other++[str q.key,I q.window]
def tz:Ts:= .mk 0 [] [] 0 []
def U9:Nat→List Nat
 |0=>[0]
 |1=>[0,3]
 |2=>[0,3,12]
 |3=>[3]
 |4=>[2]
 |_=>[]
attribute [go_sem] U9
theorem T1(L:List UInt8)(hL:L.length≤2^20)(a:Nat)(ha:a≤L.length):
   GK Tryz.prog 52 [.ptr 0 2 0 0] [some (cdE L a)] (fun x=> ∃ (ns:List S) (a':Nat),x=(.osl 1 ns.length 1,[some (cdE L a'),some ⟨9,1,Ay ns⟩])∧(ns.length≤2∧ ∀ n∈ns,n.length≤19)∧a'≤L.length):=by
 obtain⟨v,a1,ha1,vlt,q1⟩:=A7 L hL a 5 ha (by omega) (by omega)
 obtain⟨c,a2,ha2,clt,q2⟩:=A7 L hL a1 2 ha1 (by omega) (by omega)
 have vx:=EQ (l:=nsL) rfl vlt
 have wl:=Ab7 v
 generalize nsL.getD v []=w at*
 refine GI 19 1 Tryz.func52 rfl rfl rfl (by simp) rfl rfl ?_
 have F:=And.intro AaX vx;refine exF (atO 1 (onc 2 (ocq 0 q1) noc) (atO 2 (onc 1 (ocq 0 q2) noc) noO)) U9 ?_;clear F
 by_cases hc:c=1
 · subst hc
   obtain⟨v2,a3,ha3,q3⟩:=Kl L hL a2 ha2
   have wl2:=Hb v2
   generalize GN.getD v2 []=w2 at*
   refine exT (atO 3 (onc 2 (ocq 0 q3) noc) noO) U9 ?_
   have e2:Ay [w,w2]=[[.val (.string ⟨w.toArray⟩)],[.val (.string ⟨w2.toArray⟩)]]:=rfl
   refine EX.ret (.osl 1 2 1) [some (cdE L a3),some ⟨9,1,Ay [w,w2]⟩] ?_ (fun C hN hk=>AW.ret (B0 [some 0,some 1] [] rfl (by simp[Ax,lk,lkh,I,str,B,U8,U64,U32,cdE,e2]<;>omega) (by first|(simp[Am,Ai,Aj,lkh,cdE,e2];done)|simp[Am,Ai,Aj,lkh,I,str,cdE,e2])))
   exact⟨[w,w2],a3,rfl,⟨by simp,by simp;exact⟨wl,wl2⟩⟩,ha3⟩
 · have dc:((c:Int)==1)=false:=by simp;omega
   simp only[dc]
   refine exT noO U9 ?_
   have e1:Ay [w]=[[.val (.string ⟨w.toArray⟩)]]:=rfl
   refine EX.ret (.osl 1 1 1) [some (cdE L a2),some ⟨9,1,Ay [w]⟩] ?_ (fun C hN hk=>AW.ret (B0 [some 0,some 1] [] rfl (by simp[Ax,lk,lkh,I,str,B,U8,U64,U32,cdE,e1]<;>omega) (by first|(simp[Am,Ai,Aj,lkh,cdE,e1];done)|simp[Am,Ai,Aj,lkh,I,str,cdE,e1])))
   exact⟨[w],a2,rfl,⟨by simp,by simp;exact wl⟩,ha2⟩
end Go.Proofs.YtpkhodjlnodagaaGreatDoor
