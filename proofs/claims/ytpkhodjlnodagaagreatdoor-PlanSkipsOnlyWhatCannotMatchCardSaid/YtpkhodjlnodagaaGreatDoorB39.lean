/- Part 39 of the proof of PlanSkipsOnlyWhatCannotMatch. -/
import Derived.Test.YtpkhodjlnodagaaGreatDoorB17
import Derived.Test.YtpkhodjlnodagaaGreatDoorB38
set_option linter.unusedSimpArgs false
set_option linter.unusedVariables false
set_option linter.unusedSectionVars false
namespace Go.Proofs.YtpkhodjlnodagaaGreatDoor
open Go.Av
set_option maxHeartbeats 4000000
set_option maxRecDepth 10000
attribute [local irreducible] XH XO Ae Ad AU
def K5(d:List S)(X:List (List Int))(w:S):List Int:=if DV d w then X.getD (CD d w) []else []
theorem Agx{bs:List UInt8}{c a z:Nat}{ss:List S}(V:SegV bs c a z ss)(d:List S)(X:List (List Int))(hq:ss[10]? =some (AE (AM d)++bX X 0))(hc:Bb d=0)(hp:d.Pairwise ltS)(hdl:d.length≤2^40)(hbl:(AE (AM d)++bX X 0).length≤2^40)(hX: ∀ L∈X,Post L)(hXd:X.length=d.length)(w:S):
   Ae Tryz.prog 27 [.sl 1 (Ab bs),str w] (fun r=>r= .tup [.sl 1 (An (K5 d X w)),I 0]):=by
 unfold K5
 cases hw:DV d w with
 |false=>exact On (Ae.toA (AcR V d X hq hc hp hdl hbl w hw))
 |true=>
   have hm:=(Jr hp).1 hw
   have hg:=Fa d w hp hm
   exact AdW V d X hq hc hp hdl hbl w hw hX (CD d w) rfl oM oM
theorem Aag(T:Nat)(v:List Int)(hvl:v.length≤16384)(m:Nat)(hm:m≤2^40)(hv: ∀ x∈v,0≤x∧x<m)(R b:List UInt8)(hb:b=AE (AZ v)++R)(hl:b.length≤2^40):AU Tryz.prog 66 2 [I v.length,I m] (cuE T b false) (fun r e=>r= .sl 1 (An v)∧e=cuE T R false):=by
 have hel:=Hm v hvl
 have hi: ∀ x∈v,BE x:=fun x hx=>by have:=hv x hx;unfold BE;omega
 have hcf:=YW 119 [I m] (fun x=>decide (x<0)||decide (x≥(m:Int))) v oM (fun x _=>Ada m x)
 have hcl:v.any (fun x=>decide (x<0)||decide (x≥(m:Int)))=false:=(by rw[List.any_eq_false];intro x hx;have:=hv x hx;simp;omega)
 rw[hcl]at hcf
 all_goals refine Eb 41 (fn:=Tryz.f66) Tryz.func66 rfl rfl rfl sP rfl ?_
 refine Aa 0 [0,1,5] ?_
 any_goals(refine XW.at 1 ?_;refine Fq 1 1 ⟨[(0,.ptr 0 2 0 0),(1,I v.length),(5,.rp [I m])],[(0,some (cuE T b false))]⟩ (Hb cuE.eq_1 [some 0] [1]) ?_)
 refine Ah 1 ?_
 refine Ac 3 ?_
 refine BW 0 (Kv T (AZ v) R b hb oM hl) ?_;rintro _ _ ⟨rfl,rfl⟩
 refine AG (AdR v hvl hi) ?_;rintro _ rfl
 refine Ac 5 ?_
 any_goals(refine XO.done [0,1,5,7,8] ?_)
 refine Ah 2 ?_
 refine Ac 2 ?_
 refine BW 0 (PJ T R) ?_;rintro _ _ ⟨rfl,rfl⟩
 any_goals(refine XO.done [0,1,5,7] ?_)
 refine Ah 3 ?_
 refine Ac 6 ?_
 refine BQ 25 ?_
 refine Ac 6 ?_
 refine BQ 31 ?_
 refine Ac 2 ?_
 refine AG (hcf) ?_;rintro _ rfl
 refine Ac 1 ?_
 any_goals(refine XO.done [0,7,35] ?_)
 refine A3 35 ?_
 refine Aa 6 [6] ?_
 refine Aq ?_;refine G4 ?_;simp[Az,cuE,B]
def bB(L:List S)(i:Nat):List UInt8:=(L.drop i).flatMap AE
theorem R7{L:List S}{i:Nat}{x:S}(h:L[i]? =some x):bB L i=AE x++bB L (i+1):=by
 obtain⟨hl,rfl⟩:=List.getElem?_eq_some_iff.1 h
 rw[bB,List.drop_eq_getElem_cons hl,List.flatMap_cons];rfl
theorem Oq(L:List S): ∀ i,(bB L i).length≤(bB L 0).length
 |0=>Nat.le_refl _
 |i+1=>by
   have ih:=Oq L i
   cases h:L[i]? with
   |none=>
     have h2:L.length≤i:=List.getElem?_eq_none_iff.1 h
     rw[bB,List.drop_eq_nil_of_le oM];simp
   |some x=>rw[R7 h,List.length_append]at ih;omega
abbrev Zt:=List Int×List S
def zB(z:Zt):List S:=[Bt z.1,AM (Bg z.2),AZ (Da z.2 z.2.length)]
def zBs(Z:List Zt):List S:=Z.flatMap zB
theorem Ac0(Z:List Zt):(zBs Z).length=3*Z.length:=by
 induction Z with
 |nil=>rfl
 |cons z Z ih=>
   have e:zBs (z::Z)=zB z++zBs Z:=by simp[zBs]
   rw[e,List.length_append,ih,List.length_cons];simp[zB];omega
theorem Agt{Z:List Zt}: ∀ {j:Nat} {z:Zt},Z[j]? =some z→(zBs Z)[3*j]? =some (Bt z.1)∧(zBs Z)[3*j+1]? =some (AM (Bg z.2))∧(zBs Z)[3*j+2]? =some (AZ (Da z.2 z.2.length)):=by
 induction Z with
 |nil=>intro j z h;simp at h
 |cons y Z ih=>
   intro j z h
   cases j with
   |zero=>simp at h;subst h;simp[zBs,zB]
   |succ j=>
     have:=ih (by simpa using h)
     have e:zBs (y::Z)=zB y++zBs Z:=by simp[zBs]
     rw[e]
     have e3:(zB y).length=3:=rfl
     rw[List.getElem?_append_right (by rw[e3];omega),List.getElem?_append_right (by rw[e3];omega),List.getElem?_append_right (by rw[e3];omega),e3]
     rw[show 3*(j+1)-3=3*j by omega,show 3*(j+1)+1-3=3*j+1 by omega,show 3*(j+1)+2-3=3*j+2 by omega]
     exact this
def Ez(z:Zt)(w:S):Nat→List Int
 |0=>[]
 |k+1=>if z.2[k]? =some w then Ez z w k++[z.1.getD k 0]else Ez z w k
structure ZOk(z:Zt):Prop where
 post:Post z.1
 len:z.1.length=z.2.length
 vl:z.2.length≤4096
 sh: ∀ s∈z.2,s.length≤2048
theorem NB(ts:List S):(Da ts ts.length).length=ts.length:=by simp[Da]
theorem Ag7{Z:List Zt}(hZ: ∀ z∈Z,ZOk z): ∀ x∈zBs Z,x.length≤100000000:=by
 intro x hx
 obtain⟨z,hz,hx⟩:=List.mem_flatMap.1 hx
 have h:=hZ z hz
 simp only[zB,List.mem_cons,List.not_mem_nil,or_false]at hx
 have hd:=DA z.2
 have hv:=h.vl
 rcases hx with rfl|rfl|rfl
 · have:=DE _ h.post;omega
 · have:=FL _ (Ge z.2 oM h.sh);omega
 · have:=Hm (Da z.2 z.2.length) (by rw[NB];omega)
   rw[NB]at this;omega
def K9(d:List S)(Z:List Zt)(n w:S):List Int:=if DV d n then Ez (Z.getD (CD d n) ([],[])) w (Z.getD (CD d n) ([],[])).1.length else []
theorem NQ(z:Zt)(w:S): ∀ k,(Ez z w k).length≤k
 |0=>by simp[Ez]
 |k+1=>by
   have:=NQ z w k
   rw[Ez];split
   · simp;omega
   · omega
theorem Z3(ts:List S): ∀ x∈Da ts ts.length,0≤x∧x<(Bg ts).length:=by
 intro x hx
 simp only[Da,List.take_length,List.mem_map]at hx
 obtain⟨t,ht,rfl⟩:=hx
 have:=(Fa (Bg ts) t (BO ts) ((Cd ts t).2 ht)).2
 omega
theorem Aa1{bs:List UInt8}{c a z:Nat}{ss:List S}(V:SegV bs c a z ss)(d:List S)(Z:List Zt)(hq:ss[9]? =some (AE (AM d)++bB (zBs Z) 0))(hc:Bb d=0)(hp:d.Pairwise ltS)(hdl:d.length≤32768)(hbl:(AE (AM d)++bB (zBs Z) 0).length≤2^40)(hZ: ∀ z∈Z,ZOk z)(hZd:Z.length=d.length)(n w:S)(hn:DV d n=false):Ae Tryz.prog 29 [.sl 1 (Ab bs),str n,str w] (fun r=>r= .tup [.val (.slice none 0 0),I 0]):=by
 refine Ax 80 Tryz.func29 ?_
 refine Aa 0 [0,1,2] ?_
 refine Ah 1 ?_
 refine Ac 1 ?_
 refine HO (O7 V 9 _ hq) ?_
 refine Ac 5 ?_
 any_goals(refine XO.done [1,2,8,9] ?_)
 refine Aa 2 [1,2,8,9,24] ?_
 refine A3 24 ?_
 refine Ah 4 ?_
 refine Ac 1 ?_
 refine BW 0 (Ko 122 d (bB (zBs Z) 0) _ rfl hc hp hbl) ?_;rintro _ _ ⟨rfl,rfl⟩
 refine Ac 1 ?_
 refine AG (QT d n oM) ?_;rintro _ rfl
 rw[hn]
 refine Ac 5 ?_
 any_goals(refine XO.done [2,8,10,11] ?_)
 refine Aa 5 [2,8,10,34] ?_
 refine CF 34 ?_
 refine Ah 6 ?_
 refine Ac 1 ?_
 refine BW 0 (QL 122 (bB (zBs Z) 0)) ?_;rintro _ _ ⟨rfl,rfl⟩
 refine Ac 2 ?_
 any_goals(refine XO.done [6,7] ?_)
 refine Aq ?_;exact Bo rfl
theorem ZN{bs:List UInt8}{c a z:Nat}{ss:List S}(V:SegV bs c a z ss)(d:List S)(Z:List Zt)(hq:ss[9]? =some (AE (AM d)++bB (zBs Z) 0))(hc:Bb d=0)(hp:d.Pairwise ltS)(hdl:d.length≤32768)(hbl:(AE (AM d)++bB (zBs Z) 0).length≤2^40)(hZ: ∀ z∈Z,ZOk z)(hZd:Z.length=d.length)(n w:S)(hn:DV d n=true)(j:Nat)(hj:CD d n=j)(y:Zt)(hy:Z[j]? =some y):Ae Tryz.prog 29 [.sl 1 (Ab bs),str n,str w] (fun r=>r= .tup [.sl 1 (An (Ez y w y.1.length)),I 0]):=by
 have hz:=hZ y (List.mem_of_getElem? hy)
 obtain⟨z1,z2,z3⟩:=Agt hy
 have hzl:=Ac0 Z
 have hzb:=Ag7 hZ
 have hjl:=(List.getElem?_eq_some_iff.1 hy).1
 have hyl:=hz.len
 have hyv:=hz.vl
 have hil:=NB y.2
 have hir:=Z3 y.2
 have hdl2:=DA y.2
 have hl0:=Sk y.2
 have qcol:=Aag 122 (Da y.2 y.2.length) oM (Bg y.2).length oM hir (bB (zBs Z) (3*j+3)) (bB (zBs Z) (3*j+2)) (R7 z3) (by have:=Oq (zBs Z) (3*j+2);rw[List.length_append]at hbl;omega)
 rw[hil]at qcol
 refine Ax 80 Tryz.func29 ?_
 refine Aa 0 [0,1,2] ?_
 refine Ah 1 ?_
 refine Ac 1 ?_
 refine HO (O7 V 9 _ hq) ?_
 refine Ac 5 ?_
 any_goals(refine XO.done [1,2,8,9] ?_)
 refine Aa 2 [1,2,8,9,24] ?_
 refine A3 24 ?_
 refine Ah 4 ?_
 refine Ac 1 ?_
 refine BW 0 (Ko 122 d (bB (zBs Z) 0) _ rfl hc hp hbl) ?_;rintro _ _ ⟨rfl,rfl⟩
 refine Ac 1 ?_
 refine AG (QT d n oM) ?_;rintro _ rfl
 rw[hn,hj]
 refine Ac 5 ?_
 any_goals(refine XO.done [2,8,10,11] ?_)
 refine Aa 5 [2,8,10,34] ?_
 refine A3 34 ?_
 refine AQ 7 [2,8,38,39] ?_
 any_goals(refine A8 1 (fun t:Nat=>⟨[(2,str w),(8,.ptr 0 2 0 0),(38,I (3*j:Nat)),(39,I t)],[(0,some (cuE 122 (bB (zBs Z) t) false))]⟩) (fun t=>t≤3*j) (fun t=>3*j-t) 0 (AO (And.intro cuE.eq_1 B.eq_1) [some 0] []) ?_ (h0:=Nat.zero_le _);rintro t hI0 Y0 hY0;skip)
 refine Aa 8 [2,8,38,39,40] ?_
 refine AC 40 (fun c40=>?_) (fun c40=>?_)
 refine XW.at 9 ?_;obtain⟨x,hL,hLm⟩:=Bm (zBs Z) t oM
 refine Ah 9 ?_
 refine Ac 3 ?_
 refine BW 0 (Kv 122 x (bB (zBs Z) (t+1)) (bB (zBs Z) t) (R7 hL) (by have:=hzb x hLm;omega) (by have:=Oq (zBs Z) t;rw[List.length_append]at hbl;omega)) ?_;rintro _ _ ⟨rfl,rfl⟩
 any_goals(refine XO.done [2,8,38,39] ?_)
 refine AQ 10 [2,8,38,39] ?_
 · refine XH.le ?_;exact eY hY0 (t+1) (AO (And.intro cuE.eq_1 B.eq_1) [some 0] [])
 refine XW.at 11 ?_;obtain rfl:t=3*j:=oM
 refine Ah 11 ?_
 refine Ac 1 ?_
 refine BW 0 (XG 122 y.1 hz.post (bB (zBs Z) (3*j+1)) (bB (zBs Z) (3*j)) (R7 z1) (by have:=Oq (zBs Z) (3*j);rw[List.length_append]at hbl;omega)) ?_;rintro _ _ ⟨rfl,rfl⟩
 refine Ac 1 ?_
 refine BW 0 (Ko 122 (Bg y.2) (bB (zBs Z) (3*j+2)) (bB (zBs Z) (3*j+1)) (R7 z2) (Ge _ (by have:=hz.vl;omega) hz.sh) (BO _) (by have:=Oq (zBs Z) (3*j+1);rw[List.length_append]at hbl;omega)) ?_;rintro _ _ ⟨rfl,rfl⟩
 refine Ac 2 ?_
 any_goals(refine XO.done [2,8,12,13] ?_)
 refine Ah 12 ?_
 refine Ac 5 ?_
 rw[hyl]
 refine BW 0 (qcol) ?_;rintro _ _ ⟨rfl,rfl⟩
 refine Ac 1 ?_
 any_goals(refine XO.done [2,8,12,13,14] ?_)
 refine Aa 13 [2,8,12,13,14,15] ?_
 refine Aa 14 [2,8,12,13,15,56,57,58] ?_
 any_goals(refine A8 2 (fun k:Nat=>⟨[(2,str w),(8,.ptr 0 2 0 0),(12,.sl 1 (An y.1)),(13,.sl 1 (Au (Bg y.2))),(15,.osl 1 (Ez y w k).length 1),(56,.sl 1 (An (Da y.2 y.2.length))),(57,I y.2.length),(58,I k)],[(0,some (cuE 122 (bB (zBs Z) (3*j+3)) false)),(1,some ⟨3,1,An (Ez y w k)⟩)]⟩) (fun k=>k≤y.2.length) (fun k=>y.2.length-k) 0 (AO (And.intro cuE.eq_1 (And.intro (And.intro Ez.eq_1 Ez.eq_2) (And.intro hil B.eq_1))) [some 0,none] []) ?_ (h0:=Nat.zero_le _);rintro k hI1 Y1 hY1;skip)
 refine Aa 15 [2,8,12,13,15,56,57,58,59] ?_
 refine AC 59 (fun c59=>?_) (fun c59=>?_)
 refine XW.at 16 ?_;obtain⟨u,hu,hum⟩:=Bm y.2 k oM;obtain⟨q,hq1,hq2,hq3⟩:=hl0 k oM;obtain⟨i1,hi1,hi1m⟩:=Bm y.1 k oM;have hx:=hq1;have hue:=(List.getElem?_eq_some_iff.1 hu).2;rw[hue]at hq2;have hvl:=NQ y w k
 refine BJ 16 [2,8,12,13,15,16,17,56,57,58] ?_
 refine XW.at 17 ?_;have hx:=hq2
 refine BJ 17 [2,8,12,13,15,16,56,57,58,68] ?_
 refine Bx 68 (fun c68=>?_) (fun c68=>?_)
 refine XW.at 18 ?_;have hx:=hi1
 refine BJ 18 [2,8,12,13,15,56,57,58] ?_
 any_goals(refine AQ 19 [2,8,12,13,15,56,57,58] ?_;(refine XH.le ?_;(first|(have huw:u=w:=(by simpa using c68);have hvs:Ez y w (k+1)=Ez y w k++[i1]:=(by rw[Ez,hu,huw,if_pos rfl,Bz hi1]))|(have huw: ¬ u=w:=(by simpa using c68);have hvs:Ez y w (k+1)=Ez y w k:=(by rw[Ez,hu,if_neg (by simpa using huw)])));exact eY hY1 (k+1) (AO (And.intro cuE.eq_1 (And.intro hvs B.eq_1)) [some 0,some 1] [])))
 refine XW.at 20 ?_;have hk:k=y.1.length:=oM;rw[hk]
 refine Ah 20 ?_
 refine Ac 2 ?_
 refine BW 0 (QL 122 (bB (zBs Z) (3*j+3))) ?_;rintro _ _ ⟨rfl,rfl⟩
 refine Ac 2 ?_
 any_goals(refine XO.done [6,7] ?_)
 refine Aq ?_;rw[hyl];exact Hw rfl
theorem Acv{bs:List UInt8}{c a z:Nat}{ss:List S}(V:SegV bs c a z ss)(d:List S)(Z:List Zt)(hq:ss[9]? =some (AE (AM d)++bB (zBs Z) 0))(hc:Bb d=0)(hp:d.Pairwise ltS)(hdl:d.length≤32768)(hbl:(AE (AM d)++bB (zBs Z) 0).length≤2^40)(hZ: ∀ z∈Z,ZOk z)(hZd:Z.length=d.length)(n w:S):
   Ae Tryz.prog 29 [.sl 1 (Ab bs),str n,str w] (fun r=>r= .tup [.sl 1 (An (K9 d Z n w)),I 0]):=by
 unfold K9
 cases hw:DV d n with
 |false=>exact On (Ae.toA (Aa1 V d Z hq hc hp hdl hbl hZ hZd n w hw))
 |true=>
   have hg:=Fa d n hp ((Jr hp).1 hw)
   obtain⟨y,hy,_⟩:=Bm Z (CD d n) oM
   rw[if_pos rfl,Bz hy]
   exact ZN V d Z hq hc hp hdl hbl hZ hZd n w hw _ rfl y hy

theorem ZZ(b:List Int):(EP b)[0]? =some 3∧(EP b)[1]? =some (Dc b.length 1)∧(EP b)[2]? =some (Dc b.length 0):=⟨rfl,rfl,rfl⟩
theorem Abx: ∀ (b:List Int) (j k:Nat) (c:Int),b[j]? =some c→k<8→(b.flatMap fun c=>DX c 8)[8*j+k]? =some (Dc c k)
 | [],j,k,c,h,_=>by simp at h
 |x::b,0,k,c,h,hk=>by
   simp at h;subst h
   rw[List.flatMap_cons,List.getElem?_append_left (by rw[Fu];omega)]
   simp[DX,hk]
 |x::b,j+1,k,c,h,hk=>by
   rw[List.flatMap_cons,List.getElem?_append_right (by rw[Fu];omega),Fu,show 8*(j+1)+k-8=8*j+k by omega]
   exact Abx b j k c (by simpa using h) hk
def W64(b:List Int):Prop:= ∀ c∈b,0≤c∧c<18446744073709551616
theorem Np{c:Int}(h:0≤c){k:Nat}(hk:k<8):(Dc c k).toNat=c.toNat / 256^k%256:=by
 have e:=MB c k
 have e2:c.fdiv (2^min (8*k) 64)=((c.toNat / 2^(8*k):Nat):Int):=by
   have:=fdM c.toNat (8*k) 64 oM
   rwa [show((c.toNat:Nat):Int)=c by omega]at this
 rw[e2,IW]at e
 have e3:(256:Nat)^k=2^(8*k):=by rw[Nat.pow_mul]
 rw[e3];omega
def Gd(c:Int)(m:Nat):Nat:=c.toNat / 256^(8-m)
theorem Agp{c:Int}(h:0≤c∧c<18446744073709551616):Gd c 0=0:=by
 unfold Gd
 exact Nat.div_eq_of_lt (by have:(256:Nat)^(8-0)=18446744073709551616:=by decide
                            omega)
theorem Afl{c:Int}(h:0≤c∧c<18446744073709551616):((Gd c 8:Nat):Int)=c:=by
 unfold Gd;simp;omega
theorem Acd{c:Int}(h:0≤c∧c<18446744073709551616){m:Nat}(hm:m<8):Gd c m<2^56:=by
 unfold Gd
 rw[Nat.div_lt_iff_lt_mul (Nat.pow_pos dC)]
 have h1:(256:Nat)^1≤256^(8-m):=Nat.pow_le_pow_right dC oM
 have:c.toNat<2^56*256:=by omega
 exact Nat.lt_of_lt_of_le this (Nat.mul_le_mul_left _ (by simpa using h1))
theorem AeP{c:Int}(h:0≤c∧c<18446744073709551616){m:Nat}(hm:m<8):Gd c (m+1)=Gd c m*256+(Dc c (7-m)).toNat:=by
 rw[Np h.1 oM,Gd,Gd,show 8- (m+1)=7-m by omega,show 8-m=(7-m)+1 by omega,Nat.pow_succ,← Nat.div_div_eq_div_mul]
 omega
theorem AbZ(a b:Nat)(ha:a<2^64)(hb:b<2^64):AP .or .u64 (a:Int) (b:Int)=((a ||| b:Nat):Int):=by
 simp only[AP]
 have e:IntKind.u64.bits=64:=rfl
 rw[BitVec.toNat_or,BitVec.ofInt_natCast,BitVec.ofInt_natCast,BitVec.toNat_ofNat,BitVec.toNat_ofNat,e,Nat.mod_eq_of_lt ha,Nat.mod_eq_of_lt hb]
 have:=Nat.or_lt_two_pow ha hb
 exact IntWalk.u64_in _ oM
theorem Ab3(a b:Nat)(hb:b<256):a*256 ||| b=a*256+b:=by
 have:=Nat.two_pow_add_eq_or_of_lt (i:=8) hb a
 rw[Nat.mul_comm,← this]
theorem accE{c:Int}(h:0≤c∧c<18446744073709551616){m:Nat}(hm:m<8):AP .or .u64 (IntKind.u64.wrap ((Gd c m:Int)*2^min 8 64)) ((Dc c (7-m)).toNat:Int)=((Gd c (m+1):Nat):Int):=by
 have h1:=Acd h hm
 have h2:=(Dc c (7-m)).toNat_lt
 have e1:((Gd c m:Int)*2^min 8 64)=((Gd c m*256:Nat):Int):=by
   rw[show(2:Int)^min 8 64=256 by decide];push_cast;rfl
 rw[e1,IntWalk.u64_in _ oM,AbZ _ _ oM oM,Ab3 _ _ h2,AeP h hm]
theorem Ahf{n:Nat}(h:n≤1024):AP .or .i64 (IntKind.i64.wrap (((Dc (n:Int) 1).toNat:Int)*2^min 8 64)) ((Dc (n:Int) 0).toNat:Int)=(n:Int):=by
 have h1:=Np (c:=(n:Int)) oM (k:=1) oM
 have h0:=Np (c:=(n:Int)) oM (k:=0) oM
 simp only[Int.toNat_natCast,Nat.pow_zero,Nat.div_one,Nat.pow_one]at h0 h1
 have e1:(((Dc (n:Int) 1).toNat:Int)*2^min 8 64)=(((Dc (n:Int) 1).toNat*256:Nat):Int):=by
   rw[show(2:Int)^min 8 64=256 by decide];push_cast;rfl
 rw[e1,Ar oM,Zp _ _ oM oM,Ab3 _ _ oM]
 omega
def NG(b:List Int)(w:S):Bool:=!((psL w (64*b.length) 3).any fun p=>!(Gi b p.toNat))
theorem UC(s:Int)(w:S): ∀ i,Ja s w i=Gp s w i
 |0=>rfl
 |i+1=>by
   have h1:=(w.getD i 0).toNat_lt
   have h2:IntKind.u32.wrap ((w.getD i 0).toNat:Int)=((w.getD i 0).toNat:Int):=IntWalk.u32_in _ oM
   rw[Ja,Gp,UC s w i,h2]
theorem Abc(s:Int)(w:S):Abu (Ja s w w.length)=MW s w:=by rw[UC];rfl
theorem SQ(s:Int)(w:S)(hl:w.length≤2^40):Ae Tryz.prog 239 [Gt s,str w] (fun r=>r=Gt (MW s w)):=by
 have:=Ab7 s w hl
 rwa [Abc]at this
theorem AfR(a b:Int)(m i:Nat)(hm:0<m)(hm2:m<4294967296):IntKind.i64.wrap ((IntKind.u32.wrap (a+IntKind.u32.wrap (IntKind.u32.wrap (i:Int)*b))).tmod (m:Int))=psF a b m i:=by
 have h:=WV (a+IntKind.u32.wrap (IntKind.u32.wrap (i:Int)*b))
 rw[Int.tmod_eq_emod_of_nonneg h.1,Ar (by have:=Int.emod_nonneg (IntKind.u32.wrap (a+IntKind.u32.wrap (IntKind.u32.wrap (i:Int)*b))) (show(m:Int)≠0 by omega);have:=Int.emod_lt_of_pos (IntKind.u32.wrap (a+IntKind.u32.wrap (IntKind.u32.wrap (i:Int)*b))) (show(0:Int)<m by omega);omega),psF]
 congr 1
 rw[Rk,Rk,Rk]
 have e:((i:Int)%4294967296*b)%4294967296=((i:Int)*b)%4294967296:=by rw[Int.mul_emod,Int.emod_emod_of_dvd _ (Int.dvd_refl _),← Int.mul_emod]
 rw[e];omega
theorem Aej(h:Nat)(hh:h≤8)(b:List Int)(hb0:0<b.length)(hb:b.length≤1024)(w:S)(u v:Int)(q0:Ae Tryz.prog 239 [Gt 0,str w] (fun r=>r=Gt u))(q1:Ae Tryz.prog 239 [Gt 1,str w] (fun r=>r=Gt v)):Ae Tryz.prog 199 [.agg [I h,.sl 1 (BN b)],str w] (fun r=>r= .sl 1 (An (psA u v (64*b.length) h))):=by
 have hpf:=fun i=>AfR u v (64*b.length) i oM oM
 have hps:=Ab0 u v (64*b.length)
 have h0:psA u v (64*b.length) 0=[]:=rfl
 have hsz:=Acn b oM
 have hms:IntKind.u32.wrap ((b.length*64:Nat):Int)=((64*b.length:Nat):Int):=by rw[Nat.mul_comm];exact IntWalk.u32_in _ oM
 refine Ax 37 Tryz.func199 ?_
 refine Aa 0 [1,2] ?_
 refine Ah 1 ?_
 refine Aw 1 ?_
 refine AG (q0) ?_;rintro _ rfl
 refine Aw 1 ?_
 refine AG (q1) ?_;rintro _ rfl
 refine Aw 2 ?_
 refine AG (hsz) ?_;rintro _ rfl
 have hx:=hms
 refine A2 4 ?_
 any_goals(refine XO.done [2,5,6,7] ?_)
 refine Aa 2 [2,5,6,7,8] ?_
 refine Aa 3 [5,6,7,8,19,20] ?_
 any_goals(refine A8 1 (fun i:Nat=>⟨[(5,Gt u),(6,Gt v),(7,Gt (64*b.length:Nat)),(8,.osl 0 i 1),(19,I h),(20,I i)],[(0,some ⟨3,1,An (psA u v (64*b.length) i)⟩)]⟩) (fun i=>i≤h) (fun i=>h-i) 0 (AO (And.intro h0 Gt.eq_1) [none] []) ?_ (h0:=Nat.zero_le _);rintro i hI0 Y0 hY0;skip)
 refine Aa 4 [5,6,7,8,19,20,21] ?_
 refine AC 21 (fun c21=>?_) (fun c21=>?_)
 refine Aa 5 [5,6,7,8,9,19,20] ?_
 refine Ah 6 ?_
 refine Aw 3 ?_
 refine Aw 1 ?_
 refine Aw 1 ?_
 refine Aw 3 ?_
 refine Aw 1 ?_
 have hx:=hpf i
 refine Aw 1 ?_
 refine Aw 3 ?_
 any_goals(refine XO.done [5,6,7,8,19,20] ?_)
 refine AQ 7 [5,6,7,8,19,20] ?_
 · refine XH.le ?_;exact eY hY0 (i+1) (AO (And.intro hps Gt.eq_1) [some 0] [])
 refine XW.at 8 ?_;obtain rfl:i=h:=oM
 refine Aa 8 [4] ?_
 refine Aq ?_;exact Ab4 rfl
theorem ZL(b:List Int)(h1:1≤b.length)(h2:b.length≤1024):Ae Tryz.prog 198 [.agg [I 3,.sl 1 (BN b)]] (fun r=>r=I 0):=by
 refine Ax 23 Tryz.func198 ?_
 refine Aa 0 [1] ?_
 refine Ah 1 ?_
 refine Ac 4 ?_
 refine BQ 6 ?_
 refine Ac 5 ?_
 refine BQ 11 ?_
 refine Ac 6 ?_
 refine Cn 17 (fun g17=>?_) (fun g17=>?_)
 exfalso;omega
 refine Ac 5 ?_
 any_goals(refine XO.done [22] ?_)
 refine AC 22 (fun c22=>?_) (fun c22=>?_)
 exfalso;omega
 refine Aa 3 [2] ?_
 refine Aq ?_;exact Bi rfl
def wB(b:List Int):List UInt8:=b.flatMap fun c=>DX c 8
theorem RX(b:List Int):(wB b).length=8*b.length:=by
 have h:=JM b
 have:EP b=[3,Dc b.length 1,Dc b.length 0]++wB b:=by rw[EP,DR,List.take_length];rfl
 rw[this]at h;simp at h;omega
theorem AaT(b:List Int):(EP b).drop 3=wB b:=by rw[EP,DR,List.take_length];rfl
theorem AdV{b:List Int}{j:Nat}{c:Int}(h:b[j]? =some c):((wB b).take (8*j+8)).drop (8*j)=DX c 8:=by
 have hl:=RX b
 have hj:=(List.getElem?_eq_some_iff.1 h).1
 apply List.ext_getElem?
 intro k
 rw[List.getElem?_drop,List.getElem?_take]
 rcases Nat.lt_or_ge k 8 with hk|hk
 · rw[if_pos oM,wB,Abx b j k c h hk,DX,List.getElem?_map,List.getElem?_range hk];rfl
 · rw[if_neg oM,List.getElem?_eq_none (by rw[Fu];exact hk)]
theorem AcP(c:Int){k:Nat}(h:k<8):(DX c 8)[k]? =some (Dc c k):=by
 rw[DX,List.getElem?_map,List.getElem?_range h];rfl
theorem AfO(c:Int):(DX c 8).length=8:=Fu c 8
theorem min8(b:List Int)(j:Nat)(h:j<b.length):(if(((wB b).drop (8*j)).length:Int)<8 then(((wB b).drop (8*j)).length:Int)else 8)=((8:Nat):Int):=by
 have:=RX b
 rw[List.length_drop];split<;>omega
abbrev fE0:Ent:=⟨139,2,[[I 0,.val (.slice none 0 0)]]⟩
abbrev chH(b:List Int)(j:Nat):List (Nat×Option Ent):=[(0,some fE0),(1,some ⟨139,2,[[I 3,.osl 4 j 1]]⟩),(2,some ⟨22,1,[[.sl 1 (Ab (wB b))]]⟩),(3,some ⟨3,1,[[I 8]]⟩),(4,some ⟨65,1,BN (b.take j)⟩)]
abbrev chH'(b:List Int)(j:Nat):List (Nat×Option Ent):=[(0,some fE0),(1,some ⟨139,2,[[I 3,.osl 5 j 1]]⟩),(2,some ⟨22,1,[[.sl 1 (Ab (wB b))]]⟩),(3,some ⟨3,1,[[I 8]]⟩),(4,none),(5,some ⟨65,1,BN (b.take j)⟩)]
abbrev chF(b:List Int):List (Option Ent):=[some fE0,some ⟨139,2,[[I 3,.osl 4 b.length 1]]⟩,some ⟨22,1,[[.sl 1 (Ab (wB b))]]⟩,some ⟨3,1,[[I 8]]⟩,some ⟨65,1,BN (b.take b.length)⟩]
abbrev bkH(b:List Int)(j:Nat)(c:Int)(m:Nat):List (Nat×Option Ent):=[(0,some fE0),(1,some ⟨139,2,[[I 3,.osl 4 j 1]]⟩),(2,some ⟨22,1,[[.sl 1 (Ab (wB b))]]⟩),(3,some ⟨3,1,[[I 8]]⟩),(4,some ⟨65,1,BN (b.take j)⟩),(5,some ⟨65,1,[[U64 (Gd c m)]]⟩),(6,some ⟨22,1,[[.sl 1 (Ab (DX c 8))]]⟩)]
abbrev bkF(b:List Int)(j:Nat)(c:Int):List (Option Ent):=[some fE0,some ⟨139,2,[[I 3,.osl 4 j 1]]⟩,some ⟨22,1,[[.sl 1 (Ab (wB b))]]⟩,some ⟨3,1,[[I 8]]⟩,some ⟨65,1,BN (b.take j)⟩,some ⟨65,1,[[U64 (Gd c 8)]]⟩,some ⟨22,1,[[.sl 1 (Ab (DX c 8))]]⟩]
theorem AaE(es:List (List AV))(he:AB 0 es=true):Ad Tryz.prog 196 [.sl 1 es,I 8] [] (.fn 237 0 [.ptr 0 1 0 0,.ptr 1 1 0 0]) [some ⟨22,1,[[.sl 1 es]]⟩,some ⟨3,1,[[I 8]]⟩]:=by
 refine BD 9 0 Tryz.func196 ?_
 refine Aa 0 [2,3] ?_
 refine Aa 1 [2,3,6] ?_
 refine A3 6 ?_
 refine Aa 3 [4] ?_
 refine Aq ?_;refine XB.ret [some 0,some 1] [] (hids:=⟨by simp[Al],by simp[Al],rfl⟩) (hwk:=?_) (hwh:=?_);(next=>simp[Az,lk,lkh,wk,wkL,wkE,I]);(next=>simp[Am,Ai,Ak,lkh,wkE,wkL,wk,B,I])
theorem Aeh(es:List (List AV))(he:AB 0 es=true):Ad Tryz.prog 197 [.sl 1 es] [] (.fn 238 0 [.ptr 0 1 0 0]) [some ⟨22,1,[[.sl 1 es]]⟩]:=by
 refine BD 4 0 Tryz.func197 ?_
 refine Aa 0 [1] ?_
 refine Aa 1 [2] ?_
 refine Aq ?_;refine XB.ret [some 0] [] (hids:=⟨by simp[Al],by simp[Al],rfl⟩) (hwk:=?_) (hwh:=?_);(next=>simp[Az,lk,lkh,wk,wkL,wkE,I]);(next=>simp[Am,Ai,Ak,lkh,wkE,wkL,wk,B,I])
theorem AgL(b:List Int)(hb:b.length≤1024)(y0:Nat)(assign body:Code)(cenv:List (Nat×AV))(c:Code)(hcode:Tryz.f237.body=some c)(hB: ∀ (j:Nat) (v:Int),b[j]? =some v→ ∃ nB sB,RD Tryz.prog 59 5 assign 5 ⟨Fi ([38].zip [.sl 1 (Ab (DX v 8))]) cenv,chH b j⟩ nB sB∧RD Tryz.prog 59 5 body nB sB 6 ⟨[],chH' b (j+1)⟩): @XW ⟨some ⟨y0,59,lk cenv,#[38],assign,body⟩⟩ Tryz.prog 31 4 (fun x=>x=(.tup [],chF b)) [] c [] 4 ⟨[(0,YV y0),(1,.ptr 2 1 0 0),(2,.ptr 3 1 0 0)],[(0,some fE0),(1,some ⟨139,2,[[I 3,.val (.slice none 0 0)]]⟩),(2,some ⟨22,1,[[.sl 1 (Ab (wB b))]]⟩),(3,some ⟨3,1,[[I 8]]⟩)]⟩:=by
 have hwl:=RX b
 letI Y:Yl:=⟨some ⟨y0,59,lk cenv,#[38],assign,body⟩⟩;obtain rfl:=Option.some.inj (show some _=some c from hcode);refine QV ?_
 refine Ah 0 ?_
 refine Ac 1 ?_
 refine A7 [0,1,2,4] ?_
 any_goals(refine A8 5 (fun j:Nat=>⟨[(0,YV y0),(1,.ptr 2 1 0 0),(2,.ptr 3 1 0 0),(4,I (8*j:Nat))],chH b j⟩) (fun j=>j≤b.length) (fun j=>b.length-j) 0 (AO (And.intro BN.eq_1 B.eq_1) [some 0,some 1,some 2,some 3,none] []) ?_;rintro j hI0 Y0 hY0;skip)
 refine Ah 1 ?_
 refine Ac 4 ?_
 refine A7 [0,1,2,4,9] ?_
 refine AC 9 (fun c9=>?_) (fun c9=>?_)
 refine XW.at 3 ?_;have hjl:=(show j<b.length by omega);have hx:=min8 b j hjl
 refine Ah 3 ?_
 refine A2 7 ?_
 refine A7 [0,1,2,4,5] ?_
 refine XW.at 4 ?_;obtain⟨v,hv,hvm⟩:=Bm b j oM;obtain⟨nB,sB,hb1,hb2⟩:=hB j v hv;rw[← AdV hv]at hb1;have hx:((8*j:Nat):Int)+((8:Nat):Int)=((8*j+8:Nat):Int):=oM
 refine XOW.start 4 ?_
 refine Gs 9 [0,1,2,4,19,20,21,24,27] ?_
 refine XOW.raw [0,1,2,4,19,28] (Uw (x:= .tmp 20) (lo:= .tmp 21) (hi:= .tmp 24) (mx:= .tmp 27) (l:=8*j) (h:=8*j+8) (m:=8*j+8) (es:=Ab (wB b)) (BU _) D22 T5 rfl rfl rfl rfl rfl oM oM (by rw[CB];omega)) ?_
 refine XOW.yield hb1 hb2 ?_
 refine Gs 1 [0,1,2,4,30] ?_
 any_goals(refine XOW.done ?_)
 refine A3 30 ?_
 refine Ah 2 ?_
 refine Gz 4 ?_
 refine A7 [0,1,2,4] ?_
 · refine XH.le ?_;exact eY hY0 (j+1) (AO (And.intro @Nat.mul_add B.eq_1) [some 0,some 1,some 2,some 3,some 4] [])
 obtain rfl:j=b.length:=oM;refine Kx [some 0,some 1,some 2,some 3,some 4] [] (hids:=⟨by simp[Al],by simp[Al],rfl⟩) (hwk:=by simp[Az,lk,lkh,wk,wkL,wkE,I]) (hwh:=?_);simp[Am,Ai,Ak,lkh,wkE,wkL,wk,B,I]
theorem Aht(b:List Int)(j:Nat)(v:Int)(y0:Nat)(assign body:Code)(cenv:List (Nat×AV))(c:Code)(hcode:Tryz.f238.body=some c)(hB: ∀ m:Nat,m<8→ ∃ nB sB,RD Tryz.prog 59 7 assign 7 ⟨Fi ([41,42].zip [I (7- (m:Int)),U8 (Dc v (7-m))]) cenv,bkH b j v m⟩ nB sB∧RD Tryz.prog 59 7 body nB sB 7 ⟨[],bkH b j v (m+1)⟩): @XW ⟨some ⟨y0,59,lk cenv,#[41,42],assign,body⟩⟩ Tryz.prog 19 7 (fun x=>x=(.tup [],bkF b j v)) [] c [] 7 ⟨[(0,YV y0),(1,.ptr 6 1 0 0)],bkH b j v 0⟩:=by
 have ho8:=AfO v
 letI Y:Yl:=⟨some ⟨y0,59,lk cenv,#[41,42],assign,body⟩⟩;obtain rfl:=Option.some.inj (show some _=some c from hcode);refine QV ?_
 refine XW.at 0 ?_;have hx:((DX v 8).length:Int)-1=7:=oM
 refine Ah 0 ?_
 refine A2 4 ?_
 refine A7 [0,1,3] ?_
 any_goals(refine A8 7 (fun m:Nat=>⟨[(0,YV y0),(1,.ptr 6 1 0 0),(3,I (7- (m:Int)))],bkH b j v m⟩) (fun m=>m≤8) (fun m=>8-m) 0 (AO (And.intro ho8 (And.intro B.eq_1 U64.eq_1)) [some 0,some 1,some 2,some 3,some 4,some 5,some 6] []) ?_;rintro m hI0 Y0 hY0;skip)
 refine Ah 1 ?_
 refine Ac 2 ?_
 refine A7 [0,1,3,8] ?_
 refine AC 8 (fun c8=>?_) (fun c8=>?_)
 refine XW.at 3 ?_;have hm8:=(show m<8 by omega);obtain⟨nB,sB,hb1,hb2⟩:=hB m hm8;have hx:(7- (m:Int)).toNat=7-m:=oM;have hx2:=AcP v (k:=7-m) oM
 refine XOW.start 3 ?_
 refine Gs 6 [0,1,3,11,12,16] ?_
 refine XOW.yield hb1 hb2 ?_
 refine Gs 1 [0,1,3,18] ?_
 any_goals(refine XOW.done ?_)
 refine A3 18 ?_
 refine Ah 2 ?_
 refine Gz 3 ?_
 refine A7 [0,1,3] ?_
 · refine XH.le ?_;exact eY hY0 (m+1) (AO (And.intro B.eq_1 U64.eq_1) [some 0,some 1,some 2,some 3,some 4,some 5,some 6] [])
 obtain rfl:m=8:=oM;refine Kx [some 0,some 1,some 2,some 3,some 4,some 5,some 6] [] (hids:=⟨by simp[Al],by simp[Al],rfl⟩) (hwk:=by simp[Az,lk,lkh,wk,wkL,wkE,I]) (hwh:=?_);simp[Am,Ai,Ak,lkh,wkE,wkL,wk,B,I,U64]
theorem AeF(b:List Int)(h1:1≤b.length)(h2:b.length≤1024)(hb:W64 b):Ae Tryz.prog 141 [.sl 1 (Ab (EP b))] (fun r=>r= .tup [.agg [I 3,.sl 1 (BN b)],I 0]):=by
 have hl:=JM b
 obtain⟨e0,e1,e2⟩:=ZZ b
 have hh:=Ahf h2
 have hz:b.take 0=[]:=rfl
 have hw1:IntKind.i64.wrap ((Dc b.length 1).toNat:Int)=(Dc b.length 1).toNat:=Ar (by have:=(Dc b.length 1).toNat_lt;omega)
 have hw2:IntKind.i64.wrap ((Dc b.length 0).toNat:Int)=(Dc b.length 0).toNat:=Ar (by have:=(Dc b.length 0).toNat_lt;omega)
 have hw3:IntKind.i64.wrap (8*(b.length:Int))=8*(b.length:Int):=Ar oM
 have hw4:IntKind.i64.wrap (3+8*(b.length:Int))=3+8*(b.length:Int):=Ar oM
 have q0:=ZL b h1 h2
 have hdr:=AaT b
 refine Ax 59 Tryz.func141 ?_
 refine Ah 0 ?_
 refine Ac 2 ?_
 refine A7 [0,2] ?_
 refine Ah 1 ?_
 refine Aw 4 ?_
 refine BQ 12 ?_
 refine Aw 4 ?_
 have hx:=e1
 refine Aw 1 ?_
 have hx:=hw1
 refine A2 1 ?_
 refine A2 3 ?_
 have hx:=e2
 refine Aw 1 ?_
 have hx:=hw2
 refine A2 1 ?_
 have hx:=hh
 refine A2 1 ?_
 have hx:=hw3
 refine A2 1 ?_
 have hx:=hw4
 refine A2 1 ?_
 have hx:((EP b).length:Int)=3+8*(b.length:Int):=oM
 refine Aw 2 ?_
 refine A7 [0,2,28] ?_
 refine A3 28 ?_
 refine XW.at 3 ?_;have hx:=e0
 refine Ah 3 ?_
 refine A2 7 ?_
 refine A7 [0,2,4] ?_
 refine XW.at 4 ?_;have hx:=hdr
 refine Ah 4 ?_
 refine A2 2 ?_
 refine X4 (AaE (Ab (wB b)) sP) ?_
 refine A7 [2,4,37] ?_
 refine QR (gf:=237) (j:=0) (cs:=[.ptr 2 1 0 0,.ptr 3 1 0 0]) (Ni:=31) (chF b) Tryz.func237 rfl rfl rfl dC rfl (fun l0=>AgL b h2 l0 _ _ _ _ rfl ?_) ?_
 · intro j c hc
   have hcr:=hb c (List.mem_of_getElem? hc)
   have ha0:=Agp hcr
   have hts:b.take j++[c]=b.take (j+1):=by rw[List.take_add_one,hc];rfl
   have hjl:=(List.getElem?_eq_some_iff.1 hc).1
   refine⟨5,⟨[(4,.ptr 1 2 0 0),(5,.sl 1 (Ab (DX c 8)))],chH b j⟩,JG ?_,JG ?_⟩
   · simp only[Fi,List.zip_cons_cons,List.zip_nil_right]
     refine Aa 5 [4,5] ?_
     exact XH.rd ⟨[some 0,some 1,some 2,some 3,some 4],[],⟨by simp[Al],by simp[Al],by rfl⟩,sP,by simp[AK,lk,lkh,I,str,U8],by simp[Am,Ai,Ak,lkh,wkE,wkL,wk,B,I]⟩
   · skip
     all_goals try refine Ah 6 ?_
     all_goals try refine Ac 2 ?_
     all_goals try refine A7 [4,5,6] ?_
     all_goals try(refine XW.at 7 ?_;refine Fq 7 6 ⟨[(4,.ptr 1 2 0 0),(5,.sl 1 (Ab (DX c 8))),(6,.ptr 5 1 0 0)],[(0,some fE0),(1,some ⟨139,2,[[I 3,.osl 4 j 1]]⟩),(2,some ⟨22,1,[[.sl 1 (Ab (wB b))]]⟩),(3,some ⟨3,1,[[I 8]]⟩),(4,some ⟨65,1,BN (b.take j)⟩),(5,some ⟨65,1,[[U64 (Gd c 0)]]⟩)]⟩ (Hb (And.intro ha0 U64.eq_1) [some 0,some 1,some 2,some 3,some 4,some 5] []) ?_)
     all_goals try refine Ah 7 ?_
     all_goals try refine Ac 1 ?_
     all_goals try(refine HO (Aeh (Ab (DX c 8)) sP) (hei:=by simp) ?_)
     all_goals try refine A7 [4,6,40] ?_
     refine QR (gf:=238) (j:=0) (cs:=[.ptr 6 1 0 0]) (Ni:=19) (bkF b j c) Tryz.func238 rfl rfl rfl dC rfl (fun l1=>Aht b j c l1 _ _ _ _ rfl ?_) ?_
     · intro m hm8
       have hac:=accE hcr hm8
       have hu8:IntKind.u64.wrap ((Dc c (7-m)).toNat:Int)=((Dc c (7-m)).toNat:Int):=IntWalk.u64_in _ (by have:=(Dc c (7-m)).toNat_lt;omega)
       refine⟨7,⟨[(6,.ptr 5 1 0 0),(8,U8 (Dc c (7-m)))],bkH b j c m⟩,JG ?_,JG ?_⟩
       · simp only[Fi,List.zip_cons_cons,List.zip_nil_right]
         refine Aa 8 [6,8] ?_
         exact XH.rd ⟨[some 0,some 1,some 2,some 3,some 4,some 5,some 6],[],⟨by simp[Al],by simp[Al],by rfl⟩,sP,by simp[AK,lk,lkh,I,str,U8,U64],by simp[Am,Ai,Ak,lkh,wkE,wkL,wk,B,I,U64]⟩
       · skip
         all_goals try refine Ah 9 ?_
         all_goals try refine A2 3 ?_
         all_goals try(have hx:=hu8)
         all_goals try refine A2 1 ?_
         all_goals try(have hx:=hac)
         all_goals try refine A2 1 ?_
         all_goals try(skip)
         all_goals try refine Aw 1 ?_
         all_goals try refine A7 [] ?_
         exact XH.rd ⟨[some 0,some 1,some 2,some 3,some 4,some 5,some 6],[],⟨by simp[Al],by simp[Al],by rfl⟩,sP,by simp[AK,lk,lkh,I,str,U8,U64],by simp[Am,Ai,Ak,lkh,wkE,wkL,wk,B,I,U64]⟩
     simp only[bkF,List.zipIdx_cons,List.zipIdx_nil,List.map_cons,List.map_nil,List.length_cons,List.length_nil,Nat.reduceAdd,Nat.zero_add]
     all_goals try(refine XW.at 10 ?_;have hx:=Afl hcr)
     all_goals try refine Ah 10 ?_
     all_goals try refine Aw 7 ?_
     all_goals try refine A7 [] ?_
     exact XH.rd ⟨[some 0,some 1,some 2,some 3,some 4,some 5],[],⟨by simp[Al],by simp[Al],by rfl⟩,sP,by simp[AK,lk,lkh,I,str,U8,hts],by simp[Am,Ai,Ak,lkh,wkE,wkL,wk,B,I,hts]⟩
 simp only[chF,List.zipIdx_cons,List.zipIdx_nil,List.map_cons,List.map_nil,List.length_cons,List.length_nil,Nat.reduceAdd,Nat.zero_add]
 refine XW.at 11 ?_;have hx:b.take b.length=b:=List.take_length
 refine Ah 11 ?_
 refine Aw 1 ?_
 refine Wx [4] rfl rfl q0 ⟨MO ⟨Ox,OR sP rfl rfl sP rfl,trivial⟩,trivial⟩ rfl ⟨sP,by simp[lkh],trivial⟩ (.inr (fun r hr=>by subst hr;rfl)) ?_;rintro _ rfl
 refine Aw 1 ?_
 refine A7 [2,4,56] ?_
 refine A3 56 ?_
 refine Ah 13 ?_
 refine Ac 3 ?_
 refine A7 [2,3] ?_
 · refine Aq ?_;refine XP.ret [1] (.tup [.agg [I 3,.sl 1 (BN b)],I 0]) rfl (hwk:=?_);simp[Az,lkh,I];done
theorem Afj(b:List Int)(hb0:0<b.length)(hb:b.length≤1024)(w:S)(hw:w.length≤2^40): ∃ ps:List Int,ps=psL w (64*b.length) 3∧ps.length=3∧(∀ p∈ps,0≤p∧p<(64*b.length:Nat))∧Ae Tryz.prog 199 [.agg [I 3,.sl 1 (BN b)],str w] (fun r=>r= .sl 1 (An ps)):=
 ⟨_,rfl,Ul _ _ _,MK _ _ _ oM,Aej 3 oM b hb0 hb w _ _ (SQ 0 w hw) (SQ 1 w hw)⟩
theorem Ad7(b:List Int)(h1:1≤b.length)(h2:b.length≤1024)(w:S)(hw:w.length≤2^40):Ae Tryz.prog 142 [.agg [I 3,.sl 1 (BN b)],str w] (fun r=>r=B (NG b w)):=by
 obtain⟨ps,e,hl,hr,q⟩:=Afj b h1 h2 w hw
 have:=AeY 3 b w ps oM (fun p hp=>by have:=hr p hp;exact⟨oM,oM,oM⟩) q
 unfold NG;rwa [← e]
theorem Ag2{bs:List UInt8}{c a z:Nat}{ss:List S}(V:SegV bs c a z ss)(b:List Int)(hq:ss[11]? =some (EP b))(h1:1≤b.length)(h2:b.length≤1024)(hb:W64 b)(w:S)(hw:w.length≤2^40):Ae Tryz.prog 80 [.sl 1 (Ab bs),str w] (fun r=>r= .tup [B (NG b w),I 0]):=by
 have q:=Ad7 b h1 h2 w hw
 generalize NG b w=tt at*
 refine Ax 30 Tryz.func80 ?_
 refine Aa 0 [0,1] ?_
 refine Ah 1 ?_
 refine Ac 1 ?_
 refine AG (O6 V 11 _ hq) ?_;rintro _ rfl
 refine Ac 5 ?_
 any_goals(refine XO.done [1,6,7] ?_)
 refine Aa 2 [1,6,7,15] ?_
 refine A3 15 ?_
 refine Ah 4 ?_
 refine Ac 1 ?_
 refine AG (AeF b h1 h2 hb) ?_;rintro _ rfl
 refine Ac 6 ?_
 any_goals(refine XO.done [1,7,8] ?_)
 refine Ah 5 ?_
 refine Ac 3 ?_
 refine GK 24 ?_
 refine Ac 2 ?_
 refine AG (q) ?_;rintro _ rfl
 refine Ac 4 ?_
 any_goals(refine XO.done [4,5] ?_)
 refine Aq ?_;exact Bi rfl
structure Ix where
 wf:S→List Int
 vf:S→S→List Int
 mf:S→Bool
 c:Nat
 a:Nat
 z:Nat
structure IxP(bs:S)(x:Ix):Prop where
 p27: ∀ w,Ae Tryz.prog 27 [.sl 1 (Ab bs),str w] (fun r=>r= .tup [.sl 1 (An (x.wf w)),I 0])
 p29: ∀ n w,Ae Tryz.prog 29 [.sl 1 (Ab bs),str n,str w] (fun r=>r= .tup [.sl 1 (An (x.vf n w)),I 0])
 p80: ∀ w:S,w.length≤2^40→Ae Tryz.prog 80 [.sl 1 (Ab bs),str w] (fun r=>r= .tup [B (x.mf w),I 0])
 p77:Ae Tryz.prog 77 [.sl 1 (Ab bs)] (fun r=>r= .tup [.agg [I x.c,I x.a,I x.z],I 0])
 wl: ∀ w,(x.wf w).length≤4096
 vl: ∀ n w,(x.vf n w).length≤4096
 cl:x.c≤4096
 az:x.c≠0→x.a≤x.z
 zl:x.z≤253402300799999∧x.a≤253402300799999
def rgI(i:Nat):List Int:=(List.range i).map fun k:Nat=>(k:Int)
theorem Ab1(i:Nat):rgI i++[(i:Int)]=rgI (i+1):=by simp[rgI,List.range_succ]
@[simp] theorem Acm(i:Nat):(rgI i).length=i:=by simp[rgI]
def cnS(x:Ix)(t:Ts)(f:Ts→List Int):List Int:=if t.op=1 then x.wf t.text else if t.op=4∧pfx t.name [64]=false then x.vf t.name t.text else if t.op=6 then DN mgA (t.kids.map f)else if t.op=7 then DN mgO (t.kids.map f)else rgI x.c
def cnD(x:Ix):Nat→Ts→List Int
 |0,t=>cnS x t fun _=>[]
 |d+1,t=>cnS x t (cnD x d)
theorem Agj{ks:List Ts}{f:Ts→List Int}{i:Nat}{k:Ts}(h:ks[i]? =some k):(ks.map f).take i++[f k]=(ks.map f).take (i+1):=by
 have h2:(ks.map f)[i]? =some (f k):=by rw[List.getElem?_map,h];rfl
 rw[List.take_add_one (l:=ks.map f),h2];rfl
theorem R1{ks:List Ts}{f:Ts→List Int}{m:Nat}(h: ∀ k∈ks,(f k).length≤m):Gk (ks.map f)≤ks.length*m:=by
 induction ks with
 |nil=>simp[Gk]
 |cons k ks ih=>
   have h1:=ih (fun x hx=>h x (by simp[hx]))
   have h2:=h k sP
   simp only[Gk,List.map_cons,List.sum_cons,List.length_cons,Nat.succ_mul]at*
   omega
theorem UZ{x:Ix}{bs:S}(hx:IxP bs x){t:Ts}{f:Ts→List Int}{m:Nat}(hk:t.kids.length≤3)(h: ∀ k∈t.kids,(f k).length≤m):(cnS x t f).length≤4096+3*m:=by
 have hs:=R1 h
 have hm:t.kids.length*m≤3*m:=Nat.mul_le_mul_right m hk
 have hA:=JR Uj (t.kids.map f) _ (Nat.le_refl _)
 have hO:=JR Uy (t.kids.map f) _ (Nat.le_refl _)
 rw[List.take_length]at hA hO
 unfold cnS
 split
 · have:=hx.wl t.text;omega
 · split
   · have:=hx.vl t.name t.text;omega
   · split
     · omega
     · split
       · omega
       · have:=hx.cl;rw[Acm];omega
theorem WD(x:Ix)(bs:S)(hx0:IxP bs x)(t:Ts)(hkl:t.kids.length≤3)(f:Ts→List Int)(m:Nat)(hm:m≤2^30)(hfl: ∀ k∈t.kids,(f k).length≤m)(hf: ∀ k∈t.kids,Ae Tryz.prog 9 [tsA k,.sl 1 (Ab bs),I x.c] (fun r=>r= .tup [.sl 1 (An (f k)),I 0])):Ae Tryz.prog 9 [tsA t,.sl 1 (Ab bs),I x.c] (fun r=>r= .tup [.sl 1 (An (cnS x t f)),I 0]):=by
 have hss:=R1 hfl
 have hm3:t.kids.length*m≤3*m:=Nat.mul_le_mul_right m hkl
 have hml:(t.kids.map f).length=t.kids.length:=List.length_map ..
 have hz0:rgI 0=[]:=rfl
 have hcl:=hx0.cl
 refine Ax 91 Tryz.func9 ?_
 refine Aa 0 [1,2,3] ?_
 refine Aa 1 [1,2,3,15] ?_
 refine AC 15 (fun c15=>?_) (fun c15=>?_)
 refine Ah 2 ?_
 refine Ac 3 ?_
 refine AG (hx0.p27 t.text) ?_;rintro _ rfl
 refine Ac 4 ?_
 any_goals(refine XO.done [6,7] ?_)
 refine Aq ?_;have hfin:cnS x t f=x.wf t.text:=(by rw[cnS,if_pos c15]);rw[hfin];exact Bi rfl
 refine Ah 3 ?_
 refine Ac 4 ?_
 refine Cn 29 (fun g29=>?_) (fun g29=>?_)
 any_goals(refine Ac 2 ?_;(first|(refine AG (AbL t.name [64]) ?_;rintro _ rfl)|refine Ac 1 ?_);refine Ac 3 ?_;refine XO.done [1,2,3,25] ?_;(first|refine A3 25 ?_|refine Bx 25 (fun c25=>?_) (fun c25=>?_)))
 refine Ah 4 ?_
 refine Ac 5 ?_
 refine AG (hx0.p29 t.name t.text) ?_;rintro _ rfl
 refine Ac 4 ?_
 any_goals(refine XO.done [6,7] ?_)
 refine Aq ?_;have hp:pfx t.name [64]=false:=(by simpa using c25);have hfin:cnS x t f=x.vf t.name t.text:=(by rw[cnS,if_neg c15,if_pos ⟨aS,hp⟩]);rw[hfin];exact Bi rfl
 any_goals(refine Ah 5 ?_;refine Ac 4 ?_;refine Cn 47 (fun g47=>?_) (fun g47=>?_))
 exfalso;omega
 any_goals(refine Ac 5 ?_;refine XO.done [1,2,3,43] ?_;(first|refine CF 43 ?_|refine AC 43 (fun c43=>?_) (fun c43=>?_)))
 exfalso;omega
 any_goals(refine Aa 6 [1,2,3,8] ?_;refine Aa 7 [1,2,3,8,53,54,55] ?_;refine A8 2 (fun i:Nat=>⟨[(1,.sl 1 (Ab bs)),(2,I x.c),(3,.ptr 0 5 0 0),(8,.osl 1 i 1),(53,.sl 5 (tsE t.kids)),(54,I t.kids.length),(55,I i)],[(0,some ⟨26,5,[[I t.op,str t.name,str t.text,I t.num,.sl 5 (tsE t.kids)]]⟩),(1,some ⟨43,1,iiE ((t.kids.map f).take i)⟩)]⟩) (fun i=>i≤t.kids.length) (fun i=>t.kids.length-i) 0 (AO trivial [some 0,none] []) ?_ (h0:=Nat.zero_le _);rintro i hI0 Y0 hY0;skip;refine Aa 8 [1,2,3,8,53,54,55,56] ?_;refine AC 56 (fun c56=>?_) (fun c56=>?_))
 any_goals(refine XW.at 9 ?_;obtain⟨k,hx,hkm⟩:=Bm t.kids i oM;have hms:=Agj (f:=f) hx;refine BJ 9 [1,2,3,8,10,53,54,55] ?_;refine Ah 10 ?_;refine Ac 3 ?_;refine AG (hf k hkm) ?_;rintro _ rfl;refine Ac 5 ?_;refine XO.done [1,2,3,8,11,12,53,54,55] ?_;refine Aa 11 [1,2,3,8,11,12,53,54,55,67] ?_;refine A3 67 ?_;refine Aa 13 [1,2,3,8,53,54,55] ?_;refine AQ 14 [1,2,3,8,53,54,55] ?_;(refine XH.le ?_;exact eY hY0 (i+1) (AO hms [some 0,some 1] [])))
 any_goals(refine XW.at 15 ?_;have hik:i=t.kids.length:=oM;have hfull:(t.kids.map f).take i=t.kids.map f:=List.take_of_length_le oM;rw[hfull];refine Aa 15 [8,76] ?_;refine AC 76 (fun c76=>?_) (fun c76=>?_))
 any_goals(exfalso;omega)
 any_goals(refine XW.at 16 ?_;refine Fq 16 0 ⟨[(8,.sl 1 (iiE (t.kids.map f)))],[]⟩ (Hb (And.intro hml hik) [] [0]) ?_;refine Ah 16 ?_;refine Ac 1 ?_;refine AG (Ag8 (t.kids.map f) oM oM) ?_;rintro _ rfl;refine Ac 2 ?_;refine XO.done [6,7] ?_;refine Aq ?_;have h4:=(show ¬ t.op=4 by omega);have hfin:cnS x t f=DN mgA (t.kids.map f):=(by rw[cnS,if_neg c15,if_neg (fun h=>h4 h.1),if_pos aS]);rw[hfin];exact Bi rfl)
 any_goals(refine XW.at 17 ?_;refine Fq 17 0 ⟨[(8,.sl 1 (iiE (t.kids.map f)))],[]⟩ (Hb (And.intro hml hik) [] [0]) ?_;refine Ah 17 ?_;refine Ac 1 ?_;refine AG (AgR (t.kids.map f) oM oM) ?_;rintro _ rfl;refine Ac 2 ?_;refine XO.done [6,7] ?_;refine Aq ?_;have h6:=(show ¬ t.op=6 by omega);have h4:=(show ¬ t.op=4 by omega);have hfin:cnS x t f=DN mgO (t.kids.map f):=(by rw[cnS,if_neg c15,if_neg (fun h=>h4 h.1),if_neg h6,if_pos aS]);rw[hfin];exact Bi rfl)
 any_goals(refine Aa 18 [2,13] ?_;refine Aa 19 [13,81,82] ?_;refine A8 1 (fun i:Nat=>⟨[(13,.osl 0 i 1),(81,I x.c),(82,I i)],[(0,some ⟨3,1,An (rgI i)⟩)]⟩) (fun i=>i≤x.c) (fun i=>x.c-i) 0 (AO (And.intro hz0 An.eq_1) [none] []) ?_ (h0:=Nat.zero_le _);rintro i hI1 Y1 hY1;skip;refine Aa 20 [13,81,82,83] ?_;refine AC 83 (fun c83=>?_) (fun c83=>?_))
 any_goals(refine Aa 21 [13,14,81,82] ?_;refine Aa 22 [13,81,82] ?_;refine AQ 23 [13,81,82] ?_;(refine XH.le ?_;exact eY hY1 (i+1) (AO @Ab1 [some 0] [])))
 any_goals(refine Aa 24 [6,7] ?_;(refine Aq ?_;first|((have hi:i=x.c:=oM;have h4: ¬ (t.op=4∧pfx t.name [64]=false):=(by intro h;have:=h.2;simp[this]at c25);have hfin:cnS x t f=rgI i:=(by rw[cnS,if_neg c15,if_neg h4,if_neg aS,if_neg aS,hi]);rw[hfin];exact Hw rfl))|((have hi:i=x.c:=oM;have h4: ¬ (t.op=4∧pfx t.name [64]=false):=(fun h=>by have:=h.1;omega);have hfin:cnS x t f=rgI i:=(by rw[cnS,if_neg c15,if_neg h4,if_neg aS,if_neg aS,hi]);rw[hfin];exact Hw rfl))))
theorem MH{x:Ix}{bs:S}(hx:IxP bs x): ∀ (d:Nat) (t:Ts),TsB d t→d≤2→(cnD x d t).length≤4096*4^(d+1)
 |0,t,h,hd=>by
   have:=UZ hx (t:=t) (f:=fun _=>[]) (m:=0) (by rw[h.2.2.2.2];simp) sP
   simpa [cnD] using Nat.le_trans this dC
 |d+1,t,h,hd=>by
   have ih:=fun k hk=>MH hx d k (h.2.2.2.2.2 k hk) oM
   have:=UZ hx (t:=t) (f:=cnD x d) h.2.2.2.2.1 ih
   have e:4^(d+1+1)=4^(d+1)*4:=Nat.pow_succ ..
   have e2:1≤4^(d+1):=Nat.pow_pos dC
   rw[cnD,e];omega
theorem AbM{d:Nat}(h:d≤2):4096*4^(d+1)≤2^30:=by
 have:4^(d+1)≤4^3:=Nat.pow_le_pow_right dC oM
 simp at this ⊢;omega
theorem VY{x:Ix}{bs:S}(hx:IxP bs x): ∀ (d:Nat) (t:Ts),TsB d t→d≤2→Ae Tryz.prog 9 [tsA t,.sl 1 (Ab bs),I x.c] (fun r=>r= .tup [.sl 1 (An (cnD x d t)),I 0])
 |0,t,h,hd=>WD x bs hx t (by rw[h.2.2.2.2];simp) (fun _=>[]) 0 dC sP (by rw[h.2.2.2.2];simp)
 |d+1,t,h,hd=>WD x bs hx t h.2.2.2.2.1 (cnD x d) _ (AbM (d:=d) oM) (fun k hk=>MH hx d k (h.2.2.2.2.2 k hk) oM) (fun k hk=>VY hx d k (h.2.2.2.2.2 k hk) oM)
def lkR(x:Ix)(sp:Int×Int)(req:List S)(cn:List Int):Int:=if x.c=0∨sp.1>sp.2∨sp.1>x.z∨sp.2<x.a then 1 else if(req.any fun w=>!(x.mf w))then 2 else if cn=[]then 3 else 0
def lkL(x:Ix)(sp:Int×Int)(req:List S)(cn:List Int):List Int:=if lkR x sp req cn=0 then cn else []
theorem MN{s1 s2 a z:Int}(h:a≤z):((if a>s1 then a else s1)>(if z<s2 then z else s2))↔(s1>s2∨s1>z∨s2<a):=by
 split<;>split<;>omega
theorem Ab2{x:Ix}{sp:Int×Int}{req:List S}{cn:List Int}(h:x.c=0∨sp.1>sp.2∨sp.1>x.z∨sp.2<x.a):lkR x sp req cn=1∧lkL x sp req cn=[]:=by
 have:lkR x sp req cn=1:=by rw[lkR,if_pos h]
 exact⟨this,by rw[lkL,this];rfl⟩
theorem AhE{x:Ix}{sp:Int×Int}{req:List S}{cn:List Int}(h: ¬ (x.c=0∨sp.1>sp.2∨sp.1>x.z∨sp.2<x.a))(h2:(req.any fun w=>!(x.mf w))=true):lkR x sp req cn=2∧lkL x sp req cn=[]:=by
 have:lkR x sp req cn=2:=by rw[lkR,if_neg h,if_pos h2]
 exact⟨this,by rw[lkL,this];rfl⟩
theorem AgM{x:Ix}{sp:Int×Int}{req:List S}{cn:List Int}(h: ¬ (x.c=0∨sp.1>sp.2∨sp.1>x.z∨sp.2<x.a))(h2:(req.any fun w=>!(x.mf w))=false)(h3:cn=[]):lkR x sp req cn=3∧lkL x sp req cn=[]:=by
 have:lkR x sp req cn=3:=by rw[lkR,if_neg h,if_neg (by simp[h2]),if_pos h3]
 exact⟨this,by rw[lkL,this];rfl⟩
theorem Abz{x:Ix}{sp:Int×Int}{req:List S}{cn:List Int}(h: ¬ (x.c=0∨sp.1>sp.2∨sp.1>x.z∨sp.2<x.a))(h2:(req.any fun w=>!(x.mf w))=false)(h3: ¬ cn=[]):lkR x sp req cn=0∧lkL x sp req cn=cn:=by
 have:lkR x sp req cn=0:=by rw[lkR,if_neg h,if_neg (by simp[h2]),if_neg h3]
 exact⟨this,by rw[lkL,this];rfl⟩
theorem AbN{α:Type}{p:α→Bool}{l:List α}(h: ∀ x∈l,p x=false):l.any p=false:=by
 rw[List.any_eq_false];intro x hx;simp[h x hx]
theorem XX{d:Nat}: ∀ (t:Ts),TsB d t→ ∀ w∈rrD d t,w.length≤2048:=by
 induction d with
 |zero=>
   intro t h w hw
   have hk:t.kids=[]:=h.2.2.2.2
   have h1:=h.1;have h2:=h.2.1
   simp only[rrD,rrS,hk]at hw
   split at hw
   · simp at hw;subst hw;omega
   · split at hw
     · split at hw
       · simp at hw
       · simp at hw;subst hw;simp;omega
     · split at hw
       · have:=(Cd _ _).1 hw;simp[rqA]at this
       · split at hw
         · simp[rrO]at hw
         · simp at hw
 |succ d ih=>
   intro t h w hw
   have h1:=h.1;have h2:=h.2.1
   have hkk:=h.2.2.2.2.2
   simp only[rrD,rrS]at hw
   split at hw
   · simp at hw;subst hw;omega
   · split at hw
     · split at hw
       · simp at hw
       · simp at hw;subst hw;simp;omega
     · split at hw
       · have hw:=(Cd _ _).1 hw
         rw[rqA,List.take_length]at hw
         obtain⟨k,hk,hw⟩:=List.mem_flatMap.1 hw
         exact ih k (hkk k hk) w hw
       · split at hw
         · have: ∀ i,i≤t.kids.length→ ∀ w∈rrO t.kids (rrD d) i,w.length≤2048:=by
             intro i
             induction i with
             |zero=>intro _ w hw;simp[rrO]at hw
             |succ i ihi=>
               intro hi w hw
               have hx:=List.getElem?_eq_getElem (l:=t.kids) (i:=i) oM
               rw[QF _ hx]at hw
               split at hw
               · exact ih _ (hkk _ (List.getElem_mem _)) w hw
               · exact ihi oM w (List.mem_filter.1 hw).1
           exact this _ (Nat.le_refl _) w hw
         · simp at hw
theorem Agn(x:Ix)(bs:S)(hx0:IxP bs x)(t:Ts)(sp:Int×Int)(req:List S)(cn:List Int)(hcn:cn.length≤2^30)(hrl:req.length≤2^30)(hrq: ∀ w∈req,w.length≤2048)(hsp:Ae Tryz.prog 78 [tsA t] (fun r=>r=spT sp))(hreq:Ad Tryz.prog 79 [tsA t] [] (.osl 0 req.length 1) [some ⟨9,1,Au req⟩])(hc9:Ae Tryz.prog 9 [tsA t,.sl 1 (Ab bs),I x.c] (fun r=>r= .tup [.sl 1 (An cn),I 0])):Ae Tryz.prog 36 [tsA t,.sl 1 (Ab bs)] (fun r=>r= .tup [I (lkR x sp req cn),.sl 1 (An (lkL x sp req cn)),I 0]):=by
 obtain⟨s1,s2⟩:=sp
 have haz:=hx0.az
 refine Ax 79 Tryz.func36 ?_
 refine Aa 0 [1,2] ?_
 refine Ah 1 ?_
 refine Ac 1 ?_
 refine AG (hx0.p77) ?_;rintro _ rfl
 refine Ac 6 ?_
 any_goals(refine XO.done [1,2,7,8] ?_)
 refine Aa 2 [1,2,7,8,22] ?_
 refine A3 22 ?_
 refine Ah 4 ?_
 refine Ac 1 ?_
 refine AG (hsp) ?_;rintro _ rfl
 refine Ac 5 ?_
 any_goals(refine XO.done [1,2,7,9,10] ?_)
 refine Ah 5 ?_
 refine Ac 4 ?_
 refine Cn 32 (fun g32=>?_) (fun g32=>?_)
 any_goals(refine Ac 10 ?_;refine XO.done [1,2,7,42] ?_;(first|refine CF 42 ?_|refine AC 42 (fun c42=>?_) (fun c42=>?_)))
 any_goals(refine Aa 6 [4,5,6] ?_;(refine Aq ?_;first|((have hc0:=(show x.c=0 by omega);obtain⟨e1,e2⟩:=Ab2 (x:=x) (sp:=(s1,s2)) (req:=req) (cn:=cn) (.inl hc0);rw[e1,e2];exact N5 rfl))|((have hc0:=(show x.c≠0 by omega);have hz:=haz hc0;have hcc:=(MN (s1:=s1) (s2:=s2) (show(x.a:Int)≤x.z by omega)).1 c42;obtain⟨e1,e2⟩:=Ab2 (x:=x) (sp:=(s1,s2)) (req:=req) (cn:=cn) (.inr hcc);rw[e1,e2];exact N5 rfl))))
 refine Ah 7 ?_
 refine Ac 1 ?_
 refine HO hreq (hei:=by simp) ?_
 refine Ac 2 ?_
 any_goals(refine XO.done [1,2,7,44,45,46] ?_)
 any_goals(refine A8 3 (fun i:Nat=>⟨[(1,.sl 1 (Ab bs)),(2,.ptr 0 5 0 0),(7,.ptr 1 3 0 0),(44,.osl 2 req.length 1),(45,I req.length),(46,I i)],[(0,some ⟨26,5,[[I t.op,str t.name,str t.text,I t.num,.sl 5 (tsE t.kids)]]⟩),(1,some ⟨38,3,[[I x.c,I x.a,I x.z]]⟩),(2,some ⟨9,1,Au req⟩)]⟩) (fun i=>i≤req.length∧ ∀ w∈req.take i,(!(x.mf w))=false) (fun i=>req.length-i) 0 (AO trivial [some 0,some 1,some 2] []) ?_ (h0:=⟨Nat.zero_le _,sP⟩);rintro i hI0 Y0 hY0;skip)
 refine Aa 8 [1,2,7,44,45,46,47] ?_
 refine AC 47 (fun c47=>?_) (fun c47=>?_)
 refine XW.at 9 ?_;obtain⟨w,hx,hwm⟩:=Bm req i oM
 refine BJ 9 [1,2,7,12,44,45,46] ?_
 refine Ah 10 ?_
 refine Ac 2 ?_
 refine AG (hx0.p80 w (by have:=hrq w hwm;omega)) ?_;rintro _ rfl
 refine Ac 5 ?_
 any_goals(refine XO.done [1,2,7,13,14,44,45,46] ?_)
 refine Aa 11 [1,2,7,14,44,45,46,57] ?_
 refine Bx 57 (fun c57=>?_) (fun c57=>?_)
 refine Aa 12 [14,59] ?_
 refine CF 59 ?_
 refine Aa 13 [4,5,6] ?_
 refine Aq ?_;have hc0:=(show x.c≠0 by omega);have hz:=haz hc0;have hci:=MN (s1:=s1) (s2:=s2) (show(x.a:Int)≤x.z by omega);have hnc: ¬ (x.c=0∨s1>s2∨s1>x.z∨s2<x.a):=(fun h=>h.elim hc0 (fun h2=>c42 (hci.2 h2)));obtain⟨e1,e2⟩:=AhE (x:=x) (sp:=(s1,s2)) (req:=req) (cn:=cn) hnc (List.any_eq_true.2 ⟨w,hwm,c57⟩);rw[e1,e2];exact N5 rfl
 refine AQ 15 [1,2,7,44,45,46] ?_
 · refine XH.le ?_;exact hY0 (i+1) (⟨oM,F4 hI0.2 hx c57⟩) (by first|omega|(simp;done)|(simp;omega)) _ _ (AO trivial [some 0,some 1,some 2] [])
 refine Ah 16 ?_
 refine Ac 4 ?_
 refine AG (hc9) ?_;rintro _ rfl
 refine Ac 5 ?_
 any_goals(refine XO.done [8,15] ?_)
 refine Ah 17 ?_
 refine Ac 3 ?_
 refine GK 72 ?_
 refine Ac 4 ?_
 any_goals(refine XO.done [8,15,76] ?_)
 refine AC 76 (fun c76=>?_) (fun c76=>?_)
 refine Aa 18 [4,5,6] ?_
 refine Aq ?_;have hc0:=(show x.c≠0 by omega);have hz:=haz hc0;have hci:=MN (s1:=s1) (s2:=s2) (show(x.a:Int)≤x.z by omega);have hnc: ¬ (x.c=0∨s1>s2∨s1>x.z∨s2<x.a):=(fun h=>h.elim hc0 (fun h2=>c42 (hci.2 h2)));have hna:=AbN (p:=fun w=>!(x.mf w)) (l:=req) (fun w hw=>hI0.2 w (by rw[List.take_of_length_le oM];exact hw));(obtain⟨e1,e2⟩:=AgM (x:=x) (sp:=(s1,s2)) (req:=req) (cn:=cn) hnc hna (List.eq_nil_of_length_eq_zero (Int.ofNat.inj c76));rw[e1,e2];exact N5 rfl)
 refine Aa 19 [4,5,6] ?_
 refine Aq ?_;have hc0:=(show x.c≠0 by omega);have hz:=haz hc0;have hci:=MN (s1:=s1) (s2:=s2) (show(x.a:Int)≤x.z by omega);have hnc: ¬ (x.c=0∨s1>s2∨s1>x.z∨s2<x.a):=(fun h=>h.elim hc0 (fun h2=>c42 (hci.2 h2)));have hna:=AbN (p:=fun w=>!(x.mf w)) (l:=req) (fun w hw=>hI0.2 w (by rw[List.take_of_length_le oM];exact hw));(obtain⟨e1,e2⟩:=Abz (x:=x) (sp:=(s1,s2)) (req:=req) (cn:=cn) hnc hna (fun h=>c76 (by rw[h];rfl));rw[e1,e2];exact Bi rfl)
theorem AfD(x:Ix)(bs:S)(hx0:IxP bs x)(t:Ts)(sp:Int×Int)(req:List S)(cn:List Int)(hcn:cn.length≤2^30)(hrl:req.length≤2^30)(hrq: ∀ w∈req,w.length≤2048)(q36:Ae Tryz.prog 36 [tsA t,.sl 1 (Ab bs)] (fun r=>r= .tup [I (lkR x sp req cn),.sl 1 (An (lkL x sp req cn)),I 0])):Ae Tryz.prog 11 [tsA t,.sl 1 (Ab bs)] (fun r=>r= .tup [I (lkR x sp req cn),I 0]):=by
 refine Ax 18 Tryz.func11 ?_
 refine Aa 0 [1,2] ?_
 refine Ah 1 ?_
 refine Ac 2 ?_
 refine AG (q36) ?_;rintro _ rfl
 refine Ac 7 ?_
 any_goals(refine XO.done [6,8] ?_)
 refine Aa 2 [4,5] ?_
 refine Aq ?_;exact Bi rfl
theorem PD(l:List Ev)(n:S): ∀ i,(Bn l n i).1.length=(Bn l n i).2.length
 |0=>rfl
 |i+1=>by
   have ih:=PD l n i
   unfold Bn
   split
   · split
     · simp;exact ih
     · exact ih
   · exact ih
def zsE(l:List Ev):List Zt:=(AH l).map fun n=>Bn l n l.length
noncomputable def ixE(l:List Ev):Ix:=⟨K5 (AR l) (CN (AR l) l l.length),K9 (AH l) (zsE l),NG (FT l),l.length,CW l 0,CW l (l.length-1)⟩
theorem Oo{b:List Int}(p:Int)(h:W64 b):W64 (F9 b p):=by
 intro c hc
 rcases List.mem_or_eq_of_mem_set hc with h1|h1
 · exact h c h1
 · rw[h1];exact AdC _ _
theorem Pv: ∀ (l:List Int) (b:List Int),W64 b→W64 (l.foldl F9 b)
 | [],b,h=>h
 |p::l,b,h=>by rw[List.foldl_cons];exact Pv l _ (Oo p h)
theorem T0(m:Nat): ∀ (l:List S) (b:List Int),W64 b→W64 (l.foldl (Ns m) b)
 | [],b,h=>h
 |w::l,b,h=>by rw[List.foldl_cons];exact T0 m l _ (Pv _ _ h)
theorem AfA(m:Nat)(ts:List S)(i:Nat):W64 (E1 m ts i):=by
 unfold E1
 exact T0 m (ts.take i) (List.replicate (m / 64) 0) (fun c hc=>by rw[(List.mem_replicate.1 hc).2];exact⟨oM,oM⟩)
theorem Aeb(l:List Ev):W64 (FT l):=by unfold FT;exact AfA _ _ _
theorem U1(l:List Ev):GQ l=AE (AM (AR l))++bX (CN (AR l) l l.length) 0:=by
 unfold GQ Kl bX;rw[List.take_length];rfl
theorem Ahl(l:List Ev)(n:S):fdP l n=(zB (Bn l n l.length)).flatMap AE:=by
 unfold fdP ixF zB
 simp only[List.flatMap_cons,List.flatMap_nil,List.append_nil]
theorem S0(l:List Ev):D7 l=AE (AM (AH l))++bB (zBs (zsE l)) 0:=by
 have e:fdP l=fun n=>(zB (Bn l n l.length)).flatMap AE:=funext (Ahl l)
 unfold D7 F8 bB zBs zsE
 rw[List.take_length,List.drop_zero,List.flatMap_assoc,List.flatMap_map,e]
theorem AhT{l:List Ev}(h:SegG l)(h0:l.length≠0):CW l 0≤CW l (l.length-1):=by
 rcases Nat.eq_or_lt_of_le (show 1≤l.length by omega)with h1|h1
 · rw[← h1];exact Nat.le_refl _
 · have hlt:B7 (l[0]'oM) (l[l.length-1]'oM)=true:=List.pairwise_iff_getElem.1 h.asc 0 (l.length-1) oM oM oM
   have ha:=(h.ev _ (List.getElem_mem (show 0<l.length by omega))).time
   have hb:=(h.ev _ (List.getElem_mem (show l.length-1<l.length by omega))).time
   have hle:(l[0]'oM).time≤(l[l.length-1]'oM).time:=by
     unfold B7 at hlt
     split at hlt
     · have:=of_decide_eq_true hlt;omega
     · rename_i h2;have:=Decidable.of_not_not h2;omega
   unfold CW
   rw[List.getElem?_eq_getElem (show 0<l.length by omega),List.getElem?_eq_getElem (show l.length-1<l.length by omega)]
   simp only
   omega
theorem ixP{l:List Ev}(h:SegG l):IxP (Ee l) (ixE l):=by
 have V:=Ys h
 have hok:=h.ok
 have hl:=h.len
 have hevT: ∀ e∈l,EvT e:=fun e he=>(h.ev e he).evT
 have hs: ∀ k,k<12→(C5 l)[k]? =some (Dz l (k+1)):=fun k hk=>by
   rw[List.getElem?_eq_getElem (by rw[Lx];exact hk),PL]
 have hln: ∀ k,(Dz l k).length<2^32:=fun k=>Rl h k
 have q10:(C5 l)[10]? =some (AE (AM (AR l))++bX (CN (AR l) l l.length) 0):=by rw[hs 10 oM,← U1];rfl
 have b10:(AE (AM (AR l))++bX (CN (AR l) l l.length) 0).length≤2^40:=by rw[← U1];have:=hln 11;unfold Dz at this;simp at this;omega
 have c10:Bb (AR l)=0:=Er _ h.words (KN l)
 have s10:(AR l).Pairwise ltS:=BO _
 have hpx:=J2 (AR l) l oM s10 (fun e he w hw=>(Cd _ _).2 (by unfold Fc;rw[List.take_length];exact List.mem_flatMap.2 ⟨e,he,hw⟩))
 have l10:=h.words
 have hpl:=Hg (AR l) l l.length
 have q9:(C5 l)[9]? =some (AE (AM (AH l))++bB (zBs (zsE l)) 0):=by rw[hs 9 oM,← S0];rfl
 have b9:(AE (AM (AH l))++bB (zBs (zsE l)) 0).length≤2^40:=by rw[← S0];have:=hln 10;unfold Dz at this;simp at this;omega
 have c9:Bb (AH l)=0:=Er (Fy l l.length) (Nat.le_trans (show(AH l).length≤100 from h.names) dC) (IP l hevT _)
 have s9:(AH l).Pairwise ltS:=BO _
 have hz: ∀ z∈zsE l,ZOk z:=by
   intro z hz
   obtain⟨n,_,rfl⟩:=List.mem_map.1 hz
   exact⟨Iu l n oM,PD l n _,by have:=(G9 l n l.length).2;omega,HP l n hevT _⟩
 have hzd:(zsE l).length=(AH l).length:=by simp[zsE]
 have l9:=h.names
 have q11:(C5 l)[11]? =some (EP (FT l)):=by rw[hs 11 oM];rfl
 obtain⟨f1,f2⟩:=JH l
 have f3:=Aeb l
 refine {p27:=fun w=>Agx V _ _ q10 c10 s10 oM b10 hpx hpl w,p29:=fun n w=>Acv V _ _ q9 c9 s9 oM b9 hz hzd n w,p80:=fun w hw=>Ag2 V _ q11 f1 f2 f3 w hw,p77:=W6 V,wl:=?_,vl:=?_,cl:=by show l.length≤4096;omega,az:=fun h0=>AhT h h0,zl:=⟨I2 h _,I2 h _⟩}
 · intro w
   show(K5 _ _ w).length≤4096
   unfold K5
   split
   · cases hg:(CN (AR l) l l.length)[CD (AR l) w]? with
     |none=>simp[List.getD,hg]
     |some L=>rw[Bz hg];exact(hpx L (List.mem_of_getElem? hg)).len
   · simp
 · intro n w
   show(K9 _ _ n w).length≤4096
   unfold K9
   split
   · have h1:=NQ ((zsE l).getD (CD (AH l) n) ([],[])) w ((zsE l).getD (CD (AH l) n) ([],[])).1.length
     cases hg:(zsE l)[CD (AH l) n]? with
     |none=>
       have e:(zsE l).getD (CD (AH l) n) ([],[])=([],[]):=by simp[List.getD,hg]
       rw[e]at h1 ⊢
       exact Nat.le_trans h1 (Nat.zero_le _)
     |some z=>rw[Bz hg]at h1 ⊢;have:=(hz z (List.mem_of_getElem? hg)).post.len;omega
   · simp
def skD(x:Ix)(d:Nat)(t:Ts):Int:=lkR x (trD d t) (rrD d t) (cnD x d t)
theorem Acz{x:Ix}{bs:S}(hx:IxP bs x)(d:Nat)(t:Ts)(h:TsB d t)(hd:d≤2):Ae Tryz.prog 11 [tsA t,.sl 1 (Ab bs)] (fun r=>r= .tup [I (skD x d t),I 0]):=by
 have hr:=(V8 d t h hd)
 have hq:=(Xx d t h).1
 have ht:=(SU d t h).1
 have hrl:(rrD d t).length≤2^30:=by rw[← hq];have:=hr.1;(split at this;omega;split at this<;>omega)
 have hcl:=MH hx d t h hd
 have hpb:=AbM hd
 have hc:(cnD x d t).length≤2^30:=Nat.le_trans hcl hpb
 have q:=Agn x bs hx t (trD d t) (rrD d t) (cnD x d t) hc hrl (XX t h) (by rw[← ht];exact Ac7 d t h) (by rw[← hq];exact hr.2 hd) (VY hx d t h hd)
 exact AfD x bs hx t (trD d t) (rrD d t) (cnD x d t) hc hrl (XX t h) q
end Go.Proofs.YtpkhodjlnodagaaGreatDoor
namespace Go.Proofs.YtpkhodjlnodagaaGreatDoor
open Go.Av
set_option maxHeartbeats 4000000
set_option maxRecDepth 10000
def hPS(t:Ts)(e:Ev)(f:Ts→Prop):Prop:=
 (t.op=1→t.text∈Cf (BH e))∧(t.op=4→pfx t.name [64]=false→ ∃ x,DW e.fields t.name=some x∧x.val=t.text)∧
 (t.name=GA→(t.op=9→e.time<t.num)∧(t.op=10→t.num<e.time)∧(t.op=11→e.time=t.num))∧
 (t.op=6→ ∀ k∈t.kids,f k)∧(t.op=7→ ∃ k∈t.kids,f k)
def hP:Nat→Ts→Ev→Prop
 |0,t,e=>hPS t e fun _=>False
 |d+1,t,e=>hPS t e fun k=>hP d k e
def inR(x:Int)(s:Int×Int):Prop:=s.1≤x∧x≤s.2
theorem OQ{x a b:Int}(h:0≤x∧x≤Eg)(h1:a≤x)(h2:x≤b):inR x (nrm a b):=by
 have e1:mxP a 0≤x:=by unfold mxP;split<;>omega
 have e2:x≤mnP b Eg:=by unfold mnP;split<;>omega
 unfold nrm nzP inR
 rw[if_neg (by simp only;omega)]
 exact⟨e1,e2⟩
theorem Ac5{x:Int}{s k:Int×Int}(h:inR x s)(hk:inR x k):inR x (D0 s k):=by
 unfold inR D0 mxP mnP at*
 simp only
 split<;>split<;>omega
theorem UL{x:Int}{f:Ts→Int×Int}: ∀ (ks:List Ts) (s:Int×Int),inR x s→(∀ k∈ks,inR x (f k))→inR x (ks.foldl (fun s k=>D0 s (f k)) s)
 | [],s,h,_=>h
 |k::ks,s,h,hk=>by
   rw[List.foldl_cons]
   exact UL ks _ (Ac5 h (hk k sP)) (fun y hy=>hk y (by simp[hy]))
theorem Afi{x:Int}{s k:Int×Int}(h:inR x s):inR x (orR s k):=by
 unfold inR orR mxP mnP at*
 split
 · exact h
 · split
   · omega
   · simp only;split<;>split<;>omega
theorem AfN{x:Int}{s k:Int×Int}(h:inR x k):inR x (orR s k):=by
 unfold inR orR mxP mnP at*
 split
 · omega
 · split
   · exact h
   · simp only;split<;>split<;>omega
theorem Xu{x:Int}{f:Ts→Int×Int}: ∀ (ks:List Ts) (s:Int×Int),(inR x s∨ ∃ k∈ks,inR x (f k))→inR x (ks.foldl (fun s k=>orR s (f k)) s)
 | [],s,h=>by
   rcases h with h|⟨k,hk,_⟩
   · exact h
   · simp at hk
 |k::ks,s,h=>by
   rw[List.foldl_cons]
   refine Xu ks _ ?_
   rcases h with h|⟨y,hy,h⟩
   · exact .inl (Afi h)
   · rcases List.mem_cons.1 hy with rfl|hy
     · exact .inl (AfN h)
     · exact .inr ⟨y,hy,h⟩
theorem Xd{t:Ts}{e:Ev}(h0:0≤e.time∧e.time≤Eg){g:Ts→Prop}{f:Ts→Int×Int}(h:hPS t e g)(hk: ∀ k∈t.kids,g k→inR e.time (f k)):inR e.time (trS t f):=by
 obtain⟨_,_,h3,h6,h7⟩:=h
 have hw:inR e.time Du:=by unfold inR Du;exact h0
 unfold trS
 split
 · next c=>exact OQ h0 h0.1 (by have:=(h3 c.2).1 c.1;omega)
 · split
   · next c=>exact OQ h0 (by have:=(h3 c.2).2.1 c.1;omega) h0.2
   · split
     · next c=>have:=(h3 c.2).2.2 c.1;exact OQ h0 oM oM
     · split
       · next c=>
         have hk2: ∀ k∈t.kids,inR e.time (f k):=fun k hm=>hk k hm (h6 c k hm)
         have ha:(t.kids.any fun k=>decide ((f k).1>(f k).2))=false:=by
           rw[List.any_eq_false];intro k hm
           have:=hk2 k hm;unfold inR at this;simp;omega
         unfold Abe
         rw[ha,if_neg sP]
         have hi:inR e.time (GD t.kids f t.kids.length):=by unfold GD;rw[List.take_length];exact UL _ _ hw hk2
         exact OQ h0 hi.1 hi.2
       · split
         · next c=>
           obtain⟨k,hm,hg⟩:=h7 c
           unfold VV;rw[List.take_length]
           exact Xu _ _ (.inr ⟨k,hm,hk k hm hg⟩)
         · exact hw
theorem Yz{e:Ev}(h0:0≤e.time∧e.time≤Eg): ∀ (d:Nat) (t:Ts),hP d t e→inR e.time (trD d t)
 |0,t,h=>Xd h0 h (fun _ _ h=>h.elim)
 |d+1,t,h=>Xd h0 h (fun k _ hk=>Yz h0 d k hk)
theorem UK{d:List S}{w:S}(h:DV d w=true):w∈d:=by
 unfold DV at h
 cases hg:d[CD d w]? with
 |none=>rw[hg]at h;cases h
 |some x=>rw[hg]at h;rw[← eq_of_beq h];exact List.mem_of_getElem? hg
theorem Afp{ks:List Ts}{f:Ts→List S}{k:Ts}{w:S}(hk:k∈ks)(h:w∈rrO ks f ks.length):w∈f k:=by
 have go: ∀ i,i≤ks.length→w∈rrO ks f i→ ∀ j,j<i→ ∀ x,ks[j]? =some x→w∈f x:=by
   intro i
   induction i with
   |zero=>intro _ _ j hj;omega
   |succ i ih=>
     intro hi hw j hj x hx
     have hy:=List.getElem?_eq_getElem (l:=ks) (i:=i) oM
     rw[QF f hy]at hw
     split at hw
     · next c=>subst c;obtain rfl:j=0:=by omega
               rw[hy]at hx;cases hx;exact hw
     · have h2:=List.mem_filter.1 hw
       rcases Nat.lt_or_ge j i with h3|h3
       · exact ih oM h2.1 j h3 x hx
       · obtain rfl:j=i:=by omega
         rw[hy]at hx;cases hx;exact UK h2.2
 obtain⟨j,hj,rfl⟩:=List.getElem_of_mem hk
 exact go _ (Nat.le_refl _) h j hj _ (List.getElem?_eq_getElem hj)
theorem X0{t:Ts}{e:Ev}{g:Ts→Prop}{f:Ts→List S}(h:hPS t e g)(hk: ∀ k∈t.kids,g k→ ∀ w∈f k,w∈EJ e): ∀ w∈rrS t f,w∈EJ e:=by
 obtain⟨h1,h4,_,h6,h7⟩:=h
 intro w hw
 unfold rrS at hw
 split at hw
 · next c=>
   rw[List.mem_singleton.1 hw,EJ,Cd,Hc]
   exact List.mem_append.2 (.inl (h1 c))
 · split at hw
   · next c=>
     split at hw
     · simp at hw
     · next c2=>
       obtain⟨x,hx,hv⟩:=h4 c (by simpa using c2)
       rw[List.mem_singleton.1 hw,EJ,Cd,Hc,List.take_length]
       have hm:x∈e.fields:=List.mem_of_find?_eq_some hx
       have hn:x.name=t.name:=by have:=List.find?_some hx;simpa using this
       exact List.mem_append.2 (.inr (List.mem_map.2 ⟨x,hm,by rw[hn,hv]⟩))
   · split at hw
     · next c=>
       rw[Cd,rqA,List.take_length]at hw
       obtain⟨k,hm,hw⟩:=List.mem_flatMap.1 hw
       exact hk k hm (h6 c k hm) w hw
     · split at hw
       · next c=>
         obtain⟨k,hm,hg⟩:=h7 c
         exact hk k hm hg w (Afp hm hw)
       · simp at hw
theorem YM{e:Ev}: ∀ (d:Nat) (t:Ts),hP d t e→ ∀ w∈rrD d t,w∈EJ e
 |0,t,h=>X0 h (fun _ _ h=>h.elim)
 |d+1,t,h=>X0 h (fun k _ hk=>YM d k hk)
abbrev Srt(l:List Int):Prop:=l.Pairwise (· < ·)
theorem Post.srt{l:List Int}(h:Post l):Srt l:=by
 have: ∀ (n i:Nat) (hi:i<l.length) (hj:i+n+1<l.length),l[i]<l[i+n+1]:=by
   intro n
   induction n with
   |zero=>intro i hi hj;exact h.asc i hj
   |succ n ih=>intro i hi hj;exact Int.lt_trans (ih i hi oM) (h.asc (i+n+1) hj)
 unfold Srt;rw[List.pairwise_iff_getElem]
 intro i j hi hj hij
 have:=this (j-i-1) i hi oM
 simpa only[show i+(j-i-1)+1=j by omega] using this
theorem LA{c:Bool}{x z:Int}(h:z∈em c x):z=x:=by unfold em at h;split at h<;>simp at h;exact h
theorem GR(w:Bool→Bool→Bool)(z:Int): ∀ (n:Nat) (a b:List Int),a.length+b.length≤n→z∈mg w a b→z∈a∨z∈b
 |n,[],[],_,h=>by rw[mg]at h;simp at h
 |0,x::a,_,h,_=>by simp at h
 |0,[],y::b,h,_=>by simp at h
 |n+1,x::a,[],hn,h=>by
   rw[mg]at h
   rcases List.mem_append.1 h with h|h
   · exact .inl (by rw[LA h];simp)
   · rcases GR w z n a [] (by simp at hn ⊢;omega) h with h|h<;>simp[h]
 |n+1,[],y::b,hn,h=>by
   rw[mg]at h
   rcases List.mem_append.1 h with h|h
   · exact .inr (by rw[LA h];simp)
   · rcases GR w z n [] b (by simp at hn ⊢;omega) h with h|h<;>simp[h]
 |n+1,x::a,y::b,hn,h=>by
   have i1:=GR w z n a (y::b) (by simp at hn ⊢;omega)
   have i2:=GR w z n (x::a) b (by simp at hn ⊢;omega)
   have i3:=GR w z n a b (by simp at hn ⊢;omega)
   rw[mg]at h
   split at h
   · rcases List.mem_append.1 h with h|h
     · exact .inl (by rw[LA h];simp)
     · rcases i1 h with h|h<;>simp_all
   · split at h
     · rcases List.mem_append.1 h with h|h
       · exact .inr (by rw[LA h];simp)
       · rcases i2 h with h|h<;>simp_all
     · rcases List.mem_append.1 h with h|h
       · exact .inl (by rw[LA h];simp)
       · rcases i3 h with h|h<;>simp_all
theorem LO{c:Bool}{x:Int}{l:List Int}(h:Srt l)(hx: ∀ z∈l,x<z):Srt (em c x++l):=by
 unfold em
 split
 · exact List.pairwise_cons.2 ⟨hx,h⟩
 · exact h
theorem Js(w:Bool→Bool→Bool): ∀ (n:Nat) (a b:List Int),a.length+b.length≤n→Srt a→Srt b→Srt (mg w a b)
 |n,[],[],_,_,_=>by rw[mg];exact List.Pairwise.nil
 |0,x::a,_,h,_,_=>by simp at h
 |0,[],y::b,h,_,_=>by simp at h
 |n+1,x::a,[],hn,ha,hb=>by
   rw[mg]
   have ha':=List.pairwise_cons.1 ha
   refine LO (Js w n a [] (by simp at hn ⊢;omega) ha'.2 hb) fun z hz=>?_
   rcases GR w z _ a [] (Nat.le_refl _) hz with h|h
   · exact ha'.1 z h
   · simp at h
 |n+1,[],y::b,hn,ha,hb=>by
   rw[mg]
   have hb':=List.pairwise_cons.1 hb
   refine LO (Js w n [] b (by simp at hn ⊢;omega) ha hb'.2) fun z hz=>?_
   rcases GR w z _ [] b (Nat.le_refl _) hz with h|h
   · simp at h
   · exact hb'.1 z h
 |n+1,x::a,y::b,hn,ha,hb=>by
   have ha':=List.pairwise_cons.1 ha
   have hb':=List.pairwise_cons.1 hb
   have i1:=Js w n a (y::b) (by simp at hn ⊢;omega) ha'.2 hb
   have i2:=Js w n (x::a) b (by simp at hn ⊢;omega) ha hb'.2
   have i3:=Js w n a b (by simp at hn ⊢;omega) ha'.2 hb'.2
   rw[mg]
   split
   · next c=>
     refine LO i1 fun z hz=>?_
     rcases GR w z _ _ _ (Nat.le_refl _) hz with h|h
     · exact ha'.1 z h
     · rcases List.mem_cons.1 h with rfl|h
       · exact c
       · exact Int.lt_trans c (hb'.1 z h)
   · split
     · next c=>
       refine LO i2 fun z hz=>?_
       rcases GR w z _ _ _ (Nat.le_refl _) hz with h|h
       · rcases List.mem_cons.1 h with rfl|h
         · exact c
         · exact Int.lt_trans c (ha'.1 z h)
       · exact hb'.1 z h
     · next c1 c2=>
       obtain rfl:x=y:=by omega
       refine LO i3 fun z hz=>?_
       rcases GR w z _ _ _ (Nat.le_refl _) hz with h|h
       · exact ha'.1 z h
       · exact hb'.1 z h
theorem OA{z:Int}: ∀ (n:Nat) (a b:List Int),a.length+b.length≤n→Srt a→Srt b→z∈a→z∈b→z∈mgA a b
 |n,[],_,_,_,_,h,_=>by simp at h
 |n,_::_,[],_,_,_,_,h=>by simp at h
 |0,x::a,_,h,_,_,_,_=>by simp at h
 |n+1,x::a,y::b,hn,ha,hb,h1,h2=>by
   have ha':=List.pairwise_cons.1 ha
   have hb':=List.pairwise_cons.1 hb
   unfold mgA
   rw[mg]
   split
   · next c=>
     refine List.mem_append.2 (.inr (OA n a (y::b) (by simp at hn ⊢;omega) ha'.2 hb ?_ h2))
     rcases List.mem_cons.1 h1 with rfl|h1
     · rcases List.mem_cons.1 h2 with h2|h2
       · omega
       · have:=hb'.1 z h2;omega
     · exact h1
   · split
     · next c=>
       refine List.mem_append.2 (.inr (OA n (x::a) b (by simp at hn ⊢;omega) ha hb'.2 h1 ?_))
       rcases List.mem_cons.1 h2 with rfl|h2
       · rcases List.mem_cons.1 h1 with h1|h1
         · omega
         · have:=ha'.1 z h1;omega
       · exact h2
     · next c1 c2=>
       obtain rfl:x=y:=by omega
       rcases List.mem_cons.1 h1 with rfl|h1
       · exact List.mem_append.2 (.inl (by simp[em]))
       · rcases List.mem_cons.1 h2 with rfl|h2
         · exact List.mem_append.2 (.inl (by simp[em]))
         · exact List.mem_append.2 (.inr (OA n a b (by simp at hn ⊢;omega) ha'.2 hb'.2 h1 h2))
theorem Jd{z:Int}: ∀ (n:Nat) (a b:List Int),a.length+b.length≤n→z∈a∨z∈b→z∈mgO a b
 |n,[],[],_,h=>by simp at h
 |0,x::a,_,h,_=>by simp at h
 |0,[],y::b,h,_=>by simp at h
 |n+1,x::a,[],hn,h=>by
   have i1:=Jd (z:=z) n a [] (by simp at hn ⊢;omega)
   unfold mgO at*
   rw[mg]
   rcases h with h|h
   · rcases List.mem_cons.1 h with rfl|h
     · simp[em]
     · exact List.mem_append.2 (.inr (i1 (.inl h)))
   · simp at h
 |n+1,[],y::b,hn,h=>by
   have i1:=Jd (z:=z) n [] b (by simp at hn ⊢;omega)
   unfold mgO at*
   rw[mg]
   rcases h with h|h
   · simp at h
   · rcases List.mem_cons.1 h with rfl|h
     · simp[em]
     · exact List.mem_append.2 (.inr (i1 (.inr h)))
 |n+1,x::a,y::b,hn,h=>by
   have i1:=Jd (z:=z) n a (y::b) (by simp at hn ⊢;omega)
   have i2:=Jd (z:=z) n (x::a) b (by simp at hn ⊢;omega)
   have i3:=Jd (z:=z) n a b (by simp at hn ⊢;omega)
   unfold mgO at*
   rw[mg]
   split
   · rcases h with h|h
     · rcases List.mem_cons.1 h with rfl|h
       · simp[em]
       · exact List.mem_append.2 (.inr (i1 (.inl h)))
     · exact List.mem_append.2 (.inr (i1 (.inr h)))
   · split
     · rcases h with h|h
       · exact List.mem_append.2 (.inr (i2 (.inl h)))
       · rcases List.mem_cons.1 h with rfl|h
         · simp[em]
         · exact List.mem_append.2 (.inr (i2 (.inr h)))
     · next c1 c2=>
       obtain rfl:x=y:=by omega
       rcases h with h|h
       · rcases List.mem_cons.1 h with rfl|h
         · simp[em]
         · exact List.mem_append.2 (.inr (i3 (.inl h)))
       · rcases List.mem_cons.1 h with rfl|h
         · simp[em]
         · exact List.mem_append.2 (.inr (i3 (.inr h)))
theorem SC(w:Bool→Bool→Bool): ∀ (X:List (List Int)) (a:List Int),Srt a→(∀ L∈X,Srt L)→Srt (X.foldl (mg w) a)
 | [],a,h,_=>h
 |b::X,a,h,hX=>by
   rw[List.foldl_cons]
   exact SC w X _ (Js w _ a b (Nat.le_refl _) h (hX b sP)) (fun L hL=>hX L (by simp[hL]))
theorem Qx(w:Bool→Bool→Bool){X:List (List Int)}(h: ∀ L∈X,Srt L):Srt (DN (mg w) X):=by
 cases X with
 |nil=>exact List.Pairwise.nil
 |cons a X=>exact SC w X a (h a sP) (fun L hL=>h L (by simp[hL]))
theorem SL{z:Int}: ∀ (X:List (List Int)) (a:List Int),Srt a→(∀ L∈X,Srt L)→z∈a→(∀ L∈X,z∈L)→z∈X.foldl mgA a
 | [],a,_,_,h,_=>h
 |b::X,a,ha,hX,h,hz=>by
   rw[List.foldl_cons]
   have hb:=hX b sP
   exact SL X _ (Js _ _ a b (Nat.le_refl _) ha hb) (fun L hL=>hX L (by simp[hL])) (OA _ a b (Nat.le_refl _) ha hb h (hz b sP)) (fun L hL=>hz L (by simp[hL]))
theorem YO{z:Int}{X:List (List Int)}(hn:1≤X.length)(h: ∀ L∈X,Srt L)(hz: ∀ L∈X,z∈L):z∈DN mgA X:=by
 cases X with
 |nil=>simp at hn
 |cons a X=>exact SL X a (h a sP) (fun L hL=>h L (by simp[hL])) (hz a sP) (fun L hL=>hz L (by simp[hL]))
theorem SZ{z:Int}: ∀ (X:List (List Int)) (a:List Int),(z∈a∨ ∃ L∈X,z∈L)→z∈X.foldl mgO a
 | [],a,h=>by
   rcases h with h|⟨L,hL,_⟩
   · exact h
   · simp at hL
 |b::X,a,h=>by
   rw[List.foldl_cons]
   refine SZ X _ ?_
   rcases h with h|⟨L,hL,h⟩
   · exact .inl (Jd _ a b (Nat.le_refl _) (.inl h))
   · rcases List.mem_cons.1 hL with rfl|hL
     · exact .inl (Jd _ a _ (Nat.le_refl _) (.inr h))
     · exact .inr ⟨L,hL,h⟩
theorem Xr{z:Int}{X:List (List Int)}(h: ∃ L∈X,z∈L):z∈DN mgO X:=by
 cases X with
 |nil=>obtain⟨L,hL,_⟩:=h;simp at hL
 |cons a X=>
   refine SZ X a ?_
   obtain⟨L,hL,hz⟩:=h
   rcases List.mem_cons.1 hL with rfl|hL
   · exact .inl hz
   · exact .inr ⟨L,hL,hz⟩
theorem Vg: ∀ n,Srt (rgI n)
 |0=>List.Pairwise.nil
 |n+1=>by
   rw[← Ab1,Srt,List.pairwise_append]
   refine⟨Vg n,sP,fun a ha b hb=>?_⟩
   rw[rgI,List.mem_map]at ha
   obtain⟨i,hi,rfl⟩:=ha
   rw[List.mem_singleton.1 hb]
   have:=List.mem_range.1 hi;omega
structure IxE(x:Ix)(e:Ev)(k:Nat):Prop where
 wm: ∀ w∈Cf (BH e),(k:Int)∈x.wf w
 vm: ∀ n f,DW e.fields n=some f→(k:Int)∈x.vf n f.val
 kc:k<x.c
structure IxS(x:Ix):Prop where
 ws: ∀ w,Srt (x.wf w)
 vs: ∀ n w,Srt (x.vf n w)
theorem Ug{x:Ix}(hx:IxS x){t:Ts}{f:Ts→List Int}(h: ∀ k∈t.kids,Srt (f k)):Srt (cnS x t f):=by
 have hm: ∀ L∈t.kids.map f,Srt L:=by
   intro L hL
   obtain⟨k,hk,rfl⟩:=List.mem_map.1 hL
   exact h k hk
 unfold cnS
 split
 · exact hx.ws _
 · split
   · exact hx.vs _ _
   · split
     · exact Qx _ hm
     · split
       · exact Qx _ hm
       · exact Vg _
theorem UQ{x:Ix}(hx:IxS x): ∀ (d:Nat) (t:Ts),Srt (cnD x d t)
 |0,t=>Ug hx (fun _ _=>List.Pairwise.nil)
 |d+1,t=>Ug hx (fun k _=>UQ hx d k)
theorem WB{x:Ix}{e:Ev}{k:Nat}(hx:IxS x)(he:IxE x e k){t:Ts}{g:Ts→Prop}{f:Ts→List Int}(h:hPS t e g)(h6:t.op=6→1≤t.kids.length)(hs: ∀ y∈t.kids,Srt (f y))(hk: ∀ y∈t.kids,g y→(k:Int)∈f y):(k:Int)∈cnS x t f:=by
 have hm: ∀ L∈t.kids.map f,Srt L:=by
   intro L hL
   obtain⟨y,hy,rfl⟩:=List.mem_map.1 hL
   exact hs y hy
 obtain⟨h1,h4,_,ha,ho⟩:=h
 unfold cnS
 split
 · next c=>exact he.wm _ (h1 c)
 · split
   · next c=>
     obtain⟨y,hy,hv⟩:=h4 c.1 c.2
     rw[← hv];exact he.vm _ _ hy
   · split
     · next c=>
       refine YO (by rw[List.length_map];exact h6 c) hm fun L hL=>?_
       obtain⟨y,hy,rfl⟩:=List.mem_map.1 hL
       exact hk y hy (ha c y hy)
     · split
       · next c=>
         obtain⟨y,hy,hg⟩:=ho c
         exact Xr ⟨f y,List.mem_map.2 ⟨y,hy,rfl⟩,hk y hy hg⟩
       · rw[rgI,List.mem_map]
         exact⟨k,List.mem_range.2 he.kc,rfl⟩
theorem Xq{x:Ix}{e:Ev}{k:Nat}(hx:IxS x)(he:IxE x e k): ∀ (d:Nat) (t:Ts),TsB d t→hP d t e→(k:Int)∈cnD x d t
 |0,t,ht,h=>WB hx he h (fun c=>absurd c ht.2.2.1.2) (fun _ _=>List.Pairwise.nil) (fun _ _ h=>h.elim)
 |d+1,t,ht,h=>WB hx he h ht.2.2.1.2 (fun y _=>UQ hx d y) (fun y hy hg=>Xq hx he d y (ht.2.2.2.2.2 y hy) hg)
theorem Od{Y:List (List Int)}{p q:Nat}{i z:Int}(h:z∈Y.getD q []):z∈(Fv Y p i).getD q []:=by
 unfold Fv
 by_cases hq:q<Y.length
 · by_cases hp:p=q
   · subst hp;simp[List.getD,hq]at h ⊢;exact .inl h
   · simpa [List.getD,List.getElem?_set_ne hp] using h
 · simp[List.getD,List.getElem?_eq_none (Nat.le_of_not_lt hq)]at h
theorem Xv{Y:List (List Int)}{p:Nat}{i:Int}(h:p<Y.length):i∈(Fv Y p i).getD p []:=by
 unfold Fv;simp[List.getD,h]
theorem UP{d ws:List S}{i:Nat}{X:List (List Int)}{q:Nat}{z:Int}(h:z∈X.getD q []): ∀ k,z∈(EE d ws i X k).getD q []
 |0=>h
 |k+1=>by rw[EE];exact Od (UP h k)
theorem Yp{d ws:List S}{i:Nat}{X:List (List Int)}{j p:Nat}(hp:p<X.length)(hj:CD d (ws.getD j [])=p): ∀ k,j<k→(i:Int)∈(EE d ws i X k).getD p []
 |0,h=>by omega
 |k+1,h=>by
   rw[EE]
   rcases Nat.lt_or_ge j k with h1|h1
   · exact Od (Yp hp hj k h1)
   · obtain rfl:j=k:=by omega
     rw[hj];exact Xv (by rw[Jj];exact hp)
theorem AbT{d:List S}{l:List Ev}{k:Nat}{e:Ev}{w:S}(hd:d.Pairwise ltS)(hk:l[k]? =some e)(hw:w∈Cf (BH e))(hm:w∈d): ∀ n,k<n→(k:Int)∈(CN d l n).getD (CD d w) []
 |0,h=>by omega
 |n+1,h=>by
   rw[CN]
   rcases Nat.lt_or_ge k n with h1|h1
   · exact UP (AbT hd hk hw hm n h1) _
   · obtain rfl:k=n:=by omega
     have e1:l.getD k ⟨0,0,0,0,[],0,0,[],[],[]⟩=e:=by simp[List.getD,hk]
     rw[e1]
     obtain⟨j,hj,rfl⟩:=List.getElem_of_mem hw
     have:=(Fa d _ hd hm).2
     exact Yp (j:=j) (by rw[Hg];exact this) (by simp[List.getD,hj]) _ hj
theorem VE{z:Zt}{w:S}{j:Nat}(hj:z.2[j]? =some w): ∀ m,j<m→z.1.getD j 0∈Ez z w m
 |0,h=>by omega
 |m+1,h=>by
   rw[Ez]
   rcases Nat.lt_or_ge j m with h1|h1
   · split
     · exact List.mem_append.2 (.inl (VE hj m h1))
     · exact VE hj m h1
   · obtain rfl:j=m:=by omega
     rw[if_pos hj];simp
theorem AbD{l:List Ev}{n:S}{k:Nat}{e:Ev}{f:Fl}(hk:l[k]? =some e)(hf:DW e.fields n=some f): ∀ m,k<m→ ∃ j:Nat,(Bn l n m).1[j]? =some (k:Int)∧(Bn l n m).2[j]? =some f.val
 |0,h=>by omega
 |m+1,h=>by
   rcases Nat.lt_or_ge k m with h1|h1
   · obtain⟨j,j1,j2⟩:=AbD hk hf m h1
     have b1:=(List.getElem?_eq_some_iff.1 j1).1
     have b2:=(List.getElem?_eq_some_iff.1 j2).1
     refine⟨j,?_⟩
     unfold Bn
     split
     · split
       · exact⟨by rw[List.getElem?_append_left b1];exact j1,by rw[List.getElem?_append_left b2];exact j2⟩
       · exact⟨j1,j2⟩
     · exact⟨j1,j2⟩
   · obtain rfl:k=m:=by omega
     have he:=PD l n k
     refine⟨(Bn l n k).1.length,?_⟩
     rw[Bn,hk]
     simp only[hf]
     exact⟨sP,by rw[he];simp⟩
theorem PE{z:Zt}{w:S}: ∀ (m:Nat),∀ y∈Ez z w m,∃ j,j<m∧y=z.1.getD j 0
 |0,y,h=>by simp[Ez]at h
 |m+1,y,h=>by
   rw[Ez]at h
   split at h
   · rcases List.mem_append.1 h with h|h
     · obtain⟨j,hj,e⟩:=PE m y h;exact⟨j,oM,e⟩
     · exact⟨m,oM,List.mem_singleton.1 h⟩
   · obtain⟨j,hj,e⟩:=PE m y h;exact⟨j,oM,e⟩
theorem RZ{z:Zt}{w:S}(h:Srt z.1): ∀ m,m≤z.1.length→Srt (Ez z w m)
 |0,_=>List.Pairwise.nil
 |m+1,hm=>by
   rw[Ez]
   split
   · rw[Srt,List.pairwise_append]
     refine⟨RZ h m oM,sP,fun a ha b hb=>?_⟩
     obtain⟨j,hj,rfl⟩:=PE m a ha
     rw[List.mem_singleton.1 hb]
     have:=List.pairwise_iff_getElem.1 h j m oM oM hj
     simpa [List.getD,show j<z.1.length by omega,show m<z.1.length by omega] using this
   · exact RZ h m oM
theorem ix_S{l:List Ev}(h:SegG l):IxS (ixE l):=by
 have hl:=h.len
 refine⟨fun w=>?_,fun n w=>?_⟩
 · show Srt (K5 _ _ w)
   unfold K5
   split
   · have hpx:=J2 (AR l) l oM (BO _) (fun e he w hw=>(Cd _ _).2 (by unfold Fc;rw[List.take_length];exact List.mem_flatMap.2 ⟨e,he,hw⟩))
     cases hg:(CN (AR l) l l.length)[CD (AR l) w]? with
     |none=>simp[List.getD,hg]
     |some L=>rw[Bz hg];exact(hpx L (List.mem_of_getElem? hg)).srt
   · exact List.Pairwise.nil
 · show Srt (K9 _ _ n w)
   unfold K9
   split
   · refine RZ ?_ _ (Nat.le_refl _)
     cases hg:(zsE l)[CD (AH l) n]? with
     |none=>simp[List.getD,hg]
     |some z=>
       rw[Bz hg]
       obtain⟨m,_,rfl⟩:=List.mem_map.1 (List.mem_of_getElem? hg)
       exact(Iu l m oM).srt
   · exact List.Pairwise.nil
theorem ix_E{l:List Ev}(h:SegG l){k:Nat}{e:Ev}(hk:l[k]? =some e):IxE (ixE l) e k:=by
 have hl:=h.len
 have hkl:=(List.getElem?_eq_some_iff.1 hk).1
 have hem:=List.mem_of_getElem? hk
 refine⟨fun w hw=>?_,fun n f hf=>?_,hkl⟩
 · show(k:Int)∈K5 _ _ w
   have hm:w∈AR l:=(Cd _ _).2 (by unfold Fc;rw[List.take_length];exact List.mem_flatMap.2 ⟨e,hem,hw⟩)
   have hd:(AR l).Pairwise ltS:=BO _
   rw[K5,if_pos ((Jr hd).2 hm)]
   exact AbT hd hk hw hm _ hkl
 · show(k:Int)∈K9 _ _ n f.val
   have hfm:f∈e.fields:=List.mem_of_find?_eq_some hf
   have hfn:f.name=n:=by have:=List.find?_some hf;simpa using this
   have hm:n∈AH l:=(Cd _ _).2 (by unfold Fy;rw[List.take_length];exact List.mem_flatMap.2 ⟨e,hem,List.mem_map.2 ⟨f,hfm,hfn⟩⟩)
   have hd:(AH l).Pairwise ltS:=BO _
   have hg:=(Fa (AH l) n hd hm).1
   have hz:(zsE l).getD (CD (AH l) n) ([],[])=Bn l n l.length:=by simp[List.getD,zsE,hg]
   rw[K9,if_pos ((Jr hd).2 hm),hz]
   obtain⟨j,j1,j2⟩:=AbD hk hf l.length hkl
   have hb:=(List.getElem?_eq_some_iff.1 j1).1
   have:=VE (z:=Bn l n l.length) j2 _ hb
   rwa [show(Bn l n l.length).1.getD j 0=(k:Int) by simp[List.getD,j1]]at this
theorem NE{b:List Int}(h:W64 b)(q:Nat):Gi b q=(b.getD (q / 64) 0).toNat.testBit (q%64):=by
 have hc:0≤b.getD (q / 64) 0∧b.getD (q / 64) 0<18446744073709551616:=by
   cases hg:b[q / 64]? with
   |none=>simp[List.getD,hg]
   |some c=>rw[Bz hg];exact h c (List.mem_of_getElem? hg)
 unfold Gi
 generalize b.getD (q / 64) 0=c at*
 obtain⟨m,rfl⟩: ∃ m:Nat,c=(m:Int):=⟨c.toNat,oM⟩
 have hr:q%64<64:=Nat.mod_lt _ dC
 have e2:(m:Int).fdiv (2^min (q%64) 64)=((m / 2^(q%64):Nat):Int):=fdM m (q%64) 64 oM
 rw[e2,Int.toNat_natCast,Nat.testBit_eq_decide_div_mod_eq]
 have hm:m / 2^(q%64)<2^64:=Nat.lt_of_le_of_lt (Nat.div_le_self _ _) oM
 generalize m / 2^(q%64)=y at*
 have e3:AP .and .u64 (y:Int) 1=((y%2:Nat):Int):=by
   simp only[AP]
   have e:IntKind.u64.bits=64:=rfl
   have e1:(1:Int)=((1:Nat):Int):=rfl
   rw[BitVec.toNat_and,e1,BitVec.ofInt_natCast,BitVec.ofInt_natCast,BitVec.toNat_ofNat,BitVec.toNat_ofNat,e,Nat.mod_eq_of_lt hm,Nat.mod_eq_of_lt dC,Nat.and_one_is_mod]
   exact IntWalk.u64_in _ oM
 rw[e3]
 rcases Nat.mod_two_eq_zero_or_one y with h0|h0<;>rw[h0]<;>rfl
theorem T8{c:Int}(h:0≤c∧c<18446744073709551616)(p:Nat):(orP (p:Int) c).toNat=c.toNat ||| 2^(p%64):=by
 obtain⟨m,rfl⟩: ∃ m:Nat,c=(m:Int):=⟨c.toNat,oM⟩
 have hr:p%64<64:=Nat.mod_lt _ dC
 have hp:(2:Nat)^(p%64)<2^64:=Nat.pow_lt_pow_right dC hr
 have e1:((p:Int)%64).toNat=p%64:=by omega
 have e2:IntKind.u64.wrap (1*2^min ((p:Int)%64).toNat 64)=((2^(p%64):Nat):Int):=by
   rw[e1,Nat.min_eq_left oM,Int.one_mul,show((2:Int)^(p%64))=((2^(p%64):Nat):Int) by simp]
   generalize (2:Nat)^(p%64)=y at*
   exact IntWalk.u64_in _ oM
 unfold orP
 rw[e2,AbZ m _ oM hp]
 rfl
theorem WG{b:List Int}(hb:W64 b)(p q:Nat)(h:Gi b q=true):Gi (F9 b p) q=true:=by
 rw[NE hb]at h
 rw[NE (Oo _ hb)]
 unfold F9
 by_cases e:((p:Int) / 64).toNat=q / 64
 · by_cases hq:q / 64<b.length
   · have hc:0≤b.getD (q / 64) 0∧b.getD (q / 64) 0<18446744073709551616:=by
       rw[Bz (List.getElem?_eq_getElem hq)];exact hb _ (List.getElem_mem hq)
     rw[e,show(b.set (q / 64) (orP p (b.getD (q / 64) 0))).getD (q / 64) 0=orP p (b.getD (q / 64) 0) by simp[List.getD,hq],T8 hc,Nat.testBit_or,h];rfl
   · simp[List.getD,List.getElem?_eq_none (Nat.le_of_not_lt hq)]at h
 · rw[show(b.set ((p:Int) / 64).toNat (orP p (b.getD ((p:Int) / 64).toNat 0))).getD (q / 64) 0=b.getD (q / 64) 0 by simp[List.getD,List.getElem?_set_ne e]];exact h
theorem AaS{b:List Int}(hb:W64 b)(p:Nat)(h:p / 64<b.length):Gi (F9 b p) p=true:=by
 rw[NE (Oo _ hb)]
 have e:((p:Int) / 64).toNat=p / 64:=by omega
 have hc:0≤b.getD (p / 64) 0∧b.getD (p / 64) 0<18446744073709551616:=by
   rw[Bz (List.getElem?_eq_getElem h)];exact hb _ (List.getElem_mem h)
 unfold F9
 rw[e,show(b.set (p / 64) (orP p (b.getD (p / 64) 0))).getD (p / 64) 0=orP p (b.getD (p / 64) 0) by simp[List.getD,h],T8 hc,Nat.testBit_or,Nat.testBit_two_pow_self]
 simp
theorem LJ{q:Nat}: ∀ (L:List Int) (b:List Int),W64 b→(∀ p∈L,0≤p∧p<(64*b.length:Nat))→(Gi b q=true∨(q:Int)∈L)→Gi (L.foldl F9 b) q=true
 | [],b,_,_,h=>by
   rcases h with h|h
   · exact h
   · simp at h
 |p::L,b,hb,hL,h=>by
   rw[List.foldl_cons]
   have hp:=hL p sP
   obtain⟨n,rfl⟩: ∃ n:Nat,p=(n:Int):=⟨p.toNat,oM⟩
   refine LJ L _ (Oo _ hb) (fun y hy=>by rw[Sv];exact hL y (by simp[hy])) ?_
   rcases h with h|h
   · exact .inl (WG hb n q h)
   · rcases List.mem_cons.1 h with h|h
     · obtain rfl:q=n:=by omega
       exact .inl (AaS hb q oM)
     · exact .inr h
theorem Qu{m:Nat}{w:S}{q:Nat}(hq:(q:Int)∈psL w m 3): ∀ (ts:List S) (b:List Int),W64 b→m=64*b.length→0<m→(Gi b q=true∨w∈ts)→Gi (ts.foldl (Ns m) b) q=true
 | [],b,_,_,_,h=>by
   rcases h with h|h
   · exact h
   · simp at h
 |x::ts,b,hb,hm,h0,h=>by
   rw[List.foldl_cons]
   have hr: ∀ p∈psL x m 3,0≤p∧p<(64*b.length:Nat):=fun p hp=>by rw[← hm];exact MK x m 3 h0 p hp
   refine Qu hq ts _ (Pv _ _ hb) (by rw[S4];exact hm) h0 ?_
   rcases h with h|h
   · exact .inl (LJ _ b hb hr (.inl h))
   · rcases List.mem_cons.1 h with rfl|h
     · exact .inl (LJ _ b hb hr (.inr hq))
     · exact .inr h
theorem Ad5{l:List Ev}{e:Ev}(he:e∈l){w:S}(hw:w∈EJ e):NG (FT l) w=true:=by
 obtain⟨f1,f2⟩:=JH l
 unfold NG
 rw[Bool.not_eq_true',List.any_eq_false]
 intro p hp
 have hr:=MK w (64*(FT l).length) 3 oM p hp
 obtain⟨q,rfl⟩: ∃ q:Nat,p=(q:Int):=⟨p.toNat,oM⟩
 have hlen:=Mo l
 have hwm:w∈Bg (Et l l.length):=(Cd _ _).2 (by unfold Et;rw[List.take_length];exact List.mem_flatMap.2 ⟨e,he,hw⟩)
 have:Gi (FT l) q=true:=by
   rw[hlen]at hp f1
   unfold FT E1
   rw[List.take_length]
   refine Qu hp _ _ (fun c hc=>by rw[(List.mem_replicate.1 hc).2];exact⟨oM,oM⟩) (by rw[List.length_replicate,Nat.mul_div_cancel_left _ dC]) oM (.inr hwm)
 rw[Int.toNat_natCast,this];simp
theorem UM{l:List Ev}(h:SegG l){i j:Nat}(hij:i≤j)(hj:j<l.length):CW l i≤CW l j:=by
 rcases Nat.eq_or_lt_of_le hij with h1|h1
 · rw[← h1];exact Nat.le_refl _
 · have hlt:B7 (l[i]'oM) (l[j]'hj)=true:=List.pairwise_iff_getElem.1 h.asc i j oM hj h1
   have ha:=(h.ev _ (List.getElem_mem (show i<l.length by omega))).time
   have hb:=(h.ev _ (List.getElem_mem hj)).time
   have hle:(l[i]'oM).time≤(l[j]'hj).time:=by
     unfold B7 at hlt
     split at hlt
     · have:=of_decide_eq_true hlt;omega
     · rename_i h2;have:=Decidable.of_not_not h2;omega
   unfold CW
   rw[List.getElem?_eq_getElem (show i<l.length by omega),List.getElem?_eq_getElem hj]
   simp only
   omega
theorem Aav{l:List Ev}(h:SegG l){k:Nat}{e:Ev}(hk:l[k]? =some e)(d:Nat)(t:Ts)(ht:TsB d t)(hp:hP d t e):skD (ixE l) d t=0∧(k:Int)∈cnD (ixE l) d t:=by
 have hkl:=(List.getElem?_eq_some_iff.1 hk).1
 have hem:=List.mem_of_getElem? hk
 have htm:=(h.ev e hem).time
 have hc:=Xq (ix_S h) (ix_E h hk) d t ht hp
 refine⟨?_,hc⟩
 have hi:=Yz (e:=e) (by unfold Eg;exact htm) d t hp
 have hr:=YM d t hp
 have e1:CW l k=e.time.toNat:=by simp[CW,hk]
 have h1:=UM h (Nat.zero_le k) hkl
 have h2:=UM h (show k≤l.length-1 by omega) oM
 unfold inR at hi
 have hna:((rrD d t).any fun w=>!((ixE l).mf w))=false:=by
   rw[List.any_eq_false];intro w hw
   have:(ixE l).mf w=true:=Ad5 hem (hr w hw)
   simp[this]
 refine(Abz ?_ hna ?_).1
 · show ¬ (l.length=0∨(trD d t).1>(trD d t).2∨(trD d t).1>(CW l (l.length-1):Nat)∨(trD d t).2<(CW l 0:Nat))
   omega
 · intro hn;rw[hn]at hc;simp at hc
end Go.Proofs.YtpkhodjlnodagaaGreatDoor
namespace Go.Proofs.YtpkhodjlnodagaaGreatDoor
open Go.Av
set_option maxHeartbeats 4000000
set_option maxRecDepth 10000
attribute [local irreducible] XH XO Ae Ad AU
def Ek:Nat→Nat→S→S
 |0,_,out=>out
 |f+1,u,out=>if u / 10=0 then UInt8.ofNat (48+u%10)::out else Ek f (u / 10) (UInt8.ofNat (48+u%10)::out)
def Lh(n:Int):Nat:=(if n<0 then IntKind.u64.wrap (0-IntKind.u64.wrap n)else IntKind.u64.wrap n).toNat
def IE(n:Int):S:=if n<0 then 45::Ek 20 (Lh n) []else Ek 20 (Lh n) []
theorem AeH(u:Nat):(u:Int).tmod 10=((u%10:Nat):Int):=by rw[Int.tmod_eq_emod_of_nonneg oM];omega
theorem Afs(u:Nat):(u:Int).tdiv 10=((u / 10:Nat):Int):=by rw[Int.tdiv_eq_ediv_of_nonneg oM];omega
theorem Aa3{f u:Nat}{out x:S}(h:Ek f u out=x)(h1:1≤f)(h2:u<10^f)(h3:u / 10≠0):Ek (f-1) (u / 10) (UInt8.ofNat (48+u%10)::out)=x∧1≤f-1∧u / 10<10^(f-1):=by
 obtain⟨g,rfl⟩: ∃ g,f=g+1:=⟨f-1,oM⟩
 simp only[Ek,if_neg h3]at h
 have h4:u / 10<10^g:=by rw[Nat.div_lt_iff_lt_mul oM];rw[Nat.pow_succ]at h2;exact h2
 refine⟨h,?_,h4⟩
 rcases Nat.eq_zero_or_pos g with h0|h0
 · subst h0;simp at h4;omega
 · omega
theorem AcH{f u:Nat}{out x:S}(h:Ek f u out=x)(h1:1≤f)(h3:u / 10=0):UInt8.ofNat (48+u%10)::out=x:=by
 obtain⟨g,rfl⟩: ∃ g,f=g+1:=⟨f-1,oM⟩
 simpa only[Ek,if_pos h3] using h
theorem Zg(d:UInt8)(l:S):Ab (d::l)=[AV.val (Value.int IntKind.u8 d.toNat)]::Ab l:=rfl
theorem J3(u:Nat):(UInt8.ofNat (48+u%10)).toNat=48+u%10:=by
 simp[UInt8.toNat_ofNat'];omega
theorem digE(u:Nat): ∃ d:UInt8,UInt8.ofNat (48+u%10)=d∧(d.toNat:Int)=48+((u%10:Nat):Int):=⟨_,rfl,by have:=J3 u;omega⟩
theorem P8: ∀ (f u:Nat) (out:S),(Ek f u out).length≤f+out.length
 |0,_,out=>by simp[Ek]
 |f+1,u,out=>by
   simp only[Ek]
   split
   · simp;omega
   · have:=P8 f (u / 10) (UInt8.ofNat (48+u%10)::out)
     simp only[List.length_cons]at this;omega
theorem KR(n:Int):(IE n).length≤2^20:=by
 have:=P8 20 (Lh n) []
 unfold IE
 split<;>simp at this ⊢ <;>omega
def Km(s:S):Prop:= ∀ c∈s,48≤c.toNat∧c.toNat≤57
def nuG(v:Nat)(c:UInt8):Nat:=10*v+(c.toNat-48)
def nuT(s:S)(i:Nat):Nat:=(s.take i).foldl nuG 0
theorem AbF{s:S}{i:Nat}{x:UInt8}(h:s[i]? =some x):nuT s (i+1)=nuG (nuT s i) x:=OB _ _ h
theorem WH{s:S}(h:Km s): ∀ i,i≤s.length→nuT s i<10^i
 |0,_=>by simp[nuT]
 |i+1,hi=>by
   have ih:=WH h i oM
   have hx:=List.getElem?_eq_getElem (l:=s) (i:=i) oM
   have hd:=h _ (List.getElem_mem (show i<s.length by omega))
   rw[AbF hx,nuG,Nat.pow_succ];omega
theorem Acl{s:S}{i:Nat}{x:UInt8}{v:Int}(h:Km s)(hx:s[i]? =some x)(hv:v=nuT s i)(hl:s.length≤18):IntKind.i64.wrap (IntKind.i64.wrap (10*v)+IntKind.i64.wrap (IntKind.u8.wrap ((x.toNat:Int)-48)))=(nuT s (i+1):Nat):=by
 have hi:=(List.getElem?_eq_some_iff.1 hx).1
 have hd:=h x (List.mem_of_getElem? hx)
 have h1:=WH h i oM
 have h2:(10:Nat)^i≤10^17:=Nat.pow_le_pow_right dC oM
 have h3:nuT s i<10^17:=Nat.lt_of_lt_of_le h1 h2
 have e1:IntKind.u8.wrap ((x.toNat:Int)-48)=(x.toNat:Int)-48:=IntWalk.u8_in _ oM
 rw[e1,hv,Ar (n:=10*(nuT s i:Int)) oM,Ar (n:=(x.toNat:Int)-48) oM,Ar oM,AbF hx,nuG]
 omega
theorem P9: ∀ (f u:Nat) (out:S),u<10^f→1≤f→Km out→Km (Ek f u out)∧(Ek f u out).foldl nuG 0=out.foldl nuG u
 |0,_,_,_,h,_=>by omega
 |f+1,u,out,hu,_,ho=>by
   have hd:Km (UInt8.ofNat (48+u%10)::out):=by
     intro c hc
     rcases List.mem_cons.1 hc with rfl|hc
     · rw[J3];omega
     · exact ho c hc
   rw[Ek]
   split
   · refine⟨hd,?_⟩
     rw[List.foldl_cons,nuG,J3]
     congr 1;omega
   · next h3=>
     have h4:u / 10<10^f:=by rw[Nat.div_lt_iff_lt_mul oM];rw[Nat.pow_succ]at hu;exact hu
     have h5:1≤f:=by
       rcases Nat.eq_zero_or_pos f with h0|h0
       · subst h0;simp at h4;omega
       · exact h0
     obtain⟨i1,i2⟩:=P9 f (u / 10) _ h4 h5 hd
     refine⟨i1,?_⟩
     rw[i2,List.foldl_cons,nuG,J3]
     congr 1;omega
theorem O3: ∀ (f k u:Nat) (out:S),u<10^k→1≤k→k≤f→1+out.length≤(Ek f u out).length∧(Ek f u out).length≤k+out.length
 |0,k,_,_,_,h1,h2=>by omega
 |f+1,k,u,out,hu,h1,h2=>by
   rw[Ek]
   split
   · simp;omega
   · next h3=>
     obtain⟨g,rfl⟩: ∃ g,k=g+1:=⟨k-1,oM⟩
     have h4:u / 10<10^g:=by rw[Nat.div_lt_iff_lt_mul oM];rw[Nat.pow_succ]at hu;exact hu
     have h5:1≤g:=by
       rcases Nat.eq_zero_or_pos g with h0|h0
       · subst h0;simp at h4;omega
       · exact h0
     have:=O3 f g (u / 10) (UInt8.ofNat (48+u%10)::out) h4 h5 oM
     simp only[List.length_cons]at this;omega
theorem Zk{n:Int}(h:0≤n∧n≤253402300799999):Km (IE n)∧(1≤(IE n).length∧(IE n).length≤18)∧(nuT (IE n) (IE n).length:Int)=n:=by
 have e:Lh n=n.toNat:=by
   unfold Lh
   rw[if_neg oM]
   congr 1
   exact IntWalk.u64_in _ oM
 have hu:n.toNat<10^20:=by
   have:n.toNat<10^15:=by omega
   exact Nat.lt_of_lt_of_le this (Nat.pow_le_pow_right dC dC)
 unfold IE
 rw[if_neg oM,e]
 obtain⟨h1,h2⟩:=P9 20 n.toNat [] hu dC (by intro c hc;simp at hc)
 have h3:=O3 20 15 n.toNat [] oM dC dC
 simp only[List.length_nil]at h3
 refine⟨h1,oM,?_⟩
 rw[nuT,List.take_length,h2]
 simp only[List.foldl_nil];omega
theorem J1(n:Int):Ae Tryz.prog 94 [I n] (fun r=>r=str (IE n)):=by
 obtain⟨u1,hu1⟩: ∃ u1:Nat,(u1:Int)=IntKind.u64.wrap n:=⟨(IntKind.u64.wrap n).toNat,Int.toNat_of_nonneg (Fb n).1⟩
 obtain⟨u2,hu2⟩: ∃ u2:Nat,(u2:Int)=IntKind.u64.wrap (0-IntKind.u64.wrap n):=⟨_,Int.toNat_of_nonneg (Fb _).1⟩
 have hr1:=(Fb n).2
 have hr2:=(Fb (0-IntKind.u64.wrap n)).2
 rw[← hu1]at hr1 hu2
 rw[← hu1,← hu2]at hr2
 have hx:=hu1.symm
 have hx2:=hu2.symm
 have hd:Lh n=if n<0 then u2 else u1:=by unfold Lh;rw[hx,hx2];split<;>simp
 refine Ax 29 Tryz.func94 ?_
 refine Aa 0 [0] ?_
 refine A4 1 [0,3] ?_
 refine Aa 2 [0,3,8] ?_
 refine AC 8 (fun c8=>?_) (fun c8=>?_)
 refine A4 3 [0,3] ?_
 any_goals(refine Aa 4 [0,3,4] ?_;(first|(have hn:n<0:=c8;rw[if_pos hn]at hd)|(have hn: ¬ n<0:=c8;rw[if_neg hn]at hd));(first|refine A8 1 (fun s:Nat×S=>⟨[(0,I n),(3,.val (.int .u64 (s.1:Nat))),(4,.osl 0 s.2.length 1)],[(0,some ⟨5,1,Ab s.2⟩)]⟩) (fun s=> ∃ f,Ek f s.1 s.2=Ek 20 (Lh n) []∧s.1<10^f∧f+s.2.length=20∧s.1<2^64∧1≤f) (fun s=>s.1) (u1,[]) (E7 [none] []) ?_ (h0:=⟨20,by rw[hd],by simp only;omega,rfl,by simp only;omega,oM⟩)|refine A8 1 (fun s:Nat×S=>⟨[(0,I n),(3,.val (.int .u64 (s.1:Nat))),(4,.osl 0 s.2.length 1)],[(0,some ⟨5,1,Ab s.2⟩)]⟩) (fun s=> ∃ f,Ek f s.1 s.2=Ek 20 (Lh n) []∧s.1<10^f∧f+s.2.length=20∧s.1<2^64∧1≤f) (fun s=>s.1) (u2,[]) (E7 [none] []) ?_ (h0:=⟨20,by rw[hd],by simp only;omega,rfl,by simp only;omega,oM⟩));rintro⟨u,out⟩ hI0 Y0 hY0;obtain⟨f,hf1,hf2,hf3,hf4,hf5⟩:=hI0;simp only at hf1 hf2 hf3 hf4;obtain⟨d,hd0,hdg⟩:=digE u;have hx:=AeH u;have hx2:=Afs u;refine A4 5 [0,3,4] ?_;refine XW.at 6 ?_;have he:[AV.val (Value.int IntKind.u8 (48+((u%10:Nat):Int)))]::Ab out=Ab (d::out):=(by rw[Zg,hdg]);rw[he];refine A4 6 [0,3,4] ?_;refine A4 7 [0,3,4,21] ?_;refine AC 21 (fun c21=>?_) (fun c21=>?_))
 any_goals(refine XH.le ?_;(have h3:u / 10≠0:=oM;obtain⟨e1,e2,e3⟩:=Aa3 hf1 hf5 hf2 h3;rw[hd0]at e1);exact hY0 (u / 10,d::out) ((by exact⟨f-1,e1,e3,by simp only[List.length_cons];omega,by simp only;omega,e2⟩)) (by first|omega|(simp;done)|(simp;omega)) _ _ (AO @List.length_cons.{0} [some 0] []))
 any_goals(refine XW.at 8 ?_;have h5:=AcH hf1 hf5 oM;rw[hd0]at h5;have h6:=congrArg List.length h5;rw[List.length_cons]at h6;rw[h5];refine Aa 8 [4,23] ?_;refine AC 23 (fun c23=>?_) (fun c23=>?_))
 any_goals(exfalso;omega)
 refine Aa 9 [4] ?_
 any_goals((refine XW.at 10 ?_;first|(have he2: ∀ x,[AV.val (Value.int IntKind.u8 45)]::Ab x=Ab (45::x):=fun _=>rfl;rw[he2])|skip);refine AQ 10 [2] ?_;(refine Aq ?_;first|(exact Bi (by simp only[IE];rw[if_pos c23]))|(exact Bi (by simp only[IE];rw[if_neg c23]))))
theorem Y8(c:Int):Ae Tryz.prog 203 [.val (.int .u8 c)] (fun r=> ∃ b,r=B b∧(48≤c→c≤57→b=true)):=by
 refine Ax 9 Tryz.func203 ?_
 refine Aa 0 [0] ?_
 refine Ah 1 ?_
 refine Ac 3 ?_
 refine Cn 5 (fun g5=>?_) (fun g5=>?_)
 any_goals(refine Ac 4 ?_;refine XO.done [2] ?_;(refine Aq ?_;first|(exact Bi ⟨_,rfl,fun _ h2=>decide_eq_true h2⟩)|(exact Bi ⟨_,rfl,fun h1 _=>absurd h1 g5⟩)))
theorem Ahn(fs:List Fl)(n:S)(h1:fs.length≤32)(h2: ∀ f∈fs,f.val.length≤2000):Ae Tryz.prog 95 [.sl 2 (flE fs),str n] (fun r=> ∃ (v:S) (b:Bool),r= .tup [str v,B b]∧v.length≤2^20∧(b=true→ ∃ f,DW fs n=some f∧f.val=v)):=by
 have h:=Abr fs n oM
 have hg: ∃ (v:S) (b:Bool),L4 fs n= .tup [str v,B b]∧v.length≤2^20∧(b=true→ ∃ f,DW fs n=some f∧f.val=v):=by
   unfold L4
   cases hf:DW fs n with
   |none=>exact⟨_,_,rfl,sP,fun h=>by cases h⟩
   |some f=>exact⟨_,_,rfl,by have:=h2 f (List.mem_of_find?_eq_some hf);omega,fun _=>⟨f,rfl,rfl⟩⟩
 obtain⟨v,b,e,hv⟩:=hg
 exact Ae.mk _ ⟨v,b,e,hv⟩ (by rw[e];rfl) h
def VR(e:Ev)(nm:S):AV→Prop:=fun r=> ∃ (v:S) (b:Bool),r= .tup [str v,B b]∧v.length≤2^20∧(nm=GA→b=true∧v=IE e.time)∧(pfx nm [64]=false→b=true→ ∃ f,DW e.fields nm=some f∧f.val=v)
theorem Sh{nm l:S}{p:Prop}{q:Prop}(h:(nm==l)=true)(h1:l≠GA)(h2:pfx l [64]=true):(nm=GA→p)∧(pfx nm [64]=false→q):=by
 have e:=eq_of_beq h
 exact⟨fun h3=>absurd (e.symm.trans h3) h1,fun h3=>by rw[e,h2]at h3;cases h3⟩
theorem Ab6(n:Int):BE (IntKind.i64.wrap n):=by
 have e1:((2:Int)^IntKind.i64.bits)=18446744073709551616:=by decide
 have e2:IntKind.i64.signed=true:=rfl
 have e3:((2:Int)^(IntKind.i64.bits-1))=9223372036854775808:=by decide
 unfold BE IntKind.wrap
 simp only[e1,e2,e3,Bool.true_and,ge_iff_le,decide_eq_true_eq]
 split<;>omega
theorem QU:BE 0:=by unfold BE;omega
def NR(s:S):AV→Prop:=fun r=> ∃ (n:Int) (b:Bool),r= .tup [I n,B b]∧BE n∧(Km s→1≤s.length→s.length≤18→b=true∧n=(nuT s s.length:Nat))
theorem UY(e:Ev)(h:EvG e)(nm:S):Ae Tryz.prog 48 [.agg (evC e),str nm] (VR e nm):=by
 refine Ax 41 Tryz.func48 ?_
 refine Aa 0 [1,2] ?_
 refine Aa 1 [1,2,6] ?_
 refine Aa 2 [1,2,6,7] ?_
 refine Bx 7 (fun c7=>?_) (fun c7=>?_)
 refine Ah 3 ?_
 refine Ac 2 ?_
 refine AG (J1 _) ?_;rintro _ rfl
 refine Ac 2 ?_
 any_goals(refine XO.done [4,5] ?_)
 refine Aq ?_;exact Bi ⟨_,_,rfl,KR _,Sh c7 dC dC⟩
 refine Aa 4 [1,2,6,12] ?_
 refine Bx 12 (fun c12=>?_) (fun c12=>?_)
 refine Ah 5 ?_
 refine Ac 2 ?_
 refine AG (J1 _) ?_;rintro _ rfl
 refine Ac 2 ?_
 any_goals(refine XO.done [4,5] ?_)
 refine Aq ?_;exact Bi ⟨_,_,rfl,KR _,Sh c12 dC dC⟩
 refine Aa 6 [1,2,6,17] ?_
 refine Bx 17 (fun c17=>?_) (fun c17=>?_)
 refine Ah 7 ?_
 refine Ac 2 ?_
 refine AG (J1 _) ?_;rintro _ rfl
 refine Ac 2 ?_
 any_goals(refine XO.done [4,5] ?_)
 refine Aq ?_;exact Bi ⟨_,_,rfl,KR _,fun _=>⟨rfl,rfl⟩,fun hp=>by rw[eq_of_beq c17]at hp;cases hp⟩
 refine Aa 8 [1,2,6,22] ?_
 refine Bx 22 (fun c22=>?_) (fun c22=>?_)
 refine Ah 9 ?_
 refine Ac 2 ?_
 refine AG (J1 _) ?_;rintro _ rfl
 refine Ac 2 ?_
 any_goals(refine XO.done [4,5] ?_)
 refine Aq ?_;exact Bi ⟨_,_,rfl,KR _,Sh c22 dC dC⟩
 refine Aa 10 [1,2,6,27] ?_
 refine Bx 27 (fun c27=>?_) (fun c27=>?_)
 refine Aa 11 [4,5] ?_
 refine Aq ?_;exact Bi ⟨_,_,rfl,Nat.le_trans h.tr.1 dC,Sh c27 dC dC⟩
 refine Aa 12 [1,2,31] ?_
 refine Bx 31 (fun c31=>?_) (fun c31=>?_)
 refine Aa 13 [4,5] ?_
 refine Aq ?_;exact Bi ⟨_,_,rfl,Nat.le_trans h.tr.2 dC,Sh c31 dC dC⟩
 refine Ah 14 ?_
 refine Ac 3 ?_
 refine AG (Ahn e.fields nm h.nf (fun f hf=>(h.fn f hf).2)) ?_;rintro _ ⟨v,b,rfl,hv,hg⟩
 refine Ac 4 ?_
 any_goals(refine XO.done [4,5] ?_)
 refine Aq ?_;exact Bi ⟨_,_,rfl,hv,fun hn=>absurd c17 (by rw[hn];decide),fun _=>hg⟩
theorem XY(s:S)(hs:s.length≤2^30):Ae Tryz.prog 147 [str s] (NR s):=by
 refine Ax 53 Tryz.func147 ?_
 refine Aa 0 [0] ?_
 refine Aa 1 [0,4] ?_
 refine Ah 2 ?_
 refine Aw 4 ?_
 refine Cn 11 (fun g11=>?_) (fun g11=>?_)
 any_goals refine Aw 1 ?_
 have h0:0<s.length:=oM;obtain⟨x0,hx,hx0⟩:=Bm s 0 h0
 any_goals(refine Aw 3 ?_;refine XO.done [0,4,15] ?_;(first|refine A3 15 ?_|refine AC 15 (fun c15=>?_) (fun c15=>?_)))
 refine A4 3 [0,4] ?_
 any_goals((refine XW.at 4 ?_;first|(have h45:(x0.toNat:Int)=45:=c15;obtain⟨d,hd,hdl,hds⟩: ∃ d:S,d=s.drop 1∧d.length<s.length∧(Km s→d=s):=⟨_,rfl,by rw[List.length_drop];omega,fun h=>absurd (h x0 hx0) oM⟩;rw[← hd])|(obtain⟨d,hd,hdl,hds⟩: ∃ d:S,d=s∧d.length≤s.length∧(Km s→d=s):=⟨s,rfl,Nat.le_refl _,fun _=>rfl⟩;skip));refine Ah 4 ?_;refine Aw 4 ?_;refine Cn 21 (fun g21=>?_) (fun g21=>?_))
 any_goals(exfalso;omega)
 any_goals(refine Aw 4 ?_;refine XO.done [0,4,25] ?_;(first|refine CF 25 ?_|refine AC 25 (fun c25=>?_) (fun c25=>?_)))
 any_goals(refine Aa 5 [2,3] ?_;refine Aq ?_;exact Bi ⟨_,_,rfl,QU,fun h1 h2 h3=>absurd (congrArg List.length (hds h1)) oM⟩)
 any_goals(refine Aa 6 [0,4,5] ?_;refine Aa 7 [0,4,5,6] ?_;refine A8 0 (fun p:Nat×Int=>⟨[(0,str s),(4,str d),(5,I p.2),(6,I (p.1:Nat))],[]⟩) (fun p=>p.1≤d.length∧BE p.2∧(Km d→p.2=(nuT d p.1:Nat))) (fun p=>d.length-p.1) (0,0) (AO hd [] []) ?_ (h0:=⟨sP,QU,fun _=>rfl⟩);rintro⟨i,v⟩ hI0 Y0 hY0;simp only at hI0;refine Aa 8 [0,4,5,6,29] ?_;refine AC 29 (fun c29=>?_) (fun c29=>?_))
 any_goals(refine XW.at 10 ?_;have hi9:=hI0.1;obtain⟨x,hx,hxm⟩:=Bm d i oM;refine Ah 10 ?_;refine Aw 3 ?_;refine AG (Y8 _) ?_;rintro _ ⟨b,rfl,hdg⟩;refine Aw 1 ?_;refine XO.done [0,4,5,6,36] ?_;refine Bx 36 (fun c36=>?_) (fun c36=>?_))
 any_goals(refine Aa 11 [2,3] ?_;(refine Aq ?_;first|(exact Bi ⟨_,_,rfl,QU,fun h1 h2 h3=>absurd (congrArg List.length (hds h1)) oM⟩)|(exact Bi ⟨_,_,rfl,QU,fun h1 h2 h3=>by have h4:=hds h1;subst h4;have h5:=h1 x hxm;rw[hdg oM oM]at c36;cases c36⟩)))
 any_goals(refine A4 12 [0,4,5,6] ?_;refine XW.at 9 ?_;obtain⟨v2,hv2,hv3⟩: ∃ v2,v2=IntKind.i64.wrap (IntKind.i64.wrap (10*v)+IntKind.i64.wrap (IntKind.u8.wrap ((x.toNat:Int)-48)))∧BE v2:=⟨_,rfl,Ab6 _⟩;rw[← hv2];refine AQ 9 [0,4,5,6] ?_;refine XH.le ?_;exact hY0 (i+1,v2) (⟨by simp only;omega,hv3,fun h=>by simp only;rw[hv2];exact Acl h hx (hI0.2.2 h) oM⟩) (by first|omega|(simp;done)|(simp;omega)) _ _ (E7 [] []))
 any_goals(refine Aa 13 [5,49] ?_;refine AC 49 (fun c49=>?_) (fun c49=>?_))
 any_goals(exfalso;omega)
 any_goals refine AQ 14 [5] ?_
 any_goals(refine Aa 15 [2,3] ?_;(refine Aq ?_;first|(exact Bi ⟨_,_,rfl,Ab6 _,fun h1 h2 h3=>absurd (congrArg List.length (hds h1)) oM⟩)|(exact Bi ⟨_,_,rfl,hI0.2.1,fun h1 h2 h3=>⟨rfl,by have h4:=hds h1;subst h4;have h5:=hI0.2.2 h1;have hil:i=d.length:=oM;rw[hil]at h5;exact h5⟩⟩)))
theorem Ad4(s:S)(hs:s.length≤2^30):Ae Tryz.prog 96 [str s] (NR s):=by
 refine Ax 8 Tryz.func96 ?_
 refine Aa 0 [0] ?_
 refine Ah 1 ?_
 refine Ac 1 ?_
 refine AG (XY s hs) ?_;rintro _ ⟨n,b,rfl,hn⟩
 refine Ac 4 ?_
 any_goals(refine XO.done [2,3] ?_)
 refine Aq ?_;exact Bi ⟨_,_,rfl,hn⟩
theorem Aat(e:Ev)(h:EvG e)(nm:S):Ae Tryz.prog 49 [.agg (evC e),str nm] (fun r=> ∃ (n:Int) (b:Bool),r= .tup [I n,B b]∧(nm=GA→b=true∧n=e.time)):=by
 refine Ax 20 Tryz.func49 ?_
 refine Aa 0 [1,2] ?_
 refine Ah 1 ?_
 refine Ac 2 ?_
 refine AG (UY e h nm) ?_;rintro _ ⟨v,b,rfl,hv,hv2,_⟩
 refine Ac 5 ?_
 any_goals(refine XO.done [6,7] ?_)
 refine Aa 2 [6,15] ?_
 refine Bx 15 (fun c15=>?_) (fun c15=>?_)
 refine Aa 3 [4,5] ?_
 refine Aq ?_;refine Bi ⟨_,_,rfl,fun hn=>?_⟩;have h3:=(hv2 hn).1;rw[h3]at c15;exact absurd c15 (by decide: ¬ ((!true)=true))
 refine Ah 4 ?_
 refine Ac 1 ?_
 refine AG (Ad4 v oM) ?_;rintro _ ⟨n,b2,rfl,_,hnn⟩
 refine Ac 4 ?_
 any_goals(refine XO.done [4,5] ?_)
 refine Aq ?_;refine Bi ⟨_,_,rfl,fun hn=>?_⟩;have hq:=(hv2 hn).2;subst hq;have d3:=Zk h.time;have h4:=hnn d3.1 d3.2.1.1 d3.2.1.2;exact⟨h4.1,h4.2.trans d3.2.2⟩
end Go.Proofs.YtpkhodjlnodagaaGreatDoor
