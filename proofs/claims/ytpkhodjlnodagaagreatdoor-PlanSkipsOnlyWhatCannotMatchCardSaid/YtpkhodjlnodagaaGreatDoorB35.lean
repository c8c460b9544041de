/- Part 35 of the proof of PlanSkipsOnlyWhatCannotMatch. -/
import Derived.Test.YtpkhodjlnodagaaGreatDoorB15
import Derived.Test.YtpkhodjlnodagaaGreatDoorB34
set_option linter.unusedSimpArgs false
set_option linter.unusedVariables false
set_option linter.unusedSectionVars false
namespace Go.Proofs.YtpkhodjlnodagaaGreatDoor
open Go.Av
set_option maxHeartbeats 4000000
set_option maxRecDepth 10000
attribute [local irreducible] XH XO Ae Ad AU
theorem Agh(n:Nat)(h:n<2^32):AP .and .u64 (n:Int) 4294967295=((n:Nat):Int):=by
 simp only[AP]
 have e:IntKind.u64.bits=64:=rfl
 rw[show(4294967295:Int)=((4294967295:Nat):Int)from rfl,BitVec.toNat_and,BitVec.ofInt_natCast,BitVec.ofInt_natCast,BitVec.toNat_ofNat,BitVec.toNat_ofNat,e,Nat.mod_eq_of_lt oM,Nat.mod_eq_of_lt dC]
 rw[show(4294967295:Nat)=2^32-1 from rfl,Nat.and_two_pow_sub_one_eq_mod,Nat.mod_eq_of_lt h]
 exact IntWalk.u64_in _ oM
theorem AfF(n:Nat)(h:n<2^32):(n:Int).fdiv (2^min 32 64)=0:=by
 rw[show(2:Int)^min 32 64=4294967296 by decide,Int.fdiv_eq_ediv_of_nonneg _ dC];omega
theorem Aga(n:Nat)(h:n≤16384):Ae Tryz.prog 264 [U64 1,U64 n] (fun r=>r= .tup [U64 0,U64 n]):=by
 have a1:AP .and .u64 (1:Int) 4294967295=1:=by decide
 have a2:(1:Int).fdiv (2^min 32 64)=0:=by decide
 have a3:=Agh n oM
 have a4:=AfF n oM
 have a5:IntKind.u64.wrap (1*(n:Int))=((n:Nat):Int):=by rw[Int.one_mul];exact IntWalk.u64_in _ oM
 have a6:IntKind.u64.wrap (0*(n:Int))=0:=by rw[Int.zero_mul];rfl
 have a7:IntKind.u64.wrap (0:Int)=0:=rfl
 have a8:AP .and .u64 (0:Int) 4294967295=0:=by decide
 have a9:(0:Int).fdiv (2^min 32 64)=0:=by decide
 have b1:IntKind.u64.wrap ((0:Int)+0)=0:=rfl
 have b2:IntKind.u64.wrap ((1:Int)*0)=0:=rfl
 have b3:IntKind.u64.wrap ((0:Int)*0)=0:=rfl
 refine Ax 51 Tryz.func264 ?_
 refine Aa 0 [0,1] ?_
 refine XW.at 1 ?_;have hx:=a1
 refine A4 1 [0,1,6] ?_
 refine XW.at 2 ?_;have hx:=a2
 refine A4 2 [0,1,6,7] ?_
 refine XW.at 3 ?_;have hx:=a3
 refine A4 3 [0,1,6,7,8] ?_
 refine XW.at 4 ?_;have hx:=a4
 refine A4 4 [0,1,6,7,8,9] ?_
 refine XW.at 5 ?_;have hx:=a5
 refine A4 5 [0,1,6,7,8,9,10] ?_
 refine XW.at 6 ?_;have hx:=a6;have hx2:=a4
 refine A4 6 [0,1,6,7,9,11] ?_
 refine XW.at 7 ?_;have hx:=a8
 refine A4 7 [0,1,6,7,9,11,12] ?_
 refine XW.at 8 ?_;have hx:=a9
 refine A4 8 [0,1,6,7,9,12,13] ?_
 refine XW.at 9 ?_;have hx:=b2
 refine A4 9 [0,1,7,9,12,13] ?_
 refine XW.at 10 ?_;have hx:=b3;have hx2:=a9
 refine A4 10 [0,1,4] ?_
 refine XW.at 11 ?_;have hx:=a5
 refine A4 11 [4,5] ?_
 refine Aq ?_;((exact Bo rfl))
theorem Aez(n:Nat)(h:n≤16384):Ae Tryz.prog 259 [U64 1,U64 n] (fun r=>r= .tup [U64 0,U64 n]):=by
 refine Ax 30 Tryz.func259 ?_
 refine Aa 0 [0,1] ?_
 refine Xe ?_
 refine Ah 3 ?_
 refine Ac 2 ?_
 refine AG (Aga n h) ?_;rintro _ rfl
 refine Ac 5 ?_
 refine XO.done [8,9] ?_
 refine Aa 4 [4,5] ?_
 refine Aq ?_;((exact Bo rfl))
theorem XG(T:Nat)(l:List Int)(hp:Post l)(R b:List UInt8)(hb:b=AE (Bt l)++R)(hl:b.length≤2^40):AU Tryz.prog 64 2 [] (cuE T b false) (fun r e=>r= .sl 1 (An l)∧e=cuE T R false):=by
 have hel:=DE l hp
 all_goals refine Eb 17 (fn:=Tryz.f64) Tryz.func64 rfl rfl rfl sP rfl ?_
 refine Aa 0 [0] ?_
 refine Ah 1 ?_
 refine Ac 3 ?_
 refine BW 0 (Kv T (Bt l) R b hb oM hl) ?_;rintro _ _ ⟨rfl,rfl⟩
 refine AG (Afu l hp) ?_;rintro _ rfl
 refine Ac 5 ?_
 refine XO.done [0,3,4] ?_
 refine Ah 2 ?_
 refine Ac 2 ?_
 refine BW 0 (PJ T R) ?_;rintro _ _ ⟨rfl,rfl⟩
 refine XO.done [3] ?_
 refine Aa 3 [2] ?_
 refine Aq ?_;((refine G4 ?_;simp[Az,cuE,B]))
def bX(X:List (List Int))(i:Nat):List UInt8:=(X.drop i).flatMap fun L=>AE (Bt L)
theorem ZJ{X:List (List Int)}{i:Nat}{L:List Int}(h:X[i]? =some L):bX X i=AE (Bt L)++bX X (i+1):=by
 obtain⟨hl,rfl⟩:=List.getElem?_eq_some_iff.1 h
 rw[bX,List.drop_eq_getElem_cons hl,List.flatMap_cons];rfl
theorem Wh(X:List (List Int)): ∀ i,(bX X i).length≤(bX X 0).length
 |0=>Nat.le_refl _
 |i+1=>by
   have ih:=Wh X i
   cases h:X[i]? with
   |none=>
     have h2:X.length≤i:=List.getElem?_eq_none_iff.1 h
     rw[bX,List.drop_eq_nil_of_le oM];simp
   |some L=>rw[ZJ h,List.length_append]at ih;omega
theorem AcR{bs:List UInt8}{c a z:Nat}{ss:List S}(V:SegV bs c a z ss)(d:List S)(X:List (List Int))(hq:ss[10]? =some (AE (AM d)++bX X 0))(hc:Bb d=0)(hp:d.Pairwise ltS)(hdl:d.length≤2^40)(hbl:(AE (AM d)++bX X 0).length≤2^40)(w:S)(hw:DV d w=false):Ae Tryz.prog 27 [.sl 1 (Ab bs),str w] (fun r=>r= .tup [.val (.slice none 0 0),I 0]):=by
 refine Ax 43 Tryz.func27 ?_
 refine Aa 0 [0,1] ?_
 refine Ah 1 ?_
 refine Ac 1 ?_
 refine HO (O7 V 10 _ hq) ?_
 refine Ac 5 ?_
 refine XO.done [1,6,7] ?_
 refine Aa 2 [1,6,7,17] ?_
 refine A3 17 ?_
 refine Ah 4 ?_
 refine Ac 1 ?_
 refine BW 0 (Ko 122 d (bX X 0) _ rfl hc hp hbl) ?_;rintro _ _ ⟨rfl,rfl⟩
 refine Ac 1 ?_
 refine AG (QT d w hdl) ?_;rintro _ rfl
 rw[hw]
 refine Ac 5 ?_
 refine XO.done [6,8,9] ?_
 refine Aa 5 [6,8,27] ?_
 refine CF 27 ?_
 refine Ah 6 ?_
 refine Ac 1 ?_
 refine BW 0 (QL 122 (bX X 0)) ?_;rintro _ _ ⟨rfl,rfl⟩
 refine Ac 2 ?_
 refine XO.done [4,5] ?_
 refine Aq ?_;(exact Bo rfl)
theorem AdW{bs:List UInt8}{c a z:Nat}{ss:List S}(V:SegV bs c a z ss)(d:List S)(X:List (List Int))(hq:ss[10]? =some (AE (AM d)++bX X 0))(hc:Bb d=0)(hp:d.Pairwise ltS)(hdl:d.length≤2^40)(hbl:(AE (AM d)++bX X 0).length≤2^40)(w:S)(hw:DV d w=true)(hX: ∀ L∈X,Post L)(j:Nat)(hj:CD d w=j)(hjl:j<X.length)(hXl:X.length≤2^40):Ae Tryz.prog 27 [.sl 1 (Ab bs),str w] (fun r=>r= .tup [.sl 1 (An (X.getD j [])),I 0]):=by
 refine Ax 43 Tryz.func27 ?_
 refine Aa 0 [0,1] ?_
 refine Ah 1 ?_
 refine Ac 1 ?_
 refine HO (O7 V 10 _ hq) ?_
 refine Ac 5 ?_
 refine XO.done [1,6,7] ?_
 refine Aa 2 [1,6,7,17] ?_
 refine A3 17 ?_
 refine Ah 4 ?_
 refine Ac 1 ?_
 refine BW 0 (Ko 122 d (bX X 0) _ rfl hc hp hbl) ?_;rintro _ _ ⟨rfl,rfl⟩
 refine Ac 1 ?_
 refine AG (QT d w hdl) ?_;rintro _ rfl
 rw[hw,hj]
 refine Ac 5 ?_
 refine XO.done [6,8,9] ?_
 refine Aa 5 [6,8,27] ?_
 refine A3 27 ?_
 refine Aa 7 [6,30,31] ?_
 refine A8 1 (fun i:Nat=>⟨[(6,.ptr 0 2 0 0),(30,I j),(31,I i)],[(0,some (cuE 122 (bX X i) false))]⟩) (fun i=>i≤j) (fun i=>j-i) 0 (AO (And.intro cuE.eq_1 B.eq_1) [some 0] []) ?_ (h0:=Nat.zero_le _);rintro i hI0 Y0 hY0;skip
 refine Aa 8 [6,30,31,32] ?_
 refine AC 32 (fun c32=>?_) (fun c32=>?_)
 refine XW.at 9 ?_;obtain⟨L,hL,hLm⟩:=Bm X i oM
 refine Ah 9 ?_
 refine Ac 3 ?_
 refine BW 0 (Kv 122 (Bt L) (bX X (i+1)) (bX X i) (ZJ hL) (by have:=DE L (hX L hLm);omega) (by have:=Wh X i;rw[List.length_append]at hbl;omega)) ?_;rintro _ _ ⟨rfl,rfl⟩
 refine XO.done [6,30,31] ?_
 refine AQ 10 [6,30,31] ?_
 refine XH.le ?_;(exact eY hY0 (i+1) (AO (And.intro cuE.eq_1 B.eq_1) [some 0] []))
 refine XW.at 11 ?_;obtain rfl:i=j:=oM;obtain⟨L,hL,hLm⟩:=Bm X i hjl;have hgd:X.getD i []=L:=Bz hL;rw[hgd]
 refine Ah 11 ?_
 refine Ac 1 ?_
 refine BW 0 (XG 122 L (hX L hLm) (bX X (i+1)) (bX X i) (ZJ hL) (by have:=Wh X i;rw[List.length_append]at hbl;omega)) ?_;rintro _ _ ⟨rfl,rfl⟩
 refine Ac 1 ?_
 refine XO.done [6,10] ?_
 refine Ah 12 ?_
 refine Ac 2 ?_
 refine BW 0 (QL 122 (bX X (i+1))) ?_;rintro _ _ ⟨rfl,rfl⟩
 refine Ac 2 ?_
 refine XO.done [4,5] ?_
 refine Aq ?_;(exact Bi rfl)
theorem Afv(a b:Bool):Ae Tryz.prog 122 [B a,B b] (fun r=>r=B (a&&b)):=by
 cases a<;>cases b
 any_goals refine NX 9 (fn:=Tryz.f122) Tryz.func122 rfl rfl rfl sP rfl ?_
 any_goals(refine Aa 0 [0,1] ?_;refine Ah 1 ?_;refine Ac 2 ?_;(first|refine GK 6 ?_|refine BQ 6 ?_);refine Ac 3 ?_;refine XO.done [4] ?_;refine Aq ?_;((exact Bo rfl)))
theorem AhW(a b:Bool):Ae Tryz.prog 123 [B a,B b] (fun r=>r=B true):=by
 refine Ax 5 Tryz.func123 ?_
 refine Aa 0 [] ?_
 refine Aa 1 [4] ?_
 refine Aq ?_;((exact Bo rfl))
theorem Nr(x y:Int):Ae Tryz.prog 134 [.agg [I x,I y]] (fun r=>r=B (decide (x>y))):=by
 refine Ax 8 Tryz.func134 ?_
 refine Aa 0 [1] ?_
 refine Aa 1 [2] ?_
 refine Aq ?_;((exact Bo rfl))
def mxP(x y:Int):Int:=if y>x then y else x
def mnP(x y:Int):Int:=if y<x then y else x
def D0(a b:Int×Int):Int×Int:=(mxP a.1 b.1,mnP a.2 b.2)
def G2(a b:Int×Int):Int×Int:=if a.1>a.2 then b else if b.1>b.2 then a else(mnP a.1 b.1,mxP a.2 b.2)
def spC(a:Int×Int):AV:= .agg [I a.1,I a.2]
theorem UF(a1 a2 b1 b2:Int):Ae Tryz.prog 190 [.agg [I a1,I a2],.agg [I b1,I b2]] (fun r=>r=spC (D0 (a1,a2) (b1,b2))):=by
 refine Ax 16 Tryz.func190 ?_
 refine Aa 0 [2,3,4] ?_
 refine Aa 1 [4] ?_
 refine Aq ?_;((exact Bo rfl))
theorem AcU(a1 a2 b1 b2:Int):Ae Tryz.prog 191 [.agg [I a1,I a2],.agg [I b1,I b2]] (fun r=>r=spC (G2 (a1,a2) (b1,b2))):=by
 refine Ax 24 Tryz.func191 ?_
 refine Aa 0 [2,3,4] ?_
 refine Ah 1 ?_
 refine Ac 1 ?_
 refine AG (Nr a1 a2) ?_;rintro _ rfl
 refine Ac 1 ?_
 refine XO.done [2,3,4,5] ?_
 refine AC 5 (fun c5=>?_) (fun c5=>?_)
 refine Aa 2 [4] ?_
 refine Aq ?_;((refine Bo ?_;simp only[G2];(rw[if_pos c5];rfl)))
 refine Ah 3 ?_
 refine Ac 1 ?_
 refine AG (Nr b1 b2) ?_;rintro _ rfl
 refine Ac 1 ?_
 refine XO.done [2,3,4,9] ?_
 refine AC 9 (fun c9=>?_) (fun c9=>?_)
 refine Aa 4 [4] ?_
 refine Aq ?_;((refine Bo ?_;simp only[G2];(rw[if_neg c5,if_pos c9];rfl)))
 refine Aa 5 [4] ?_
 refine Aq ?_;((refine Bo ?_;simp only[G2];(rw[if_neg c5,if_neg c9];rfl)))
def Gt(n:Int):AV:= .val (.int .u32 n)
attribute [go_sem] Gt
theorem AcQ(x:List UInt8):(ByteArray.mk x.toArray).size=x.length:=by simp[ByteArray.size]
def Ja(s:Int)(x:S):Nat→Int
 |0=>AP .xor .u32 2166136261 s
 |i+1=>IntKind.u32.wrap (AP .xor .u32 (Ja s x i) ((x.getD i 0).toNat:Int)*16777619)
theorem Afg(s:Int){x:S}{i:Nat}{c:UInt8}(h:x[i]? =some c):IntKind.u32.wrap (AP .xor .u32 (Ja s x i) (c.toNat:Int)*16777619)=Ja s x (i+1):=by rw[Ja,Bz h]
def Abu(h:Int):Int:=
 let h1:=AP .xor .u32 h (h.fdiv (2^min 15 32))
 let h2:=IntKind.u32.wrap (h1*2246822519)
 AP .xor .u32 h2 (h2.fdiv (2^min 13 32))
theorem Ab7(s:Int)(x:S)(hl:x.length≤2^40):Ae Tryz.prog 239 [Gt s,str x] (fun r=>r=Gt (Abu (Ja s x x.length))):=by
 refine Ax 33 Tryz.func239 ?_
 refine Aa 0 [0,1] ?_
 refine Aa 1 [1,5] ?_
 refine AQ 2 [5,11,12,13] ?_
 refine A8 1 (fun i:Nat=>⟨[(5,Gt (Ja s x i)),(11,.osl 0 x.length 1),(12,I x.length),(13,I i)],[(0,some ⟨5,1,Ab x⟩)]⟩) (fun i=>i≤x.length) (fun i=>x.length-i) 0 (AO (And.intro (And.intro Ja.eq_1 Ja.eq_2) (And.intro @A5 (And.intro @AcQ Gt.eq_1))) [some 0] []) ?_ (h0:=Nat.zero_le _);rintro i hI0 Y0 hY0;skip
 refine Aa 3 [5,11,12,13,14] ?_
 refine AC 14 (fun c14=>?_) (fun c14=>?_)
 refine XW.at 4 ?_;obtain⟨c,hx,hcm⟩:=Bm x i oM;have hcl:=c.toNat_lt;have hss:=Afg s hx
 refine BJ 4 [5,7,11,12,13] ?_
 refine AQ 5 [5,11,12,13] ?_
 refine AQ 6 [5,11,12,13] ?_
 refine XH.le ?_;(exact eY hY0 (i+1) (AO (And.intro hss (And.intro @A5 Gt.eq_1)) [some 0] []))
 refine XW.at 7 ?_;obtain rfl:i=x.length:=oM
 refine AQ 7 [5] ?_
 refine AQ 8 [5] ?_
 refine AQ 9 [4] ?_
 refine Aq ?_;((exact Bo rfl))
theorem Aff(ws:List Int)(p:Nat)(w:Int)(hp:p≤2^40)(hw:ws[p / 64]? =some w):Ae Tryz.prog 201 [.sl 1 (BN ws),I p] (fun r=>r=B (AP .and .u64 (w.fdiv (2^min (p%64) 64)) 1==1)):=by
 have hq:IntKind.i64.wrap (((p:Nat):Int).tdiv 64)=((p / 64:Nat):Int):=by rw[Int.tdiv_eq_ediv_of_nonneg oM,Ar oM];omega
 have hr:((p:Nat):Int).tmod 64=((p%64:Nat):Int):=by rw[Int.tmod_eq_emod_of_nonneg oM];omega
 have hwl:=(List.getElem?_eq_some_iff.1 hw).1
 refine Ax 15 Tryz.func201 ?_
 refine Aa 0 [0,1] ?_
 refine Ah 1 ?_
 refine Aw 2 ?_
 have hx:=hq;have hx2:=hw
 refine A2 4 ?_
 have hx:=hr
 refine A2 5 ?_
 refine XO.done [4] ?_
 refine Aq ?_;((exact Bo rfl))
def Gi(ws:List Int)(p:Nat):Bool:=AP .and .u64 ((ws.getD (p / 64) 0).fdiv (2^min (p%64) 64)) 1==1
theorem AcN(ws:List Int)(p:Nat)(hp:p≤2^40)(h:p / 64<ws.length):Ae Tryz.prog 201 [.sl 1 (BN ws),I p] (fun r=>r=B (Gi ws p)):=by
 obtain⟨w,hw,_⟩:=Bm ws (p / 64) h
 have:=Aff ws p w hp hw
 unfold Gi
 rwa [Bz hw]
theorem Acn(ws:List Int)(h:ws.length≤2^40):Ae Tryz.prog 240 [.sl 1 (BN ws)] (fun r=>r=I (ws.length*64:Nat)):=by
 refine Ax 6 Tryz.func240 ?_
 refine Aa 0 [0] ?_
 refine XW.at 1 ?_;have hx:(ws.length:Int)*64=((ws.length*64:Nat):Int):=(by push_cast;rfl)
 refine A4 1 [2] ?_
 refine Aq ?_;((exact Bo rfl))
theorem Agb(k:Int)(ws:List Int)(p:Nat)(hp:p≤2^40)(h:p / 64<ws.length):Ae Tryz.prog 200 [I p,.rp [I k,.sl 1 (BN ws)]] (fun r=>r=B (!(Gi ws p))):=by
 refine Ax 9 Tryz.func200 ?_
 refine Aa 0 [0,1] ?_
 refine Ah 1 ?_
 refine Ac 3 ?_
 refine AG (AcN ws p hp h) ?_;rintro _ rfl
 refine Ac 2 ?_
 refine XO.done [3] ?_
 refine Aq ?_;((exact Bo rfl))
theorem AeY(k:Int)(ws:List Int)(w:S)(ps:List Int)(hps:ps.length≤2^40)(hin: ∀ p∈ps,0≤p∧p≤2^40∧p.toNat / 64<ws.length)(hpos:Ae Tryz.prog 199 [.agg [I k,.sl 1 (BN ws)],str w] (fun r=>r= .sl 1 (An ps))):Ae Tryz.prog 142 [.agg [I k,.sl 1 (BN ws)],str w] (fun r=>r=B (!(ps.any fun p=>!(Gi ws p.toNat)))):=by
 have hcl: ∀ (x:Int),x∈ps→Ae Tryz.prog 200 [I x,.rp [I k,.sl 1 (BN ws)]] (fun r=>r=B (!(Gi ws x.toNat))):=fun x hx=>by have h:=hin x hx;have q:=Agb k ws x.toNat oM h.2.2;rwa [show((x.toNat:Nat):Int)=x by omega]at q
 refine Ax 11 Tryz.func142 ?_
 refine Aa 0 [1,2] ?_
 refine XW.at 1 ?_;refine Fq 1 0 ⟨[(1,str w),(2,.rp [I k,.sl 1 (BN ws)])],[]⟩ (CL [] [0] (by simp[AK,lk,lkh,I,wkE,wkL,str,AF,AN]) (by simp[Am,Ai,Ak,lkh,wkE,wkL,str,AF,AN])) ?_
 refine Ah 1 ?_
 refine Ac 2 ?_
 refine AG (hpos) ?_;rintro _ rfl
 refine Ac 1 ?_
 refine AG (YW 200 [I k,.sl 1 (BN ws)] (fun p=>!(Gi ws p.toNat)) ps hps hcl) ?_;rintro _ rfl
 refine Ac 2 ?_
 refine XO.done [4] ?_
 refine Aq ?_;((exact Bo rfl))
end Go.Proofs.YtpkhodjlnodagaaGreatDoor
