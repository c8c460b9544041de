/- Part 35 of the proof of PlanCandidates. -/
import Derived.Test.YtpkhodjlnodagaaGreatDoorA15
import Derived.Test.YtpkhodjlnodagaaGreatDoorA34
set_option linter.unusedSimpArgs false
set_option linter.unusedVariables false
set_option linter.unusedSectionVars false
namespace Go.Proofs.YtpkhodjlnodagaaGreatDoor
open Go.Av
set_option maxHeartbeats 4000000
set_option maxRecDepth 10000
attribute [local irreducible] XH XO Ad Af A0
theorem Adh(n:Nat)(h:n<2^32):AN .and .u64 (n:Int) 4294967295=((n:Nat):Int):=by
 simp only[AN]
 have e:IntKind.u64.bits=64:=rfl
 rw[show(4294967295:Int)=((4294967295:Nat):Int)from rfl,BitVec.toNat_and,BitVec.ofInt_natCast,BitVec.ofInt_natCast,BitVec.toNat_ofNat,BitVec.toNat_ofNat,e,Nat.mod_eq_of_lt (by omega),Nat.mod_eq_of_lt (by decide)]
 rw[show(4294967295:Nat)=2^32-1 from rfl,Nat.and_two_pow_sub_one_eq_mod,Nat.mod_eq_of_lt h]
 exact IntWalk.u64_in _ (by omega)
theorem Afb(n:Nat)(h:n<2^32):(n:Int).fdiv (2^min 32 64)=0:=by
 rw[show(2:Int)^min 32 64=4294967296 by decide,Int.fdiv_eq_ediv_of_nonneg _ (by decide)];omega
theorem Adv(n:Nat)(h:n≤16384):Ad Tryz.prog 264 [U64 1,U64 n] (fun r=>r= .tup [U64 0,U64 n]):=by
 have a1:AN .and .u64 (1:Int) 4294967295=1:=by decide
 have a2:(1:Int).fdiv (2^min 32 64)=0:=by decide
 have a3:=Adh n (by omega)
 have a4:=Afb n (by omega)
 have a5:IntKind.u64.wrap (1*(n:Int))=((n:Nat):Int):=by rw[Int.one_mul];exact IntWalk.u64_in _ (by omega)
 have a6:IntKind.u64.wrap (0*(n:Int))=0:=by rw[Int.zero_mul];rfl
 have a7:IntKind.u64.wrap (0:Int)=0:=rfl
 have a8:AN .and .u64 (0:Int) 4294967295=0:=by decide
 have a9:(0:Int).fdiv (2^min 32 64)=0:=by decide
 have b1:IntKind.u64.wrap ((0:Int)+0)=0:=rfl
 have b2:IntKind.u64.wrap ((1:Int)*0)=0:=rfl
 have b3:IntKind.u64.wrap ((0:Int)*0)=0:=rfl
 refine Au 51 Tryz.func264 ?_
 refine Aa 0 [0,1] ?_
 refine XW.at 1 ?_;have hx:=a1
 refine Ba 1 [0,1,6] ?_
 refine XW.at 2 ?_;have hx:=a2
 refine Ba 2 [0,1,6,7] ?_
 refine XW.at 3 ?_;have hx:=a3
 refine Ba 3 [0,1,6,7,8] ?_
 refine XW.at 4 ?_;have hx:=a4
 refine Ba 4 [0,1,6,7,8,9] ?_
 refine XW.at 5 ?_;have hx:=a5
 refine Ba 5 [0,1,6,7,8,9,10] ?_
 refine XW.at 6 ?_;have hx:=a6;have hx2:=a4
 refine Ba 6 [0,1,6,7,9,11] ?_
 refine XW.at 7 ?_;have hx:=a8
 refine Ba 7 [0,1,6,7,9,11,12] ?_
 refine XW.at 8 ?_;have hx:=a9
 refine Ba 8 [0,1,6,7,9,12,13] ?_
 refine XW.at 9 ?_;have hx:=b2
 refine Ba 9 [0,1,7,9,12,13] ?_
 refine XW.at 10 ?_;have hx:=b3;have hx2:=a9
 refine Ba 10 [0,1,4] ?_
 refine XW.at 11 ?_;have hx:=a5
 refine Ba 11 [4,5] ?_
 refine Ap ?_;((exact Bc rfl))
theorem AdF(n:Nat)(h:n≤16384):Ad Tryz.prog 259 [U64 1,U64 n] (fun r=>r= .tup [U64 0,U64 n]):=by
 refine Au 30 Tryz.func259 ?_
 refine Aa 0 [0,1] ?_
 refine Wf ?_
 refine Ae 3 ?_
 refine Ac 2 ?_
 refine AC (Adv n h) ?_;rintro _ rfl
 refine Ac 5 ?_
 refine XO.done [8,9] ?_
 refine Aa 4 [4,5] ?_
 refine Ap ?_;((exact Bc rfl))
theorem Wj(T:Nat)(l:List Int)(hp:Post l)(R b:List UInt8)(hb:b=AF (Bq l)++R)(hl:b.length≤2^40):A0 Tryz.prog 64 2 [] (cuE T b false) (fun r e=>r= .sl 1 (Ak l)∧e=cuE T R false):=by
 have hel:=DA l hp
 all_goals refine D7 17 (fn:=Tryz.f64) Tryz.func64 rfl rfl rfl (by simp) rfl ?_
 refine Aa 0 [0] ?_
 refine Ae 1 ?_
 refine Ac 3 ?_
 refine BM 0 (Kn T (Bq l) R b hb (by omega) hl) ?_;rintro _ _ ⟨rfl,rfl⟩
 refine AC (Adt l hp) ?_;rintro _ rfl
 refine Ac 5 ?_
 refine XO.done [0,3,4] ?_
 refine Ae 2 ?_
 refine Ac 2 ?_
 refine BM 0 (Pm T R) ?_;rintro _ _ ⟨rfl,rfl⟩
 refine XO.done [3] ?_
 refine Aa 3 [2] ?_
 refine Ap ?_;((refine GM ?_;simp[Ax,cuE,B]))
def bX(X:List (List Int))(i:Nat):List UInt8:=(X.drop i).flatMap fun L=>AF (Bq L)
theorem VO{X:List (List Int)}{i:Nat}{L:List Int}(h:X[i]? =some L):bX X i=AF (Bq L)++bX X (i+1):=by
 obtain⟨hl,rfl⟩:=List.getElem?_eq_some_iff.1 h
 rw[bX,List.drop_eq_getElem_cons hl,List.flatMap_cons];rfl
theorem Vz(X:List (List Int)): ∀ i,(bX X i).length≤(bX X 0).length
 |0=>Nat.le_refl _
 |i+1=>by
   have ih:=Vz X i
   cases h:X[i]? with
   |none=>
     have h2:X.length≤i:=List.getElem?_eq_none_iff.1 h
     rw[bX,List.drop_eq_nil_of_le (by omega)];simp
   |some L=>rw[VO h,List.length_append]at ih;omega
theorem Abx{bs:List UInt8}{c a z:Nat}{ss:List S}(V:SegV bs c a z ss)(d:List S)(X:List (List Int))(hq:ss[10]? =some (AF (AG d)++bX X 0))(hc:A6 d=0)(hp:d.Pairwise ltS)(hdl:d.length≤2^40)(hbl:(AF (AG d)++bX X 0).length≤2^40)(w:S)(hw:C2 d w=false):Ad Tryz.prog 27 [.sl 1 (Ab bs),str w] (fun r=>r= .tup [.val (.slice none 0 0),I 0]):=by
 refine Au 43 Tryz.func27 ?_
 refine Aa 0 [0,1] ?_
 refine Ae 1 ?_
 refine Ac 1 ?_
 refine HE (NT V 10 _ hq) ?_
 refine Ac 5 ?_
 refine XO.done [1,6,7] ?_
 refine Aa 2 [1,6,7,17] ?_
 refine AM 17 ?_
 refine Ae 4 ?_
 refine Ac 1 ?_
 refine BM 0 (Ka 122 d (bX X 0) _ rfl hc hp hbl) ?_;rintro _ _ ⟨rfl,rfl⟩
 refine Ac 1 ?_
 refine AC (Qj d w hdl) ?_;rintro _ rfl
 rw[hw]
 refine Ac 5 ?_
 refine XO.done [6,8,9] ?_
 refine Aa 5 [6,8,27] ?_
 refine Cd 27 ?_
 refine Ae 6 ?_
 refine Ac 1 ?_
 refine BM 0 (Qo 122 (bX X 0)) ?_;rintro _ _ ⟨rfl,rfl⟩
 refine Ac 2 ?_
 refine XO.done [4,5] ?_
 refine Ap ?_;(exact Bc rfl)
theorem Aby{bs:List UInt8}{c a z:Nat}{ss:List S}(V:SegV bs c a z ss)(d:List S)(X:List (List Int))(hq:ss[10]? =some (AF (AG d)++bX X 0))(hc:A6 d=0)(hp:d.Pairwise ltS)(hdl:d.length≤2^40)(hbl:(AF (AG d)++bX X 0).length≤2^40)(w:S)(hw:C2 d w=true)(hX: ∀ L∈X,Post L)(j:Nat)(hj:CZ d w=j)(hjl:j<X.length)(hXl:X.length≤2^40):Ad Tryz.prog 27 [.sl 1 (Ab bs),str w] (fun r=>r= .tup [.sl 1 (Ak (X.getD j [])),I 0]):=by
 refine Au 43 Tryz.func27 ?_
 refine Aa 0 [0,1] ?_
 refine Ae 1 ?_
 refine Ac 1 ?_
 refine HE (NT V 10 _ hq) ?_
 refine Ac 5 ?_
 refine XO.done [1,6,7] ?_
 refine Aa 2 [1,6,7,17] ?_
 refine AM 17 ?_
 refine Ae 4 ?_
 refine Ac 1 ?_
 refine BM 0 (Ka 122 d (bX X 0) _ rfl hc hp hbl) ?_;rintro _ _ ⟨rfl,rfl⟩
 refine Ac 1 ?_
 refine AC (Qj d w hdl) ?_;rintro _ rfl
 rw[hw,hj]
 refine Ac 5 ?_
 refine XO.done [6,8,9] ?_
 refine Aa 5 [6,8,27] ?_
 refine AM 27 ?_
 refine Aa 7 [6,30,31] ?_
 refine AX 1 (fun i:Nat=>⟨[(6,.ptr 0 2 0 0),(30,I j),(31,I i)],[(0,some (cuE 122 (bX X i) false))]⟩) (fun i=>i≤j) (fun i=>j-i) 0 (AD (And.intro cuE.eq_1 B.eq_1) [some 0] []) ?_ (h0:=Nat.zero_le _);rintro i hI0 Y0 hY0;skip
 refine Aa 8 [6,30,31,32] ?_
 refine Az 32 (fun c32=>?_) (fun c32=>?_)
 refine XW.at 9 ?_;obtain⟨L,hL,hLm⟩:=Bd X i (by omega)
 refine Ae 9 ?_
 refine Ac 3 ?_
 refine BM 0 (Kn 122 (Bq L) (bX X (i+1)) (bX X i) (VO hL) (by have:=DA L (hX L hLm);omega) (by have:=Vz X i;rw[List.length_append]at hbl;omega)) ?_;rintro _ _ ⟨rfl,rfl⟩
 refine XO.done [6,30,31] ?_
 refine AJ 10 [6,30,31] ?_
 refine XH.le ?_;(exact eY hY0 (i+1) (AD (And.intro cuE.eq_1 B.eq_1) [some 0] []))
 refine XW.at 11 ?_;obtain rfl:i=j:=(by omega);obtain⟨L,hL,hLm⟩:=Bd X i hjl;have hgd:X.getD i []=L:=BC hL;rw[hgd]
 refine Ae 11 ?_
 refine Ac 1 ?_
 refine BM 0 (Wj 122 L (hX L hLm) (bX X (i+1)) (bX X i) (VO hL) (by have:=Vz X i;rw[List.length_append]at hbl;omega)) ?_;rintro _ _ ⟨rfl,rfl⟩
 refine Ac 1 ?_
 refine XO.done [6,10] ?_
 refine Ae 12 ?_
 refine Ac 2 ?_
 refine BM 0 (Qo 122 (bX X (i+1))) ?_;rintro _ _ ⟨rfl,rfl⟩
 refine Ac 2 ?_
 refine XO.done [4,5] ?_
 refine Ap ?_;(exact BT rfl)
theorem Afd(a b:Bool):Ad Tryz.prog 122 [B a,B b] (fun r=>r=B (a&&b)):=by
 cases a<;>cases b
 any_goals refine Nl 9 (fn:=Tryz.f122) Tryz.func122 rfl rfl rfl (by simp) rfl ?_
 any_goals(refine Aa 0 [0,1] ?_;refine Ae 1 ?_;refine Ac 2 ?_;(first|refine Gx 6 ?_|refine BE 6 ?_);refine Ac 3 ?_;refine XO.done [4] ?_;refine Ap ?_;((exact Bc rfl)))
theorem Agv(a b:Bool):Ad Tryz.prog 123 [B a,B b] (fun r=>r=B true):=by
 refine Au 5 Tryz.func123 ?_
 refine Aa 0 [] ?_
 refine Aa 1 [4] ?_
 refine Ap ?_;((exact Bc rfl))
theorem Np(x y:Int):Ad Tryz.prog 134 [.agg [I x,I y]] (fun r=>r=B (decide (x>y))):=by
 refine Au 8 Tryz.func134 ?_
 refine Aa 0 [1] ?_
 refine Aa 1 [2] ?_
 refine Ap ?_;((exact Bc rfl))
def mxP(x y:Int):Int:=if y>x then y else x
def mnP(x y:Int):Int:=if y<x then y else x
def Em(a b:Int×Int):Int×Int:=(mxP a.1 b.1,mnP a.2 b.2)
def GW(a b:Int×Int):Int×Int:=if a.1>a.2 then b else if b.1>b.2 then a else(mnP a.1 b.1,mxP a.2 b.2)
def spC(a:Int×Int):AV:= .agg [I a.1,I a.2]
theorem Up(a1 a2 b1 b2:Int):Ad Tryz.prog 190 [.agg [I a1,I a2],.agg [I b1,I b2]] (fun r=>r=spC (Em (a1,a2) (b1,b2))):=by
 refine Au 16 Tryz.func190 ?_
 refine Aa 0 [2,3,4] ?_
 refine Aa 1 [4] ?_
 refine Ap ?_;((exact Bc rfl))
theorem AbL(a1 a2 b1 b2:Int):Ad Tryz.prog 191 [.agg [I a1,I a2],.agg [I b1,I b2]] (fun r=>r=spC (GW (a1,a2) (b1,b2))):=by
 refine Au 24 Tryz.func191 ?_
 refine Aa 0 [2,3,4] ?_
 refine Ae 1 ?_
 refine Ac 1 ?_
 refine AC (Np a1 a2) ?_;rintro _ rfl
 refine Ac 1 ?_
 refine XO.done [2,3,4,5] ?_
 refine Az 5 (fun c5=>?_) (fun c5=>?_)
 refine Aa 2 [4] ?_
 refine Ap ?_;((refine Bc ?_;simp only[GW];(rw[if_pos c5];rfl)))
 refine Ae 3 ?_
 refine Ac 1 ?_
 refine AC (Np b1 b2) ?_;rintro _ rfl
 refine Ac 1 ?_
 refine XO.done [2,3,4,9] ?_
 refine Az 9 (fun c9=>?_) (fun c9=>?_)
 refine Aa 4 [4] ?_
 refine Ap ?_;((refine Bc ?_;simp only[GW];(rw[if_neg c5,if_pos c9];rfl)))
 refine Aa 5 [4] ?_
 refine Ap ?_;((refine Bc ?_;simp only[GW];(rw[if_neg c5,if_neg c9];rfl)))
def Gq(n:Int):AV:= .val (.int .u32 n)
attribute [go_sem] Gq
theorem AcK(x:List UInt8):(ByteArray.mk x.toArray).size=x.length:=by simp[ByteArray.size]
def I4(s:Int)(x:S):Nat→Int
 |0=>AN .xor .u32 2166136261 s
 |i+1=>IntKind.u32.wrap (AN .xor .u32 (I4 s x i) ((x.getD i 0).toNat:Int)*16777619)
theorem AdE(s:Int){x:S}{i:Nat}{c:UInt8}(h:x[i]? =some c):IntKind.u32.wrap (AN .xor .u32 (I4 s x i) (c.toNat:Int)*16777619)=I4 s x (i+1):=by rw[I4,BC h]
def Aan(h:Int):Int:=
 let h1:=AN .xor .u32 h (h.fdiv (2^min 15 32))
 let h2:=IntKind.u32.wrap (h1*2246822519)
 AN .xor .u32 h2 (h2.fdiv (2^min 13 32))
theorem AbD(s:Int)(x:S)(hl:x.length≤2^40):Ad Tryz.prog 239 [Gq s,str x] (fun r=>r=Gq (Aan (I4 s x x.length))):=by
 refine Au 33 Tryz.func239 ?_
 refine Aa 0 [0,1] ?_
 refine Aa 1 [1,5] ?_
 refine AJ 2 [5,11,12,13] ?_
 refine AX 1 (fun i:Nat=>⟨[(5,Gq (I4 s x i)),(11,.osl 0 x.length 1),(12,I x.length),(13,I i)],[(0,some ⟨5,1,Ab x⟩)]⟩) (fun i=>i≤x.length) (fun i=>x.length-i) 0 (AD (And.intro (And.intro I4.eq_1 I4.eq_2) (And.intro @A3 (And.intro @AcK Gq.eq_1))) [some 0] []) ?_ (h0:=Nat.zero_le _);rintro i hI0 Y0 hY0;skip
 refine Aa 3 [5,11,12,13,14] ?_
 refine Az 14 (fun c14=>?_) (fun c14=>?_)
 refine XW.at 4 ?_;obtain⟨c,hx,hcm⟩:=Bd x i (by omega);have hcl:=c.toNat_lt;have hss:=AdE s hx
 refine Bl 4 [5,7,11,12,13] ?_
 refine AJ 5 [5,11,12,13] ?_
 refine AJ 6 [5,11,12,13] ?_
 refine XH.le ?_;(exact eY hY0 (i+1) (AD (And.intro hss (And.intro @A3 Gq.eq_1)) [some 0] []))
 refine XW.at 7 ?_;obtain rfl:i=x.length:=(by omega)
 refine AJ 7 [5] ?_
 refine AJ 8 [5] ?_
 refine AJ 9 [4] ?_
 refine Ap ?_;((exact Bc rfl))
theorem Adk(ws:List Int)(p:Nat)(w:Int)(hp:p≤2^40)(hw:ws[p / 64]? =some w):Ad Tryz.prog 201 [.sl 1 (Bu ws),I p] (fun r=>r=B (AN .and .u64 (w.fdiv (2^min (p%64) 64)) 1==1)):=by
 have hq:IntKind.i64.wrap (((p:Nat):Int).tdiv 64)=((p / 64:Nat):Int):=by rw[Int.tdiv_eq_ediv_of_nonneg (by omega),As (by omega)];omega
 have hr:((p:Nat):Int).tmod 64=((p%64:Nat):Int):=by rw[Int.tmod_eq_emod_of_nonneg (by omega)];omega
 have hwl:=(List.getElem?_eq_some_iff.1 hw).1
 refine Au 15 Tryz.func201 ?_
 refine Aa 0 [0,1] ?_
 refine Ae 1 ?_
 refine Aq 2 ?_
 have hx:=hq;have hx2:=hw
 refine AP 4 ?_
 have hx:=hr
 refine AP 5 ?_
 refine XO.done [4] ?_
 refine Ap ?_;((exact Bc rfl))
def HA(ws:List Int)(p:Nat):Bool:=AN .and .u64 ((ws.getD (p / 64) 0).fdiv (2^min (p%64) 64)) 1==1
theorem Acn(ws:List Int)(p:Nat)(hp:p≤2^40)(h:p / 64<ws.length):Ad Tryz.prog 201 [.sl 1 (Bu ws),I p] (fun r=>r=B (HA ws p)):=by
 obtain⟨w,hw,_⟩:=Bd ws (p / 64) h
 have:=Adk ws p w hp hw
 unfold HA
 rwa [BC hw]
theorem AbG(ws:List Int)(h:ws.length≤2^40):Ad Tryz.prog 240 [.sl 1 (Bu ws)] (fun r=>r=I (ws.length*64:Nat)):=by
 refine Au 6 Tryz.func240 ?_
 refine Aa 0 [0] ?_
 refine XW.at 1 ?_;have hx:(ws.length:Int)*64=((ws.length*64:Nat):Int):=(by push_cast;rfl)
 refine Ba 1 [2] ?_
 refine Ap ?_;((exact Bc rfl))
theorem Ae5(k:Int)(ws:List Int)(p:Nat)(hp:p≤2^40)(h:p / 64<ws.length):Ad Tryz.prog 200 [I p,.rp [I k,.sl 1 (Bu ws)]] (fun r=>r=B (!(HA ws p))):=by
 refine Au 9 Tryz.func200 ?_
 refine Aa 0 [0,1] ?_
 refine Ae 1 ?_
 refine Ac 3 ?_
 refine AC (Acn ws p hp h) ?_;rintro _ rfl
 refine Ac 2 ?_
 refine XO.done [3] ?_
 refine Ap ?_;((exact Bc rfl))
theorem Aek(k:Int)(ws:List Int)(w:S)(ps:List Int)(hps:ps.length≤2^40)(hin: ∀ p∈ps,0≤p∧p≤2^40∧p.toNat / 64<ws.length)(hpos:Ad Tryz.prog 199 [.agg [I k,.sl 1 (Bu ws)],str w] (fun r=>r= .sl 1 (Ak ps))):Ad Tryz.prog 142 [.agg [I k,.sl 1 (Bu ws)],str w] (fun r=>r=B (!(ps.any fun p=>!(HA ws p.toNat)))):=by
 have hcl: ∀ (x:Int),x∈ps→Ad Tryz.prog 200 [I x,.rp [I k,.sl 1 (Bu ws)]] (fun r=>r=B (!(HA ws x.toNat))):=fun x hx=>by have h:=hin x hx;have q:=Ae5 k ws x.toNat (by omega) h.2.2;rwa [show((x.toNat:Nat):Int)=x by omega]at q
 refine Au 11 Tryz.func142 ?_
 refine Aa 0 [1,2] ?_
 refine XW.at 1 ?_;refine EG 1 0 ⟨[(1,str w),(2,.rp [I k,.sl 1 (Bu ws)])],[]⟩ (Cy [] [0] (by simp[AR,lk,lkh,I,wkE,wkL,str,AE,AO]) (by simp[Am,Ai,Aj,lkh,wkE,wkL,str,AE,AO])) ?_
 refine Ae 1 ?_
 refine Ac 2 ?_
 refine AC (hpos) ?_;rintro _ rfl
 refine Ac 1 ?_
 refine AC (Wa 200 [I k,.sl 1 (Bu ws)] (fun p=>!(HA ws p.toNat)) ps hps hcl) ?_;rintro _ rfl
 refine Ac 2 ?_
 refine XO.done [4] ?_
 refine Ap ?_;((exact Bc rfl))
end Go.Proofs.YtpkhodjlnodagaaGreatDoor
