/- Part 25 of the proof of PlanSkipsOnlyWhatCannotMatch. -/
import Derived.Test.YtpkhodjlnodagaaGreatDoorB15
import Derived.Test.YtpkhodjlnodagaaGreatDoorB24
set_option linter.unusedSimpArgs false
set_option linter.unusedVariables false
set_option linter.unusedSectionVars false
namespace Go.Proofs.YtpkhodjlnodagaaGreatDoor
open Go.Av
set_option maxHeartbeats 4000000
set_option maxRecDepth 10000
attribute [local irreducible] XH XO Ae Ad AU
theorem AbK: ∀ l,AF 0 l=true→IC l=[]
 | [],_=>rfl
 |a::l,h=>by
   simp only[AF,Bool.and_eq_true]at h
   have h2:=AbK l h.2
   cases a with
   |osl i n sz=>simp[AN]at h
   |ptr i sz k o=>simp[AN]at h
   |_=>simpa [IC] using h2
theorem Ob: ∀ {es:List (List AV)},AB 0 es=true→HI es=[]
 | [],_=>rfl
 |c::cs,h=>by
   simp only[AB,List.all_cons,Bool.and_eq_true]at h
   rw[HI,AbK c h.1,Ob (es:=cs) (by simpa [AB] using h.2)];rfl
@[go_sem] theorem AiS(l:List UInt8):HI (Ab l)=[]:=Ob sP
@[go_sem] theorem Ajk(l:List Int):HI (An l)=[]:=Ob sP
@[go_sem] theorem Aji(l:List Int):HI (BN l)=[]:=Ob sP
theorem gX{α:Type}{l:List α}{i:Nat}{x d:α}(h:l[i]? =some x):l.getD i d=x:=by simp[List.getD,h]
theorem Aah(l:List Int)(i:Nat)(s:Int):(BN l).set i [AV.val (.int .u64 s)]=BN (l.set i s):=by simp[BN,List.map_set,U64]
attribute [go_sem] Aah
def psF(a b:Int)(m i:Nat):Int:=((a+(i:Int)*b)%4294967296)%(m:Int)
def psA(a b:Int)(m h:Nat):List Int:=(List.range h).map (psF a b m)
def psL(w:S)(m h:Nat):List Int:=psA (MW 0 w) (MW 1 w) m h
theorem Ab0(a b:Int)(m h:Nat):psA a b m h++[psF a b m h]=psA a b m (h+1):=by simp[psA,List.range_succ]
@[simp] theorem Acg(a b:Int)(m h:Nat):(psA a b m h).length=h:=by simp[psA]
theorem Ul(w:S)(m h:Nat):(psL w m h).length=h:=Acg _ _ _ _
theorem MK(w:S)(m h:Nat)(hm:0<m): ∀ p∈psL w m h,0≤p∧p<m:=by
 intro p hp
 simp only[psL,psA,List.mem_map]at hp
 obtain⟨i,_,rfl⟩:=hp
 exact⟨Int.emod_nonneg _ oM,Int.emod_lt_of_pos _ oM⟩
theorem Rk(n:Int):IntKind.u32.wrap n=n%4294967296:=rfl
theorem Acu(a b:Int)(m i:Nat):(IntKind.i64.wrap (IntKind.u32.wrap (a+IntKind.u32.wrap ((i:Int)*b)))).tmod (m:Int)=psF a b m i:=by
 have h:=WV (a+IntKind.u32.wrap ((i:Int)*b))
 rw[Ar oM,Int.tmod_eq_emod_of_nonneg h.1,Rk,Rk,psF]
 congr 1;omega
theorem Abg(a b:Int)(m i:Nat):(IntKind.i64.wrap (IntKind.u32.wrap (a+IntKind.u32.wrap ((i:Int)*b)))).tmod (64*(m:Int))=psF a b (64*m) i:=by
 have h:=Acu a b (64*m) i
 rwa [show((64*m:Nat):Int)=64*(m:Int) by omega]at h
def orP(p:Int)(c:Int):Int:=AP .or .u64 c (IntKind.u64.wrap (1*2^min (p%64).toNat 64))
def F9(b:List Int)(p:Int):List Int:=b.set (p / 64).toNat (orP p (b.getD (p / 64).toNat 0))
def Ns(m:Nat)(b:List Int)(w:S):List Int:=(psL w m 3).foldl F9 b
def E1(m:Nat)(ts:List S)(i:Nat):List Int:=(ts.take i).foldl (Ns m) (List.replicate (m / 64) 0)
theorem Sv(b:List Int)(p:Int):(F9 b p).length=b.length:=by simp[F9]
theorem LV: ∀ (l:List Int) (b:List Int),(l.foldl F9 b).length=b.length
 | [],b=>rfl
 |p::l,b=>by rw[List.foldl_cons,LV l,Sv]
theorem S4(m:Nat)(b:List Int)(w:S):(Ns m b w).length=b.length:=LV _ _
theorem Qi(m:Nat): ∀ (l:List S) (b:List Int),(l.foldl (Ns m) b).length=b.length
 | [],b=>rfl
 |p::l,b=>by rw[List.foldl_cons,Qi m l,S4]
theorem Pb(m:Nat)(ts:List S)(i:Nat):(E1 m ts i).length=m / 64:=by rw[E1,Qi];simp
theorem Adz{l:List Int}{k:Nat}{p:Int}(b:List Int)(h:l[k]? =some p):(l.take (k+1)).foldl F9 b=F9 ((l.take k).foldl F9 b) p:=by rw[List.take_add_one,h,List.foldl_append];rfl
theorem Z1{ts:List S}{i:Nat}{w:S}(m:Nat)(h:ts[i]? =some w):E1 m ts (i+1)=Ns m (E1 m ts i) w:=by rw[E1,List.take_add_one,h,List.foldl_append];rfl
theorem AdC(p c:Int):0≤orP p c∧orP p c<18446744073709551616:=⟨Int.emod_nonneg _ dC,Int.emod_lt_of_pos _ dC⟩
def Dc(c:Int)(k:Nat):UInt8:=UInt8.ofNat (IntKind.u8.wrap (c.fdiv (2^min (8*k) 64))).toNat
theorem MB(c:Int)(k:Nat):IntKind.u8.wrap (c.fdiv (2^min (8*k) 64))=((Dc c k).toNat:Int):=by
 have h1:0≤IntKind.u8.wrap (c.fdiv (2^min (8*k) 64)):=Int.emod_nonneg _ dC
 have h2:IntKind.u8.wrap (c.fdiv (2^min (8*k) 64))<256:=Int.emod_lt_of_pos _ dC
 unfold Dc
 rw[UInt8.toNat_ofNat_of_lt' (by simp[UInt8.size];omega)]
 omega
theorem AeM(c:Int):IntKind.u8.wrap c=((Dc c 0).toNat:Int):=by
 rw[← MB];simp
def DX(c:Int)(k:Nat):List UInt8:=(List.range k).map (Dc c)
theorem Af3(c:Int)(k:Nat):DX c k++[Dc c k]=DX c (k+1):=by simp[DX,List.range_succ]
theorem Fu(c:Int)(k:Nat):(DX c k).length=k:=by simp[DX]
def DR(b:List Int)(i:Nat):List UInt8:=[3,Dc b.length 1,Dc b.length 0]++(b.take i).flatMap fun c=>DX c 8
def EP(b:List Int):List UInt8:=DR b b.length
theorem Qb{b:List Int}{i:Nat}{c:Int}(h:b[i]? =some c):DR b i++DX c 8=DR b (i+1):=by
 simp only[DR];rw[List.take_add_one,h,List.flatMap_append,List.append_assoc];simp
theorem Kc(b:List Int): ∀ i,i≤b.length→(DR b i).length=3+8*i
 |0,_=>by simp[DR]
 |i+1,h=>by
   have:=Kc b i oM
   rw[← Qb (List.getElem?_eq_getElem oM),List.length_append,this,Fu];omega
theorem JM(b:List Int):(EP b).length=3+8*b.length:=Kc b _ (Nat.le_refl _)
theorem Af1{b:List Int}{p c:Int}(h:b[(p / 64).toNat]? =some c):b.set (p / 64).toNat (orP p c)=F9 b p:=by rw[F9,gX h]
theorem AdJ(h:Nat)(hh:h≤8)(b:List Int)(hb0:0<b.length)(hb:b.length≤2^20)(w:S)(u v:Int)(q0:Ae Tryz.prog 202 [U32 0,str w] (fun r=>r=U32 u))(q1:Ae Tryz.prog 202 [U32 1,str w] (fun r=>r=U32 v)):Ad Tryz.prog 145 [.agg [I h,.sl 1 (BN b)],str w] [] (.osl 0 h 1) [some ⟨3,1,An (psA u v (64*b.length) h)⟩]:=by
 have hpf:=Abg u v b.length
 have hps:=Ab0 u v (64*b.length)
 have h0:psA u v (64*b.length) 0=[]:=rfl
 refine BD 35 0 Tryz.func145 ?_
 refine Aa 0 [1,2] ?_
 refine Ah 1 ?_
 refine Ac 1 ?_
 refine AG (q0) ?_;rintro _ rfl
 refine Ac 1 ?_
 refine AG (q1) ?_;rintro _ rfl
 refine Ac 2 ?_
 refine XO.done [2,5,6] ?_
 refine Aa 2 [2,5,6,7] ?_
 refine Aa 3 [2,5,6,7,8] ?_
 refine A8 2 (fun i:Nat=>⟨[(2,.ptr 0 2 0 0),(5,U32 u),(6,U32 v),(7,.osl 1 i 1),(8,I i)],[(0,some ⟨139,2,[[I h,.sl 1 (BN b)]]⟩),(1,some ⟨3,1,An (psA u v (64*b.length) i)⟩)]⟩) (fun i=>i≤h) (fun i=>h-i) 0 (AO (And.intro h0 U32.eq_1) [some 0,none] []) ?_ (h0:=Nat.zero_le _);rintro i hI0 Y0 hY0;skip
 refine Aa 4 [2,5,6,7,8,16] ?_
 first|refine CF 16 ?_|refine A3 16 ?_|refine AC 16 (fun c16=>?_) (fun c16=>?_)|refine Bx 16 (fun c16=>?_) (fun c16=>?_)
 refine XW.at 6 ?_;have hx:=hpf i
 refine A4 6 [2,5,6,7,8] ?_
 refine AQ 5 [2,5,6,7,8] ?_
 refine XH.le ?_;first|(exact eY hY0 (i+1) (AO (And.intro hps U32.eq_1) [some 0,some 1] []))
 refine XW.at 7 ?_;obtain rfl:i=h:=oM
 refine Aa 7 [4] ?_
 refine Aq ?_;first|((refine XB.ret [some 0] [] (hids:=⟨by simp[Al],by simp[Al],rfl⟩) (hwk:=?_) (hwh:=?_);(next=>simp[Az,lk,lkh,wk,wkL,wkE,I]);(next=>simp[Am,Ai,Ak,lkh,wkE,wkL,wk,I])))|fail
theorem Ae0(h:Nat)(hh:h≤8)(b:List Int)(hb0:0<b.length)(hb:b.length≤2^20)(w:S)(hw:w.length≤2^40):Ad Tryz.prog 145 [.agg [I h,.sl 1 (BN b)],str w] [] (.osl 0 h 1) [some ⟨3,1,An (psL w (64*b.length) h)⟩]:=AdJ h hh b hb0 hb w _ _ (Ep (AbB 0 w hw)) (Ep (AbB 1 w hw))
theorem Aca(b:List Int)(hb0:0<b.length)(hb:b.length≤2^20)(w:S)(hw:w.length≤2^40): ∃ ps:List Int,ps=psL w (64*b.length) 3∧ps.length=3∧(∀ p∈ps,0≤p∧p<(64*b.length:Nat))∧Ad Tryz.prog 145 [.agg [I 3,.sl 1 (BN b)],str w] [] (.osl 0 3 1) [some ⟨3,1,An ps⟩]:=⟨_,rfl,Ul _ _ _,MK _ _ _ oM,Ae0 3 oM b hb0 hb w hw⟩
theorem Aak(ts:List S)(ht:ts.length≤2^30)(hw: ∀ w∈ts,w.length≤2^40)(m:Nat)(hm:(if(if(ts.length:Int)>1 then(ts.length:Int)else 1)*10<65536 then(if(ts.length:Int)>1 then(ts.length:Int)else 1)*10 else 65536)=(m:Int))(m1:1≤m)(m2:m≤65536):Ad Tryz.prog 163 [.sl 1 (Au ts),I 10] [] (.tup [.agg [I 3,.osl 0 ((m+63) / 64) 1],I 0]) [some ⟨65,1,BN (E1 (64*((m+63) / 64)) ts ts.length)⟩]:=by
 have hw1:IntKind.i64.wrap ((if(ts.length:Int)>1 then(ts.length:Int)else 1)*10)=(if(ts.length:Int)>1 then(ts.length:Int)else 1)*10:=Ar (by split<;>omega)
 have q0:=AgA m m1 m2
 obtain⟨n,hn⟩: ∃ n,(m+63) / 64=n:=⟨_,rfl⟩
 rw[hn]at q0 ⊢
 have hbl:=Pb (64*n) ts
 rw[Nat.mul_div_cancel_left n dC]at hbl
 have hz:List.replicate n (0:Int)=E1 (64*n) ts 0:=by simp[E1]
 refine BD 64 0 Tryz.func163 ?_
 refine Ah 0 ?_
 refine Ac 2 ?_
 refine CS [0,1,4] ?_
 refine Ah 1 ?_
 refine Ac 3 ?_
 first|refine GK 13 ?_|refine BQ 13 ?_|refine Cn 13 (fun g13=>?_) (fun g13=>?_)|refine XO.split 13 (fun g13=>?_) (fun g13=>?_)
 refine Ac 3 ?_
 refine CS [0,1,4,16] ?_
 first|refine CF 16 ?_|refine A3 16 ?_|refine AC 16 (fun c16=>?_) (fun c16=>?_)|refine Bx 16 (fun c16=>?_) (fun c16=>?_)
 refine Ah 3 ?_
 refine Aw 4 ?_
 have hx:=hw1;have hx2:=hm
 refine A2 2 ?_
 refine HO q0 (hei:=by simp) ?_
 refine Aw 6 ?_
 refine CS [0,4,6] ?_
 refine Ah 4 ?_
 refine Ac 1 ?_
 refine CS [0,4,6,8] ?_
 refine A8 3 (fun i:Nat=>⟨[(0,.sl 1 (Au ts)),(4,.ptr 0 2 0 0),(6,.ptr 1 2 0 0),(8,I i)],[(0,some ⟨139,2,[[I 0,.val (.slice none 0 0)]]⟩),(1,some ⟨139,2,[[I 3,.osl 2 n 1]]⟩),(2,some ⟨65,1,BN (E1 (64*n) ts i)⟩)]⟩) (fun i=>i≤ts.length) (fun i=>ts.length-i) 0 (AO hz [some 0,some 1,some 2] []) ?_ (h0:=Nat.zero_le _);rintro i hI0 Y0 hY0;skip
 refine Ah 5 ?_
 refine Ac 4 ?_
 refine CS [0,4,6,8,31] ?_
 first|refine CF 31 ?_|refine A3 31 ?_|refine AC 31 (fun c31=>?_) (fun c31=>?_)|refine Bx 31 (fun c31=>?_) (fun c31=>?_)
 refine XW.at 7 ?_;obtain⟨w,hx,hwm⟩:=Bm ts i oM;have hbs:=Z1 (64*n) hx;have hbi:=hbl i;rw[Ns]at hbs;generalize hbb:E1 (64*n) ts i=bb at*;obtain⟨ps,hps,hpl,hpr,qp⟩:=Aca bb oM oM w (hw w hwm);rw[hbi]at hps hpr;rw[← hps]at hbs
 refine Ah 7 ?_
 refine Aw 5 ?_
 refine AhS [2] [.agg [I 3,.sl 1 (BN bb)],str w] qp (hv:=⟨MO ⟨Ox,OR sP rfl rfl (by rw[NF,hbi]) rfl,trivial⟩,Cq _ _⟩) (hb:=by simp[DY,lkh]) ?_
 refine Aw 1 ?_
 refine CS [0,4,6,8,9] ?_
 refine Ah 8 ?_
 refine Ac 1 ?_
 refine CS [0,4,6,8,9,10] ?_
 refine A8 4 (fun k:Nat=>⟨[(0,.sl 1 (Au ts)),(4,.ptr 0 2 0 0),(6,.ptr 1 2 0 0),(8,I i),(9,.osl 3 3 1),(10,I k)],[(0,some ⟨139,2,[[I 0,.val (.slice none 0 0)]]⟩),(1,some ⟨139,2,[[I 3,.osl 2 n 1]]⟩),(2,some ⟨65,1,BN ((ps.take k).foldl F9 bb)⟩),(3,some ⟨3,1,An ps⟩)]⟩) (fun k=>k≤ps.length) (fun k=>ps.length-k) 0 (AO hpl [some 0,some 1,some 2,some 3] []) ?_ (h0:=Nat.zero_le _);rintro k hI1 Y1 hY1;skip
 refine Ah 9 ?_
 refine Ac 4 ?_
 refine CS [0,4,6,8,9,10,43] ?_
 first|refine CF 43 ?_|refine A3 43 ?_|refine AC 43 (fun c43=>?_) (fun c43=>?_)|refine Bx 43 (fun c43=>?_) (fun c43=>?_)
 refine XW.at 11 ?_;obtain⟨p,hp1,hpm⟩:=Bm ps k oM;have hr:=hpr p hpm;have hfl:=LV (ps.take k) bb;obtain⟨c,hc1,hcm⟩:=Bm ((ps.take k).foldl F9 bb) (p / 64).toNat oM;have hse:=Af1 hc1;rw[← Adz bb hp1]at hse;have hq1:IntKind.i64.wrap (p.tdiv 64)=p / 64:=(by rw[Int.tdiv_eq_ediv_of_nonneg hr.1,Ar oM]);have hr1:p.tmod 64=p%64:=Int.tmod_eq_emod_of_nonneg hr.1;have hpr1:0≤p / 64∧p / 64<(n:Int):=oM
 refine Ah 11 ?_
 refine Aw 3 ?_
 have hx:=hp1
 refine Aw 3 ?_
 have hx:=hq1
 refine A2 1 ?_
 have hx:=hc1
 refine Aw 2 ?_
 have hx:=hp1
 refine Aw 4 ?_
 have hx:=hr1
 refine A2 1 ?_
 refine A2 1 ?_
 refine A2 1 ?_
 refine Aw 1 ?_
 have hx:=hc1;simp only[orP,Int.one_mul]at hse
 refine Aw 1 ?_
 refine CS [0,4,6,8,9,10] ?_
 refine Ah 10 ?_
 refine Gz 3 ?_
 refine CS [0,4,6,8,9,10] ?_
 refine XH.le ?_;first|(exact eY hY1 (k+1) (AO hse [some 0,some 1,some 2,some 3] []))
 refine Ah 6 ?_
 refine Gz 3 ?_
 refine CS [0,4,6,8] ?_
 refine XH.le ?_;(have hfin:ps.take k=ps:=List.take_of_length_le oM);first|(exact eY hY0 (i+1) (AO (And.intro hbs hfin) [some 0,some 1,some 2] []))
 refine Ah 12 ?_
 refine Ac 3 ?_
 refine CS [4,5] ?_
 refine Aq ?_;first|((obtain rfl:i=ts.length:=oM;refine XB.ret [some 1] [] (hids:=⟨by simp[Al],by simp[Al],rfl⟩) (hwk:=?_) (hwh:=?_);(next=>simp[Az,lk,lkh,wk,wkL,wkE,I]);(next=>simp[Am,Ai,Ak,lkh,wkE,wkL,wk,I])))|fail
theorem Agi(b:List Int)(h1:1≤b.length)(h2:b.length≤1024):Ad Tryz.prog 164 [.agg [I 3,.sl 1 (BN b)]] [] (.tup [.osl 0 (EP b).length 1,I 0]) [some ⟨5,1,Ab (EP b)⟩]:=by
 have q0:=Ep (Adt 3 b oM oM h1 h2)
 have hu1:IntKind.u8.wrap ((b.length:Int).fdiv (2^min 8 64))=((Dc b.length 1).toNat:Int):=MB _ 1
 have hu2:=AeM b.length
 have hu0:IntKind.u8.wrap 3=((3:UInt8).toNat:Int):=rfl
 have hb3:[[AV.val (.int .u8 3)],[AV.val (.int .u8 ((Dc b.length 1).toNat:Int))],[AV.val (.int .u8 ((Dc b.length 0).toNat:Int))]]=Ab (DR b 0):=rfl
 have hel:=Kc b
 have hl0:(DR b 0).length=3:=hel 0 oM
 refine BD 50 0 Tryz.func164 ?_
 refine Aa 0 [1] ?_
 refine Ah 1 ?_
 refine Ac 1 ?_
 refine AG (q0) ?_;rintro _ rfl
 refine Ac 1 ?_
 refine XO.done [1,4] ?_
 refine Aa 2 [1,4,11] ?_
 first|refine CF 11 ?_|refine A3 11 ?_|refine AC 11 (fun c11=>?_) (fun c11=>?_)|refine Bx 11 (fun c11=>?_) (fun c11=>?_)
 refine Ah 4 ?_
 refine Aw 2 ?_
 have hx:=hu0
 refine A2 5 ?_
 have hx:=hu1;have hx2:=hu2
 refine A2 5 ?_
 have hx:=hb3
 refine Aw 2 ?_
 refine XO.done [1,5] ?_
 refine Aa 5 [1,5,6] ?_
 refine A8 2 (fun i:Nat=>⟨[(1,.ptr 0 2 0 0),(5,.osl 1 (DR b i).length 1),(6,I i)],[(0,some ⟨139,2,[[I 3,.sl 1 (BN b)]]⟩),(1,some ⟨5,1,Ab (DR b i)⟩)]⟩) (fun i=>i≤b.length) (fun i=>b.length-i) 0 (AO (And.intro hl0 B.eq_1) [some 0,some 1] []) ?_ (h0:=Nat.zero_le _);rintro i hI0 Y0 hY0;skip
 refine Aa 6 [1,5,6,30] ?_
 first|refine CF 30 ?_|refine A3 30 ?_|refine AC 30 (fun c30=>?_) (fun c30=>?_)|refine Bx 30 (fun c30=>?_) (fun c30=>?_)
 refine XW.at 8 ?_;have hli:=hel i oM;have hos:=Fu
 refine Aa 8 [1,5,6,7] ?_
 refine A8 2 (fun k:Nat=>⟨[(1,.ptr 0 2 0 0),(5,.osl 1 (DR b i++DX (b.getD i 0) k).length 1),(6,I i),(7,I k)],[(0,some ⟨139,2,[[I 3,.sl 1 (BN b)]]⟩),(1,some ⟨5,1,Ab (DR b i++DX (b.getD i 0) k)⟩)]⟩) (fun k=>k≤8) (fun k=>8-k) 0 (AO DX.eq_1 [some 0,some 1] []) ?_ (h0:=Nat.zero_le _);rintro k hI1 Y1 hY1;skip
 refine Aa 9 [1,5,6,7,34] ?_
 first|refine CF 34 ?_|refine A3 34 ?_|refine AC 34 (fun c34=>?_) (fun c34=>?_)|refine Bx 34 (fun c34=>?_) (fun c34=>?_)
 refine XW.at 11 ?_;obtain⟨c,hx,hcm⟩:=Bm b i oM;have hoc:=MB c k;have e8:(8*(k:Int)).toNat=8*k:=oM;rw[← e8]at hoc;have hx2:=hoc;have hlk:=Af3 c k;have hgd:b.getD i 0=c:=gX hx;rw[hgd]at*;have hll:(DX c (k+1)).length=(DX c k).length+1:=(by rw[Fu,Fu])
 refine A4 11 [1,5,6,7] ?_
 refine AQ 10 [1,5,6,7] ?_
 refine XH.le ?_;first|(exact eY hY1 (k+1) (AO (And.intro hx (And.intro hlk (And.intro @List.append_assoc.{0} (And.intro hll (And.intro @Nat.add_assoc @List.length_append.{0}))))) [some 0,some 1] []))
 refine AQ 7 [1,5,6] ?_
 refine XH.le ?_;(obtain⟨c,hx,hcm⟩:=Bm b i oM;have hfin:=Qb hx;have hgd:b.getD i 0=c:=gX hx;have hk8:k=8:=oM;rw[hk8,hgd];have hlf:(DR b i).length+(DX c 8).length=(DR b (i+1)).length:=(by rw[← hfin,List.length_append]));first|(exact eY hY0 (i+1) (AO (And.intro hfin hlf) [some 0,some 1] []))
 refine XW.at 12 ?_;obtain rfl:i=b.length:=oM
 refine Aa 12 [2,3] ?_
 refine Aq ?_;first|((refine XB.ret [some 0] [] (hids:=⟨by simp[Al],by simp[Al],rfl⟩) (hwk:=?_) (hwh:=?_);(next=>simp[Az,lk,lkh,wk,wkL,wkE,I,EP]);(next=>simp[Am,Ai,Ak,lkh,wkE,wkL,wk,I,EP])))|fail
end Go.Proofs.YtpkhodjlnodagaaGreatDoor
namespace Go.Proofs.YtpkhodjlnodagaaGreatDoor
open Go.Av
set_option maxHeartbeats 4000000
attribute [local irreducible] Ad
theorem Qt(t:S): ∀ i,i≤t.length+1→ ∀ w∈(wTo t i).1,0<w.length∧w.length≤40
 |0,_=>by simp[wTo]
 |i+1,h=>by
   have:=Qt t i oM
   rw[Wu t i (by simp[IK];omega)]
   unfold IX
   split
   · exact this
   · split
     · next h1=>
       intro w hw
       rcases List.mem_append.1 hw with hw|hw
       · exact this w hw
       · rw[List.mem_singleton.1 hw];exact h1
     · exact this
theorem LZ(t:S): ∀ w∈Cf t,0<w.length∧w.length≤40:=fun w hw=>Qt t _ (Nat.le_refl _) w ((Cd _ _).1 hw)
theorem Ro(e:Ev)(he:EvT e): ∀ w∈EJ e,w.length≤2048:=by
 intro w hw
 have hw:=(Cd _ _).1 hw
 unfold Hc at hw
 rcases List.mem_append.1 hw with hw|hw
 · have:=LZ _ w hw;omega
 · simp only[List.take_length,List.mem_map]at hw
   obtain⟨f,hf,rfl⟩:=hw
   have:=he.fv f hf
   simp;omega
theorem OI(e:Ev)(he:EvT e):(EJ e).length≤80073:=by
 have h1:=DA (Hc e e.fields.length)
 have h2:=E5 (BH e)
 have h3:=Gl e he
 have h4:=he.nf
 have h5:(Hc e e.fields.length).length=(Cf (BH e)).length+e.fields.length:=by simp[Hc]
 unfold EJ;omega
def Et(l:List Ev)(i:Nat):List S:=(l.take i).flatMap EJ
theorem XE(l:List Ev)(i:Nat)(h:i<l.length):Et l (i+1)=Et l i++EJ l[i]:=by
 unfold Et
 rw[List.take_add_one,List.getElem?_eq_getElem h,List.flatMap_append]
 simp only[Option.toList,List.flatMap_cons,List.flatMap_nil,List.append_nil]
theorem K7(l:List Ev)(h: ∀ e∈l,EvT e): ∀ i,i≤l.length→(Et l i).length≤i*80073
 |0,_=>by simp[Et]
 |i+1,hi=>by
   have:=K7 l h i oM
   have:=OI l[i] (h _ (List.getElem_mem _))
   rw[XE l i oM]
   simp only[List.length_append];omega
def fmN(n:Nat):Nat:=min (max n 1*10) 65536
theorem AeX(n:Nat):(if(if(n:Int)>1 then(n:Int)else 1)*10<65536 then(if(n:Int)>1 then(n:Int)else 1)*10 else 65536)=(fmN n:Int):=by
 unfold fmN
 split<;>split<;>omega
theorem Uo(n:Nat):1≤fmN n∧fmN n≤65536:=by unfold fmN;omega
def FT(l:List Ev):List Int:=E1 (64*((fmN (Bg (Et l l.length)).length+63) / 64)) (Bg (Et l l.length)) (Bg (Et l l.length)).length
theorem Mo(l:List Ev):(FT l).length=(fmN (Bg (Et l l.length)).length+63) / 64:=by
 rw[FT,Pb,Nat.mul_div_cancel_left _ dC]
theorem JH(l:List Ev):1≤(FT l).length∧(FT l).length≤1024:=by
 have:=Uo (Bg (Et l l.length)).length
 rw[Mo];omega
def JP(l:List Ev):List UInt8:=EP (FT l)
theorem WE(l:List Ev):(JP l).length≤8195:=by
 have:=JH l
 rw[JP,JM];omega
theorem encE(b:List Int)(h1:1≤b.length)(h2:b.length≤1024): ∃ o,o=EP b∧Ad Tryz.prog 164 [.agg [I 3,.sl 1 (BN b)]] [] (.tup [.osl 0 o.length 1,I 0]) [some ⟨5,1,Ab o⟩]:=⟨_,rfl,Agi b h1 h2⟩
theorem Ae7(l:List Ev)(hl:l.length≤4096)(h: ∀ e∈l,EvT e): ∃ b:List Int,b=FT l∧(1≤b.length∧b.length≤1024)∧Ad Tryz.prog 163 [.sl 1 (Au (Bg (Et l l.length))),I 10] [] (.tup [.agg [I 3,.osl 0 b.length 1],I 0]) [some ⟨65,1,BN b⟩]:=by
 have hL:=K7 l h l.length (Nat.le_refl _)
 have hdl:=DA (Et l l.length)
 have hr:=Uo (Bg (Et l l.length)).length
 have q:=Aak (Bg (Et l l.length)) oM (by
   intro w hw
   have hw:=(Cd _ _).1 hw
   unfold Et at hw
   obtain⟨e,he,hw⟩:=List.mem_flatMap.1 hw
   have:=Ro e (h e (List.mem_of_mem_take he)) w hw
   omega) _ (AeX _) hr.1 hr.2
 refine⟨FT l,rfl,JH l,?_⟩
 rw[Mo]
 exact q
theorem Aac(l:List Ev)(hl:l.length≤4096)(h: ∀ e∈l,EvT e):Ad Tryz.prog 108 [.sl 10 (evE l)] [] (.osl 0 (JP l).length 1) [some ⟨5,1,Ab (JP l)⟩]:=by
 have hL:=K7 l h l.length (Nat.le_refl _)
 have q1:=Hj _ (Et l l.length) (Nat.le_refl _) oM
 have hdl:=DA (Et l l.length)
 obtain⟨b,hb,⟨b1,b2⟩,q2⟩:=Ae7 l hl h
 obtain⟨o,ho,q3⟩:=encE b b1 b2
 have hel:=JM b
 rw[← ho]at hel
 have hf:JP l=o:=by rw[ho,hb];rfl
 rw[hf]
 clear hf ho hb
 refine acN 34 0 Tryz.func108 fun C hN hk=>?_
 refine Af [0] ?_
 refine Af [0,3] ?_
 refine Af [0,3,4] ?_
 refine lpF hk 1 (fun i:Nat=>⟨[(0,.sl 10 (evE l)),(3,.osl 0 (Et l i).length 1),(4,I i)],[(0,some ⟨9,1,Au (Et l i)⟩)]⟩) (fun i=>i≤l.length) (fun i=>l.length-i) 0 (Fm Et.eq_1 [none] []) ?_
 intro i h1
 have hl2:=K7 l h i h1
 by_cases hi:i<l.length
 · have hx:=List.getElem?_eq_getElem hi
   have hs:=XE l i hi
   have he:=h _ (List.getElem_mem hi)
   have q0:=AcA l[i] he
   have hw:=OI l[i] he
   generalize EJ l[i]=ws at*
   generalize l[i]=e at*
   generalize Et l i=o2 at*
   have F:=hx;refine A6 [0,3,4,12] ?_;clear F
   refine cT ?_;refine Do [0,3,4] ?_ (onc 5 (pcq q0) noc)
   have F:=hx;refine A6 [0,3,4] ?_;clear F
   refine eE (i+1) (G1 [some 0] [])
 · have:i=l.length:=by omega
   subst this
   generalize Bg (Et l l.length)=d at*
   generalize Et l l.length=o2 at*
   refine AL [0,3,4,12] ?_
   refine cF ?_;refine Af [5] ?_ (onc 1 (bcq [0] q1) (onc 2 (bcq [9] q2) noc))
   refine Af [7] ?_ (onc 1 (bcq [1] q3) noc)
   refine Af [2] ?_
   refine AW.ret (D6 [some 0] [])
def lo(L:List Ln):List Int:=L.map Ln.off
def le(L:List Ln):List Int:=L.map Ln.len
def lz(L:List Ln):List Int:=L.map fun x=>(x.text.length:Int)
def lt(L:List Ln):S:=L.flatMap Ln.text
theorem lo_s(L:List Ln)(x:Ln):lo (L++[x])=lo L++[x.off]:=by simp[lo]
theorem le_s(L:List Ln)(x:Ln):le (L++[x])=le L++[x.len]:=by simp[le]
theorem lz_s(L:List Ln)(x:Ln):lz (L++[x])=lz L++[(x.text.length:Int)]:=by simp[lz]
theorem lt_s(L:List Ln)(x:Ln):lt (L++[x])=lt L++x.text:=by simp[lt]
theorem Jp: ∀ (L:List Ln),(∀ x∈L,x.text.length≤2000)→(lt L).length≤L.length*2000
 | [],_=>by simp[lt]
 |x::L,h=>by
   have:=Jp L (fun y hy=>h y (by simp[hy]))
   have:=h x sP
   simp only[lt,List.flatMap_cons,List.length_append,List.length_cons]at*;omega
def EU(l:List Ev)(i:Nat):List Int:=(l.take i).map fun e=>(e.lines.length:Int)
def Cj(l:List Ev)(i:Nat):List Ln:=(l.take i).flatMap Ev.lines
theorem Af0(l:List Ev)(i:Nat)(h:i<l.length):EU l (i+1)=EU l i++[(l[i].lines.length:Int)]:=by
 unfold EU
 rw[List.take_add_one,List.getElem?_eq_getElem h]
 simp only[Option.toList,List.map_append,List.map_cons,List.map_nil]
theorem Xp(l:List Ev)(i:Nat)(h:i<l.length):Cj l (i+1)=Cj l i++l[i].lines:=by
 unfold Cj
 rw[List.take_add_one,List.getElem?_eq_getElem h,List.flatMap_append]
 simp only[Option.toList,List.flatMap_cons,List.flatMap_nil,List.append_nil]
theorem Mk(l:List Ev)(i:Nat):(Cj l i).length≤(l.flatMap Ev.lines).length:=by
 have:l.flatMap Ev.lines=Cj l i++(l.drop i).flatMap Ev.lines:=by unfold Cj;rw[← List.flatMap_append,List.take_append_drop]
 rw[this];simp
theorem Nz(l:List Ev):Cj l l.length=l.flatMap Ev.lines:=by simp[Cj]
def Fk(l:List Ev):List UInt8:=AE (AZ (EU l l.length))++AE (AZ (lo (Cj l l.length)))++AE (AZ (le (Cj l l.length)))++AE (AZ (lz (Cj l l.length)))++lt (Cj l l.length)
theorem KI(v:List Int)(hl:v.length≤16384):(AZ v).length≤2^20∧(AE (AZ v)).length≤2^20:=by
 have:=Hm v hl
 have:=Dj (AZ v)
 omega
theorem AcB(l:List Ev)(hl:l.length≤4096)(h: ∀ e∈l,EvT e)(hL:(l.flatMap Ev.lines).length≤16384):Ad Tryz.prog 105 [.sl 10 (evE l)] [] (.osl 0 (Fk l).length 1) [some ⟨5,1,Ab (Fk l)⟩]:=by
 refine acN 80 0 Tryz.func105 fun C hN hk=>?_
 have htx: ∀ i,∀ x∈Cj l i,x.text.length≤2000:=by
   intro i x hx
   unfold Cj at hx
   obtain⟨e,he,hx⟩:=List.mem_flatMap.1 hx
   exact(h e (List.mem_of_mem_take he)).tx x hx
 have e0:EU l 0=[]:=by simp[EU]
 have e1:Cj l 0=[]:=by simp[Cj]
 refine Af [0] ?_
 refine Af [0,3,4,5,6] ?_
 refine Af [0,3,4,5,6,7] ?_
 refine Af [0,3,4,5,6,7,8] ?_
 refine lpF hk 5 (fun i:Nat=>⟨[(0,.sl 10 (evE l)),(3,.osl 0 (EU l i).length 1),(4,.osl 1 (lo (Cj l i)).length 1),(5,.osl 2 (le (Cj l i)).length 1),(6,.osl 3 (lz (Cj l i)).length 1),(7,.osl 4 (lt (Cj l i)).length 1),(8,I i)],[(0,some ⟨3,1,An (EU l i)⟩),(1,some ⟨3,1,An (lo (Cj l i))⟩),(2,some ⟨3,1,An (le (Cj l i))⟩),(3,some ⟨3,1,An (lz (Cj l i))⟩),(4,some ⟨5,1,Ab (lt (Cj l i))⟩)]⟩) (fun i=>i≤l.length) (fun i=>l.length-i) 0 (Fm (And.intro e0 (And.intro e1 (And.intro lo.eq_1 (And.intro le.eq_1 (And.intro lz.eq_1 lt.eq_1))))) [none,none,none,none,none] []) ?_
 intro i h1
 have hcl:(EU l i).length≤4096:=by simp[EU];omega
 have hll:=Mk l i
 have htl:=Jp _ (htx i)
 by_cases hi:i<l.length
 · have hx:=List.getElem?_eq_getElem hi
   have hs:=Af0 l i hi
   have hs2:=Xp l i hi
   have hll2:=Mk l (i+1)
   have htx2:=htx (i+1)
   have hc0:(EU l (i+1)).length≤4096:=by simp[EU];omega
   generalize EU l i=c at*
   generalize Cj l i=A at*
   generalize l[i]=e at*
   rw[hs2]at hll2 htx2
   have F:=hx;refine A6 [0,3,4,5,6,7,8,15] ?_;clear F
   refine cT ?_;refine Do [0,3,4,5,6,7,8] ?_
   refine Do [0,3,4,5,6,7,8,9] ?_
   obtain⟨c2,hc2⟩: ∃ c2,c++[(e.lines.length:Int)]=c2:=⟨_,rfl⟩
   have hs3:(c.length+1)=c2.length:=by rw[← hc2];simp
   rw[hc2,hs3]
   rw[hc2]at hs
   refine nx ?_
   refine lpF hk 5 (fun k:Nat=>⟨[(0,.sl 10 (evE l)),(3,.osl 0 c2.length 1),(4,.osl 1 (lo (A++e.lines.take k)).length 1),(5,.osl 2 (le (A++e.lines.take k)).length 1),(6,.osl 3 (lz (A++e.lines.take k)).length 1),(7,.osl 4 (lt (A++e.lines.take k)).length 1),(8,I i),(9,I k)],[(0,some ⟨3,1,An c2⟩),(1,some ⟨3,1,An (lo (A++e.lines.take k))⟩),(2,some ⟨3,1,An (le (A++e.lines.take k))⟩),(3,some ⟨3,1,An (lz (A++e.lines.take k))⟩),(4,some ⟨5,1,Ab (lt (A++e.lines.take k))⟩)]⟩) (fun k=>k≤e.lines.length) (fun k=>e.lines.length-k) 0 (KJ [some 0,some 1,some 2,some 3,some 4] []) ?_
   intro k h2
   have hek:e.lines.length≤16384:=by rw[List.length_append]at hll2;omega
   have hLk:(A++e.lines.take k).length≤16384:=by
     rw[List.length_append]at hll2 ⊢
     rw[List.length_take];omega
   have htk:=Jp (A++e.lines.take k) (fun x hx=>htx2 x (by
     rcases List.mem_append.1 hx with hx|hx
     · simp[hx]
     · simp[List.mem_of_mem_take hx]))
   have ho: ∀ B,(lo B).length=B.length:=by intro B;simp[lo]
   have he: ∀ B,(le B).length=B.length:=by intro B;simp[le]
   have hz: ∀ B,(lz B).length=B.length:=by intro B;simp[lz]
   have ho:=ho (A++e.lines.take k)
   have he:=he (A++e.lines.take k)
   have hz:=hz (A++e.lines.take k)
   by_cases hk2:k<e.lines.length
   · have hy:=List.getElem?_eq_getElem hk2
     have htt:=htx2 e.lines[k] sP
     have hs5:A++e.lines.take (k+1)=(A++e.lines.take k)++[e.lines[k]]:=by
       rw[List.take_add_one,hy]
       simp only[Option.toList,List.append_assoc]
     generalize e.lines[k]=x at*
     have s1:=lo_s (A++e.lines.take k) x
     have s2:=le_s (A++e.lines.take k) x
     have s3:=lz_s (A++e.lines.take k) x
     have s4:=lt_s (A++e.lines.take k) x
     rw[← hs5]at s1 s2 s3 s4
     generalize lo (A++e.lines.take k)=v1 at*
     generalize le (A++e.lines.take k)=v2 at*
     generalize lz (A++e.lines.take k)=v3 at*
     generalize lt (A++e.lines.take k)=v4 at*
     have F:=And.intro hx hy;refine A6 [0,3,4,5,6,7,8,9,34] ?_;clear F
     refine cT ?_;have F:=And.intro hx hy;refine AD [0,3,4,5,6,7,8,9,10] ?_;clear F
     have F:=And.intro hx hy;refine DI [0,3,4,5,6,7,8,9,10] ?_;clear F
     have F:=And.intro hx hy;refine AD [0,3,4,5,6,7,8,9] ?_;clear F
     have F:=And.intro hx hy;refine A6 [0,3,4,5,6,7,8,9] ?_;clear F
     refine eE (k+1) (Fm (And.intro @s1 (And.intro @s2 (And.intro @s3 @s4))) [some 0,some 1,some 2,some 3,some 4] [])
   · have:k=e.lines.length:=by omega
     subst this
     rw[List.take_length,← hs2]
     rw[List.take_length,← hs2]at ho he hz htk
     have F:=hx;refine A6 [0,3,4,5,6,7,8,9,34] ?_;clear F
     refine cF ?_;have F:=hx;refine A6 [0,3,4,5,6,7,8] ?_;clear F
     refine eE (i+1) (G1 [some 0,some 1,some 2,some 3,some 4] [])
 · have:i=l.length:=by omega
   subst this
   unfold Fk
   generalize EU l l.length=c at*
   generalize Cj l l.length=L at*
   have ho:(lo L).length=L.length:=by simp[lo]
   have he:(le L).length=L.length:=by simp[le]
   have hz:(lz L).length=L.length:=by simp[lz]
   generalize lo L=v1 at*
   generalize le L=v2 at*
   generalize lz L=v3 at*
   generalize lt L=v4 at*
   have q1:=H5 c oM
   have q2:=H5 v1 oM
   have q3:=H5 v2 oM
   have q4:=H5 v3 oM
   have b1:=KI c oM
   have b2:=KI v1 oM
   have b3:=KI v2 oM
   have b4:=KI v3 oM
   have p1:=JJ (AZ c) oM
   have p2:=H1 (AE (AZ c)) (AZ v1) oM oM
   have p3:=H1 (AE (AZ c)++AE (AZ v1)) (AZ v2) sO oM
   have p4:=H1 (AE (AZ c)++AE (AZ v1)++AE (AZ v2)) (AZ v3) sO oM
   generalize AE (AZ c)=x1 at*
   generalize AE (AZ v1)=x2 at*
   generalize AE (AZ v2)=x3 at*
   generalize AE (AZ v3)=x4 at*
   generalize AZ c=y1 at*
   generalize AZ v1=y2 at*
   generalize AZ v2=y3 at*
   generalize AZ v3=y4 at*
   have hsum:((x1++x2++x3++x4).length+v4.length)≤2^30:=by simp;omega
   generalize x1++x2++x3++x4=x6 at*
   generalize x1++x2++x3=x7 at*
   generalize x1++x2=x8 at*
   refine AL [0,3,4,5,6,7,8,15] ?_
   refine cF ?_;refine nx ?_;refine rG hN hk (onc 1 (bcq [0] q1) (onc 2 (bcq [13] p1) (onc 4 (bcq [1] q2) (onc 5 (NU 21 [37] p2) (onc 7 (bcq [2] q3) (onc 8 (NU 45 [61] p3) (onc 10 (bcq [3] q4) (onc 11 (NU 69 [85] p4) noc)))))))) [] [7,11] fun K hK=>?_;simp only[go_sem,seval];refine obK (hK _ _ ?_)
   clear hK K;refine Af [2] ?_
   refine AW.ret (D6 [some 0] [])
theorem My(l:List Ev)(n:S): ∀ i,∀ x∈(Bn l n i).1,0≤x∧x<(i:Int)
 |0=>by simp[Bn]
 |i+1=>by
   have:=My l n i
   unfold Bn
   split
   · split
     · intro x hx
       rcases List.mem_append.1 hx with hx|hx
       · have:=this x hx;omega
       · rw[List.mem_singleton.1 hx];omega
     · intro x hx;have:=this x hx;omega
   · intro x hx;have:=this x hx;omega
theorem Rw(l:List Ev)(n:S): ∀ i,(Bn l n i).1.Pairwise (· < ·)
 |0=>by simp[Bn]
 |i+1=>by
   have:=Rw l n i
   unfold Bn
   split
   · split
     · rw[List.pairwise_append]
       exact⟨this,sP,fun a ha b hb=>by rw[List.mem_singleton.1 hb];exact(My l n i a ha).2⟩
     · exact this
   · exact this
theorem Py(l:List Ev)(n:S): ∀ i,(Bn l n i).1.length=(Bn l n i).2.length
 |0=>by simp[Bn]
 |i+1=>by
   have:=Py l n i
   unfold Bn
   split
   · split
     · simp[this]
     · exact this
   · exact this
theorem HP(l:List Ev)(n:S)(h: ∀ e∈l,EvT e): ∀ i,∀ s∈(Bn l n i).2,s.length≤2048
 |0=>by simp[Bn]
 |i+1=>by
   have:=HP l n h i
   unfold Bn
   split
   · next e he=>
     split
     · next f hf=>
       intro s hs
       rcases List.mem_append.1 hs with hs|hs
       · exact this s hs
       · rw[List.mem_singleton.1 hs]
         have:=(h e (List.mem_of_getElem? he)).fv f (List.mem_of_find?_eq_some hf)
         omega
     · exact this
   · exact this
theorem Iu(l:List Ev)(n:S)(hl:l.length≤4096):Post (Bn l n l.length).1:=by
 refine⟨by have:=(G9 l n l.length).1;omega,fun i hi=>?_,fun i hi=>?_⟩
 · have:=My l n l.length _ (List.getElem_mem hi);omega
 · exact List.pairwise_iff_getElem.1 (Rw l n l.length) i (i+1) oM hi oM
theorem Er(l:List S)(h1:(Bg l).length≤32768)(h2: ∀ s∈l,s.length≤2048):Bb (Bg l)=0:=by
 have h3:EG (Bg l)=false:=by
   unfold EG
   rw[List.any_eq_false]
   intro x hx
   have:=h2 x ((Cd l x).1 hx)
   simp;omega
 unfold Bb
 rw[if_neg oM,h3,HD _ (BO l)]
 simp
theorem I3(ts:List S)(hl:ts.length≤4096)(hs: ∀ s∈ts,s.length≤2048):(ixF ts).length≤2^24:=by
 have h1:=FL _ (Ge ts oM hs)
 have h2:=DA ts
 have h3:=Dj (AM (Bg ts))
 have h4:(Da ts ts.length).length=ts.length:=by simp[Da]
 have h5:=Hm (Da ts ts.length) oM
 have h6:=Dj (AZ (Da ts ts.length))
 unfold ixF
 rw[List.length_append];omega
def fdP(l:List Ev)(n:S):List UInt8:=AE (Bt (Bn l n l.length).1)++ixF (Bn l n l.length).2
def F8(l:List Ev)(d:List S)(i:Nat):List UInt8:=AE (AM d)++(d.take i).flatMap (fdP l)
theorem Sf(l:List Ev)(d:List S)(i:Nat)(h:i<d.length):F8 l d (i+1)=F8 l d i++fdP l d[i]:=by
 unfold F8
 rw[List.take_add_one,List.getElem?_eq_getElem h,List.flatMap_append]
 simp only[Option.toList,List.flatMap_cons,List.flatMap_nil,List.append_nil,List.append_assoc]
theorem Aen(l:List Ev)(n:S)(hl:l.length≤4096)(h: ∀ e∈l,EvT e):(fdP l n).length≤2^24+100011:=by
 have h1:=DE _ (Iu l n hl)
 have h2:=Dj (Bt (Bn l n l.length).1)
 have h3:=I3 (Bn l n l.length).2 (by have:=(G9 l n l.length).2;omega) (HP l n h _)
 unfold fdP
 rw[List.length_append];omega
theorem KY(l:List Ev)(d:List S)(hl:l.length≤4096)(h: ∀ e∈l,EvT e)(hc:Bb d=0): ∀ i,i≤d.length→(F8 l d i).length≤70000000+i*(2^24+100011)
 |0,_=>by
   have h1:=FL d hc
   have h2:=Dj (AM d)
   have h3:=(Es d hc).2
   simp[F8];omega
 |i+1,hi=>by
   have:=KY l d hl h hc i oM
   have:=Aen l d[i] hl h
   rw[Sf l d i oM,List.length_append];omega
def D7(l:List Ev):List UInt8:=F8 l (AH l) (AH l).length
theorem IP(l:List Ev)(h: ∀ e∈l,EvT e): ∀ i,∀ s∈Fy l i,s.length≤2048:=by
 intro i s hs
 unfold Fy at hs
 obtain⟨e,he,hs⟩:=List.mem_flatMap.1 hs
 obtain⟨f,hf,rfl⟩:=List.mem_map.1 hs
 have:=(h e (List.mem_of_mem_take he)).fv f hf
 omega
theorem AaH(l:List Ev)(hl:l.length≤4096)(h: ∀ e∈l,EvT e)(hn:(AH l).length≤32768):Ad Tryz.prog 106 [.sl 10 (evE l)] [] (.osl 0 (D7 l).length 1) [some ⟨5,1,Ab (D7 l)⟩]:=by
 refine acN 36 0 Tryz.func106 fun C hN hk=>?_
 have hc:Bb (AH l)=0:=Er _ hn (IP l h _)
 have q0:=TH l hl h
 have q1:=I8 (AH l) hc oM (Nv _ hc)
 have hel:=FL _ hc
 have q2:=JJ (AM (AH l)) oM
 have hbl:=Dj (AM (AH l))
 have hfl:=KY l (AH l) hl h hc
 have hfs:=Sf l (AH l)
 have h0:F8 l (AH l) 0=AE (AM (AH l)):=by simp[F8]
 unfold D7
 generalize F8 l (AH l)=fd at*
 generalize AE (AM (AH l))=bl at*
 generalize AM (AH l)=en at*
 generalize AH l=d at*
 refine Af [0] ?_
 refine Af [0,3] ?_ (onc 1 (pcq q0) noc)
 refine Af [0,3,4] ?_ (onc 1 (bcq [0] q1) (onc 2 (bcq [9] q2) noc))
 refine Af [0,3,4,5] ?_
 clear q0 q1 q2
 refine nx ?_
 refine lpF hk 2 (fun i:Nat=>⟨[(0,.sl 10 (evE l)),(3,.osl 0 d.length 1),(4,.osl 1 (fd i).length 1),(5,I i)],[(0,some ⟨9,1,Au d⟩),(1,some ⟨5,1,Ab (fd i)⟩)]⟩) (fun i=>i≤d.length) (fun i=>d.length-i) 0 (Fm h0 [some 0,some 1] []) ?_
 intro i h1
 have hli:=hfl i h1
 by_cases hi:i<d.length
 · have hx:=List.getElem?_eq_getElem hi
   have hs:=hfs i hi
   have q3:=AaL l d[i] hl h
   have hp:=Iu l d[i] hl
   have hvl:=G9 l d[i] l.length
   have hvs:=HP l d[i] h l.length
   unfold fdP at hs
   generalize d[i]=n at*
   generalize Bn l n l.length=z at*
   obtain⟨a,b⟩:=z
   simp only at hp hvl hvs hs q3
   have q4:=N8 a hp
   have e1:=DE a hp
   have q5:=H1 (fd i) (Bt a) oM oM
   have e2:=Dj (Bt a)
   have q6:=LS b oM hvs
   have e3:=I3 b oM hvs
   generalize ixF b=x1 at*
   generalize AE (Bt a)=x2 at*
   generalize Bt a=x3 at*
   generalize fd i=x4 at*
   have hsum:(x4++x2).length+x1.length≤2^42:=by simp;omega
   have F:=hx;refine A6 [0,3,4,5,16] ?_;clear F
   refine cT ?_;refine Do [0,3,4,5,6,7] ?_ (onc 5 (pcq q3) noc)
   refine Do [0,3,4,5] ?_ (onc 2 (bcq [2] q4) (onc 3 (NU 1 [20] q5) (onc 5 (bcq [3] q6) noc)))
   have F:=hx;refine A6 [0,3,4,5] ?_;clear F
   refine eE (i+1) (G1 [some 0,some 1] [])
 · have:i=d.length:=by omega
   subst this
   refine AL [0,3,4,5,16] ?_
   refine cF ?_;refine Af [2] ?_
   refine AW.ret (D6 [some 0] [])
end Go.Proofs.YtpkhodjlnodagaaGreatDoor
namespace Go.Proofs.YtpkhodjlnodagaaGreatDoor
open Go.Av
theorem HN{α:Type}{B A M R:List α}{i j:Nat}(hB:B=A++M++R)(hA:A.length=i)(hM:A.length+M.length=j):(B.take j).drop i=M:=by
 subst hB hA hM
 rw[List.take_append,List.take_of_length_le sP]
 simp
theorem Sa(v:Nat): ∀ k,v<256^k→Ej (Bs v k)=v:=by
 have key: ∀ k acc,(Bs v k).foldl (fun x b=>x*256+b.toNat) acc=acc*256^k+v%256^k:=by
   intro k
   induction k with
   |zero=>intro acc;simp[Bs,Nat.mod_one]
   |succ k ih=>
     intro acc
     have e1:(UInt8.ofNat (v / 2^(8*k)%256)).toNat=v / 256^k%256:=by
       have:(2:Nat)^(8*k)=256^k:=by rw[Nat.pow_mul]
       rw[this];simp
     have e2:=Nat.mod_mul (x:=v) (a:=256^k) (b:=256)
     simp only[Bs,List.foldl_cons,ih,e1]
     rw[Nat.pow_succ,e2,Nat.add_mul,Nat.mul_assoc,Nat.mul_comm 256 (256^k),Nat.mul_comm (v / 256^k%256)]
     omega
 intro k h
 unfold Ej
 rw[key,Nat.zero_mul,Nat.zero_add,Nat.mod_eq_of_lt h]
noncomputable def Lj(s:List UInt8):List UInt8:=Bs s.length 4++Bs (Dq s) 4
noncomputable def D8(ss:List (List UInt8)):List UInt8:=ss.flatMap Lj
def G5(c a z:Nat):List UInt8:=[76,84,83,49]++Bs c 4++Bs a 8++Bs z 8
noncomputable def hdF(c a z:Nat)(ss:List (List UInt8)):List UInt8:=G5 c a z++D8 ss
noncomputable def ET(c a z:Nat)(ss:List (List UInt8)):List UInt8:=hdF c a z ss++Bs (Dq (hdF c a z ss)) 4++ss.flatten
theorem Zj(s:List UInt8):(Lj s).length=8:=by simp[Lj,Ck]
theorem Hf: ∀ ss,(D8 ss).length=8*ss.length
 | []=>rfl
 |s::r=>by
   have:=Hf r
   have h2:=Zj s
   simp only[D8,List.flatMap_cons,List.length_append,List.length_cons]at*;omega
theorem Ht(c a z:Nat):(G5 c a z).length=24:=by simp[G5,Ck]
theorem HU(c a z:Nat)(ss:List (List UInt8)):(hdF c a z ss).length=24+8*ss.length:=by simp[hdF,Ht,Hf]
theorem U6(ss:List (List UInt8))(k:Nat)(h:k<ss.length):D8 ss=D8 (ss.take k)++Lj ss[k]++D8 (ss.drop (k+1)):=by
 have e:ss=ss.take k++ss[k]::ss.drop (k+1):=by simp
 conv=>lhs;rw[e]
 unfold D8
 rw[List.flatMap_append,List.flatMap_cons,List.append_assoc]
def CY(ss:List (List UInt8))(k:Nat):Nat:=((ss.take k).flatten).length
theorem Jw(ss:List (List UInt8))(k:Nat)(h:k<ss.length):CY ss (k+1)=CY ss k+ss[k].length:=by
 unfold CY
 rw[List.take_add_one,List.getElem?_eq_getElem h,List.flatten_append]
 simp
theorem HY(ss:List (List UInt8))(k:Nat):CY ss k≤ss.flatten.length:=by
 have:ss.flatten=(ss.take k).flatten++(ss.drop k).flatten:=by rw[← List.flatten_append,List.take_append_drop]
 unfold CY;rw[this];simp
section seg
variable (c a z : Nat) (ss : List (List UInt8))
theorem Aep(hs:ss.length=12):(ET c a z ss).length=124+ss.flatten.length:=by simp only[ET,List.length_append,HU,Ck,hs]
theorem YI(k:Nat)(hs:ss.length=12)(h:k<ss.length):((ET c a z ss).take (28+8*k)).drop (24+8*k)=Bs ss[k].length 4:=by
 refine HN (A:=G5 c a z++D8 (ss.take k)) (R:=Bs (Dq ss[k]) 4++D8 (ss.drop (k+1))++Bs (Dq (hdF c a z ss)) 4++ss.flatten) ?_ ?_ ?_
 · unfold ET
   rw[show hdF c a z ss=G5 c a z++(D8 (ss.take k)++Lj ss[k]++D8 (ss.drop (k+1))) by rw[← U6 ss k h];rfl]
   simp only[Lj,List.append_assoc]
 · rw[List.length_append,Ht,Hf,List.length_take];omega
 · rw[List.length_append,Ht,Hf,List.length_take,Ck];omega
theorem W9(k:Nat)(hs:ss.length=12)(h:k<ss.length):((ET c a z ss).take (32+8*k)).drop (28+8*k)=Bs (Dq ss[k]) 4:=by
 refine HN (A:=G5 c a z++D8 (ss.take k)++Bs ss[k].length 4) (R:=D8 (ss.drop (k+1))++Bs (Dq (hdF c a z ss)) 4++ss.flatten) ?_ ?_ ?_
 · unfold ET
   rw[show hdF c a z ss=G5 c a z++(D8 (ss.take k)++Lj ss[k]++D8 (ss.drop (k+1))) by rw[← U6 ss k h];rfl]
   simp only[Lj,List.append_assoc]
 · rw[List.length_append,List.length_append,Ht,Hf,List.length_take,Ck];omega
 · rw[List.length_append,List.length_append,Ht,Hf,List.length_take,Ck,Ck];omega
theorem AcS(k:Nat)(hs:ss.length=12)(h:k<ss.length):((ET c a z ss).take (124+CY ss k+ss[k].length)).drop (124+CY ss k)=ss[k]:=by
 refine HN (A:=hdF c a z ss++Bs (Dq (hdF c a z ss)) 4++(ss.take k).flatten) (R:=(ss.drop (k+1)).flatten) ?_ ?_ ?_
 · have e:ss.flatten=(ss.take k).flatten++ss[k]++(ss.drop (k+1)).flatten:=by
     have e:ss=ss.take k++ss[k]::ss.drop (k+1):=by simp
     conv=>lhs;rw[e]
     rw[List.flatten_append,List.flatten_cons,List.append_assoc]
   unfold ET
   conv=>lhs;rw[e]
   simp only[List.append_assoc]
 · simp only[List.length_append,HU,Ck,CY];omega
 · simp only[List.length_append,HU,Ck,CY];omega
theorem Af5(hs:ss.length=12):(ET c a z ss).take 120=hdF c a z ss:=by
 unfold ET
 rw[List.append_assoc,List.take_append_of_le_length (by rw[HU];omega),List.take_of_length_le (by rw[HU];omega)]
theorem Abo(hs:ss.length=12):((ET c a z ss).take 124).drop 120=Bs (Dq (hdF c a z ss)) 4:=by
 refine HN (A:=hdF c a z ss) (R:=ss.flatten) rfl ?_ ?_
 · rw[HU];omega
 · rw[HU,Ck];omega
theorem Xz:(ET c a z ss).take 4=[76,84,83,49]:=by simp[ET,hdF,G5]
theorem XD:((ET c a z ss).take 8).drop 4=Bs c 4:=by
 refine HN (A:=[76,84,83,49]) (R:=Bs a 8++Bs z 8++D8 ss++Bs (Dq (hdF c a z ss)) 4++ss.flatten) ?_ rfl ?_
 · simp only[ET,hdF,G5,List.append_assoc]
 · simp[Ck]
theorem X2:((ET c a z ss).take 16).drop 8=Bs a 8:=by
 refine HN (A:=[76,84,83,49]++Bs c 4) (R:=Bs z 8++D8 ss++Bs (Dq (hdF c a z ss)) 4++ss.flatten) ?_ ?_ ?_
 · simp only[ET,hdF,G5,List.append_assoc]
 · simp[Ck]
 · simp[Ck]
theorem Aas:((ET c a z ss).take 24).drop 16=Bs z 8:=by
 refine HN (A:=[76,84,83,49]++Bs c 4++Bs a 8) (R:=D8 ss++Bs (Dq (hdF c a z ss)) 4++ss.flatten) ?_ ?_ ?_
 · simp only[ET,hdF,G5,List.append_assoc]
 · simp[Ck]
 · simp[Ck]
end seg
end Go.Proofs.YtpkhodjlnodagaaGreatDoor
namespace Go.Proofs.YtpkhodjlnodagaaGreatDoor
open Go.Av
set_option maxHeartbeats 4000000
attribute [local irreducible] Ad
structure SegB(c a z:Nat)(ss:List (List UInt8)):Prop where
 n:ss.length=12
 each: ∀ s∈ss,s.length<2^32
 total:ss.flatten.length≤2^36
 c:c<2^32
 a:a<2^63
 z:z<2^63
theorem getK(v k:Nat)(hk:k≤8)(h:v<256^k):Ad Tryz.prog 22 [.sl 1 (Ab (Bs v k))] [] (U64 v) []:=by
 have:=AgP (Bs v k) (by rw[Ck];exact hk)
 rwa [Sa v k h]at this
theorem Vz(v:Nat)(h:v<2^32):Ad Tryz.prog 22 [.sl 1 (Ab (Bs v 4))] [] (U64 v) []:=getK v 4 oM (by simpa using h)
theorem get8(v:Nat)(h:v<2^63):Ad Tryz.prog 22 [.sl 1 (Ab (Bs v 8))] [] (U64 v) []:=getK v 8 oM (by simp;simp at h;omega)
structure SegV(bs:List UInt8)(c a z:Nat)(ss:List (List UInt8)):Prop where
 b:SegB c a z ss
 len:bs.length=124+ss.flatten.length
 lenAt: ∀ j (h:j-1<ss.length),1≤j→(bs.take (20+8*j)).drop (16+8*j)=Bs ss[j-1].length 4
 crcAt: ∀ j (h:j-1<ss.length),1≤j→(bs.take (24+8*j)).drop (20+8*j)=Bs (Dq ss[j-1]) 4
 sec: ∀ j (h:j<ss.length),(bs.take (124+CY ss j+ss[j].length)).drop (124+CY ss j)=ss[j]
 hcrc:(bs.take 124).drop 120=Bs (Dq (bs.take 120)) 4
 magic:bs.take 4=[76,84,83,49]
 count:(bs.take 8).drop 4=Bs c 4
 first:(bs.take 16).drop 8=Bs a 8
 last:(bs.take 24).drop 16=Bs z 8
theorem segV{c a z:Nat}{ss:List (List UInt8)}(H:SegB c a z ss):SegV (ET c a z ss) c a z ss:=by
 refine⟨H,Aep c a z ss H.n,fun j h h1=>?_,fun j h h1=>?_,fun j h=>AcS c a z ss j H.n h,?_,Xz c a z ss,XD c a z ss,X2 c a z ss,Aas c a z ss⟩
 · have:=YI c a z ss (j-1) H.n h
   rwa [show 28+8*(j-1)=20+8*j by omega,show 24+8*(j-1)=16+8*j by omega]at this
 · have:=W9 c a z ss (j-1) H.n h
   rwa [show 32+8*(j-1)=24+8*j by omega,show 28+8*(j-1)=20+8*j by omega]at this
 · rw[Af5 c a z ss H.n];exact Abo c a z ss H.n
section
variable {bs : List UInt8} {c a z : Nat} {ss : List (List UInt8)}
theorem PN(V:SegV bs c a z ss)(k:Nat)(h1:1≤k)(h2:k-1<ss.length):Ad Tryz.prog 24 [.sl 1 (Ab bs),I k] [] (.tup [I (124+CY ss (k-1):Nat),I ss[k-1].length]) []:=by
 have hn:=V.b.n
 have hT:=V.b.total
 have hl:=V.len
 refine acN 36 0 Tryz.func24 fun C hN hk=>?_
 have hat:=V.lenAt
 obtain⟨o,ho⟩: ∃ o:Nat→Nat,∀ j,o j=124+CY ss (j-1):=⟨fun j=>124+CY ss (j-1),fun _=>rfl⟩
 have hof: ∀ j (h:j-1<ss.length),1≤j→o (j+1)=o j+ss[j-1].length:=by
   intro j h hj
   rw[ho,ho,show j+1-1=(j-1)+1 by omega,Jw ss (j-1) h];omega
 have hol: ∀ j,o j≤124+ss.flatten.length:=by intro j;rw[ho];have:=HY ss (j-1);omega
 have ho0:o 1=124:=by rw[ho];simp[CY]
 have hge: ∀ j (hj:j<ss.length),ss[j].length<2^32:=fun j hj=>V.b.each _ (List.getElem_mem hj)
 rw[← ho k]
 clear ho
 refine Af [0,1] ?_
 refine Af [0,1,6] ?_
 refine Af [0,1,6,7] ?_
 refine lpF hk 0 (fun j:Nat=>⟨[(0,.sl 1 (Ab bs)),(1,I k),(6,I (o j)),(7,I j)],[]⟩) (fun j=>1≤j∧j≤k) (fun j=>k-j) 1 (Fm ho0 [] []) ?_
 rintro j ⟨h0,h3⟩
 have e1:(16+8*(j:Int)).toNat=16+8*j:=by omega
 have e2:(20+8*(j:Int)).toNat=20+8*j:=by omega
 have w1:=Ar (n:=8*(j:Int)) oM
 have w2:=Ar (n:=16+8*(j:Int)) oM
 have w3:=Ar (n:=20+8*(j:Int)) oM
 have h5:=hol j
 have hx:=hat j oM h0
 have h6:=hge (j-1) oM
 have q:=Vz _ h6
 by_cases hj:j<k
 · have h4:=hof j oM h0
   generalize ss[j-1].length=v at*
   refine AL [0,1,6,7,10] ?_;refine cT ?_;have F:=And.intro w1 (And.intro w2 (And.intro w3 (And.intro e1 (And.intro e2 hx))));refine A6 [0,1,6,7] ?_ (onc 9 (pcq q) noc);clear F;refine AL [0,1,6,7] ?_
   refine eE (j+1) (Fm h4 [] [])
 · have:k=j:=by omega
   subst this
   generalize ss[k-1].length=v at*
   refine AL [0,1,6,7,10] ?_;refine cF ?_;have F:=And.intro w1 (And.intro w2 (And.intro w3 (And.intro e1 (And.intro e2 hx))));refine A6 [4,5] ?_ (onc 9 (pcq q) noc);clear F
   refine AW.ret (D6 [] [])
theorem AeV(V:SegV bs c a z ss)(k:Nat)(h0:1≤k)(h2:k-1<ss.length):Ad Tryz.prog 88 [.sl 1 (Ab bs),I k] [] (.sl 1 (Ab ss[k-1])) []:=by
 have hl:=V.len
 have hT:=V.b.total
 have q:=PN V k h0 h2
 have hs:=V.sec (k-1) h2
 have h1:=Jw ss (k-1) h2
 have h3:=HY ss (k-1+1)
 have hb:124+CY ss (k-1)+ss[k-1].length≤bs.length:=by omega
 have hb2:bs.length≤2^37:=by omega
 have e1:(((124+CY ss (k-1):Nat):Int)).toNat=124+CY ss (k-1):=by omega
 have e2:(((124+CY ss (k-1):Nat):Int)+(ss[k-1].length:Int)).toNat=124+CY ss (k-1)+ss[k-1].length:=by omega
 refine acN 19 0 Tryz.func88 fun C hN hk=>?_
 generalize 124+CY ss (k-1)=o at*
 refine Af [0,1] ?_
 refine Af [0,5,6] ?_ (onc 2 (pcq q) noc)
 refine rG hN hk noc [] [4] fun K hK=>?_;simp only[go_sem,seval]
 try simp (disch:=omega) only[au,e1,e2,hs]
 (first|with_reducible refine hK _ _ ?_|refine obK (hK _ _ ?_));clear hK K;refine nx ?_
 refine AW.ret (D6 [] [])
theorem Ack(V:SegV bs c a z ss)(k:Nat)(h0:1≤k)(h2:k-1<ss.length):Ad Tryz.prog 87 [.sl 1 (Ab bs),I k] [] (B true) []:=by
 have hn:=V.b.n
 have hl:=V.len
 have hT:=V.b.total
 have q:=PN V k h0 h2
 have hs:=V.sec (k-1) h2
 have h1:=Jw ss (k-1) h2
 have h3:=HY ss (k-1+1)
 have hc:=V.crcAt k h2 h0
 have h5:=H4 ss[k-1]
 have q2:=Vz (Dq ss[k-1]) h5
 have q3:=QN ss[k-1] oM
 have hb:124+CY ss (k-1)+ss[k-1].length≤bs.length:=by omega
 have hb2:bs.length≤2^37:=by omega
 have e1:(((124+CY ss (k-1):Nat):Int)).toNat=124+CY ss (k-1):=by omega
 have e2:(((124+CY ss (k-1):Nat):Int)+(ss[k-1].length:Int)).toNat=124+CY ss (k-1)+ss[k-1].length:=by omega
 have e3:(20+8*(k:Int)).toNat=20+8*k:=by omega
 have e4:(24+8*(k:Int)).toNat=24+8*k:=by omega
 generalize Dq ss[k-1]=cr at*
 generalize ss[k-1]=sk at*
 refine acN 31 0 Tryz.func87 fun C hN hk=>?_
 generalize 124+CY ss (k-1)=o at*
 refine Af [0,1] ?_
 refine Af [0,1,5,6] ?_ (onc 2 (pcq q) noc)
 refine rD hN hk (onc 8 (pcq q2) (onc 15 (pcq q3) noc)) [] [4] fun K tok htok hK=>?_
 simp only[go_sem,seval]
 try simp (disch:=omega) only[au,e1,e2,e3,e4,hs,hc]
 refine⟨htok _ dK,?_⟩
 refine obK (hK _ _ ?_);clear hK K htok tok
 refine nx ?_
 refine AW.ret (D6 [] [])
end
section
variable {bs : List UInt8} {c a z : Nat} {ss : List (List UInt8)}
theorem AcF(ss:List (List UInt8))(h:ss.length=12):CY ss 11+(ss[11]'oM).length=ss.flatten.length:=by
 rw[← Jw ss 11 oM]
 unfold CY
 rw[List.take_of_length_le oM]
theorem Qn(V:SegV bs c a z ss):Ad Tryz.prog 7 [.sl 1 (Ab bs)] [] (.tup [.agg [I c,I a,I z],I 0]) []:=by
 have hn:=V.b.n
 have hl:=V.len
 have hT:=V.b.total
 have q1:=PN V 12 oM oM
 have he:=AcF ss hn
 have hm:=V.magic
 have hh:=V.hcrc
 have h5:=H4 (bs.take 120)
 have q2:=Vz (Dq (bs.take 120)) h5
 have q3:=QN (bs.take 120) sO
 have hc:=V.count
 have hf:=V.first
 have hz:=V.last
 have q4:=Vz c V.b.c
 have q5:=get8 a V.b.a
 have q6:=get8 z V.b.z
 have b1:=V.b.c
 have b2:=V.b.a
 have b3:=V.b.z
 clear V
 simp only[show 12-1=11 from rfl]at q1
 obtain⟨o,ho⟩: ∃ o,o=124+CY ss 11:=⟨_,rfl⟩
 obtain⟨x,hx⟩: ∃ x,x=(ss[11]'oM).length:=⟨_,rfl⟩
 rw[← ho,← hx]at q1
 have hsum:((o:Int)+(x:Int))=(bs.length:Int):=by omega
 have hw:=Ar (n:=(bs.length:Int)) oM
 obtain⟨h120,hE⟩: ∃ h,bs.take 120=h:=⟨_,rfl⟩
 rw[hE]at hh h5 q2 q3
 generalize Dq h120=cr at*
 have w1:=Ar (n:=(c:Int)) oM
 have w2:=Ar (n:=(a:Int)) oM
 have w3:=Ar (n:=(z:Int)) oM
 refine acN 49 0 Tryz.func7 fun C hN hk=>?_
 refine Af [0,2] ?_
 refine AL [0,2,8] ?_
 refine cF ?_;refine nx ?_;refine rG hN hk noc [] [0,2,13] fun K hK=>?_;simp only[go_sem,seval,hm,bne_self_eq_false]
 try simp (disch:=omega) only[au]
 (first|with_reducible refine hK _ _ ?_|refine obK (hK _ _ ?_));clear hK K;refine nx ?_
 refine cF ?_;refine nx ?_
 refine rD hN hk (onc 2 (pcq q2) (onc 5 (pcq q3) noc)) [] [0,2,22] fun K tok htok hK=>?_
 simp only[go_sem,seval,hh,hE,bne_self_eq_false]
 try simp (disch:=omega) only[au]
 refine⟨htok _ dK,?_⟩
 refine obK (hK _ _ ?_);clear hK K htok tok
 refine nx ?_;refine cF ?_;refine Af [0,2,4,5] ?_ (onc 1 (pcq q1) noc)
 refine rG hN hk noc [] [0,2,34] fun K hK=>?_;simp only[go_sem,seval,hsum,hw,bne_self_eq_false]
 try simp (disch:=omega) only[au]
 (first|with_reducible refine hK _ _ ?_|refine obK (hK _ _ ?_));clear hK K;refine nx ?_
 refine cF ?_;have F:=And.intro hc (And.intro hf (And.intro hz (And.intro w1 (And.intro w2 w3))));refine DI [2,3] ?_ (onc 2 (pcq q4) (onc 6 (pcq q5) (onc 10 (pcq q6) noc)));clear F
 refine AW.ret (BY [] [] (by simp only[AY,go_sem,seval];rfl) (by simp[Az,lk,lkh,wk,wkL,wkE,I,str,B,U8,U64,U32]<;>omega) (by first|(simp[Am,Ai,Ak,lkh];done)|(simp[Am,Ai,Ak,lkh,AF,AN,I,str];done)|simp[Am,Ai,Ak,wkL,wk,wkE,lkh,I,str]))
theorem Yj(V:SegV bs c a z ss):Ad Tryz.prog 40 [.sl 1 (Ab bs)] [] (.tup [.val (.slice none 0 0),I 0]) []:=by
 have q0:=Qn V
 have hn:=V.b.n
 refine acN 29 0 Tryz.func40 fun C hN hk=>?_
 refine Af [0] ?_
 refine Af [0,5] ?_ (onc 1 (pcq q0) noc)
 refine rG hN hk noc [] [0,5,14] fun K hK=>?_;simp only[go_sem,seval,bne_self_eq_false]
 try simp (disch:=omega) only[au]
 refine hK _ _ ?_;clear hK K;refine nx ?_;refine cF ?_;refine Af [0,6] ?_
 refine Af [0,6,7] ?_
 refine lpF hk 0 (fun j:Nat=>⟨[(0,.sl 1 (Ab bs)),(6,.val (.slice none 0 0)),(7,I j)],[]⟩) (fun j=>1≤j∧j≤13) (fun j=>13-j) 1 (KJ [] []) ?_
 rintro j ⟨h0,h1⟩
 by_cases hj:j≤12
 · have q:=Ack V j h0 oM
   refine AL [0,6,7,17] ?_;refine cT ?_;refine Af [0,6,7,23] ?_ (onc 2 (pcq q) noc)
   refine cF ?_;refine AL [0,6,7] ?_
   refine eE (j+1) (KJ [] [])
 · refine AL [0,6,7,17] ?_;refine cF ?_;refine Af [2,3] ?_
   refine AW.ret (D6 [] [])
end
theorem Jb(s:List UInt8)(o:Nat)(x:List UInt8)(hs: ∃ A R,s=A++AE x++R∧A.length=o)(hl:s.length≤2^40):
   Ad Tryz.prog 71 [.sl 1 (Ab s),I o] [] (.tup [.sl 1 (Ab x),I (o+(AE x).length:Nat),B true]) []:=by
 obtain⟨A,R,hs,hA⟩:=hs
 have hv:Hv s o=some ((x.length:Int),o+(Ap x.length).length):=by
   have hxl:x.length<2^64:=by rw[hs]at hl;simp[AE]at hl;omega
   have:=CV A (x++R) x.length hxl
   rw[← hA,← this,hs];simp[AE]
 have hlen:s.length=o+(Ap x.length).length+x.length+R.length:=by rw[hs];simp[AE,hA];omega
 have q:=DM s o hl oM
 rw[hv]at q
 simp only[Ds]at q
 have hbl:(AE x).length=(Ap x.length).length+x.length:=by simp[AE]
 have hmid:(s.take (o+(Ap x.length).length+x.length)).drop (o+(Ap x.length).length)=x:=by
   refine HN (A:=A++Ap x.length) (R:=R) ?_ ?_ ?_
   · rw[hs];simp[AE]
   · simp[hA]
   · simp[hA]
 rw[hbl]
 clear hbl hv hs hA
 rw[← Nat.add_assoc]
 generalize o+(Ap x.length).length=o1 at*
 have w1:=Ar (n:=(x.length:Int)) oM
 have w2:=Ar (n:=(o1:Int)+(x.length:Int)) oM
 have w3:=Ar (n:=(s.length:Int)- (o1:Int)) oM
 have w4:=Fp (n:=(s.length:Int)- (o1:Int)) oM
 have e1:((o1:Int)+(x.length:Int)).toNat=o1+x.length:=by omega
 have d1:=EV (a:=(x.length:Int)) (b:=(s.length:Int)- (o1:Int)) oM
 refine acN 38 0 Tryz.func71 fun C hN hk=>?_
 refine Af [0,1] ?_
 refine Af [0,1,7,8] ?_ (onc 2 (pcq q) noc)
 refine rG hN hk noc [] [0,1,7,26] fun K hK=>?_;simp only[go_sem,seval,w3,w4,d1]
 try simp (disch:=omega) only[au]
 try simp only[go_sem,seval,w3,w4,d1]
 (first|with_reducible refine hK _ _ ?_|refine obK (hK _ _ ?_));clear hK K;refine nx ?_
 refine cF ?_;have F:=And.intro w1 (And.intro w2 (And.intro e1 hmid));refine A6 [4,5,6] ?_;clear F
 refine AW.ret (D6 [] [])
theorem Sk(ts:List S)(i:Nat)(h:i<ts.length): ∃ k:Nat,(Da ts ts.length)[i]? =some (k:Int)∧(Bg ts)[k]? =some ts[i]∧k<(Bg ts).length:=by
 have h1:=Fa (Bg ts) ts[i] (BO ts) ((Cd _ _).2 (List.getElem_mem h))
 exact⟨CD (Bg ts) ts[i],by simp[Da,h],h1.1,h1.2⟩
theorem PT(s:List UInt8)(o:Nat)(ts:List S)(hl:ts.length≤4096)(hsh: ∀ t∈ts,t.length≤2048)(hs: ∃ A R,s=A++ixF ts++R∧A.length=o)(hsl:s.length≤2^40):
   Ad Tryz.prog 89 [.sl 1 (Ab s),I o] [] (.tup [.osl 0 ts.length 1,I (o+(ixF ts).length:Nat),B true]) [some ⟨9,1,Au ts⟩]:=by
 obtain⟨A,R,hs,hA⟩:=hs
 have hc:=Ge ts oM hsh
 have q1:=Jb s o (AM (Bg ts)) ⟨A,AE (AZ (Da ts ts.length))++R,by rw[hs];simp[ixF],hA⟩ hsl
 have q2:=Jb s (o+(AE (AM (Bg ts))).length) (AZ (Da ts ts.length)) ⟨A++AE (AM (Bg ts)),R,by rw[hs];simp[ixF],by simp[hA]⟩ hsl
 have q3:=Rr (Bg ts) hc
 have hil:(Da ts ts.length).length=ts.length:=by simp[Da]
 have hig:=Sk ts
 have q4:=Nq (Da ts ts.length) (DO (Da ts ts.length) 3) (Hu _ 3) oM (by
   intro x hx
   obtain⟨i,hi,rfl⟩:=List.getElem_of_mem hx
   obtain⟨k,h1,h2,h3⟩:=hig i oM
   rw[List.getElem?_eq_getElem hi]at h1
   have h1:(Da ts ts.length)[i]=(k:Int):=by simpa using h1
   have:=(Es _ hc).2
   rw[h1];unfold BE;omega)
 have hlx:(ixF ts).length=(AE (AM (Bg ts))).length+(AE (AZ (Da ts ts.length))).length:=by simp[ixF]
 have e0:o+(ixF ts).length=o+(AE (AM (Bg ts))).length+(AE (AZ (Da ts ts.length))).length:=by rw[hlx];omega
 have hle:o+(ixF ts).length≤s.length:=by rw[hs];simp[hA]
 have hdl:=(Es _ hc).2
 rw[e0]
 unfold AZ at*
 clear hs hA hsh hc
 generalize B9 (Da ts ts.length) (DO (Da ts ts.length) 3)=x1 at*
 generalize AM (Bg ts)=x2 at*
 generalize o+(AE x2).length=o2 at*
 generalize o2+(AE x1).length=o3 at*
 generalize Da ts ts.length=ix at*
 generalize Bg ts=d at*
 refine acN 82 0 Tryz.func89 fun C hN hk=>?_
 refine Af [0,1] ?_
 refine rG hN hk (onc 2 (pcq q1) noc) [] [0,1,7,8] fun K hK=>?_;simp only[go_sem,seval,bne_self_eq_false];refine obK (hK _ _ ?_)
 clear hK K;refine nx ?_
 refine rG hN hk noc [] [0,1,7,24] fun K hK=>?_;simp only[go_sem,seval,bne_self_eq_false]
 (first|with_reducible refine hK _ _ ?_|refine obK (hK _ _ ?_));clear hK K;refine nx ?_
 refine cF ?_;refine nx ?_;refine rG hN hk (onc 2 (pcq q2) noc) [] [1,7,8,9] fun K hK=>?_;simp only[go_sem,seval,bne_self_eq_false];refine obK (hK _ _ ?_)
 clear hK K;refine nx ?_
 refine rG hN hk noc [] [1,7,9,33] fun K hK=>?_;simp only[go_sem,seval,bne_self_eq_false]
 (first|with_reducible refine hK _ _ ?_|refine obK (hK _ _ ?_));clear hK K;refine nx ?_
 refine cF ?_;refine nx ?_;refine rG hN hk (onc 1 (pcq q3) noc) [] [1,9,10,11] fun K hK=>?_;simp only[go_sem,seval,bne_self_eq_false];refine obK (hK _ _ ?_)
 clear hK K;refine nx ?_
 refine rG hN hk (onc 1 (pcq q4) noc) [] [1,10,11,12,13] fun K hK=>?_;simp only[go_sem,seval,bne_self_eq_false];refine obK (hK _ _ ?_)
 clear hK K;refine nx ?_
 refine rG hN hk noc [] [1,10,12,49] fun K hK=>?_;simp only[go_sem,seval,bne_self_eq_false]
 try simp (disch:=omega) only[au]
 try simp only[go_sem,seval,bne_self_eq_false]
 refine hK _ _ ?_;clear hK K;refine nx ?_;refine cF ?_;refine nx ?_;refine rG hN hk noc [] [1,10,12,14] fun K hK=>?_;simp only[go_sem,seval,bne_self_eq_false];refine hK _ _ ?_
 clear hK K;refine nx ?_
 refine rG hN hk noc [] [1,10,12,14,15] fun K hK=>?_;simp only[go_sem,seval,bne_self_eq_false];refine hK _ _ ?_
 clear hK K;refine nx ?_
 clear q1 q2 q3 q4
 refine nx ?_
 refine lpF hk 3 (fun i:Nat=>⟨[(1,I o3),(10,.osl 0 d.length 1),(12,.osl 1 ix.length 1),(14,.osl 2 (ts.take i).length 1),(15,I i)],[(0,some ⟨9,1,Au d⟩),(1,some ⟨3,1,An ix⟩),(2,some ⟨9,1,Au (ts.take i)⟩)]⟩) (fun i=>i≤ts.length) (fun i=>ts.length-i) 0 (KJ [some 0,some 1,none] []) ?_
 intro i h1
 by_cases hi:i<ts.length
 · obtain⟨k,g1,g2,g3⟩:=hig i hi
   have hs:ts.take (i+1)=ts.take i++[ts[i]]:=by simp[List.take_append_getElem]
   have hli:(ts.take i).length≤i:=by simp;omega
   generalize ts[i]=t at*
   generalize ts.take i=o4 at*
   have d1:=GP (a:=(k:Int)) (b:=0) oM
   have d2:=Vv (a:=(k:Int)) (b:=(d.length:Int)) oM
   refine AL [1,10,12,14,15,53] ?_
   refine cT ?_;refine nx ?_;refine rG hN hk noc [] [1,10,12,14,15,69] fun K hK=>?_;simp only[go_sem,seval,g1,d1,d2]
   try simp (disch:=omega) only[au]
   try simp only[go_sem,seval,g1,d1,d2]
   (first|with_reducible refine hK _ _ ?_|refine obK (hK _ _ ?_));clear hK K;refine nx ?_
   refine cF ?_;have F:=And.intro g1 g2;refine AD [1,10,12,14,15] ?_;clear F
   refine AL [1,10,12,14,15] ?_
   refine eE (i+1) (G1 [some 0,some 1,some 2] [])
 · have:i=ts.length:=by omega
   subst this
   rw[List.take_length]
   refine AL [1,10,12,14,15,53] ?_
   refine cF ?_;refine Af [4,5,6] ?_
   refine AW.ret (D6 [some 0] [])
end Go.Proofs.YtpkhodjlnodagaaGreatDoor
