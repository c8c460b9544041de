/- Part 25 of the proof of PlanCandidates. -/
import Derived.Test.YtpkhodjlnodagaaGreatDoorA15
import Derived.Test.YtpkhodjlnodagaaGreatDoorA24
set_option linter.unusedSimpArgs false
set_option linter.unusedVariables false
set_option linter.unusedSectionVars false
namespace Go.Proofs.YtpkhodjlnodagaaGreatDoor
open Go.Av
set_option maxHeartbeats 4000000
set_option maxRecDepth 10000
attribute [local irreducible] XH XO Ad Af A0
theorem U6: ∀ l,AE 0 l=true→HY l=[]
 | [],_=>rfl
 |a::l,h=>by
   simp only[AE,Bool.and_eq_true]at h
   have h2:=U6 l h.2
   cases a with
   |osl i n sz=>simp[AO]at h
   |ptr i sz k o=>simp[AO]at h
   |_=>simpa [HY] using h2
theorem Oq: ∀ {es:List (List AV)},AA 0 es=true→Ht es=[]
 | [],_=>rfl
 |c::cs,h=>by
   simp only[AA,List.all_cons,Bool.and_eq_true]at h
   rw[Ht,U6 c h.1,Oq (es:=cs) (by simpa [AA] using h.2)];rfl
@[go_sem] theorem AhV(l:List UInt8):Ht (Ab l)=[]:=Oq (by simp)
@[go_sem] theorem AhN(l:List Int):Ht (Ak l)=[]:=Oq (by simp)
@[go_sem] theorem AhF(l:List Int):Ht (Bu l)=[]:=Oq (by simp)
theorem gX{α:Type}{l:List α}{i:Nat}{x d:α}(h:l[i]? =some x):l.getD i d=x:=by simp[List.getD,h]
theorem YP(l:List Int)(i:Nat)(s:Int):(Bu l).set i [AV.val (.int .u64 s)]=Bu (l.set i s):=by simp[Bu,List.map_set,U64]
attribute [go_sem] YP
def psF(a b:Int)(m i:Nat):Int:=((a+(i:Int)*b)%4294967296)%(m:Int)
def psA(a b:Int)(m h:Nat):List Int:=(List.range h).map (psF a b m)
def psL(w:S)(m h:Nat):List Int:=psA (Mx 0 w) (Mx 1 w) m h
theorem AaK(a b:Int)(m h:Nat):psA a b m h++[psF a b m h]=psA a b m (h+1):=by simp[psA,List.range_succ]
@[simp] theorem Acf(a b:Int)(m h:Nat):(psA a b m h).length=h:=by simp[psA]
theorem UF(w:S)(m h:Nat):(psL w m h).length=h:=Acf _ _ _ _
theorem UG(w:S)(m h:Nat)(hm:0<m): ∀ p∈psL w m h,0≤p∧p<m:=by
 intro p hp
 simp only[psL,psA,List.mem_map]at hp
 obtain⟨i,_,rfl⟩:=hp
 exact⟨Int.emod_nonneg _ (by omega),Int.emod_lt_of_pos _ (by omega)⟩
theorem So(n:Int):IntKind.u32.wrap n=n%4294967296:=rfl
theorem AcV(a b:Int)(m i:Nat):(IntKind.i64.wrap (IntKind.u32.wrap (a+IntKind.u32.wrap ((i:Int)*b)))).tmod (m:Int)=psF a b m i:=by
 have h:=W2 (a+IntKind.u32.wrap ((i:Int)*b))
 rw[As (by omega),Int.tmod_eq_emod_of_nonneg h.1,So,So,psF]
 congr 1;omega
theorem Zh(a b:Int)(m i:Nat):(IntKind.i64.wrap (IntKind.u32.wrap (a+IntKind.u32.wrap ((i:Int)*b)))).tmod (64*(m:Int))=psF a b (64*m) i:=by
 have h:=AcV a b (64*m) i
 rwa [show((64*m:Nat):Int)=64*(m:Int) by omega]at h
def orP(p:Int)(c:Int):Int:=AN .or .u64 c (IntKind.u64.wrap (1*2^min (p%64).toNat 64))
def HI(b:List Int)(p:Int):List Int:=b.set (p / 64).toNat (orP p (b.getD (p / 64).toNat 0))
def Pp(m:Nat)(b:List Int)(w:S):List Int:=(psL w m 3).foldl HI b
def Fa(m:Nat)(ts:List S)(i:Nat):List Int:=(ts.take i).foldl (Pp m) (List.replicate (m / 64) 0)
theorem X7(b:List Int)(p:Int):(HI b p).length=b.length:=by simp[HI]
theorem LS: ∀ (l:List Int) (b:List Int),(l.foldl HI b).length=b.length
 | [],b=>rfl
 |p::l,b=>by rw[List.foldl_cons,LS l,X7]
theorem Aaf(m:Nat)(b:List Int)(w:S):(Pp m b w).length=b.length:=LS _ _
theorem PL(m:Nat): ∀ (l:List S) (b:List Int),(l.foldl (Pp m) b).length=b.length
 | [],b=>rfl
 |p::l,b=>by rw[List.foldl_cons,PL m l,Aaf]
theorem OK(m:Nat)(ts:List S)(i:Nat):(Fa m ts i).length=m / 64:=by rw[Fa,PL];simp
theorem AcI{l:List Int}{k:Nat}{p:Int}(b:List Int)(h:l[k]? =some p):(l.take (k+1)).foldl HI b=HI ((l.take k).foldl HI b) p:=by rw[List.take_add_one,h,List.foldl_append];rfl
theorem Zj{ts:List S}{i:Nat}{w:S}(m:Nat)(h:ts[i]? =some w):Fa m ts (i+1)=Pp m (Fa m ts i) w:=by rw[Fa,List.take_add_one,h,List.foldl_append];rfl
theorem Abb(p c:Int):0≤orP p c∧orP p c<18446744073709551616:=⟨Int.emod_nonneg _ (by decide),Int.emod_lt_of_pos _ (by decide)⟩
def Ct(c:Int)(k:Nat):UInt8:=UInt8.ofNat (IntKind.u8.wrap (c.fdiv (2^min (8*k) 64))).toNat
theorem ME(c:Int)(k:Nat):IntKind.u8.wrap (c.fdiv (2^min (8*k) 64))=((Ct c k).toNat:Int):=by
 have h1:0≤IntKind.u8.wrap (c.fdiv (2^min (8*k) 64)):=Int.emod_nonneg _ (by decide)
 have h2:IntKind.u8.wrap (c.fdiv (2^min (8*k) 64))<256:=Int.emod_lt_of_pos _ (by decide)
 unfold Ct
 rw[UInt8.toNat_ofNat_of_lt' (by simp[UInt8.size];omega)]
 omega
theorem Ae0(c:Int):IntKind.u8.wrap c=((Ct c 0).toNat:Int):=by
 rw[← ME];simp
def DS(c:Int)(k:Nat):List UInt8:=(List.range k).map (Ct c)
theorem AeL(c:Int)(k:Nat):DS c k++[Ct c k]=DS c (k+1):=by simp[DS,List.range_succ]
theorem Fs(c:Int)(k:Nat):(DS c k).length=k:=by simp[DS]
def DD(b:List Int)(i:Nat):List UInt8:=[3,Ct b.length 1,Ct b.length 0]++(b.take i).flatMap fun c=>DS c 8
def Dp(b:List Int):List UInt8:=DD b b.length
theorem PG{b:List Int}{i:Nat}{c:Int}(h:b[i]? =some c):DD b i++DS c 8=DD b (i+1):=by
 simp only[DD];rw[List.take_add_one,h,List.flatMap_append,List.append_assoc];simp
theorem J9(b:List Int): ∀ i,i≤b.length→(DD b i).length=3+8*i
 |0,_=>by simp[DD]
 |i+1,h=>by
   have:=J9 b i (by omega)
   rw[← PG (List.getElem?_eq_getElem (by omega)),List.length_append,this,Fs];omega
theorem Iu(b:List Int):(Dp b).length=3+8*b.length:=J9 b _ (Nat.le_refl _)
theorem AeJ{b:List Int}{p c:Int}(h:b[(p / 64).toNat]? =some c):b.set (p / 64).toNat (orP p c)=HI b p:=by rw[HI,gX h]
theorem AcU(h:Nat)(hh:h≤8)(b:List Int)(hb0:0<b.length)(hb:b.length≤2^20)(w:S)(u v:Int)(q0:Ad Tryz.prog 202 [U32 0,str w] (fun r=>r=U32 u))(q1:Ad Tryz.prog 202 [U32 1,str w] (fun r=>r=U32 v)):Af Tryz.prog 145 [.agg [I h,.sl 1 (Bu b)],str w] [] (.osl 0 h 1) [some ⟨3,1,Ak (psA u v (64*b.length) h)⟩]:=by
 have hpf:=Zh u v b.length
 have hps:=AaK u v (64*b.length)
 have h0:psA u v (64*b.length) 0=[]:=rfl
 refine BB 35 0 Tryz.func145 ?_
 refine Aa 0 [1,2] ?_
 refine Ae 1 ?_
 refine Ac 1 ?_
 refine AC (q0) ?_;rintro _ rfl
 refine Ac 1 ?_
 refine AC (q1) ?_;rintro _ rfl
 refine Ac 2 ?_
 refine XO.done [2,5,6] ?_
 refine Aa 2 [2,5,6,7] ?_
 refine Aa 3 [2,5,6,7,8] ?_
 refine AX 2 (fun i:Nat=>⟨[(2,.ptr 0 2 0 0),(5,U32 u),(6,U32 v),(7,.osl 1 i 1),(8,I i)],[(0,some ⟨139,2,[[I h,.sl 1 (Bu b)]]⟩),(1,some ⟨3,1,Ak (psA u v (64*b.length) i)⟩)]⟩) (fun i=>i≤h) (fun i=>h-i) 0 (AD (And.intro h0 U32.eq_1) [some 0,none] []) ?_ (h0:=Nat.zero_le _);rintro i hI0 Y0 hY0;skip
 refine Aa 4 [2,5,6,7,8,16] ?_
 first|refine Cd 16 ?_|refine AM 16 ?_|refine Az 16 (fun c16=>?_) (fun c16=>?_)|refine By 16 (fun c16=>?_) (fun c16=>?_)
 refine XW.at 6 ?_;have hx:=hpf i
 refine Ba 6 [2,5,6,7,8] ?_
 refine AJ 5 [2,5,6,7,8] ?_
 refine XH.le ?_;first|(exact eY hY0 (i+1) (AD (And.intro hps U32.eq_1) [some 0,some 1] []))
 refine XW.at 7 ?_;obtain rfl:i=h:=(by omega)
 refine Aa 7 [4] ?_
 refine Ap ?_;first|((refine XB.ret [some 0] [] (hids:=⟨by simp[Al],by simp[Al],rfl⟩) (hwk:=?_) (hwh:=?_);(next=>simp[Ax,lk,lkh,wk,wkL,wkE,I]);(next=>simp[Am,Ai,Aj,lkh,wkE,wkL,wk,I])))|fail
theorem Ad1(h:Nat)(hh:h≤8)(b:List Int)(hb0:0<b.length)(hb:b.length≤2^20)(w:S)(hw:w.length≤2^40):Af Tryz.prog 145 [.agg [I h,.sl 1 (Bu b)],str w] [] (.osl 0 h 1) [some ⟨3,1,Ak (psL w (64*b.length) h)⟩]:=AcU h hh b hb0 hb w _ _ (CL (AaS 0 w hw)) (CL (AaS 1 w hw))
theorem T0(b:List Int)(hb0:0<b.length)(hb:b.length≤2^20)(w:S)(hw:w.length≤2^40): ∃ ps:List Int,ps=psL w (64*b.length) 3∧ps.length=3∧(∀ p∈ps,0≤p∧p<(64*b.length:Nat))∧Af Tryz.prog 145 [.agg [I 3,.sl 1 (Bu b)],str w] [] (.osl 0 3 1) [some ⟨3,1,Ak ps⟩]:=⟨_,rfl,UF _ _ _,UG _ _ _ (by omega),Ad1 3 (by omega) b hb0 hb w hw⟩
theorem X5(ts:List S)(ht:ts.length≤2^30)(hw: ∀ w∈ts,w.length≤2^40)(m:Nat)(hm:(if(if(ts.length:Int)>1 then(ts.length:Int)else 1)*10<65536 then(if(ts.length:Int)>1 then(ts.length:Int)else 1)*10 else 65536)=(m:Int))(m1:1≤m)(m2:m≤65536):Af Tryz.prog 163 [.sl 1 (Ay ts),I 10] [] (.tup [.agg [I 3,.osl 0 ((m+63) / 64) 1],I 0]) [some ⟨65,1,Bu (Fa (64*((m+63) / 64)) ts ts.length)⟩]:=by
 have hw1:IntKind.i64.wrap ((if(ts.length:Int)>1 then(ts.length:Int)else 1)*10)=(if(ts.length:Int)>1 then(ts.length:Int)else 1)*10:=As (by split<;>omega)
 have q0:=AfA m m1 m2
 obtain⟨n,hn⟩: ∃ n,(m+63) / 64=n:=⟨_,rfl⟩
 rw[hn]at q0 ⊢
 have hbl:=OK (64*n) ts
 rw[Nat.mul_div_cancel_left n (by decide)]at hbl
 have hz:List.replicate n (0:Int)=Fa (64*n) ts 0:=by simp[Fa]
 refine BB 64 0 Tryz.func163 ?_
 refine Ae 0 ?_
 refine Ac 2 ?_
 refine Bv [0,1,4] ?_
 refine Ae 1 ?_
 refine Ac 3 ?_
 first|refine Gx 13 ?_|refine BE 13 ?_|refine BV 13 (fun g13=>?_) (fun g13=>?_)|refine XO.split 13 (fun g13=>?_) (fun g13=>?_)
 refine Ac 3 ?_
 refine Bv [0,1,4,16] ?_
 first|refine Cd 16 ?_|refine AM 16 ?_|refine Az 16 (fun c16=>?_) (fun c16=>?_)|refine By 16 (fun c16=>?_) (fun c16=>?_)
 refine Ae 3 ?_
 refine Aq 4 ?_
 have hx:=hw1;have hx2:=hm
 refine AP 2 ?_
 refine HE q0 (hei:=by simp) ?_
 refine Aq 6 ?_
 refine Bv [0,4,6] ?_
 refine Ae 4 ?_
 refine Ac 1 ?_
 refine Bv [0,4,6,8] ?_
 refine AX 3 (fun i:Nat=>⟨[(0,.sl 1 (Ay ts)),(4,.ptr 0 2 0 0),(6,.ptr 1 2 0 0),(8,I i)],[(0,some ⟨139,2,[[I 0,.val (.slice none 0 0)]]⟩),(1,some ⟨139,2,[[I 3,.osl 2 n 1]]⟩),(2,some ⟨65,1,Bu (Fa (64*n) ts i)⟩)]⟩) (fun i=>i≤ts.length) (fun i=>ts.length-i) 0 (AD hz [some 0,some 1,some 2] []) ?_ (h0:=Nat.zero_le _);rintro i hI0 Y0 hY0;skip
 refine Ae 5 ?_
 refine Ac 4 ?_
 refine Bv [0,4,6,8,31] ?_
 first|refine Cd 31 ?_|refine AM 31 ?_|refine Az 31 (fun c31=>?_) (fun c31=>?_)|refine By 31 (fun c31=>?_) (fun c31=>?_)
 refine XW.at 7 ?_;obtain⟨w,hx,hwm⟩:=Bd ts i (by omega);have hbs:=Zj (64*n) hx;have hbi:=hbl i;rw[Pp]at hbs;generalize hbb:Fa (64*n) ts i=bb at*;obtain⟨ps,hps,hpl,hpr,qp⟩:=T0 bb (by omega) (by omega) w (hw w hwm);rw[hbi]at hps hpr;rw[← hps]at hbs
 refine Ae 7 ?_
 refine Aq 5 ?_
 refine AaM [2] [.agg [I 3,.sl 1 (Bu bb)],str w] qp (hv:=⟨Kg ⟨LX,LC (by simp) rfl rfl (by rw[ND,hbi]) rfl,trivial⟩,Cn _ _⟩) (hb:=by simp[DI,lkh]) ?_
 refine Aq 1 ?_
 refine Bv [0,4,6,8,9] ?_
 refine Ae 8 ?_
 refine Ac 1 ?_
 refine Bv [0,4,6,8,9,10] ?_
 refine AX 4 (fun k:Nat=>⟨[(0,.sl 1 (Ay ts)),(4,.ptr 0 2 0 0),(6,.ptr 1 2 0 0),(8,I i),(9,.osl 3 3 1),(10,I k)],[(0,some ⟨139,2,[[I 0,.val (.slice none 0 0)]]⟩),(1,some ⟨139,2,[[I 3,.osl 2 n 1]]⟩),(2,some ⟨65,1,Bu ((ps.take k).foldl HI bb)⟩),(3,some ⟨3,1,Ak ps⟩)]⟩) (fun k=>k≤ps.length) (fun k=>ps.length-k) 0 (AD hpl [some 0,some 1,some 2,some 3] []) ?_ (h0:=Nat.zero_le _);rintro k hI1 Y1 hY1;skip
 refine Ae 9 ?_
 refine Ac 4 ?_
 refine Bv [0,4,6,8,9,10,43] ?_
 first|refine Cd 43 ?_|refine AM 43 ?_|refine Az 43 (fun c43=>?_) (fun c43=>?_)|refine By 43 (fun c43=>?_) (fun c43=>?_)
 refine XW.at 11 ?_;obtain⟨p,hp1,hpm⟩:=Bd ps k (by omega);have hr:=hpr p hpm;have hfl:=LS (ps.take k) bb;obtain⟨c,hc1,hcm⟩:=Bd ((ps.take k).foldl HI bb) (p / 64).toNat (by omega);have hse:=AeJ hc1;rw[← AcI bb hp1]at hse;have hq1:IntKind.i64.wrap (p.tdiv 64)=p / 64:=(by rw[Int.tdiv_eq_ediv_of_nonneg hr.1,As (by omega)]);have hr1:p.tmod 64=p%64:=Int.tmod_eq_emod_of_nonneg hr.1;have hpr1:0≤p / 64∧p / 64<(n:Int):=(by omega)
 refine Ae 11 ?_
 refine Aq 3 ?_
 have hx:=hp1
 refine Aq 3 ?_
 have hx:=hq1
 refine AP 1 ?_
 have hx:=hc1
 refine Aq 2 ?_
 have hx:=hp1
 refine Aq 4 ?_
 have hx:=hr1
 refine AP 1 ?_
 refine AP 1 ?_
 refine AP 1 ?_
 refine Aq 1 ?_
 have hx:=hc1;simp only[orP,Int.one_mul]at hse
 refine Aq 1 ?_
 refine Bv [0,4,6,8,9,10] ?_
 refine Ae 10 ?_
 refine EW 3 ?_
 refine Bv [0,4,6,8,9,10] ?_
 refine XH.le ?_;first|(exact eY hY1 (k+1) (AD hse [some 0,some 1,some 2,some 3] []))
 refine Ae 6 ?_
 refine EW 3 ?_
 refine Bv [0,4,6,8] ?_
 refine XH.le ?_;(have hfin:ps.take k=ps:=List.take_of_length_le (by omega));first|(exact eY hY0 (i+1) (AD (And.intro hbs hfin) [some 0,some 1,some 2] []))
 refine Ae 12 ?_
 refine Ac 3 ?_
 refine Bv [4,5] ?_
 refine Ap ?_;first|((obtain rfl:i=ts.length:=(by omega);refine XB.ret [some 1] [] (hids:=⟨by simp[Al],by simp[Al],rfl⟩) (hwk:=?_) (hwh:=?_);(next=>simp[Ax,lk,lkh,wk,wkL,wkE,I]);(next=>simp[Am,Ai,Aj,lkh,wkE,wkL,wk,I])))|fail
theorem Ac6(b:List Int)(h1:1≤b.length)(h2:b.length≤1024):Af Tryz.prog 164 [.agg [I 3,.sl 1 (Bu b)]] [] (.tup [.osl 0 (Dp b).length 1,I 0]) [some ⟨5,1,Ab (Dp b)⟩]:=by
 have q0:=CL (TH 3 b (by omega) (by omega) h1 h2)
 have hu1:IntKind.u8.wrap ((b.length:Int).fdiv (2^min 8 64))=((Ct b.length 1).toNat:Int):=ME _ 1
 have hu2:=Ae0 b.length
 have hu0:IntKind.u8.wrap 3=((3:UInt8).toNat:Int):=rfl
 have hb3:[[AV.val (.int .u8 3)],[AV.val (.int .u8 ((Ct b.length 1).toNat:Int))],[AV.val (.int .u8 ((Ct b.length 0).toNat:Int))]]=Ab (DD b 0):=rfl
 have hel:=J9 b
 have hl0:(DD b 0).length=3:=hel 0 (by omega)
 refine BB 50 0 Tryz.func164 ?_
 refine Aa 0 [1] ?_
 refine Ae 1 ?_
 refine Ac 1 ?_
 refine AC (q0) ?_;rintro _ rfl
 refine Ac 1 ?_
 refine XO.done [1,4] ?_
 refine Aa 2 [1,4,11] ?_
 first|refine Cd 11 ?_|refine AM 11 ?_|refine Az 11 (fun c11=>?_) (fun c11=>?_)|refine By 11 (fun c11=>?_) (fun c11=>?_)
 refine Ae 4 ?_
 refine Aq 2 ?_
 have hx:=hu0
 refine AP 5 ?_
 have hx:=hu1;have hx2:=hu2
 refine AP 5 ?_
 have hx:=hb3
 refine Aq 2 ?_
 refine XO.done [1,5] ?_
 refine Aa 5 [1,5,6] ?_
 refine AX 2 (fun i:Nat=>⟨[(1,.ptr 0 2 0 0),(5,.osl 1 (DD b i).length 1),(6,I i)],[(0,some ⟨139,2,[[I 3,.sl 1 (Bu b)]]⟩),(1,some ⟨5,1,Ab (DD b i)⟩)]⟩) (fun i=>i≤b.length) (fun i=>b.length-i) 0 (AD (And.intro hl0 B.eq_1) [some 0,some 1] []) ?_ (h0:=Nat.zero_le _);rintro i hI0 Y0 hY0;skip
 refine Aa 6 [1,5,6,30] ?_
 first|refine Cd 30 ?_|refine AM 30 ?_|refine Az 30 (fun c30=>?_) (fun c30=>?_)|refine By 30 (fun c30=>?_) (fun c30=>?_)
 refine XW.at 8 ?_;have hli:=hel i (by omega);have hos:=Fs
 refine Aa 8 [1,5,6,7] ?_
 refine AX 2 (fun k:Nat=>⟨[(1,.ptr 0 2 0 0),(5,.osl 1 (DD b i++DS (b.getD i 0) k).length 1),(6,I i),(7,I k)],[(0,some ⟨139,2,[[I 3,.sl 1 (Bu b)]]⟩),(1,some ⟨5,1,Ab (DD b i++DS (b.getD i 0) k)⟩)]⟩) (fun k=>k≤8) (fun k=>8-k) 0 (AD DS.eq_1 [some 0,some 1] []) ?_ (h0:=Nat.zero_le _);rintro k hI1 Y1 hY1;skip
 refine Aa 9 [1,5,6,7,34] ?_
 first|refine Cd 34 ?_|refine AM 34 ?_|refine Az 34 (fun c34=>?_) (fun c34=>?_)|refine By 34 (fun c34=>?_) (fun c34=>?_)
 refine XW.at 11 ?_;obtain⟨c,hx,hcm⟩:=Bd b i (by omega);have hoc:=ME c k;have e8:(8*(k:Int)).toNat=8*k:=(by omega);rw[← e8]at hoc;have hx2:=hoc;have hlk:=AeL c k;have hgd:b.getD i 0=c:=gX hx;rw[hgd]at*;have hll:(DS c (k+1)).length=(DS c k).length+1:=(by rw[Fs,Fs])
 refine Ba 11 [1,5,6,7] ?_
 refine AJ 10 [1,5,6,7] ?_
 refine XH.le ?_;first|(exact eY hY1 (k+1) (AD (And.intro hx (And.intro hlk (And.intro @List.append_assoc.{0} (And.intro hll (And.intro @Nat.add_assoc @List.length_append.{0}))))) [some 0,some 1] []))
 refine AJ 7 [1,5,6] ?_
 refine XH.le ?_;(obtain⟨c,hx,hcm⟩:=Bd b i (by omega);have hfin:=PG hx;have hgd:b.getD i 0=c:=gX hx;have hk8:k=8:=(by omega);rw[hk8,hgd];have hlf:(DD b i).length+(DS c 8).length=(DD b (i+1)).length:=(by rw[← hfin,List.length_append]));first|(exact eY hY0 (i+1) (AD (And.intro hfin hlf) [some 0,some 1] []))
 refine XW.at 12 ?_;obtain rfl:i=b.length:=(by omega)
 refine Aa 12 [2,3] ?_
 refine Ap ?_;first|((refine XB.ret [some 0] [] (hids:=⟨by simp[Al],by simp[Al],rfl⟩) (hwk:=?_) (hwh:=?_);(next=>simp[Ax,lk,lkh,wk,wkL,wkE,I,Dp]);(next=>simp[Am,Ai,Aj,lkh,wkE,wkL,wk,I,Dp])))|fail
end Go.Proofs.YtpkhodjlnodagaaGreatDoor
namespace Go.Proofs.YtpkhodjlnodagaaGreatDoor
open Go.Av
set_option maxHeartbeats 4000000
attribute [local irreducible] Af
theorem Qc(t:S): ∀ i,i≤t.length+1→ ∀ w∈(wTo t i).1,0<w.length∧w.length≤40
 |0,_=>by simp[wTo]
 |i+1,h=>by
   have:=Qc t i (by omega)
   rw[UQ t i (by simp[Iy];omega)]
   unfold IG
   split
   · exact this
   · split
     · next h1=>
       intro w hw
       rcases List.mem_append.1 hw with hw|hw
       · exact this w hw
       · rw[List.mem_singleton.1 hw];exact h1
     · exact this
theorem Lt(t:S): ∀ w∈CG t,0<w.length∧w.length≤40:=fun w hw=>Qc t _ (Nat.le_refl _) w ((C5 _ _).1 hw)
theorem QP(e:Ev)(he:EvT e): ∀ w∈HF e,w.length≤2048:=by
 intro w hw
 have hw:=(C5 _ _).1 hw
 unfold HN at hw
 rcases List.mem_append.1 hw with hw|hw
 · have:=Lt _ w hw;omega
 · simp only[List.take_length,List.mem_map]at hw
   obtain⟨f,hf,rfl⟩:=hw
   have:=he.fv f hf
   simp;omega
theorem N5(e:Ev)(he:EvT e):(HF e).length≤80073:=by
 have h1:=Do (HN e e.fields.length)
 have h2:=FG (B4 e)
 have h3:=Ha e he
 have h4:=he.nf
 have h5:(HN e e.fields.length).length=(CG (B4 e)).length+e.fields.length:=by simp[HN]
 unfold HF;omega
def EF(l:List Ev)(i:Nat):List S:=(l.take i).flatMap HF
theorem Wc(l:List Ev)(i:Nat)(h:i<l.length):EF l (i+1)=EF l i++HF l[i]:=by
 unfold EF
 rw[List.take_add_one,List.getElem?_eq_getElem h,List.flatMap_append]
 simp only[Option.toList,List.flatMap_cons,List.flatMap_nil,List.append_nil]
theorem KH(l:List Ev)(h: ∀ e∈l,EvT e): ∀ i,i≤l.length→(EF l i).length≤i*80073
 |0,_=>by simp[EF]
 |i+1,hi=>by
   have:=KH l h i (by omega)
   have:=N5 l[i] (h _ (List.getElem_mem _))
   rw[Wc l i (by omega)]
   simp only[List.length_append];omega
def fmN(n:Nat):Nat:=min (max n 1*10) 65536
theorem Aed(n:Nat):(if(if(n:Int)>1 then(n:Int)else 1)*10<65536 then(if(n:Int)>1 then(n:Int)else 1)*10 else 65536)=(fmN n:Int):=by
 unfold fmN
 split<;>split<;>omega
theorem Tq(n:Nat):1≤fmN n∧fmN n≤65536:=by unfold fmN;omega
def GS(l:List Ev):List Int:=Fa (64*((fmN (Bi (EF l l.length)).length+63) / 64)) (Bi (EF l l.length)) (Bi (EF l l.length)).length
theorem PD(l:List Ev):(GS l).length=(fmN (Bi (EF l l.length)).length+63) / 64:=by
 rw[GS,OK,Nat.mul_div_cancel_left _ (by decide)]
theorem JO(l:List Ev):1≤(GS l).length∧(GS l).length≤1024:=by
 have:=Tq (Bi (EF l l.length)).length
 rw[PD];omega
def JB(l:List Ev):List UInt8:=Dp (GS l)
theorem Wn(l:List Ev):(JB l).length≤8195:=by
 have:=JO l
 rw[JB,Iu];omega
theorem encE(b:List Int)(h1:1≤b.length)(h2:b.length≤1024): ∃ o,o=Dp b∧Af Tryz.prog 164 [.agg [I 3,.sl 1 (Bu b)]] [] (.tup [.osl 0 o.length 1,I 0]) [some ⟨5,1,Ab o⟩]:=⟨_,rfl,Ac6 b h1 h2⟩
theorem Adu(l:List Ev)(hl:l.length≤4096)(h: ∀ e∈l,EvT e): ∃ b:List Int,b=GS l∧(1≤b.length∧b.length≤1024)∧Af Tryz.prog 163 [.sl 1 (Ay (Bi (EF l l.length))),I 10] [] (.tup [.agg [I 3,.osl 0 b.length 1],I 0]) [some ⟨65,1,Bu b⟩]:=by
 have hL:=KH l h l.length (Nat.le_refl _)
 have hdl:=Do (EF l l.length)
 have hr:=Tq (Bi (EF l l.length)).length
 have q:=X5 (Bi (EF l l.length)) (by omega) (by
   intro w hw
   have hw:=(C5 _ _).1 hw
   unfold EF at hw
   obtain⟨e,he,hw⟩:=List.mem_flatMap.1 hw
   have:=QP e (h e (List.mem_of_mem_take he)) w hw
   omega) _ (Aed _) hr.1 hr.2
 refine⟨GS l,rfl,JO l,?_⟩
 rw[PD]
 exact q
theorem Yv(l:List Ev)(hl:l.length≤4096)(h: ∀ e∈l,EvT e):Af Tryz.prog 108 [.sl 10 (evE l)] [] (.osl 0 (JB l).length 1) [some ⟨5,1,Ab (JB l)⟩]:=by
 have hL:=KH l h l.length (Nat.le_refl _)
 have q1:=Gn _ (EF l l.length) (Nat.le_refl _) (by omega)
 have hdl:=Do (EF l l.length)
 obtain⟨b,hb,⟨b1,b2⟩,q2⟩:=Adu l hl h
 obtain⟨o,ho,q3⟩:=encE b b1 b2
 have hel:=Iu b
 rw[← ho]at hel
 have hf:JB l=o:=by rw[ho,hb];rfl
 rw[hf]
 clear hf ho hb
 refine acN 34 0 Tryz.func108 fun C hN hk=>?_
 refine Ah [0] ?_
 refine Ah [0,3] ?_
 refine Ah [0,3,4] ?_
 refine lpF hk 1 (fun i:Nat=>⟨[(0,.sl 10 (evE l)),(3,.osl 0 (EF l i).length 1),(4,I i)],[(0,some ⟨9,1,Ay (EF l i)⟩)]⟩) (fun i=>i≤l.length) (fun i=>l.length-i) 0 (Fb EF.eq_1 [none] []) ?_
 intro i h1
 have hl2:=KH l h i h1
 by_cases hi:i<l.length
 · have hx:=List.getElem?_eq_getElem hi
   have hs:=Wc l i hi
   have he:=h _ (List.getElem_mem hi)
   have q0:=AcX l[i] he
   have hw:=N5 l[i] he
   generalize HF l[i]=ws at*
   generalize l[i]=e at*
   generalize EF l i=o2 at*
   have F:=hx;refine A5 [0,3,4,12] ?_;clear F
   refine cT ?_;refine Dw [0,3,4] ?_ (onc 5 (pcq q0) noc)
   have F:=hx;refine A5 [0,3,4] ?_;clear F
   refine eE (i+1) (HD [some 0] [])
 · have:i=l.length:=by omega
   subst this
   generalize Bi (EF l l.length)=d at*
   generalize EF l l.length=o2 at*
   refine AU [0,3,4,12] ?_
   refine cF ?_;refine Ah [5] ?_ (onc 1 (bcq [0] q1) (onc 2 (bcq [9] q2) noc))
   refine Ah [7] ?_ (onc 1 (bcq [1] q3) noc)
   refine Ah [2] ?_
   refine AW.ret (En [some 0] [])
def lo(L:List Ln):List Int:=L.map Ln.off
def le(L:List Ln):List Int:=L.map Ln.len
def lz(L:List Ln):List Int:=L.map fun x=>(x.text.length:Int)
def lt(L:List Ln):S:=L.flatMap Ln.text
theorem lo_s(L:List Ln)(x:Ln):lo (L++[x])=lo L++[x.off]:=by simp[lo]
theorem le_s(L:List Ln)(x:Ln):le (L++[x])=le L++[x.len]:=by simp[le]
theorem lz_s(L:List Ln)(x:Ln):lz (L++[x])=lz L++[(x.text.length:Int)]:=by simp[lz]
theorem lt_s(L:List Ln)(x:Ln):lt (L++[x])=lt L++x.text:=by simp[lt]
theorem NL: ∀ (L:List Ln),(∀ x∈L,x.text.length≤2000)→(lt L).length≤L.length*2000
 | [],_=>by simp[lt]
 |x::L,h=>by
   have:=NL L (fun y hy=>h y (by simp[hy]))
   have:=h x (by simp)
   simp only[lt,List.flatMap_cons,List.length_append,List.length_cons]at*;omega
def GB(l:List Ev)(i:Nat):List Int:=(l.take i).map fun e=>(e.lines.length:Int)
def Du(l:List Ev)(i:Nat):List Ln:=(l.take i).flatMap Ev.lines
theorem Ad6(l:List Ev)(i:Nat)(h:i<l.length):GB l (i+1)=GB l i++[(l[i].lines.length:Int)]:=by
 unfold GB
 rw[List.take_add_one,List.getElem?_eq_getElem h]
 simp only[Option.toList,List.map_append,List.map_cons,List.map_nil]
theorem AeQ(l:List Ev)(i:Nat)(h:i<l.length):Du l (i+1)=Du l i++l[i].lines:=by
 unfold Du
 rw[List.take_add_one,List.getElem?_eq_getElem h,List.flatMap_append]
 simp only[Option.toList,List.flatMap_cons,List.flatMap_nil,List.append_nil]
theorem P5(l:List Ev)(i:Nat):(Du l i).length≤(l.flatMap Ev.lines).length:=by
 have:l.flatMap Ev.lines=Du l i++(l.drop i).flatMap Ev.lines:=by unfold Du;rw[← List.flatMap_append,List.take_append_drop]
 rw[this];simp
theorem R8(l:List Ev):Du l l.length=l.flatMap Ev.lines:=by simp[Du]
def Io(l:List Ev):List UInt8:=AF (BF (GB l l.length))++AF (BF (lo (Du l l.length)))++AF (BF (le (Du l l.length)))++AF (BF (lz (Du l l.length)))++lt (Du l l.length)
theorem LO(v:List Int)(hl:v.length≤16384):(BF v).length≤2^20∧(AF (BF v)).length≤2^20:=by
 have:=Hf v hl
 have:=Db (BF v)
 omega
theorem AbF(l:List Ev)(hl:l.length≤4096)(h: ∀ e∈l,EvT e)(hL:(l.flatMap Ev.lines).length≤16384):Af Tryz.prog 105 [.sl 10 (evE l)] [] (.osl 0 (Io l).length 1) [some ⟨5,1,Ab (Io l)⟩]:=by
 refine acN 80 0 Tryz.func105 fun C hN hk=>?_
 have htx: ∀ i,∀ x∈Du l i,x.text.length≤2000:=by
   intro i x hx
   unfold Du at hx
   obtain⟨e,he,hx⟩:=List.mem_flatMap.1 hx
   exact(h e (List.mem_of_mem_take he)).tx x hx
 have e0:GB l 0=[]:=by simp[GB]
 have e1:Du l 0=[]:=by simp[Du]
 refine Ah [0] ?_
 refine Ah [0,3,4,5,6] ?_
 refine Ah [0,3,4,5,6,7] ?_
 refine Ah [0,3,4,5,6,7,8] ?_
 refine lpF hk 5 (fun i:Nat=>⟨[(0,.sl 10 (evE l)),(3,.osl 0 (GB l i).length 1),(4,.osl 1 (lo (Du l i)).length 1),(5,.osl 2 (le (Du l i)).length 1),(6,.osl 3 (lz (Du l i)).length 1),(7,.osl 4 (lt (Du l i)).length 1),(8,I i)],[(0,some ⟨3,1,Ak (GB l i)⟩),(1,some ⟨3,1,Ak (lo (Du l i))⟩),(2,some ⟨3,1,Ak (le (Du l i))⟩),(3,some ⟨3,1,Ak (lz (Du l i))⟩),(4,some ⟨5,1,Ab (lt (Du l i))⟩)]⟩) (fun i=>i≤l.length) (fun i=>l.length-i) 0 (Fb (And.intro e0 (And.intro e1 (And.intro lo.eq_1 (And.intro le.eq_1 (And.intro lz.eq_1 lt.eq_1))))) [none,none,none,none,none] []) ?_
 intro i h1
 have hcl:(GB l i).length≤4096:=by simp[GB];omega
 have hll:=P5 l i
 have htl:=NL _ (htx i)
 by_cases hi:i<l.length
 · have hx:=List.getElem?_eq_getElem hi
   have hs:=Ad6 l i hi
   have hs2:=AeQ l i hi
   have hll2:=P5 l (i+1)
   have htx2:=htx (i+1)
   have hc0:(GB l (i+1)).length≤4096:=by simp[GB];omega
   generalize GB l i=c at*
   generalize Du l i=A at*
   generalize l[i]=e at*
   rw[hs2]at hll2 htx2
   have F:=hx;refine A5 [0,3,4,5,6,7,8,15] ?_;clear F
   refine cT ?_;refine Dw [0,3,4,5,6,7,8] ?_
   refine Dw [0,3,4,5,6,7,8,9] ?_
   obtain⟨c2,hc2⟩: ∃ c2,c++[(e.lines.length:Int)]=c2:=⟨_,rfl⟩
   have hs3:(c.length+1)=c2.length:=by rw[← hc2];simp
   rw[hc2,hs3]
   rw[hc2]at hs
   refine nx ?_
   refine lpF hk 5 (fun k:Nat=>⟨[(0,.sl 10 (evE l)),(3,.osl 0 c2.length 1),(4,.osl 1 (lo (A++e.lines.take k)).length 1),(5,.osl 2 (le (A++e.lines.take k)).length 1),(6,.osl 3 (lz (A++e.lines.take k)).length 1),(7,.osl 4 (lt (A++e.lines.take k)).length 1),(8,I i),(9,I k)],[(0,some ⟨3,1,Ak c2⟩),(1,some ⟨3,1,Ak (lo (A++e.lines.take k))⟩),(2,some ⟨3,1,Ak (le (A++e.lines.take k))⟩),(3,some ⟨3,1,Ak (lz (A++e.lines.take k))⟩),(4,some ⟨5,1,Ab (lt (A++e.lines.take k))⟩)]⟩) (fun k=>k≤e.lines.length) (fun k=>e.lines.length-k) 0 (Ps [some 0,some 1,some 2,some 3,some 4] []) ?_
   intro k h2
   have hek:e.lines.length≤16384:=by rw[List.length_append]at hll2;omega
   have hLk:(A++e.lines.take k).length≤16384:=by
     rw[List.length_append]at hll2 ⊢
     rw[List.length_take];omega
   have htk:=NL (A++e.lines.take k) (fun x hx=>htx2 x (by
     rcases List.mem_append.1 hx with hx|hx
     · simp[hx]
     · simp[List.mem_of_mem_take hx]))
   have ho: ∀ B,(lo B).length=B.length:=by intro B;simp[lo]
   have he: ∀ B,(le B).length=B.length:=by intro B;simp[le]
   have hz: ∀ B,(lz B).length=B.length:=by intro B;simp[lz]
   have ho:=ho (A++e.lines.take k)
   have he:=he (A++e.lines.take k)
   have hz:=hz (A++e.lines.take k)
   by_cases hk2:k<e.lines.length
   · have hy:=List.getElem?_eq_getElem hk2
     have htt:=htx2 e.lines[k] (by simp)
     have hs5:A++e.lines.take (k+1)=(A++e.lines.take k)++[e.lines[k]]:=by
       rw[List.take_add_one,hy]
       simp only[Option.toList,List.append_assoc]
     generalize e.lines[k]=x at*
     have s1:=lo_s (A++e.lines.take k) x
     have s2:=le_s (A++e.lines.take k) x
     have s3:=lz_s (A++e.lines.take k) x
     have s4:=lt_s (A++e.lines.take k) x
     rw[← hs5]at s1 s2 s3 s4
     generalize lo (A++e.lines.take k)=v1 at*
     generalize le (A++e.lines.take k)=v2 at*
     generalize lz (A++e.lines.take k)=v3 at*
     generalize lt (A++e.lines.take k)=v4 at*
     have F:=And.intro hx hy;refine A5 [0,3,4,5,6,7,8,9,34] ?_;clear F
     refine cT ?_;have F:=And.intro hx hy;refine AB [0,3,4,5,6,7,8,9,10] ?_;clear F
     have F:=And.intro hx hy;refine DV [0,3,4,5,6,7,8,9,10] ?_;clear F
     have F:=And.intro hx hy;refine AB [0,3,4,5,6,7,8,9] ?_;clear F
     have F:=And.intro hx hy;refine A5 [0,3,4,5,6,7,8,9] ?_;clear F
     refine eE (k+1) (Fb (And.intro s1 (And.intro s2 (And.intro s3 s4))) [some 0,some 1,some 2,some 3,some 4] [])
   · have:k=e.lines.length:=by omega
     subst this
     rw[List.take_length,← hs2]
     rw[List.take_length,← hs2]at ho he hz htk
     have F:=hx;refine A5 [0,3,4,5,6,7,8,9,34] ?_;clear F
     refine cF ?_;have F:=hx;refine A5 [0,3,4,5,6,7,8] ?_;clear F
     refine eE (i+1) (HD [some 0,some 1,some 2,some 3,some 4] [])
 · have:i=l.length:=by omega
   subst this
   unfold Io
   generalize GB l l.length=c at*
   generalize Du l l.length=L at*
   have ho:(lo L).length=L.length:=by simp[lo]
   have he:(le L).length=L.length:=by simp[le]
   have hz:(lz L).length=L.length:=by simp[lz]
   generalize lo L=v1 at*
   generalize le L=v2 at*
   generalize lz L=v3 at*
   generalize lt L=v4 at*
   have q1:=HW c (by omega)
   have q2:=HW v1 (by omega)
   have q3:=HW v2 (by omega)
   have q4:=HW v3 (by omega)
   have b1:=LO c (by omega)
   have b2:=LO v1 (by omega)
   have b3:=LO v2 (by omega)
   have b4:=LO v3 (by omega)
   have p1:=JN (BF c) (by omega)
   have p2:=HK (AF (BF c)) (BF v1) (by omega) (by omega)
   have p3:=HK (AF (BF c)++AF (BF v1)) (BF v2) (by simp;omega) (by omega)
   have p4:=HK (AF (BF c)++AF (BF v1)++AF (BF v2)) (BF v3) (by simp;omega) (by omega)
   generalize AF (BF c)=x1 at*
   generalize AF (BF v1)=x2 at*
   generalize AF (BF v2)=x3 at*
   generalize AF (BF v3)=x4 at*
   generalize BF c=y1 at*
   generalize BF v1=y2 at*
   generalize BF v2=y3 at*
   generalize BF v3=y4 at*
   have hsum:((x1++x2++x3++x4).length+v4.length)≤2^30:=by simp;omega
   generalize x1++x2++x3++x4=x6 at*
   generalize x1++x2++x3=x7 at*
   generalize x1++x2=x8 at*
   refine AU [0,3,4,5,6,7,8,15] ?_
   refine cF ?_;refine nx ?_;refine rG hN hk (onc 1 (bcq [0] q1) (onc 2 (bcq [13] p1) (onc 4 (bcq [1] q2) (onc 5 (M8 21 [37] p2) (onc 7 (bcq [2] q3) (onc 8 (M8 45 [61] p3) (onc 10 (bcq [3] q4) (onc 11 (M8 69 [85] p4) noc)))))))) [] [7,11] fun K hK=>?_;simp only[go_sem,seval];refine obK (hK _ _ ?_)
   clear hK K;refine Ah [2] ?_
   refine AW.ret (En [some 0] [])
theorem Pl(l:List Ev)(n:S): ∀ i,∀ x∈(Cf l n i).1,0≤x∧x<(i:Int)
 |0=>by simp[Cf]
 |i+1=>by
   have:=Pl l n i
   unfold Cf
   split
   · split
     · intro x hx
       rcases List.mem_append.1 hx with hx|hx
       · have:=this x hx;omega
       · rw[List.mem_singleton.1 hx];omega
     · intro x hx;have:=this x hx;omega
   · intro x hx;have:=this x hx;omega
theorem QO(l:List Ev)(n:S): ∀ i,(Cf l n i).1.Pairwise (· < ·)
 |0=>by simp[Cf]
 |i+1=>by
   have:=QO l n i
   unfold Cf
   split
   · split
     · rw[List.pairwise_append]
       exact⟨this,by simp,fun a ha b hb=>by rw[List.mem_singleton.1 hb];exact(Pl l n i a ha).2⟩
     · exact this
   · exact this
theorem Hv(l:List Ev)(n:S)(h: ∀ e∈l,EvT e): ∀ i,∀ s∈(Cf l n i).2,s.length≤2048
 |0=>by simp[Cf]
 |i+1=>by
   have:=Hv l n h i
   unfold Cf
   split
   · next e he=>
     split
     · next f hf=>
       intro s hs
       rcases List.mem_append.1 hs with hs|hs
       · exact this s hs
       · rw[List.mem_singleton.1 hs]
         have:=(h e (List.mem_of_getElem? he)).fv f (List.mem_of_find?_eq_some hf)
         omega
     · exact this
   · exact this
theorem JR(l:List Ev)(n:S)(hl:l.length≤4096):Post (Cf l n l.length).1:=by
 refine⟨by have:=(GY l n l.length).1;omega,fun i hi=>?_,fun i hi=>?_⟩
 · have:=Pl l n l.length _ (List.getElem_mem hi);omega
 · exact List.pairwise_iff_getElem.1 (QO l n l.length) i (i+1) (by omega) hi (by omega)
theorem DP(l:List S)(h1:(Bi l).length≤32768)(h2: ∀ s∈l,s.length≤2048):A6 (Bi l)=0:=by
 have h3:Ey (Bi l)=false:=by
   unfold Ey
   rw[List.any_eq_false]
   intro x hx
   have:=h2 x ((C5 l x).1 hx)
   simp;omega
 unfold A6
 rw[if_neg (by omega),h3,Hl _ (B2 l)]
 simp
theorem Ml(ts:List S)(hl:ts.length≤4096)(hs: ∀ s∈ts,s.length≤2048):(ixF ts).length≤2^24:=by
 have h1:=FF _ (Gb ts (by omega) hs)
 have h2:=Do ts
 have h3:=Db (AG (Bi ts))
 have h4:(DW ts ts.length).length=ts.length:=by simp[DW]
 have h5:=Hf (DW ts ts.length) (by omega)
 have h6:=Db (BF (DW ts ts.length))
 unfold ixF
 rw[List.length_append];omega
def fdP(l:List Ev)(n:S):List UInt8:=AF (Bq (Cf l n l.length).1)++ixF (Cf l n l.length).2
def JY(l:List Ev)(d:List S)(i:Nat):List UInt8:=AF (AG d)++(d.take i).flatMap (fdP l)
theorem XG(l:List Ev)(d:List S)(i:Nat)(h:i<d.length):JY l d (i+1)=JY l d i++fdP l d[i]:=by
 unfold JY
 rw[List.take_add_one,List.getElem?_eq_getElem h,List.flatMap_append]
 simp only[Option.toList,List.flatMap_cons,List.flatMap_nil,List.append_nil,List.append_assoc]
theorem AbZ(l:List Ev)(n:S)(hl:l.length≤4096)(h: ∀ e∈l,EvT e):(fdP l n).length≤2^24+100011:=by
 have h1:=DA _ (JR l n hl)
 have h2:=Db (Bq (Cf l n l.length).1)
 have h3:=Ml (Cf l n l.length).2 (by have:=(GY l n l.length).2;omega) (Hv l n h _)
 unfold fdP
 rw[List.length_append];omega
theorem Nr(l:List Ev)(d:List S)(hl:l.length≤4096)(h: ∀ e∈l,EvT e)(hc:A6 d=0): ∀ i,i≤d.length→(JY l d i).length≤70000000+i*(2^24+100011)
 |0,_=>by
   have h1:=FF d hc
   have h2:=Db (AG d)
   have h3:=(E2 d hc).2
   simp[JY];omega
 |i+1,hi=>by
   have:=Nr l d hl h hc i (by omega)
   have:=AbZ l d[i] hl h
   rw[XG l d i (by omega),List.length_append];omega
def FU(l:List Ev):List UInt8:=JY l (A9 l) (A9 l).length
theorem IP(l:List Ev)(h: ∀ e∈l,EvT e): ∀ i,∀ s∈F4 l i,s.length≤2048:=by
 intro i s hs
 unfold F4 at hs
 obtain⟨e,he,hs⟩:=List.mem_flatMap.1 hs
 obtain⟨f,hf,rfl⟩:=List.mem_map.1 hs
 have:=(h e (List.mem_of_mem_take he)).fv f hf
 omega
theorem X2(l:List Ev)(hl:l.length≤4096)(h: ∀ e∈l,EvT e)(hn:(A9 l).length≤32768):Af Tryz.prog 106 [.sl 10 (evE l)] [] (.osl 0 (FU l).length 1) [some ⟨5,1,Ab (FU l)⟩]:=by
 refine acN 36 0 Tryz.func106 fun C hN hk=>?_
 have hc:A6 (A9 l)=0:=DP _ hn (IP l h _)
 have q0:=Ui l hl h
 have q1:=Jj (A9 l) hc (by omega) (Nn _ hc)
 have hel:=FF _ hc
 have q2:=JN (AG (A9 l)) (by omega)
 have hbl:=Db (AG (A9 l))
 have hfl:=Nr l (A9 l) hl h hc
 have hfs:=XG l (A9 l)
 have h0:JY l (A9 l) 0=AF (AG (A9 l)):=by simp[JY]
 unfold FU
 generalize JY l (A9 l)=fd at*
 generalize AF (AG (A9 l))=bl at*
 generalize AG (A9 l)=en at*
 generalize A9 l=d at*
 refine Ah [0] ?_
 refine Ah [0,3] ?_ (onc 1 (pcq q0) noc)
 refine Ah [0,3,4] ?_ (onc 1 (bcq [0] q1) (onc 2 (bcq [9] q2) noc))
 refine Ah [0,3,4,5] ?_
 clear q0 q1 q2
 refine nx ?_
 refine lpF hk 2 (fun i:Nat=>⟨[(0,.sl 10 (evE l)),(3,.osl 0 d.length 1),(4,.osl 1 (fd i).length 1),(5,I i)],[(0,some ⟨9,1,Ay d⟩),(1,some ⟨5,1,Ab (fd i)⟩)]⟩) (fun i=>i≤d.length) (fun i=>d.length-i) 0 (Fb h0 [some 0,some 1] []) ?_
 intro i h1
 have hli:=hfl i h1
 by_cases hi:i<d.length
 · have hx:=List.getElem?_eq_getElem hi
   have hs:=hfs i hi
   have q3:=Yb l d[i] hl h
   have hp:=JR l d[i] hl
   have hvl:=GY l d[i] l.length
   have hvs:=Hv l d[i] h l.length
   unfold fdP at hs
   generalize d[i]=n at*
   generalize Cf l n l.length=z at*
   obtain⟨a,b⟩:=z
   simp only at hp hvl hvs hs q3
   have q4:=NK a hp
   have e1:=DA a hp
   have q5:=HK (fd i) (Bq a) (by omega) (by omega)
   have e2:=Db (Bq a)
   have q6:=Mc b (by omega) hvs
   have e3:=Ml b (by omega) hvs
   generalize ixF b=x1 at*
   generalize AF (Bq a)=x2 at*
   generalize Bq a=x3 at*
   generalize fd i=x4 at*
   have hsum:(x4++x2).length+x1.length≤2^42:=by simp;omega
   have F:=hx;refine A5 [0,3,4,5,16] ?_;clear F
   refine cT ?_;refine Dw [0,3,4,5,6,7] ?_ (onc 5 (pcq q3) noc)
   refine Dw [0,3,4,5] ?_ (onc 2 (bcq [2] q4) (onc 3 (M8 1 [20] q5) (onc 5 (bcq [3] q6) noc)))
   have F:=hx;refine A5 [0,3,4,5] ?_;clear F
   refine eE (i+1) (HD [some 0,some 1] [])
 · have:i=d.length:=by omega
   subst this
   refine AU [0,3,4,5,16] ?_
   refine cF ?_;refine Ah [2] ?_
   refine AW.ret (En [some 0] [])
end Go.Proofs.YtpkhodjlnodagaaGreatDoor
namespace Go.Proofs.YtpkhodjlnodagaaGreatDoor
open Go.Av
theorem Is{α:Type}{B A M R:List α}{i j:Nat}(hB:B=A++M++R)(hA:A.length=i)(hM:A.length+M.length=j):(B.take j).drop i=M:=by
 subst hB hA hM
 rw[List.take_append,List.take_of_length_le (by simp)]
 simp
theorem Sn(v:Nat): ∀ k,v<256^k→Ef (Br v k)=v:=by
 have key: ∀ k acc,(Br v k).foldl (fun x b=>x*256+b.toNat) acc=acc*256^k+v%256^k:=by
   intro k
   induction k with
   |zero=>intro acc;simp[Br,Nat.mod_one]
   |succ k ih=>
     intro acc
     have e1:(UInt8.ofNat (v / 2^(8*k)%256)).toNat=v / 256^k%256:=by
       have:(2:Nat)^(8*k)=256^k:=by rw[Nat.pow_mul]
       rw[this];simp
     have e2:=Nat.mod_mul (x:=v) (a:=256^k) (b:=256)
     simp only[Br,List.foldl_cons,ih,e1]
     rw[Nat.pow_succ,e2,Nat.add_mul,Nat.mul_assoc,Nat.mul_comm 256 (256^k),Nat.mul_comm (v / 256^k%256)]
     omega
 intro k h
 unfold Ef
 rw[key,Nat.zero_mul,Nat.zero_add,Nat.mod_eq_of_lt h]
noncomputable def KW(s:List UInt8):List UInt8:=Br s.length 4++Br (Dm s) 4
noncomputable def Ee(ss:List (List UInt8)):List UInt8:=ss.flatMap KW
def GO(c a z:Nat):List UInt8:=[76,84,83,49]++Br c 4++Br a 8++Br z 8
noncomputable def hdF(c a z:Nat)(ss:List (List UInt8)):List UInt8:=GO c a z++Ee ss
noncomputable def EO(c a z:Nat)(ss:List (List UInt8)):List UInt8:=hdF c a z ss++Br (Dm (hdF c a z ss)) 4++ss.flatten
theorem Z0(s:List UInt8):(KW s).length=8:=by simp[KW,Cc]
theorem G3: ∀ ss,(Ee ss).length=8*ss.length
 | []=>rfl
 |s::r=>by
   have:=G3 r
   have h2:=Z0 s
   simp only[Ee,List.flatMap_cons,List.length_append,List.length_cons]at*;omega
theorem Hc(c a z:Nat):(GO c a z).length=24:=by simp[GO,Cc]
theorem HR(c a z:Nat)(ss:List (List UInt8)):(hdF c a z ss).length=24+8*ss.length:=by simp[hdF,Hc,G3]
theorem Tc(ss:List (List UInt8))(k:Nat)(h:k<ss.length):Ee ss=Ee (ss.take k)++KW ss[k]++Ee (ss.drop (k+1)):=by
 have e:ss=ss.take k++ss[k]::ss.drop (k+1):=by simp
 conv=>lhs;rw[e]
 unfold Ee
 rw[List.flatMap_append,List.flatMap_cons,List.append_assoc]
def CF(ss:List (List UInt8))(k:Nat):Nat:=((ss.take k).flatten).length
theorem Ie(ss:List (List UInt8))(k:Nat)(h:k<ss.length):CF ss (k+1)=CF ss k+ss[k].length:=by
 unfold CF
 rw[List.take_add_one,List.getElem?_eq_getElem h,List.flatten_append]
 simp
theorem G4(ss:List (List UInt8))(k:Nat):CF ss k≤ss.flatten.length:=by
 have:ss.flatten=(ss.take k).flatten++(ss.drop k).flatten:=by rw[← List.flatten_append,List.take_append_drop]
 unfold CF;rw[this];simp
section seg
variable (c a z : Nat) (ss : List (List UInt8))
theorem AbB(hs:ss.length=12):(EO c a z ss).length=124+ss.flatten.length:=by simp only[EO,List.length_append,HR,Cc,hs]
theorem WF(k:Nat)(hs:ss.length=12)(h:k<ss.length):((EO c a z ss).take (28+8*k)).drop (24+8*k)=Br ss[k].length 4:=by
 refine Is (A:=GO c a z++Ee (ss.take k)) (R:=Br (Dm ss[k]) 4++Ee (ss.drop (k+1))++Br (Dm (hdF c a z ss)) 4++ss.flatten) ?_ ?_ ?_
 · unfold EO
   rw[show hdF c a z ss=GO c a z++(Ee (ss.take k)++KW ss[k]++Ee (ss.drop (k+1))) by rw[← Tc ss k h];rfl]
   simp only[KW,List.append_assoc]
 · rw[List.length_append,Hc,G3,List.length_take];omega
 · rw[List.length_append,Hc,G3,List.length_take,Cc];omega
theorem Wl(k:Nat)(hs:ss.length=12)(h:k<ss.length):((EO c a z ss).take (32+8*k)).drop (28+8*k)=Br (Dm ss[k]) 4:=by
 refine Is (A:=GO c a z++Ee (ss.take k)++Br ss[k].length 4) (R:=Ee (ss.drop (k+1))++Br (Dm (hdF c a z ss)) 4++ss.flatten) ?_ ?_ ?_
 · unfold EO
   rw[show hdF c a z ss=GO c a z++(Ee (ss.take k)++KW ss[k]++Ee (ss.drop (k+1))) by rw[← Tc ss k h];rfl]
   simp only[KW,List.append_assoc]
 · rw[List.length_append,List.length_append,Hc,G3,List.length_take,Cc];omega
 · rw[List.length_append,List.length_append,Hc,G3,List.length_take,Cc,Cc];omega
theorem AcH(k:Nat)(hs:ss.length=12)(h:k<ss.length):((EO c a z ss).take (124+CF ss k+ss[k].length)).drop (124+CF ss k)=ss[k]:=by
 refine Is (A:=hdF c a z ss++Br (Dm (hdF c a z ss)) 4++(ss.take k).flatten) (R:=(ss.drop (k+1)).flatten) ?_ ?_ ?_
 · have e:ss.flatten=(ss.take k).flatten++ss[k]++(ss.drop (k+1)).flatten:=by
     have e:ss=ss.take k++ss[k]::ss.drop (k+1):=by simp
     conv=>lhs;rw[e]
     rw[List.flatten_append,List.flatten_cons,List.append_assoc]
   unfold EO
   conv=>lhs;rw[e]
   simp only[List.append_assoc]
 · simp only[List.length_append,HR,Cc,CF];omega
 · simp only[List.length_append,HR,Cc,CF];omega
theorem Aec(hs:ss.length=12):(EO c a z ss).take 120=hdF c a z ss:=by
 unfold EO
 rw[List.append_assoc,List.take_append_of_le_length (by rw[HR];omega),List.take_of_length_le (by rw[HR];omega)]
theorem YU(hs:ss.length=12):((EO c a z ss).take 124).drop 120=Br (Dm (hdF c a z ss)) 4:=by
 refine Is (A:=hdF c a z ss) (R:=ss.flatten) rfl ?_ ?_
 · rw[HR];omega
 · rw[HR,Cc];omega
theorem Wb:(EO c a z ss).take 4=[76,84,83,49]:=by simp[EO,hdF,GO]
theorem Xq:((EO c a z ss).take 8).drop 4=Br c 4:=by
 refine Is (A:=[76,84,83,49]) (R:=Br a 8++Br z 8++Ee ss++Br (Dm (hdF c a z ss)) 4++ss.flatten) ?_ rfl ?_
 · simp only[EO,hdF,GO,List.append_assoc]
 · simp[Cc]
theorem WI:((EO c a z ss).take 16).drop 8=Br a 8:=by
 refine Is (A:=[76,84,83,49]++Br c 4) (R:=Br z 8++Ee ss++Br (Dm (hdF c a z ss)) 4++ss.flatten) ?_ ?_ ?_
 · simp only[EO,hdF,GO,List.append_assoc]
 · simp[Cc]
 · simp[Cc]
theorem X6:((EO c a z ss).take 24).drop 16=Br z 8:=by
 refine Is (A:=[76,84,83,49]++Br c 4++Br a 8) (R:=Ee ss++Br (Dm (hdF c a z ss)) 4++ss.flatten) ?_ ?_ ?_
 · simp only[EO,hdF,GO,List.append_assoc]
 · simp[Cc]
 · simp[Cc]
end seg
end Go.Proofs.YtpkhodjlnodagaaGreatDoor
namespace Go.Proofs.YtpkhodjlnodagaaGreatDoor
open Go.Av
set_option maxHeartbeats 4000000
attribute [local irreducible] Af
structure SegB(c a z:Nat)(ss:List (List UInt8)):Prop where
 n:ss.length=12
 each: ∀ s∈ss,s.length<2^32
 total:ss.flatten.length≤2^36
 c:c<2^32
 a:a<2^63
 z:z<2^63
theorem getK(v k:Nat)(hk:k≤8)(h:v<256^k):Af Tryz.prog 22 [.sl 1 (Ab (Br v k))] [] (U64 v) []:=by
 have:=Af2 (Br v k) (by rw[Cc];exact hk)
 rwa [Sn v k h]at this
theorem VC(v:Nat)(h:v<2^32):Af Tryz.prog 22 [.sl 1 (Ab (Br v 4))] [] (U64 v) []:=getK v 4 (by omega) (by simpa using h)
theorem get8(v:Nat)(h:v<2^63):Af Tryz.prog 22 [.sl 1 (Ab (Br v 8))] [] (U64 v) []:=getK v 8 (by omega) (by simp;simp at h;omega)
structure SegV(bs:List UInt8)(c a z:Nat)(ss:List (List UInt8)):Prop where
 b:SegB c a z ss
 len:bs.length=124+ss.flatten.length
 lenAt: ∀ j (h:j-1<ss.length),1≤j→(bs.take (20+8*j)).drop (16+8*j)=Br ss[j-1].length 4
 crcAt: ∀ j (h:j-1<ss.length),1≤j→(bs.take (24+8*j)).drop (20+8*j)=Br (Dm ss[j-1]) 4
 sec: ∀ j (h:j<ss.length),(bs.take (124+CF ss j+ss[j].length)).drop (124+CF ss j)=ss[j]
 hcrc:(bs.take 124).drop 120=Br (Dm (bs.take 120)) 4
 magic:bs.take 4=[76,84,83,49]
 count:(bs.take 8).drop 4=Br c 4
 first:(bs.take 16).drop 8=Br a 8
 last:(bs.take 24).drop 16=Br z 8
theorem segV{c a z:Nat}{ss:List (List UInt8)}(H:SegB c a z ss):SegV (EO c a z ss) c a z ss:=by
 refine⟨H,AbB c a z ss H.n,fun j h h1=>?_,fun j h h1=>?_,fun j h=>AcH c a z ss j H.n h,?_,Wb c a z ss,Xq c a z ss,WI c a z ss,X6 c a z ss⟩
 · have:=WF c a z ss (j-1) H.n h
   rwa [show 28+8*(j-1)=20+8*j by omega,show 24+8*(j-1)=16+8*j by omega]at this
 · have:=Wl c a z ss (j-1) H.n h
   rwa [show 32+8*(j-1)=24+8*j by omega,show 28+8*(j-1)=20+8*j by omega]at this
 · rw[Aec c a z ss H.n];exact YU c a z ss H.n
section
variable {bs : List UInt8} {c a z : Nat} {ss : List (List UInt8)}
theorem MH(V:SegV bs c a z ss)(k:Nat)(h1:1≤k)(h2:k-1<ss.length):Af Tryz.prog 24 [.sl 1 (Ab bs),I k] [] (.tup [I (124+CF ss (k-1):Nat),I ss[k-1].length]) []:=by
 have hn:=V.b.n
 have hT:=V.b.total
 have hl:=V.len
 refine acN 36 0 Tryz.func24 fun C hN hk=>?_
 have hat:=V.lenAt
 obtain⟨o,ho⟩: ∃ o:Nat→Nat,∀ j,o j=124+CF ss (j-1):=⟨fun j=>124+CF ss (j-1),fun _=>rfl⟩
 have hof: ∀ j (h:j-1<ss.length),1≤j→o (j+1)=o j+ss[j-1].length:=by
   intro j h hj
   rw[ho,ho,show j+1-1=(j-1)+1 by omega,Ie ss (j-1) h];omega
 have hol: ∀ j,o j≤124+ss.flatten.length:=by intro j;rw[ho];have:=G4 ss (j-1);omega
 have ho0:o 1=124:=by rw[ho];simp[CF]
 have hge: ∀ j (hj:j<ss.length),ss[j].length<2^32:=fun j hj=>V.b.each _ (List.getElem_mem hj)
 rw[← ho k]
 clear ho
 refine Ah [0,1] ?_
 refine Ah [0,1,6] ?_
 refine Ah [0,1,6,7] ?_
 refine lpF hk 0 (fun j:Nat=>⟨[(0,.sl 1 (Ab bs)),(1,I k),(6,I (o j)),(7,I j)],[]⟩) (fun j=>1≤j∧j≤k) (fun j=>k-j) 1 (Fb ho0 [] []) ?_
 rintro j ⟨h0,h3⟩
 have e1:(16+8*(j:Int)).toNat=16+8*j:=by omega
 have e2:(20+8*(j:Int)).toNat=20+8*j:=by omega
 have w1:=As (n:=8*(j:Int)) (by omega)
 have w2:=As (n:=16+8*(j:Int)) (by omega)
 have w3:=As (n:=20+8*(j:Int)) (by omega)
 have h5:=hol j
 have hx:=hat j (by omega) h0
 have h6:=hge (j-1) (by omega)
 have q:=VC _ h6
 by_cases hj:j<k
 · have h4:=hof j (by omega) h0
   generalize ss[j-1].length=v at*
   refine AU [0,1,6,7,10] ?_;refine cT ?_;have F:=And.intro w1 (And.intro w2 (And.intro w3 (And.intro e1 (And.intro e2 hx))));refine A5 [0,1,6,7] ?_ (onc 9 (pcq q) noc);clear F;refine AU [0,1,6,7] ?_
   refine eE (j+1) (Fb h4 [] [])
 · have:k=j:=by omega
   subst this
   generalize ss[k-1].length=v at*
   refine AU [0,1,6,7,10] ?_;refine cF ?_;have F:=And.intro w1 (And.intro w2 (And.intro w3 (And.intro e1 (And.intro e2 hx))));refine A5 [4,5] ?_ (onc 9 (pcq q) noc);clear F
   refine AW.ret (En [] [])
theorem get27s(V:SegV bs c a z ss)(k:Nat)(h0:1≤k)(h2:k-1<ss.length):Af Tryz.prog 88 [.sl 1 (Ab bs),I k] [] (.sl 1 (Ab ss[k-1])) []:=by
 have hl:=V.len
 have hT:=V.b.total
 have q:=MH V k h0 h2
 have hs:=V.sec (k-1) h2
 have h1:=Ie ss (k-1) h2
 have h3:=G4 ss (k-1+1)
 have hb:124+CF ss (k-1)+ss[k-1].length≤bs.length:=by omega
 have hb2:bs.length≤2^37:=by omega
 have e1:(((124+CF ss (k-1):Nat):Int)).toNat=124+CF ss (k-1):=by omega
 have e2:(((124+CF ss (k-1):Nat):Int)+(ss[k-1].length:Int)).toNat=124+CF ss (k-1)+ss[k-1].length:=by omega
 refine acN 19 0 Tryz.func88 fun C hN hk=>?_
 generalize 124+CF ss (k-1)=o at*
 refine Ah [0,1] ?_
 refine Ah [0,5,6] ?_ (onc 2 (pcq q) noc)
 refine rG hN hk noc [] [4] fun K hK=>?_;simp only[go_sem,seval]
 try simp (disch:=omega) only[au,e1,e2,hs]
 (first|with_reducible refine hK _ _ ?_|refine obK (hK _ _ ?_));clear hK K;refine nx ?_
 refine AW.ret (En [] [])
theorem Aba(V:SegV bs c a z ss)(k:Nat)(h0:1≤k)(h2:k-1<ss.length):Af Tryz.prog 87 [.sl 1 (Ab bs),I k] [] (B true) []:=by
 have hn:=V.b.n
 have hl:=V.len
 have hT:=V.b.total
 have q:=MH V k h0 h2
 have hs:=V.sec (k-1) h2
 have h1:=Ie ss (k-1) h2
 have h3:=G4 ss (k-1+1)
 have hc:=V.crcAt k h2 h0
 have h5:=HQ ss[k-1]
 have q2:=VC (Dm ss[k-1]) h5
 have q3:=Qz ss[k-1] (by omega)
 have hb:124+CF ss (k-1)+ss[k-1].length≤bs.length:=by omega
 have hb2:bs.length≤2^37:=by omega
 have e1:(((124+CF ss (k-1):Nat):Int)).toNat=124+CF ss (k-1):=by omega
 have e2:(((124+CF ss (k-1):Nat):Int)+(ss[k-1].length:Int)).toNat=124+CF ss (k-1)+ss[k-1].length:=by omega
 have e3:(20+8*(k:Int)).toNat=20+8*k:=by omega
 have e4:(24+8*(k:Int)).toNat=24+8*k:=by omega
 generalize Dm ss[k-1]=cr at*
 generalize ss[k-1]=sk at*
 refine acN 31 0 Tryz.func87 fun C hN hk=>?_
 generalize 124+CF ss (k-1)=o at*
 refine Ah [0,1] ?_
 refine Ah [0,1,5,6] ?_ (onc 2 (pcq q) noc)
 refine rD hN hk (onc 8 (pcq q2) (onc 15 (pcq q3) noc)) [] [4] fun K tok htok hK=>?_
 simp only[go_sem,seval]
 try simp (disch:=omega) only[au,e1,e2,e3,e4,hs,hc]
 refine⟨htok _ (by decide+kernel),?_⟩
 refine obK (hK _ _ ?_);clear hK K htok tok
 refine nx ?_
 refine AW.ret (En [] [])
end
section
variable {bs : List UInt8} {c a z : Nat} {ss : List (List UInt8)}
theorem Acb(ss:List (List UInt8))(h:ss.length=12):CF ss 11+(ss[11]'(by omega)).length=ss.flatten.length:=by
 rw[← Ie ss 11 (by omega)]
 unfold CF
 rw[List.take_of_length_le (by omega)]
theorem PU(V:SegV bs c a z ss):Af Tryz.prog 7 [.sl 1 (Ab bs)] [] (.tup [.agg [I c,I a,I z],I 0]) []:=by
 have hn:=V.b.n
 have hl:=V.len
 have hT:=V.b.total
 have q1:=MH V 12 (by omega) (by omega)
 have he:=Acb ss hn
 have hm:=V.magic
 have hh:=V.hcrc
 have h5:=HQ (bs.take 120)
 have q2:=VC (Dm (bs.take 120)) h5
 have q3:=Qz (bs.take 120) (by simp;omega)
 have hc:=V.count
 have hf:=V.first
 have hz:=V.last
 have q4:=VC c V.b.c
 have q5:=get8 a V.b.a
 have q6:=get8 z V.b.z
 have b1:=V.b.c
 have b2:=V.b.a
 have b3:=V.b.z
 clear V
 simp only[show 12-1=11 from rfl]at q1
 obtain⟨o,ho⟩: ∃ o,o=124+CF ss 11:=⟨_,rfl⟩
 obtain⟨x,hx⟩: ∃ x,x=(ss[11]'(by omega)).length:=⟨_,rfl⟩
 rw[← ho,← hx]at q1
 have hsum:((o:Int)+(x:Int))=(bs.length:Int):=by omega
 have hw:=As (n:=(bs.length:Int)) (by omega)
 obtain⟨h120,hE⟩: ∃ h,bs.take 120=h:=⟨_,rfl⟩
 rw[hE]at hh h5 q2 q3
 generalize Dm h120=cr at*
 have w1:=As (n:=(c:Int)) (by omega)
 have w2:=As (n:=(a:Int)) (by omega)
 have w3:=As (n:=(z:Int)) (by omega)
 refine acN 49 0 Tryz.func7 fun C hN hk=>?_
 refine Ah [0,2] ?_
 refine AU [0,2,8] ?_
 refine cF ?_;refine nx ?_;refine rG hN hk noc [] [0,2,13] fun K hK=>?_;simp only[go_sem,seval,hm,bne_self_eq_false]
 try simp (disch:=omega) only[au]
 (first|with_reducible refine hK _ _ ?_|refine obK (hK _ _ ?_));clear hK K;refine nx ?_
 refine cF ?_;refine nx ?_
 refine rD hN hk (onc 2 (pcq q2) (onc 5 (pcq q3) noc)) [] [0,2,22] fun K tok htok hK=>?_
 simp only[go_sem,seval,hh,hE,bne_self_eq_false]
 try simp (disch:=omega) only[au]
 refine⟨htok _ (by decide+kernel),?_⟩
 refine obK (hK _ _ ?_);clear hK K htok tok
 refine nx ?_;refine cF ?_;refine Ah [0,2,4,5] ?_ (onc 1 (pcq q1) noc)
 refine rG hN hk noc [] [0,2,34] fun K hK=>?_;simp only[go_sem,seval,hsum,hw,bne_self_eq_false]
 try simp (disch:=omega) only[au]
 (first|with_reducible refine hK _ _ ?_|refine obK (hK _ _ ?_));clear hK K;refine nx ?_
 refine cF ?_;have F:=And.intro hc (And.intro hf (And.intro hz (And.intro w1 (And.intro w2 w3))));refine DV [2,3] ?_ (onc 2 (pcq q4) (onc 6 (pcq q5) (onc 10 (pcq q6) noc)));clear F
 refine AW.ret (B0 [] [] (by simp only[AY,go_sem,seval];rfl) (by simp[Ax,lk,lkh,wk,wkL,wkE,I,str,B,U8,U64,U32]<;>omega) (by first|(simp[Am,Ai,Aj,lkh];done)|(simp[Am,Ai,Aj,lkh,AE,AO,I,str];done)|simp[Am,Ai,Aj,wkL,wk,wkE,lkh,I,str]))
end
theorem Kw(s:List UInt8)(o:Nat)(x:List UInt8)(hs: ∃ A R,s=A++AF x++R∧A.length=o)(hl:s.length≤2^40):
   Af Tryz.prog 71 [.sl 1 (Ab s),I o] [] (.tup [.sl 1 (Ab x),I (o+(AF x).length:Nat),B true]) []:=by
 obtain⟨A,R,hs,hA⟩:=hs
 have hv:G9 s o=some ((x.length:Int),o+(An x.length).length):=by
   have hxl:x.length<2^64:=by rw[hs]at hl;simp[AF]at hl;omega
   have:=CO A (x++R) x.length hxl
   rw[← hA,← this,hs];simp[AF]
 have hlen:s.length=o+(An x.length).length+x.length+R.length:=by rw[hs];simp[AF,hA];omega
 have q:=DH s o hl (by omega)
 rw[hv]at q
 simp only[Ds]at q
 have hbl:(AF x).length=(An x.length).length+x.length:=by simp[AF]
 have hmid:(s.take (o+(An x.length).length+x.length)).drop (o+(An x.length).length)=x:=by
   refine Is (A:=A++An x.length) (R:=R) ?_ ?_ ?_
   · rw[hs];simp[AF]
   · simp[hA]
   · simp[hA]
 rw[hbl]
 clear hbl hv hs hA
 rw[← Nat.add_assoc]
 generalize o+(An x.length).length=o1 at*
 have w1:=As (n:=(x.length:Int)) (by omega)
 have w2:=As (n:=(o1:Int)+(x.length:Int)) (by omega)
 have w3:=As (n:=(s.length:Int)- (o1:Int)) (by omega)
 have w4:=Fe (n:=(s.length:Int)- (o1:Int)) (by omega)
 have e1:((o1:Int)+(x.length:Int)).toNat=o1+x.length:=by omega
 have d1:=Fg (a:=(x.length:Int)) (b:=(s.length:Int)- (o1:Int)) (by omega)
 refine acN 38 0 Tryz.func71 fun C hN hk=>?_
 refine Ah [0,1] ?_
 refine Ah [0,1,7,8] ?_ (onc 2 (pcq q) noc)
 refine rG hN hk noc [] [0,1,7,26] fun K hK=>?_;simp only[go_sem,seval,w3,w4,d1]
 try simp (disch:=omega) only[au]
 try simp only[go_sem,seval,w3,w4,d1]
 (first|with_reducible refine hK _ _ ?_|refine obK (hK _ _ ?_));clear hK K;refine nx ?_
 refine cF ?_;have F:=And.intro w1 (And.intro w2 (And.intro e1 hmid));refine A5 [4,5,6] ?_;clear F
 refine AW.ret (En [] [])
theorem Q9(ts:List S)(i:Nat)(h:i<ts.length): ∃ k:Nat,(DW ts ts.length)[i]? =some (k:Int)∧(Bi ts)[k]? =some ts[i]∧k<(Bi ts).length:=by
 have h1:=Fm (Bi ts) ts[i] (B2 ts) ((C5 _ _).2 (List.getElem_mem h))
 exact⟨CZ (Bi ts) ts[i],by simp[DW,h],h1.1,h1.2⟩
end Go.Proofs.YtpkhodjlnodagaaGreatDoor
