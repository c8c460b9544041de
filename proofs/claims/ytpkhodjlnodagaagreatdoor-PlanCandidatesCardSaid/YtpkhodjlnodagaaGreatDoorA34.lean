/- Part 34 of the proof of PlanCandidates. -/
import Derived.Test.YtpkhodjlnodagaaGreatDoorA15
import Derived.Test.YtpkhodjlnodagaaGreatDoorA33
set_option linter.unusedSimpArgs false
set_option linter.unusedVariables false
set_option linter.unusedSectionVars false
namespace Go.Proofs.YtpkhodjlnodagaaGreatDoor
open Go.Av
set_option maxHeartbeats 4000000
set_option maxRecDepth 10000
attribute [local irreducible] XH XO Ad Af A0
def dlt(v:List Int):List Int:=(List.range v.length).map (EV v)
theorem HX(v:List Int):(dlt v).length=v.length:=by simp[dlt]
theorem WM{v:List Int}{i:Nat}(h:i<v.length):(dlt v)[i]? =some (EV v i):=by simp[dlt,h]
theorem AeN{v:List Int}(hv: ∀ x∈v,Ce x): ∀ x∈dlt v,Ce x:=by
 intro x hx
 simp only[dlt,List.mem_map,List.mem_range]at hx
 obtain⟨i,hi,rfl⟩:=hx
 unfold EV
 split
 · exact MR _
 · rw[show v.getD i 0=v[i] by simp[List.getD,hi]]
   exact hv _ (List.getElem_mem hi)
theorem Ua(v:List Int): ∀ i,i≤v.length→B3 v i=BD 1 v++zs ((dlt v).take i)
 |0,_=>by simp[B3,zs]
 |i+1,h=>by
   rw[B3,Ua v i (by omega),List.take_add_one,Wr,WM (by omega)]
   simp[zs]
theorem ZN(v:List Int):B3 v v.length=BD 1 v++zs (dlt v):=by
 rw[Ua v _ (Nat.le_refl _),← HX v,List.take_length]
def pr(v:List Int)(i:Nat):List Int:=v.take i++(dlt v).drop i
theorem pr_1(v:List Int):pr v 1=dlt v:=by
 unfold pr
 cases v with
 |nil=>rfl
 |cons x l=>
   have h:dlt (x::l)=x::(dlt (x::l)).drop 1:=by
     have e:=List.drop_eq_getElem_cons (l:=dlt (x::l)) (i:=0) (by simp[dlt])
     rw[List.drop_zero]at e
     rw[e]
     simp[dlt,EV]
   rw[List.take_succ_cons,List.take_zero]
   exact h.symm
theorem pr_n(v:List Int){i:Nat}(h:v.length≤i):pr v i=v:=by
 unfold pr
 rw[List.take_of_length_le h,List.drop_eq_nil_of_le (by rw[HX];exact h),List.append_nil]
theorem Ael{v:List Int}{i:Nat}:(pr v i).length=v.length:=by
 simp only[pr,List.length_append,List.length_take,List.length_drop,HX];omega
theorem AfS{v:List Int}{i:Nat}(h:i<v.length):(pr v i)[i]? =some (EV v i):=by
 unfold pr
 rw[List.getElem?_append_right (by simp;omega),List.length_take,Nat.min_eq_left (by omega),List.getElem?_drop,Nat.sub_self,Nat.add_zero,WM h]
theorem Afw{v:List Int}{i:Nat}{y:Int}(h0:1≤i)(h:i≤v.length)(hy:v[i-1]? =some y):(pr v i)[i-1]? =some y:=by
 unfold pr
 rw[List.getElem?_append_left (by simp;omega),List.getElem?_take,if_pos (by omega),hy]
theorem pr_s{v:List Int}{i:Nat}{x:Int}(h:v[i]? =some x):(Ak (pr v i)).set i [.val (.int .i64 x)]=Ak (pr v (i+1)):=by
 have hl:=(List.getElem?_eq_some_iff.1 h).1
 rw[show [AV.val (.int .i64 x)]=(fun z=>[I z]) x from rfl,Ak,← List.map_set]
 show List.map _ _=List.map _ _
 congr 1
 unfold pr
 rw[List.set_append_right _ _ (by simp;omega),List.length_take,Nat.min_eq_left (by omega),Nat.sub_self,List.take_add_one,h,List.drop_eq_getElem_cons (by rw[HX];exact hl)]
 show List.take i v++(x::List.drop (i+1) (dlt v))=(List.take i v++[x])++List.drop (i+1) (dlt v)
 rw[List.append_assoc];rfl
theorem AeR{v:List Int}(hv: ∀ x∈v,Ce x){i:Nat}{x y:Int}(h0:1≤i)(hx:v[i]? =some x)(hy:v[i-1]? =some y):IntKind.i64.wrap (EV v i+y)=x:=by
 unfold EV
 rw[if_pos (by omega),BC hx,BC hy,Int.add_comm]
 exact PF x y (hv x (List.mem_of_getElem? hx))
theorem ZV(T:Nat)(v:List Int)(R:List UInt8)(hl:v.length≤16384)(hv: ∀ x∈v,Ce x)(hr:R.length≤2^30):Af Tryz.prog 218 [.ptr 0 2 0 0,I v.length] [some (cuE T (zs (dlt v)++R) false)] (.osl 1 v.length 1) [some (cuE T R false),some ⟨3,1,Ak v⟩]:=by
 have q:=Q8 T (dlt v) R (by rw[HX];exact hl) (AeN hv) hr
 rw[HX]at q
 have hp1:=pr_1 v
 refine BB 28 1 Tryz.func218 ?_
 refine Aa 0 [0,1] ?_
 refine Ae 1 ?_
 refine Ac 2 ?_
 refine Afl 0 q ?_
 refine Ac 1 ?_
 refine XO.done [5] ?_
 refine Aa 2 [5,6] ?_
 refine AX 2 (fun i:Nat=>⟨[(5,.osl 1 v.length 1),(6,I i)],[(0,some (cuE T R false)),(1,some ⟨3,1,Ak (pr v i)⟩)]⟩) (fun i=>1≤i) (fun i=>v.length+1-i) 1 (AD (And.intro cuE.eq_1 (And.intro hp1 B.eq_1)) [some 0,some 1] []) ?_ (h0:=Nat.le_refl _);rintro i hI0 Y0 hY0;skip
 refine XW.at 3 ?_;have m1:=hI0
 refine Aa 3 [5,6,13] ?_
 refine Az 13 (fun c13=>?_) (fun c13=>?_)
 refine XW.at 5 ?_;obtain⟨x,hxi,hxm⟩:=Bd v i (by omega);obtain⟨y,hyi,hym⟩:=Bd v (i-1) (by omega);have hi1:((i:Int)-1).toNat=i-1:=(by omega);have hpl:(pr v i).length=v.length:=Ael;have hpv:=Afw m1 (by omega) hyi;have hpa:=AfS (show i<v.length by omega);have hx:=hpa;have hadd:=AeR hv m1 hxi hyi;have hset:=pr_s hxi
 refine Ae 5 ?_
 refine Aq 6 ?_
 refine AP 1 ?_
 have hx:=hi1;have hx2:=hpv
 refine Aq 2 ?_
 have hx:=hadd
 refine AP 1 ?_
 have hx:=hpa
 refine Aq 2 ?_
 refine XO.done [5,6] ?_
 refine AJ 4 [5,6] ?_
 refine XH.le ?_;(exact hY0 (i+1) (by omega) (by omega) _ _ (AD (And.intro cuE.eq_1 (And.intro hset (And.intro @LP B.eq_1))) [some 0,some 1] []))
 refine XW.at 6 ?_;have hfin:=pr_n v (show v.length≤i by omega)
 refine Aa 6 [4] ?_
 refine Ap ?_;((refine XB.ret [some 0,some 1] [] (hids:=⟨by simp[Al],by simp[Al],rfl⟩) (hwk:=?_) (hwh:=?_);(next=>simp[Ax,lk,lkh,wk,wkL,wkE,I]);(next=>simp[Am,Ai,Aj,lkh,wkE,wkL,B,I,cuE,hfin])))
theorem Zd(v:List Int)(hl:v.length≤16384)(hv: ∀ x∈v,Ce x)(body:List UInt8)(hbl:body.length≤2^30)(hbd:B7 v 0=BD 0 v++body)(hq:Af Tryz.prog 217 [.ptr 0 2 0 0,I v.length] [some (cuE 232 body false)] (.osl 1 v.length 1) [some (cuE 232 [] false),some ⟨3,1,Ak v⟩]):Ad Tryz.prog 117 [.sl 1 (Ab (UInt8.ofNat 0::(An v.length++body)))] (fun r=>r= .tup [.sl 1 (Ak v),I 0]):=by
 have hk:=MG (UInt8.ofNat 0) (An v.length++body) (by decide)
 rw[show(UInt8.ofNat 0).toNat=0 from rfl]at hk
 have hen:=KF v hl hv 0 (by decide) (fun h=>absurd h (by decide))
 rw[hbd,show BD 0 v++body=UInt8.ofNat 0::(An v.length++body)from rfl]at hen
 have hvl:=Bh v.length
 obtain⟨te3,ht3,hs3,ha3⟩:=Qh
 refine Au 49 Tryz.func117 ?_
 refine Aa 0 [0] ?_
 refine Ae 1 ?_
 refine Ac 1 ?_
 refine AC (hk) ?_;rintro _ rfl
 refine Ac 5 ?_
 refine XO.done [0,4,5] ?_
 refine Aa 2 [0,4,16] ?_
 refine AM 16 ?_
 refine Ba 4 [0,4,6] ?_
 refine Ae 5 ?_
 refine AC (H5) ?_;rintro _ rfl
 refine Ac 1 ?_
 refine XO.raw (Ir (BQ _) (t:=234) (e:=233) (len:=4) (j:=0) (vs:=OO) UN ht3 hs3 ha3 rfl rfl (by decide) rfl) ?_
 refine Ac 2 ?_
 refine BM 0 (Ki 232 v.length 16384 body (An v.length++body) rfl hl (by decide) (by rw[List.length_append];omega)) ?_;rintro _ _ ⟨rfl,rfl⟩
 refine Ow 0 hq ?_
 refine Ac 1 ?_
 refine XO.done [0,4,6,7] ?_
 refine XW.at 6 ?_;refine EG 6 1 ⟨[(0,.sl 1 (Ab (UInt8.ofNat 0::(An v.length++body)))),(4,I 0),(6,.ptr 0 2 0 0),(7,.sl 1 (Ak v))],[(0,some (cuE 232 [] false))]⟩ (Gg (And.intro (And.intro wkE.eq_1 wkE.eq_2) (And.intro (And.intro wkL.eq_1 wkL.eq_2) (And.intro cuE.eq_1 @ED))) [some 0] [1]) ?_
 refine Ae 6 ?_
 refine Ac 2 ?_
 refine AC (hen) ?_;rintro _ rfl
 refine Ac 5 ?_
 refine XO.done [0,6,7,8,9] ?_
 refine Ae 7 ?_
 refine Ac 5 ?_
 refine BE 38 ?_
 refine Ac 4 ?_
 refine BE 42 ?_
 refine Ac 2 ?_
 refine AC (Gs _ _) ?_;rintro _ rfl
 refine Ac 2 ?_
 refine XO.done [7,47] ?_
 refine AM 47 ?_
 refine Aa 9 [2,3] ?_
 refine Ap ?_;(exact BT rfl)
theorem YZ(v:List Int)(hl:v.length≤16384)(hv: ∀ x∈v,Ce x)(body:List UInt8)(hbl:body.length≤2^30)(hbd:B7 v 1=BD 1 v++body)(hq:Af Tryz.prog 218 [.ptr 0 2 0 0,I v.length] [some (cuE 232 body false)] (.osl 1 v.length 1) [some (cuE 232 [] false),some ⟨3,1,Ak v⟩]):Ad Tryz.prog 117 [.sl 1 (Ab (UInt8.ofNat 1::(An v.length++body)))] (fun r=>r= .tup [.sl 1 (Ak v),I 0]):=by
 have hk:=MG (UInt8.ofNat 1) (An v.length++body) (by decide)
 rw[show(UInt8.ofNat 1).toNat=1 from rfl]at hk
 have hen:=KF v hl hv 1 (by decide) (fun h=>absurd h (by decide))
 rw[hbd,show BD 1 v++body=UInt8.ofNat 1::(An v.length++body)from rfl]at hen
 have hvl:=Bh v.length
 obtain⟨te3,ht3,hs3,ha3⟩:=Qh
 refine Au 49 Tryz.func117 ?_
 refine Aa 0 [0] ?_
 refine Ae 1 ?_
 refine Ac 1 ?_
 refine AC (hk) ?_;rintro _ rfl
 refine Ac 5 ?_
 refine XO.done [0,4,5] ?_
 refine Aa 2 [0,4,16] ?_
 refine AM 16 ?_
 refine Ba 4 [0,4,6] ?_
 refine Ae 5 ?_
 refine AC (H5) ?_;rintro _ rfl
 refine Ac 1 ?_
 refine XO.raw (Ir (BQ _) (t:=234) (e:=233) (len:=4) (j:=1) (vs:=OO) UN ht3 hs3 ha3 rfl rfl (by decide) rfl) ?_
 refine Ac 2 ?_
 refine BM 0 (Ki 232 v.length 16384 body (An v.length++body) rfl hl (by decide) (by rw[List.length_append];omega)) ?_;rintro _ _ ⟨rfl,rfl⟩
 refine Ow 0 hq ?_
 refine Ac 1 ?_
 refine XO.done [0,4,6,7] ?_
 refine XW.at 6 ?_;refine EG 6 1 ⟨[(0,.sl 1 (Ab (UInt8.ofNat 1::(An v.length++body)))),(4,I 1),(6,.ptr 0 2 0 0),(7,.sl 1 (Ak v))],[(0,some (cuE 232 [] false))]⟩ (Gg (And.intro (And.intro wkE.eq_1 wkE.eq_2) (And.intro (And.intro wkL.eq_1 wkL.eq_2) (And.intro cuE.eq_1 @ED))) [some 0] [1]) ?_
 refine Ae 6 ?_
 refine Ac 2 ?_
 refine AC (hen) ?_;rintro _ rfl
 refine Ac 5 ?_
 refine XO.done [0,6,7,8,9] ?_
 refine Ae 7 ?_
 refine Ac 5 ?_
 refine BE 38 ?_
 refine Ac 4 ?_
 refine BE 42 ?_
 refine Ac 2 ?_
 refine AC (Gs _ _) ?_;rintro _ rfl
 refine Ac 2 ?_
 refine XO.done [7,47] ?_
 refine AM 47 ?_
 refine Aa 9 [2,3] ?_
 refine Ap ?_;(exact BT rfl)
theorem Yj(v:List Int)(hl:v.length≤16384)(hv: ∀ x∈v,Ce x)(body:List UInt8)(hbl:body.length≤2^30)(hbd:B7 v 2=BD 2 v++body)(hq:Af Tryz.prog 219 [.ptr 0 2 0 0,I v.length] [some (cuE 232 body false)] (.osl 1 v.length 1) [some (cuE 232 [] false),some ⟨3,1,Ak v⟩]):Ad Tryz.prog 117 [.sl 1 (Ab (UInt8.ofNat 2::(An v.length++body)))] (fun r=>r= .tup [.sl 1 (Ak v),I 0]):=by
 have hk:=MG (UInt8.ofNat 2) (An v.length++body) (by decide)
 rw[show(UInt8.ofNat 2).toNat=2 from rfl]at hk
 have hen:=KF v hl hv 2 (by decide) (fun h=>absurd h (by decide))
 rw[hbd,show BD 2 v++body=UInt8.ofNat 2::(An v.length++body)from rfl]at hen
 have hvl:=Bh v.length
 obtain⟨te3,ht3,hs3,ha3⟩:=Qh
 refine Au 49 Tryz.func117 ?_
 refine Aa 0 [0] ?_
 refine Ae 1 ?_
 refine Ac 1 ?_
 refine AC (hk) ?_;rintro _ rfl
 refine Ac 5 ?_
 refine XO.done [0,4,5] ?_
 refine Aa 2 [0,4,16] ?_
 refine AM 16 ?_
 refine Ba 4 [0,4,6] ?_
 refine Ae 5 ?_
 refine AC (H5) ?_;rintro _ rfl
 refine Ac 1 ?_
 refine XO.raw (Ir (BQ _) (t:=234) (e:=233) (len:=4) (j:=2) (vs:=OO) UN ht3 hs3 ha3 rfl rfl (by decide) rfl) ?_
 refine Ac 2 ?_
 refine BM 0 (Ki 232 v.length 16384 body (An v.length++body) rfl hl (by decide) (by rw[List.length_append];omega)) ?_;rintro _ _ ⟨rfl,rfl⟩
 refine Ow 0 hq ?_
 refine Ac 1 ?_
 refine XO.done [0,4,6,7] ?_
 refine XW.at 6 ?_;refine EG 6 1 ⟨[(0,.sl 1 (Ab (UInt8.ofNat 2::(An v.length++body)))),(4,I 2),(6,.ptr 0 2 0 0),(7,.sl 1 (Ak v))],[(0,some (cuE 232 [] false))]⟩ (Gg (And.intro (And.intro wkE.eq_1 wkE.eq_2) (And.intro (And.intro wkL.eq_1 wkL.eq_2) (And.intro cuE.eq_1 @ED))) [some 0] [1]) ?_
 refine Ae 6 ?_
 refine Ac 2 ?_
 refine AC (hen) ?_;rintro _ rfl
 refine Ac 5 ?_
 refine XO.done [0,6,7,8,9] ?_
 refine Ae 7 ?_
 refine Ac 5 ?_
 refine BE 38 ?_
 refine Ac 4 ?_
 refine BE 42 ?_
 refine Ac 2 ?_
 refine AC (Gs _ _) ?_;rintro _ rfl
 refine Ac 2 ?_
 refine XO.done [7,47] ?_
 refine AM 47 ?_
 refine Aa 9 [2,3] ?_
 refine Ap ?_;(exact BT rfl)
theorem Zl(v:List Int)(hl:v.length≤16384)(hv: ∀ x∈v,Ce x)(h0:0<v.length)(body:List UInt8)(hbl:body.length≤2^30)(hbd:B7 v 3=BD 3 v++body)(hq:Af Tryz.prog 220 [.ptr 0 2 0 0,I v.length] [some (cuE 232 body false)] (.osl 1 v.length 1) [some (cuE 232 [] false),some ⟨3,1,Ak v⟩]):Ad Tryz.prog 117 [.sl 1 (Ab (UInt8.ofNat 3::(An v.length++body)))] (fun r=>r= .tup [.sl 1 (Ak v),I 0]):=by
 have hk:=MG (UInt8.ofNat 3) (An v.length++body) (by decide)
 rw[show(UInt8.ofNat 3).toNat=3 from rfl]at hk
 have hen:=KF v hl hv 3 (by decide) (fun _=>h0)
 rw[hbd,show BD 3 v++body=UInt8.ofNat 3::(An v.length++body)from rfl]at hen
 have hvl:=Bh v.length
 obtain⟨te3,ht3,hs3,ha3⟩:=Qh
 refine Au 49 Tryz.func117 ?_
 refine Aa 0 [0] ?_
 refine Ae 1 ?_
 refine Ac 1 ?_
 refine AC (hk) ?_;rintro _ rfl
 refine Ac 5 ?_
 refine XO.done [0,4,5] ?_
 refine Aa 2 [0,4,16] ?_
 refine AM 16 ?_
 refine Ba 4 [0,4,6] ?_
 refine Ae 5 ?_
 refine AC (H5) ?_;rintro _ rfl
 refine Ac 1 ?_
 refine XO.raw (Ir (BQ _) (t:=234) (e:=233) (len:=4) (j:=3) (vs:=OO) UN ht3 hs3 ha3 rfl rfl (by decide) rfl) ?_
 refine Ac 2 ?_
 refine BM 0 (Ki 232 v.length 16384 body (An v.length++body) rfl hl (by decide) (by rw[List.length_append];omega)) ?_;rintro _ _ ⟨rfl,rfl⟩
 refine Ow 0 hq ?_
 refine Ac 1 ?_
 refine XO.done [0,4,6,7] ?_
 refine XW.at 6 ?_;refine EG 6 1 ⟨[(0,.sl 1 (Ab (UInt8.ofNat 3::(An v.length++body)))),(4,I 3),(6,.ptr 0 2 0 0),(7,.sl 1 (Ak v))],[(0,some (cuE 232 [] false))]⟩ (Gg (And.intro (And.intro wkE.eq_1 wkE.eq_2) (And.intro (And.intro wkL.eq_1 wkL.eq_2) (And.intro cuE.eq_1 @ED))) [some 0] [1]) ?_
 refine Ae 6 ?_
 refine Ac 2 ?_
 refine AC (hen) ?_;rintro _ rfl
 refine Ac 5 ?_
 refine XO.done [0,6,7,8,9] ?_
 refine Ae 7 ?_
 refine Ac 5 ?_
 refine BE 38 ?_
 refine Ac 4 ?_
 refine BE 42 ?_
 refine Ac 2 ?_
 refine AC (Gs _ _) ?_;rintro _ rfl
 refine Ac 2 ?_
 refine XO.done [7,47] ?_
 refine AM 47 ?_
 refine Aa 9 [2,3] ?_
 refine Ap ?_;(exact BT rfl)
def up(v:List Int)(i:Nat):List Int:=v.take i++List.replicate (v.length-i) 0
theorem up_0(v:List Int):Ak (up v 0)=List.replicate v.length [AV.val (.int .i64 0)]:=by simp[up,Ak,I]
theorem up_n(v:List Int):up v v.length=v:=by simp[up]
theorem Agc{v:List Int}{i:Nat}(h:i<v.length):(up v i)[i]? =some 0:=by
 unfold up
 rw[List.getElem?_append_right (by simp;omega),List.length_take,Nat.min_eq_left (by omega),Nat.sub_self,List.getElem?_replicate,if_pos (by omega)]
theorem up_s{v:List Int}{i:Nat}{x:Int}(h:v[i]? =some x):(Ak (up v i)).set i [.val (.int .i64 x)]=Ak (up v (i+1)):=by
 have hl:=(List.getElem?_eq_some_iff.1 h).1
 rw[show [AV.val (.int .i64 x)]=(fun z=>[I z]) x from rfl,Ak,← List.map_set]
 show List.map _ _=List.map _ _
 congr 1
 unfold up
 rw[List.set_append_right _ _ (by simp;omega),List.length_take,Nat.min_eq_left (by omega),Nat.sub_self,List.take_add_one,h,show v.length-i=(v.length- (i+1))+1 by omega,List.replicate_succ]
 show List.take i v++(x::List.replicate (v.length- (i+1)) 0)=(List.take i v++[x])++List.replicate (v.length- (i+1)) 0
 rw[List.append_assoc];rfl
theorem AfC(d k:Nat)(hk:k<64):AN .or .u64 ((d%2^k:Nat):Int) (IntKind.u64.wrap (((d.testBit k).toNat:Nat)*2^min k 64))=((d%2^(k+1):Nat):Int):=by
 have h1:d%2^(k+1)=d%2^k+(d.testBit k).toNat*2^k:=by rw[Nat.mod_pow_succ,Nat.toNat_testBit,Nat.mul_comm]
 have h2:d%2^(k+1)<2^(k+1):=Nat.mod_lt _ (Nat.two_pow_pos _)
 have h3:2^(k+1)≤2^64:=Nat.pow_le_pow_right (by decide) (by omega)
 rw[Nat.min_eq_left (by omega),h1]
 exact XN _ _ k (Nat.mod_lt _ (Nat.two_pow_pos _)) (by omega)
theorem AfZ(b:Bool):IntKind.u64.wrap ((b.toNat:Nat):Int)=((b.toNat:Nat):Int):=by cases b<;>decide
theorem AfW{o:List UInt8}{p:Nat}{y:UInt8}{b:Bool}(hy:o[p / 8]? =some y)(h:Gu o p=b):AN .and .u8 ((y.toNat:Int).fdiv (2^min (p%8) 8)) 1=((b.toNat:Nat):Int):=by
 have h1:=bitN o p b h
 rw[BC hy]at h1
 rw[Aas _ _ y.toNat_lt (by omega),h1]
theorem WB(T:Nat)(v:List Int)(hl:v.length≤16384)(h0:0<v.length)(hv: ∀ x∈v,Ce x):Af Tryz.prog 220 [.ptr 0 2 0 0,I v.length] [some (cuE T (EL v) false)] (.osl 1 v.length 1) [some (cuE T [] false),some ⟨3,1,Ak v⟩]:=by
 have hw:Bg v≤64:=HT _ (GQ _ _)
 have hlo:Ce (loF v):=hv _ (My v h0 v.length (Nat.le_refl _))
 have hpk:EL v=Be (loF v)++(UInt8.ofNat (Bg v)::(Bz v (loF v) (Bg v) v.length)):=by rw[EL,if_neg (by omega)];simp
 rw[hpk]
 obtain⟨L,hL⟩: ∃ L,L=(v.length*Bg v+7) / 8:=⟨_,rfl⟩
 have hvw:v.length*Bg v≤16384*64:=Nat.mul_le_mul hl hw
 have hlen:(Bz v (loF v) (Bg v) v.length).length=L:=by rw[ET,hL]
 have hpl:=CV (loF v)
 have hun:Ad Tryz.prog 246 [U64 ((Dn (loF v)).toNat:Nat)] (fun r=>r=I (loF v)):=by have:=Nk (Dn (loF v));rw[JG _ hlo]at this;rwa [← Me]
 have hzr:=Gp (loF v)
 have hw8:IntKind.i64.wrap (((UInt8.ofNat (Bg v)).toNat:Nat):Int)=((Bg v:Nat):Int):=by rw[ofNat_toNat _ (by omega)];exact As (by omega)
 refine BB 91 1 Tryz.func220 ?_
 refine Aa 0 [0,1] ?_
 refine Aa 1 [0,1,13] ?_
 refine Az 13 (fun c13=>?_) (fun c13=>?_)
 exfalso;omega
 refine Ae 3 ?_
 refine Aq 1 ?_
 refine BM 0 (Ot T (Dn (loF v)).toNat (UInt8.ofNat (Bg v)::(Bz v (loF v) (Bg v) v.length)) (Be (loF v)++(UInt8.ofNat (Bg v)::(Bz v (loF v) (Bg v) v.length))) rfl (by omega) (by rw[List.length_append,List.length_cons];omega)) ?_;rintro _ _ ⟨rfl,rfl⟩
 refine AC (hun) ?_;rintro _ rfl
 refine Aq 1 ?_
 refine BM 0 (TY T (UInt8.ofNat (Bg v)) (Bz v (loF v) (Bg v) v.length) (by omega)) ?_;rintro _ _ ⟨rfl,rfl⟩
 have hx:=hw8
 refine AP 3 ?_
 refine XO.done [0,1,5,6] ?_
 refine XW.at 4 ?_;have hmw:(v.length:Int)*((Bg v:Nat):Int)=((v.length*Bg v:Nat):Int):=(by push_cast;rfl);have hq:(((v.length*Bg v:Nat):Int)+7).tdiv 8=((L:Nat):Int):=(by rw[Int.tdiv_eq_ediv_of_nonneg (by omega),hL];omega)
 refine Ae 4 ?_
 refine Aq 5 ?_
 refine BE 24 ?_
 refine Aq 4 ?_
 refine BV 28 (fun g28=>?_) (fun g28=>?_)
 exfalso;omega
 refine Aq 7 ?_
 have hx:=hmw;have hx2:=hq
 refine AP 5 ?_
 refine XO.done [0,1,5,6,40] ?_
 refine AM 40 ?_
 refine Aa 7 [0,5,6,7] ?_
 refine Aa 8 [0,5,6,7,47,48] ?_
 refine AX 2 (fun i:Nat=>⟨[(0,.ptr 0 2 0 0),(5,I (loF v)),(6,I (Bg v)),(7,.osl 1 v.length 1),(47,I v.length),(48,I i)],[(0,some (cuE T (Bz v (loF v) (Bg v) v.length) false)),(1,some ⟨3,1,Ak (up v i)⟩)]⟩) (fun i=>i≤v.length) (fun i=>v.length-i) 0 (Cy [some 0,some 1] [] (by simp[AR,lk,lkh,I,str,B,U8,U64,U32,cuE,B,← up_0 v];first|done|omega) (by simp[Am,Ai,Aj,lkh,I,str,cuE,B,← up_0 v])) ?_ (h0:=Nat.zero_le _);rintro i hI0 Y0 hY0;skip
 refine XW.at 9 ?_;have m1:=hI0
 refine Aa 9 [0,5,6,7,47,48,49] ?_
 refine Az 49 (fun c49=>?_) (fun c49=>?_)
 refine XW.at 10 ?_;obtain⟨x,hxi,hxm⟩:=Bd v i (by omega);have hwid:=XX v hv i (by omega);have hgd:v.getD i 0=x:=BC hxi;rw[hgd]at hwid;have hbp: ∀ k,k<Bg v→Gu (Bz v (loF v) (Bg v) v.length) (i*Bg v+k)=(dU (loF v) x).testBit k:=(by intro k hk;rw[← hgd];exact Rz v (loF v) (Bg v) i k (by omega) hk)
 refine Bl 10 [0,5,6,7,8,47,48] ?_
 refine Aa 11 [0,5,6,7,8,9,47,48] ?_
 refine Aa 12 [0,5,6,7,8,9,47,48,51,52] ?_
 refine AX 2 (fun k:Nat=>⟨[(0,.ptr 0 2 0 0),(5,I (loF v)),(6,I (Bg v)),(7,.osl 1 v.length 1),(8,I i),(9,U64 (dU (loF v) x%2^k:Nat)),(47,I v.length),(48,I i),(51,I (Bg v)),(52,I k)],[(0,some (cuE T (Bz v (loF v) (Bg v) v.length) false)),(1,some ⟨3,1,Ak (up v i)⟩)]⟩) (fun k=>k≤Bg v) (fun k=>Bg v-k) 0 (AD (And.intro cuE.eq_1 (And.intro @Nat.mod_one B.eq_1)) [some 0,some 1] []) ?_ (h0:=Nat.zero_le _);rintro k hI1 Y1 hY1;skip
 refine XW.at 13 ?_;have n1:=hI1
 refine Aa 13 [0,5,6,7,8,9,47,48,51,52,53] ?_
 refine Az 53 (fun c53=>?_) (fun c53=>?_)
 refine Aa 14 [0,5,6,7,8,9,10,47,48,51,52] ?_
 refine XW.at 15 ?_;have hik:(i+1)*Bg v≤v.length*Bg v:=Nat.mul_le_mul_right _ (by omega);rw[Nat.succ_mul]at hik;obtain⟨p,hp⟩: ∃ p,p=i*Bg v+k:=⟨_,rfl⟩;have hx:(i:Int)*((Bg v:Nat):Int)=((i*Bg v:Nat):Int):=(by push_cast;rfl);have hx2:((i*Bg v:Nat):Int)+(k:Int)=((p:Nat):Int):=(by omega)
 refine Ba 15 [0,5,6,7,8,9,10,11,47,48,51,52] ?_
 refine XW.at 16 ?_;obtain⟨y,hy,hym⟩:=Bd (Bz v (loF v) (Bg v) v.length) (p / 8) (by rw[hlen];omega);have hby:=AfW (b:=(dU (loF v) x).testBit k) hy (by rw[hp];exact hbp k (by omega));have hq8:IntKind.i64.wrap (((p:Nat):Int).tdiv 8)=((p / 8:Nat):Int):=(by rw[Int.tdiv_eq_ediv_of_nonneg (by omega),As (by omega)];omega);have hr8:((p:Nat):Int).tmod 8=((p%8:Nat):Int):=(by rw[Int.tmod_eq_emod_of_nonneg (by omega)];omega)
 refine Ae 16 ?_
 refine Aq 6 ?_
 have hx:=hq8;have hx2:=hy
 refine AP 4 ?_
 have hx:=hr8
 refine AP 1 ?_
 have hx:=hby;have hx2:=AfZ ((dU (loF v) x).testBit k)
 refine AP 3 ?_
 have hx:=AfC (dU (loF v) x) k (by omega)
 refine AP 4 ?_
 refine XO.done [0,5,6,7,8,9,47,48,51,52] ?_
 refine AJ 17 [0,5,6,7,8,9,47,48,51,52] ?_
 refine XH.le ?_;(exact hY1 (k+1) (by omega) (by omega) _ _ (AD (And.intro cuE.eq_1 B.eq_1) [some 0,some 1] []))
 refine XW.at 18 ?_;obtain rfl:k=Bg v:=(by omega);have hac:dU (loF v) x%2^Bg v=dU (loF v) x:=Nat.mod_eq_of_lt hwid;have hx:=hac;have hx2:=Ut (loF v) x (hv x hxm);have hset:=up_s hxi;have hua:=Agc (show i<v.length by omega);have hul:(up v i).length=v.length:=(by simp only[up,List.length_append,List.length_take,List.length_replicate];omega)
 refine Ae 18 ?_
 refine AP 7 ?_
 have hx:=hua
 refine Aq 2 ?_
 refine XO.done [0,5,6,7,47,48] ?_
 refine AJ 19 [0,5,6,7,47,48] ?_
 refine XH.le ?_;(exact hY0 (i+1) (by omega) (by omega) _ _ (AD (And.intro cuE.eq_1 (And.intro hset (And.intro @LP B.eq_1))) [some 0,some 1] []))
 refine XW.at 20 ?_;obtain rfl:i=v.length:=(by omega)
 refine Aa 20 [7] ?_
 refine Aa 21 [4] ?_
 refine Ap ?_;((refine XB.ret [some 0,some 1] [] (hids:=⟨by simp[Al],by simp[Al],rfl⟩) (hwk:=?_) (hwh:=?_);(next=>simp[Ax,lk,lkh,wk,wkL,wkE,I]);(next=>simp[Am,Ai,Aj,lkh,wkE,wkL,B,I,cuE,up_n,FH])))
theorem Abr(v:List Int)(hl:v.length≤16384)(hv: ∀ x∈v,Ce x):Ad Tryz.prog 117 [.sl 1 (Ab (B7 v 0))] (fun r=>r= .tup [.sl 1 (Ak v),I 0]):=by
 have hz:=R7 v
 have e:B7 v 0=BD 0 v++zs v:=by
   have h:=Uf v v.length (Nat.le_refl _)
   rwa [List.take_length]at h
 have hq:=Q8 232 v [] hl hv (by simp)
 rw[List.append_nil]at hq
 have:=Zd v hl hv (zs v) (by omega) e hq
 rwa [e]
theorem AbW(v:List Int)(hl:v.length≤16384)(hv: ∀ x∈v,Ce x):Ad Tryz.prog 117 [.sl 1 (Ab (B7 v 1))] (fun r=>r= .tup [.sl 1 (Ak v),I 0]):=by
 have hz:=R7 (dlt v)
 rw[HX]at hz
 have e:B7 v 1=BD 1 v++zs (dlt v):=ZN v
 have hq:=ZV 232 v [] hl hv (by simp)
 rw[List.append_nil]at hq
 have:=YZ v hl hv (zs (dlt v)) (by omega) e hq
 rwa [e]
theorem Abc(v:List Int)(h0:0<v.length)(hl:v.length≤16384)(hv: ∀ x∈v,Ce x):Ad Tryz.prog 117 [.sl 1 (Ab (B7 v 3))] (fun r=>r= .tup [.sl 1 (Ak v),I 0]):=by
 have e:B7 v 3=BD 3 v++EL v:=rfl
 have hw:Bg v≤64:=HT _ (GQ _ _)
 have hz:(EL v).length≤2^30:=by
   have h1:=CV (loF v)
   have h2:v.length*Bg v≤16384*64:=Nat.mul_le_mul hl hw
   rw[EL,if_neg (by omega)]
   simp only[List.length_append,List.length_cons,List.length_nil,ET]
   omega
 have:=Zl v hl hv h0 (EL v) hz e (WB 232 v hl h0 hv)
 rwa [e]
theorem Zv(v:List Int)(h:EE v 3=3):0<v.length:=by
 rcases Nat.eq_zero_or_pos v.length with h0|h0
 · have hv:v=[]:=List.eq_nil_of_length_eq_zero h0
   subst hv
   exact absurd h (by decide+kernel)
 · exact h0
theorem Aem(v:List Int)(hl:v.length≤16384)(hv: ∀ x∈v,Ce x)(hr:Ad Tryz.prog 117 [.sl 1 (Ab (B7 v 2))] (fun r=>r= .tup [.sl 1 (Ak v),I 0])):Ad Tryz.prog 117 [.sl 1 (Ab (BF v))] (fun r=>r= .tup [.sl 1 (Ak v),I 0]):=by
 have hb:=JJ v 3
 have hp:=Zv v
 unfold BF
 generalize EE v 3=k at hb hp
 match k,hb,hp with
 |0,_,_=>exact Abr v hl hv
 |1,_,_=>exact AbW v hl hv
 |2,_,_=>exact hr
 |3,_,hp=>exact Abc v (hp rfl) hl hv
theorem Uq(v:List Int): ∀ f i,i<v.length→ ∀ k,i≤k→k≤C6 v f i→v.getD k 0=v.getD i 0
 |0,i,h,k,h1,h2=>by rw[C6]at h2;rw[show k=i by omega]
 |f+1,i,h,k,h1,h2=>by
   rw[C6]at h2
   split at h2
   · next hh=>
     rcases Nat.lt_or_ge i k with h3|h3
     · rw[Uq v f (i+1) hh.1 k h3 h2,hh.2]
     · rw[show k=i by omega]
   · rw[show k=i by omega]
theorem Ss{v:List Int}{x:Int}: ∀ (n i:Nat),i+n≤v.length→(∀ k,i≤k→k<i+n→v.getD k 0=x)→v.take (i+n)=v.take i++List.replicate n x
 |0,i,_,_=>by simp
 |n+1,i,h,ha=>by
   rw[← Nat.add_assoc,List.take_add_one,Ss n i (by omega) (fun k h1 h2=>ha k h1 (by omega)),List.append_assoc,List.replicate_succ']
   have e:=ha (i+n) (by omega) (by omega)
   rw[List.getElem?_eq_getElem (by omega)]
   rw[show v.getD (i+n) 0=v[i+n] by simp[List.getD,show i+n<v.length by omega]]at e
   rw[e];rfl
def RdI(v:List Int)(i:Nat)(b:List UInt8):Prop:=i≤v.length∧ ∃ f,v.length-i≤f∧b=ruG v f i
theorem RdI.s{v:List Int}{i:Nat}{b:List UInt8}(h:RdI v i b)(hi:i<v.length): ∃ (x:Int) (n:Nat) (b':List UInt8),1≤n∧i+n≤v.length∧x∈v∧b=Be x++(An n++b')∧RdI v (i+n) b'∧v.take (i+n)=v.take i++List.replicate n x:=by
 obtain⟨h1,f,h2,h3⟩:=h
 obtain⟨f,rfl⟩: ∃ g,f=g+1:=⟨f-1,by omega⟩
 rw[ruG,if_pos hi]at h3
 have hb:=JP v (v.length-i) i hi
 have he:=Uq v (v.length-i) i hi
 generalize C6 v (v.length-i) i=e at h3 hb he
 refine⟨v.getD e 0,e-i+1,ruG v f (e+1),by omega,by omega,?_,by rw[h3,List.append_assoc],⟨by omega,f,by omega,by rw[show i+(e-i+1)=e+1 by omega]⟩,Ss _ _ (by omega) (fun k k1 k2=>by rw[he k k1 (by omega),he e hb.1 (Nat.le_refl _)])⟩
 rw[show v.getD e 0=v[e]'hb.2 by simp[List.getD,hb.2]]
 exact List.getElem_mem _
theorem RdI.e{v:List Int}{i:Nat}{b:List UInt8}(h:RdI v i b)(hi:v.length≤i):b=[]:=by
 obtain⟨h1,f,h2,h3⟩:=h
 rw[h3]
 cases f with
 |zero=>rfl
 |succ f=>rw[ruG,if_neg (by omega)]
theorem RdI.len{v:List Int}{i:Nat}{b:List UInt8}(h:RdI v i b):b.length≤(v.length-i)*22:=by
 obtain⟨h1,f,h2,rfl⟩:=h
 exact Mh v f i
def N7:Prop:= ∀ (x:Int) (n:Nat),1≤n→n≤16384→Af Tryz.prog 247 [.sl 1 (Ak [x]),I n] [] (.osl 0 n 1) [some ⟨3,1,Ak (List.replicate n x)⟩]
theorem AbV(hrep:N7)(T:Nat)(v:List Int)(hl:v.length≤16384)(hv: ∀ x∈v,Ce x):Af Tryz.prog 219 [.ptr 0 2 0 0,I v.length] [some (cuE T (ruG v v.length 0) false)] (.osl 1 v.length 1) [some (cuE T [] false),some ⟨3,1,Ak v⟩]:=by
 refine BB 46 1 Tryz.func219 ?_
 refine Aa 0 [0,1] ?_
 refine Aa 1 [0,1,5] ?_
 refine AX 2 (fun s:Nat×List UInt8=>⟨[(0,.ptr 0 2 0 0),(1,I v.length),(5,.osl 1 s.1 1)],[(0,some (cuE T s.2 false)),(1,some ⟨3,1,Ak (v.take s.1)⟩)]⟩) (fun s=>RdI v s.1 s.2) (fun s=>v.length-s.1) (0,ruG v v.length 0) (AD (And.intro cuE.eq_1 (And.intro Ak.eq_1 B.eq_1)) [some 0,none] []) ?_ (h0:=⟨Nat.zero_le _,v.length,by simp,rfl⟩);rintro⟨i,b⟩ hI0 Y0 hY0;skip
 refine XW.at 2 ?_;have m1:RdI v i b:=hI0;have hbl:=m1.len;have hi0:=m1.1;have htl:=Se hi0
 refine Ae 2 ?_
 refine Ac 5 ?_
 refine BV 12 (fun g12=>?_) (fun g12=>?_)
 any_goals(refine Ac 6 ?_;refine XO.done [0,1,5,18] ?_;(first|refine Cd 18 ?_|refine AM 18 ?_))
 refine XW.at 3 ?_;obtain⟨x,n,b2,q1,q2,q3,hbq,q5,hts⟩:=m1.s (by omega);have hzr:=Gp x;have hun:Ad Tryz.prog 246 [U64 ((Dn x).toNat:Nat)] (fun r=>r=I x):=(by have:=Nk (Dn x);rw[JG x (hv x q3)]at this;rwa [← Me]);have hb2:(An n++b2).length≤b.length:=(by rw[hbq];simp)
 refine Ae 3 ?_
 refine Ac 1 ?_
 refine BM 0 (Ot T (Dn x).toNat (An n++b2) b hbq (by omega) (by omega)) ?_;rintro _ _ ⟨rfl,rfl⟩
 refine AC (hun) ?_;rintro _ rfl
 refine Ac 1 ?_
 refine XO.done [0,1,5,6] ?_
 refine XW.at 4 ?_;have hx:(v.length:Int)- (i:Int)=((v.length-i:Nat):Int):=(by omega)
 refine Ae 4 ?_
 refine AP 5 ?_
 refine BM 0 (Ki T n (v.length-i) b2 (An n++b2) rfl (by omega) (by omega) (by omega)) ?_;rintro _ _ ⟨rfl,rfl⟩
 refine Aq 1 ?_
 refine XO.done [0,1,5,6,7] ?_
 refine XW.at 5 ?_;have hx:(((n:Nat):Int)==0)=false:=(by simp;omega);have hx2:decide (((n:Nat):Int)=0)=false:=(by simp;omega)
 refine Ae 5 ?_
 refine Aq 6 ?_
 refine BE 33 ?_
 refine Aq 6 ?_
 refine XO.done [0,1,5,6,7] ?_
 refine Ae 6 ?_
 refine Ac 2 ?_
 refine Afn ?_
 refine Ac 1 ?_
 refine HE (hrep x n q1 (by omega)) (hei:=by simp) ?_
 refine Ac 2 ?_
 refine XO.done [0,1,5] ?_
 refine XH.le ?_;(exact hY0 (i+n,b2) (q5) (by simp only;omega) _ _ (AD (And.intro cuE.eq_1 (And.intro hts B.eq_1)) [some 0,some 1] []))
 refine XW.at 7 ?_;have hi:i=v.length:=(by omega);have hb0:=m1.e (by omega);subst hi;subst hb0;have hfin2:v.take v.length=v:=List.take_length
 refine Aa 7 [4] ?_
 refine Ap ?_;((refine XB.ret [some 0,some 1] [] (hids:=⟨by simp[Al],by simp[Al],rfl⟩) (hwk:=?_) (hwh:=?_);(next=>simp[Ax,lk,lkh,wk,wkL,wkE,I]);(next=>simp[Am,Ai,Aj,lkh,wkE,wkL,B,I,cuE,hfin2,FH])))
theorem AcB(hrep:N7)(v:List Int)(hl:v.length≤16384)(hv: ∀ x∈v,Ce x):Ad Tryz.prog 117 [.sl 1 (Ab (B7 v 2))] (fun r=>r= .tup [.sl 1 (Ak v),I 0]):=by
 have hz:=Mh v v.length 0
 have e:B7 v 2=BD 2 v++ruG v v.length 0:=rfl
 have:=Yj v hl hv (ruG v v.length 0) (by omega) e (AbV hrep 232 v hl hv)
 rwa [e]
theorem Xw(hrep:N7)(v:List Int)(hl:v.length≤16384)(hv: ∀ x∈v,Ce x):Ad Tryz.prog 117 [.sl 1 (Ab (BF v))] (fun r=>r= .tup [.sl 1 (Ak v),I 0]):=Aem v hl hv (AcB hrep v hl hv)
end Go.Proofs.YtpkhodjlnodagaaGreatDoor
