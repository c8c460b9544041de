/- Part 34 of the proof of PlanSkipsOnlyWhatCannotMatch. -/
import Derived.Test.YtpkhodjlnodagaaGreatDoorB15
import Derived.Test.YtpkhodjlnodagaaGreatDoorB33
set_option linter.unusedSimpArgs false
set_option linter.unusedVariables false
set_option linter.unusedSectionVars false
namespace Go.Proofs.YtpkhodjlnodagaaGreatDoor
open Go.Av
set_option maxHeartbeats 4000000
set_option maxRecDepth 10000
attribute [local irreducible] XH XO Ae Ad AU
def dlt(v:List Int):List Int:=(List.range v.length).map (E2 v)
theorem H7(v:List Int):(dlt v).length=v.length:=by simp[dlt]
theorem YQ{v:List Int}{i:Nat}(h:i<v.length):(dlt v)[i]? =some (E2 v i):=by simp[dlt,h]
theorem Agk{v:List Int}(hv: ∀ x∈v,BE x): ∀ x∈dlt v,BE x:=by
 intro x hx
 simp only[dlt,List.mem_map,List.mem_range]at hx
 obtain⟨i,hi,rfl⟩:=hx
 unfold E2
 split
 · exact M9 _
 · rw[show v.getD i 0=v[i] by simp[List.getD,hi]]
   exact hv _ (List.getElem_mem hi)
theorem Vo(v:List Int): ∀ i,i≤v.length→B6 v i=BG 1 v++zs ((dlt v).take i)
 |0,_=>by simp[B6,zs]
 |i+1,h=>by
   rw[B6,Vo v i oM,List.take_add_one,XZ,YQ oM]
   simp[zs]
theorem Z9(v:List Int):B6 v v.length=BG 1 v++zs (dlt v):=by
 rw[Vo v _ (Nat.le_refl _),← H7 v,List.take_length]
def pr(v:List Int)(i:Nat):List Int:=v.take i++(dlt v).drop i
theorem pr_1(v:List Int):pr v 1=dlt v:=by
 unfold pr
 cases v with
 |nil=>rfl
 |cons x l=>
   have h:dlt (x::l)=x::(dlt (x::l)).drop 1:=by
     have e:=List.drop_eq_getElem_cons (l:=dlt (x::l)) (i:=0) (by simp[dlt])
     rw[List.drop_zero]at e
     rw[e]
     simp[dlt,E2]
   rw[List.take_succ_cons,List.take_zero]
   exact h.symm
theorem pr_n(v:List Int){i:Nat}(h:v.length≤i):pr v i=v:=by
 unfold pr
 rw[List.take_of_length_le h,List.drop_eq_nil_of_le (by rw[H7];exact h),List.append_nil]
theorem AfS{v:List Int}{i:Nat}:(pr v i).length=v.length:=by
 simp only[pr,List.length_append,List.length_take,List.length_drop,H7];omega
theorem Aho{v:List Int}{i:Nat}(h:i<v.length):(pr v i)[i]? =some (E2 v i):=by
 unfold pr
 rw[List.getElem?_append_right sO,List.length_take,Nat.min_eq_left oM,List.getElem?_drop,Nat.sub_self,Nat.add_zero,YQ h]
theorem AgG{v:List Int}{i:Nat}{y:Int}(h0:1≤i)(h:i≤v.length)(hy:v[i-1]? =some y):(pr v i)[i-1]? =some y:=by
 unfold pr
 rw[List.getElem?_append_left sO,List.getElem?_take,if_pos oM,hy]
theorem pr_s{v:List Int}{i:Nat}{x:Int}(h:v[i]? =some x):(An (pr v i)).set i [.val (.int .i64 x)]=An (pr v (i+1)):=by
 have hl:=(List.getElem?_eq_some_iff.1 h).1
 rw[show [AV.val (.int .i64 x)]=(fun z=>[I z]) x from rfl,An,← List.map_set]
 show List.map _ _=List.map _ _
 congr 1
 unfold pr
 rw[List.set_append_right _ _ sO,List.length_take,Nat.min_eq_left oM,Nat.sub_self,List.take_add_one,h,List.drop_eq_getElem_cons (by rw[H7];exact hl)]
 show List.take i v++(x::List.drop (i+1) (dlt v))=(List.take i v++[x])++List.drop (i+1) (dlt v)
 rw[List.append_assoc];rfl
theorem Ae3{v:List Int}(hv: ∀ x∈v,BE x){i:Nat}{x y:Int}(h0:1≤i)(hx:v[i]? =some x)(hy:v[i-1]? =some y):IntKind.i64.wrap (E2 v i+y)=x:=by
 unfold E2
 rw[if_pos oM,Bz hx,Bz hy,Int.add_comm]
 exact Qa x y (hv x (List.mem_of_getElem? hx))
theorem AaI(T:Nat)(v:List Int)(R:List UInt8)(hl:v.length≤16384)(hv: ∀ x∈v,BE x)(hr:R.length≤2^30):Ad Tryz.prog 218 [.ptr 0 2 0 0,I v.length] [some (cuE T (zs (dlt v)++R) false)] (.osl 1 v.length 1) [some (cuE T R false),some ⟨3,1,An v⟩]:=by
 have q:=RU T (dlt v) R (by rw[H7];exact hl) (Agk hv) hr
 rw[H7]at q
 have hp1:=pr_1 v
 refine BD 28 1 Tryz.func218 ?_
 refine Aa 0 [0,1] ?_
 refine Ah 1 ?_
 refine Ac 2 ?_
 refine AhG 0 q ?_
 refine Ac 1 ?_
 refine XO.done [5] ?_
 refine Aa 2 [5,6] ?_
 refine A8 2 (fun i:Nat=>⟨[(5,.osl 1 v.length 1),(6,I i)],[(0,some (cuE T R false)),(1,some ⟨3,1,An (pr v i)⟩)]⟩) (fun i=>1≤i) (fun i=>v.length+1-i) 1 (AO (And.intro cuE.eq_1 (And.intro hp1 B.eq_1)) [some 0,some 1] []) ?_ (h0:=Nat.le_refl _);rintro i hI0 Y0 hY0;skip
 refine XW.at 3 ?_;have m1:=hI0
 refine Aa 3 [5,6,13] ?_
 refine AC 13 (fun c13=>?_) (fun c13=>?_)
 refine XW.at 5 ?_;obtain⟨x,hxi,hxm⟩:=Bm v i oM;obtain⟨y,hyi,hym⟩:=Bm v (i-1) oM;have hi1:((i:Int)-1).toNat=i-1:=oM;have hpl:(pr v i).length=v.length:=AfS;have hpv:=AgG m1 oM hyi;have hpa:=Aho (show i<v.length by omega);have hx:=hpa;have hadd:=Ae3 hv m1 hxi hyi;have hset:=pr_s hxi
 refine Ah 5 ?_
 refine Aw 6 ?_
 refine A2 1 ?_
 have hx:=hi1;have hx2:=hpv
 refine Aw 2 ?_
 have hx:=hadd
 refine A2 1 ?_
 have hx:=hpa
 refine Aw 2 ?_
 refine XO.done [5,6] ?_
 refine AQ 4 [5,6] ?_
 refine XH.le ?_;(exact hY0 (i+1) oM oM _ _ (AO (And.intro cuE.eq_1 (And.intro hset (And.intro @Mh B.eq_1))) [some 0,some 1] []))
 refine XW.at 6 ?_;have hfin:=pr_n v (show v.length≤i by omega)
 refine Aa 6 [4] ?_
 refine Aq ?_;((refine XB.ret [some 0,some 1] [] (hids:=⟨by simp[Al],by simp[Al],rfl⟩) (hwk:=?_) (hwh:=?_);(next=>simp[Az,lk,lkh,wk,wkL,wkE,I]);(next=>simp[Am,Ai,Ak,lkh,wkE,wkL,B,I,cuE,hfin])))
theorem ZE(v:List Int)(hl:v.length≤16384)(hv: ∀ x∈v,BE x)(body:List UInt8)(hbl:body.length≤2^30)(hbd:B9 v 0=BG 0 v++body)(hq:Ad Tryz.prog 217 [.ptr 0 2 0 0,I v.length] [some (cuE 232 body false)] (.osl 1 v.length 1) [some (cuE 232 [] false),some ⟨3,1,An v⟩]):Ae Tryz.prog 117 [.sl 1 (Ab (UInt8.ofNat 0::(Ap v.length++body)))] (fun r=>r= .tup [.sl 1 (An v),I 0]):=by
 have hk:=MY (UInt8.ofNat 0) (Ap v.length++body) dC
 rw[show(UInt8.ofNat 0).toNat=0 from rfl]at hk
 have hen:=La v hl hv 0 dC (fun h=>absurd h dC)
 rw[hbd,show BG 0 v++body=UInt8.ofNat 0::(Ap v.length++body)from rfl]at hen
 have hvl:=Bf v.length
 obtain⟨te3,ht3,hs3,ha3⟩:=QG
 refine Ax 49 Tryz.func117 ?_
 refine Aa 0 [0] ?_
 refine Ah 1 ?_
 refine Ac 1 ?_
 refine AG (hk) ?_;rintro _ rfl
 refine Ac 5 ?_
 refine XO.done [0,4,5] ?_
 refine Aa 2 [0,4,16] ?_
 refine A3 16 ?_
 refine A4 4 [0,4,6] ?_
 refine Ah 5 ?_
 refine AG (If) ?_;rintro _ rfl
 refine Ac 1 ?_
 refine XO.raw (Ip (BU _) (t:=234) (e:=233) (len:=4) (j:=0) (vs:=Pn) Wc ht3 hs3 ha3 rfl rfl dC rfl) ?_
 refine Ac 2 ?_
 refine BW 0 (Kq 232 v.length 16384 body (Ap v.length++body) rfl hl dC (by rw[List.length_append];omega)) ?_;rintro _ _ ⟨rfl,rfl⟩
 refine Oi 0 hq ?_
 refine Ac 1 ?_
 refine XO.done [0,4,6,7] ?_
 refine XW.at 6 ?_;refine Fq 6 1 ⟨[(0,.sl 1 (Ab (UInt8.ofNat 0::(Ap v.length++body)))),(4,I 0),(6,.ptr 0 2 0 0),(7,.sl 1 (An v))],[(0,some (cuE 232 [] false))]⟩ (Hb (And.intro (And.intro wkE.eq_1 wkE.eq_2) (And.intro (And.intro wkL.eq_1 wkL.eq_2) (And.intro cuE.eq_1 @EL))) [some 0] [1]) ?_
 refine Ah 6 ?_
 refine Ac 2 ?_
 refine AG (hen) ?_;rintro _ rfl
 refine Ac 5 ?_
 refine XO.done [0,6,7,8,9] ?_
 refine Ah 7 ?_
 refine Ac 5 ?_
 refine BQ 38 ?_
 refine Ac 4 ?_
 refine BQ 42 ?_
 refine Ac 2 ?_
 refine AG (GC _ _) ?_;rintro _ rfl
 refine Ac 2 ?_
 refine XO.done [7,47] ?_
 refine A3 47 ?_
 refine Aa 9 [2,3] ?_
 refine Aq ?_;(exact Bi rfl)
theorem AaP(v:List Int)(hl:v.length≤16384)(hv: ∀ x∈v,BE x)(body:List UInt8)(hbl:body.length≤2^30)(hbd:B9 v 1=BG 1 v++body)(hq:Ad Tryz.prog 218 [.ptr 0 2 0 0,I v.length] [some (cuE 232 body false)] (.osl 1 v.length 1) [some (cuE 232 [] false),some ⟨3,1,An v⟩]):Ae Tryz.prog 117 [.sl 1 (Ab (UInt8.ofNat 1::(Ap v.length++body)))] (fun r=>r= .tup [.sl 1 (An v),I 0]):=by
 have hk:=MY (UInt8.ofNat 1) (Ap v.length++body) dC
 rw[show(UInt8.ofNat 1).toNat=1 from rfl]at hk
 have hen:=La v hl hv 1 dC (fun h=>absurd h dC)
 rw[hbd,show BG 1 v++body=UInt8.ofNat 1::(Ap v.length++body)from rfl]at hen
 have hvl:=Bf v.length
 obtain⟨te3,ht3,hs3,ha3⟩:=QG
 refine Ax 49 Tryz.func117 ?_
 refine Aa 0 [0] ?_
 refine Ah 1 ?_
 refine Ac 1 ?_
 refine AG (hk) ?_;rintro _ rfl
 refine Ac 5 ?_
 refine XO.done [0,4,5] ?_
 refine Aa 2 [0,4,16] ?_
 refine A3 16 ?_
 refine A4 4 [0,4,6] ?_
 refine Ah 5 ?_
 refine AG (If) ?_;rintro _ rfl
 refine Ac 1 ?_
 refine XO.raw (Ip (BU _) (t:=234) (e:=233) (len:=4) (j:=1) (vs:=Pn) Wc ht3 hs3 ha3 rfl rfl dC rfl) ?_
 refine Ac 2 ?_
 refine BW 0 (Kq 232 v.length 16384 body (Ap v.length++body) rfl hl dC (by rw[List.length_append];omega)) ?_;rintro _ _ ⟨rfl,rfl⟩
 refine Oi 0 hq ?_
 refine Ac 1 ?_
 refine XO.done [0,4,6,7] ?_
 refine XW.at 6 ?_;refine Fq 6 1 ⟨[(0,.sl 1 (Ab (UInt8.ofNat 1::(Ap v.length++body)))),(4,I 1),(6,.ptr 0 2 0 0),(7,.sl 1 (An v))],[(0,some (cuE 232 [] false))]⟩ (Hb (And.intro (And.intro wkE.eq_1 wkE.eq_2) (And.intro (And.intro wkL.eq_1 wkL.eq_2) (And.intro cuE.eq_1 @EL))) [some 0] [1]) ?_
 refine Ah 6 ?_
 refine Ac 2 ?_
 refine AG (hen) ?_;rintro _ rfl
 refine Ac 5 ?_
 refine XO.done [0,6,7,8,9] ?_
 refine Ah 7 ?_
 refine Ac 5 ?_
 refine BQ 38 ?_
 refine Ac 4 ?_
 refine BQ 42 ?_
 refine Ac 2 ?_
 refine AG (GC _ _) ?_;rintro _ rfl
 refine Ac 2 ?_
 refine XO.done [7,47] ?_
 refine A3 47 ?_
 refine Aa 9 [2,3] ?_
 refine Aq ?_;(exact Bi rfl)
theorem Aaj(v:List Int)(hl:v.length≤16384)(hv: ∀ x∈v,BE x)(body:List UInt8)(hbl:body.length≤2^30)(hbd:B9 v 2=BG 2 v++body)(hq:Ad Tryz.prog 219 [.ptr 0 2 0 0,I v.length] [some (cuE 232 body false)] (.osl 1 v.length 1) [some (cuE 232 [] false),some ⟨3,1,An v⟩]):Ae Tryz.prog 117 [.sl 1 (Ab (UInt8.ofNat 2::(Ap v.length++body)))] (fun r=>r= .tup [.sl 1 (An v),I 0]):=by
 have hk:=MY (UInt8.ofNat 2) (Ap v.length++body) dC
 rw[show(UInt8.ofNat 2).toNat=2 from rfl]at hk
 have hen:=La v hl hv 2 dC (fun h=>absurd h dC)
 rw[hbd,show BG 2 v++body=UInt8.ofNat 2::(Ap v.length++body)from rfl]at hen
 have hvl:=Bf v.length
 obtain⟨te3,ht3,hs3,ha3⟩:=QG
 refine Ax 49 Tryz.func117 ?_
 refine Aa 0 [0] ?_
 refine Ah 1 ?_
 refine Ac 1 ?_
 refine AG (hk) ?_;rintro _ rfl
 refine Ac 5 ?_
 refine XO.done [0,4,5] ?_
 refine Aa 2 [0,4,16] ?_
 refine A3 16 ?_
 refine A4 4 [0,4,6] ?_
 refine Ah 5 ?_
 refine AG (If) ?_;rintro _ rfl
 refine Ac 1 ?_
 refine XO.raw (Ip (BU _) (t:=234) (e:=233) (len:=4) (j:=2) (vs:=Pn) Wc ht3 hs3 ha3 rfl rfl dC rfl) ?_
 refine Ac 2 ?_
 refine BW 0 (Kq 232 v.length 16384 body (Ap v.length++body) rfl hl dC (by rw[List.length_append];omega)) ?_;rintro _ _ ⟨rfl,rfl⟩
 refine Oi 0 hq ?_
 refine Ac 1 ?_
 refine XO.done [0,4,6,7] ?_
 refine XW.at 6 ?_;refine Fq 6 1 ⟨[(0,.sl 1 (Ab (UInt8.ofNat 2::(Ap v.length++body)))),(4,I 2),(6,.ptr 0 2 0 0),(7,.sl 1 (An v))],[(0,some (cuE 232 [] false))]⟩ (Hb (And.intro (And.intro wkE.eq_1 wkE.eq_2) (And.intro (And.intro wkL.eq_1 wkL.eq_2) (And.intro cuE.eq_1 @EL))) [some 0] [1]) ?_
 refine Ah 6 ?_
 refine Ac 2 ?_
 refine AG (hen) ?_;rintro _ rfl
 refine Ac 5 ?_
 refine XO.done [0,6,7,8,9] ?_
 refine Ah 7 ?_
 refine Ac 5 ?_
 refine BQ 38 ?_
 refine Ac 4 ?_
 refine BQ 42 ?_
 refine Ac 2 ?_
 refine AG (GC _ _) ?_;rintro _ rfl
 refine Ac 2 ?_
 refine XO.done [7,47] ?_
 refine A3 47 ?_
 refine Aa 9 [2,3] ?_
 refine Aq ?_;(exact Bi rfl)
theorem AaY(v:List Int)(hl:v.length≤16384)(hv: ∀ x∈v,BE x)(h0:0<v.length)(body:List UInt8)(hbl:body.length≤2^30)(hbd:B9 v 3=BG 3 v++body)(hq:Ad Tryz.prog 220 [.ptr 0 2 0 0,I v.length] [some (cuE 232 body false)] (.osl 1 v.length 1) [some (cuE 232 [] false),some ⟨3,1,An v⟩]):Ae Tryz.prog 117 [.sl 1 (Ab (UInt8.ofNat 3::(Ap v.length++body)))] (fun r=>r= .tup [.sl 1 (An v),I 0]):=by
 have hk:=MY (UInt8.ofNat 3) (Ap v.length++body) dC
 rw[show(UInt8.ofNat 3).toNat=3 from rfl]at hk
 have hen:=La v hl hv 3 dC (fun _=>h0)
 rw[hbd,show BG 3 v++body=UInt8.ofNat 3::(Ap v.length++body)from rfl]at hen
 have hvl:=Bf v.length
 obtain⟨te3,ht3,hs3,ha3⟩:=QG
 refine Ax 49 Tryz.func117 ?_
 refine Aa 0 [0] ?_
 refine Ah 1 ?_
 refine Ac 1 ?_
 refine AG (hk) ?_;rintro _ rfl
 refine Ac 5 ?_
 refine XO.done [0,4,5] ?_
 refine Aa 2 [0,4,16] ?_
 refine A3 16 ?_
 refine A4 4 [0,4,6] ?_
 refine Ah 5 ?_
 refine AG (If) ?_;rintro _ rfl
 refine Ac 1 ?_
 refine XO.raw (Ip (BU _) (t:=234) (e:=233) (len:=4) (j:=3) (vs:=Pn) Wc ht3 hs3 ha3 rfl rfl dC rfl) ?_
 refine Ac 2 ?_
 refine BW 0 (Kq 232 v.length 16384 body (Ap v.length++body) rfl hl dC (by rw[List.length_append];omega)) ?_;rintro _ _ ⟨rfl,rfl⟩
 refine Oi 0 hq ?_
 refine Ac 1 ?_
 refine XO.done [0,4,6,7] ?_
 refine XW.at 6 ?_;refine Fq 6 1 ⟨[(0,.sl 1 (Ab (UInt8.ofNat 3::(Ap v.length++body)))),(4,I 3),(6,.ptr 0 2 0 0),(7,.sl 1 (An v))],[(0,some (cuE 232 [] false))]⟩ (Hb (And.intro (And.intro wkE.eq_1 wkE.eq_2) (And.intro (And.intro wkL.eq_1 wkL.eq_2) (And.intro cuE.eq_1 @EL))) [some 0] [1]) ?_
 refine Ah 6 ?_
 refine Ac 2 ?_
 refine AG (hen) ?_;rintro _ rfl
 refine Ac 5 ?_
 refine XO.done [0,6,7,8,9] ?_
 refine Ah 7 ?_
 refine Ac 5 ?_
 refine BQ 38 ?_
 refine Ac 4 ?_
 refine BQ 42 ?_
 refine Ac 2 ?_
 refine AG (GC _ _) ?_;rintro _ rfl
 refine Ac 2 ?_
 refine XO.done [7,47] ?_
 refine A3 47 ?_
 refine Aa 9 [2,3] ?_
 refine Aq ?_;(exact Bi rfl)
def up(v:List Int)(i:Nat):List Int:=v.take i++List.replicate (v.length-i) 0
theorem up_0(v:List Int):An (up v 0)=List.replicate v.length [AV.val (.int .i64 0)]:=by simp[up,An,I]
theorem up_n(v:List Int):up v v.length=v:=by simp[up]
theorem AhK{v:List Int}{i:Nat}(h:i<v.length):(up v i)[i]? =some 0:=by
 unfold up
 rw[List.getElem?_append_right sO,List.length_take,Nat.min_eq_left oM,Nat.sub_self,List.getElem?_replicate,if_pos oM]
theorem up_s{v:List Int}{i:Nat}{x:Int}(h:v[i]? =some x):(An (up v i)).set i [.val (.int .i64 x)]=An (up v (i+1)):=by
 have hl:=(List.getElem?_eq_some_iff.1 h).1
 rw[show [AV.val (.int .i64 x)]=(fun z=>[I z]) x from rfl,An,← List.map_set]
 show List.map _ _=List.map _ _
 congr 1
 unfold up
 rw[List.set_append_right _ _ sO,List.length_take,Nat.min_eq_left oM,Nat.sub_self,List.take_add_one,h,show v.length-i=(v.length- (i+1))+1 by omega,List.replicate_succ]
 show List.take i v++(x::List.replicate (v.length- (i+1)) 0)=(List.take i v++[x])++List.replicate (v.length- (i+1)) 0
 rw[List.append_assoc];rfl
theorem Ag6(d k:Nat)(hk:k<64):AP .or .u64 ((d%2^k:Nat):Int) (IntKind.u64.wrap (((d.testBit k).toNat:Nat)*2^min k 64))=((d%2^(k+1):Nat):Int):=by
 have h1:d%2^(k+1)=d%2^k+(d.testBit k).toNat*2^k:=by rw[Nat.mod_pow_succ,Nat.toNat_testBit,Nat.mul_comm]
 have h2:d%2^(k+1)<2^(k+1):=Nat.mod_lt _ (Nat.two_pow_pos _)
 have h3:2^(k+1)≤2^64:=Nat.pow_le_pow_right dC oM
 rw[Nat.min_eq_left oM,h1]
 exact Yu _ _ k (Nat.mod_lt _ (Nat.two_pow_pos _)) oM
theorem AhV(b:Bool):IntKind.u64.wrap ((b.toNat:Nat):Int)=((b.toNat:Nat):Int):=by cases b<;>decide
theorem AhQ{o:List UInt8}{p:Nat}{y:UInt8}{b:Bool}(hy:o[p / 8]? =some y)(h:GG o p=b):AP .and .u8 ((y.toNat:Int).fdiv (2^min (p%8) 8)) 1=((b.toNat:Nat):Int):=by
 have h1:=bitN o p b h
 rw[Bz hy]at h1
 rw[AbC _ _ y.toNat_lt oM,h1]
theorem Yb(T:Nat)(v:List Int)(hl:v.length≤16384)(h0:0<v.length)(hv: ∀ x∈v,BE x):Ad Tryz.prog 220 [.ptr 0 2 0 0,I v.length] [some (cuE T (EO v) false)] (.osl 1 v.length 1) [some (cuE T [] false),some ⟨3,1,An v⟩]:=by
 have hw:Be v≤64:=HR _ (GZ _ _)
 have hlo:BE (loF v):=hv _ (MP v h0 v.length (Nat.le_refl _))
 have hpk:EO v=Bc (loF v)++(UInt8.ofNat (Be v)::(BA v (loF v) (Be v) v.length)):=by rw[EO,if_neg oM];simp
 rw[hpk]
 obtain⟨L,hL⟩: ∃ L,L=(v.length*Be v+7) / 8:=⟨_,rfl⟩
 have hvw:v.length*Be v≤16384*64:=Nat.mul_le_mul hl hw
 have hlen:(BA v (loF v) (Be v) v.length).length=L:=by rw[EZ,hL]
 have hpl:=C1 (loF v)
 have hun:Ae Tryz.prog 246 [U64 ((Dp (loF v)).toNat:Nat)] (fun r=>r=I (loF v)):=by have:=NP (Dp (loF v));rw[JT _ hlo]at this;rwa [← MV]
 have hzr:=Gw (loF v)
 have hw8:IntKind.i64.wrap (((UInt8.ofNat (Be v)).toNat:Nat):Int)=((Be v:Nat):Int):=by rw[ofNat_toNat _ oM];exact Ar oM
 refine BD 91 1 Tryz.func220 ?_
 refine Aa 0 [0,1] ?_
 refine Aa 1 [0,1,13] ?_
 refine AC 13 (fun c13=>?_) (fun c13=>?_)
 exfalso;omega
 refine Ah 3 ?_
 refine Aw 1 ?_
 refine BW 0 (Om T (Dp (loF v)).toNat (UInt8.ofNat (Be v)::(BA v (loF v) (Be v) v.length)) (Bc (loF v)++(UInt8.ofNat (Be v)::(BA v (loF v) (Be v) v.length))) rfl oM (by rw[List.length_append,List.length_cons];omega)) ?_;rintro _ _ ⟨rfl,rfl⟩
 refine AG (hun) ?_;rintro _ rfl
 refine Aw 1 ?_
 refine BW 0 (Ur T (UInt8.ofNat (Be v)) (BA v (loF v) (Be v) v.length) oM) ?_;rintro _ _ ⟨rfl,rfl⟩
 have hx:=hw8
 refine A2 3 ?_
 refine XO.done [0,1,5,6] ?_
 refine XW.at 4 ?_;have hmw:(v.length:Int)*((Be v:Nat):Int)=((v.length*Be v:Nat):Int):=(by push_cast;rfl);have hq:(((v.length*Be v:Nat):Int)+7).tdiv 8=((L:Nat):Int):=(by rw[Int.tdiv_eq_ediv_of_nonneg oM,hL];omega)
 refine Ah 4 ?_
 refine Aw 5 ?_
 refine BQ 24 ?_
 refine Aw 4 ?_
 refine Cn 28 (fun g28=>?_) (fun g28=>?_)
 exfalso;omega
 refine Aw 7 ?_
 have hx:=hmw;have hx2:=hq
 refine A2 5 ?_
 refine XO.done [0,1,5,6,40] ?_
 refine A3 40 ?_
 refine Aa 7 [0,5,6,7] ?_
 refine Aa 8 [0,5,6,7,47,48] ?_
 refine A8 2 (fun i:Nat=>⟨[(0,.ptr 0 2 0 0),(5,I (loF v)),(6,I (Be v)),(7,.osl 1 v.length 1),(47,I v.length),(48,I i)],[(0,some (cuE T (BA v (loF v) (Be v) v.length) false)),(1,some ⟨3,1,An (up v i)⟩)]⟩) (fun i=>i≤v.length) (fun i=>v.length-i) 0 (CL [some 0,some 1] [] (by simp[AK,lk,lkh,I,str,B,U8,U64,U32,cuE,B,← up_0 v];first|done|omega) (by simp[Am,Ai,Ak,lkh,I,str,cuE,B,← up_0 v])) ?_ (h0:=Nat.zero_le _);rintro i hI0 Y0 hY0;skip
 refine XW.at 9 ?_;have m1:=hI0
 refine Aa 9 [0,5,6,7,47,48,49] ?_
 refine AC 49 (fun c49=>?_) (fun c49=>?_)
 refine XW.at 10 ?_;obtain⟨x,hxi,hxm⟩:=Bm v i oM;have hwid:=YR v hv i oM;have hgd:v.getD i 0=x:=Bz hxi;rw[hgd]at hwid;have hbp: ∀ k,k<Be v→GG (BA v (loF v) (Be v) v.length) (i*Be v+k)=(dU (loF v) x).testBit k:=(by intro k hk;rw[← hgd];exact S2 v (loF v) (Be v) i k oM hk)
 refine BJ 10 [0,5,6,7,8,47,48] ?_
 refine Aa 11 [0,5,6,7,8,9,47,48] ?_
 refine Aa 12 [0,5,6,7,8,9,47,48,51,52] ?_
 refine A8 2 (fun k:Nat=>⟨[(0,.ptr 0 2 0 0),(5,I (loF v)),(6,I (Be v)),(7,.osl 1 v.length 1),(8,I i),(9,U64 (dU (loF v) x%2^k:Nat)),(47,I v.length),(48,I i),(51,I (Be v)),(52,I k)],[(0,some (cuE T (BA v (loF v) (Be v) v.length) false)),(1,some ⟨3,1,An (up v i)⟩)]⟩) (fun k=>k≤Be v) (fun k=>Be v-k) 0 (AO (And.intro cuE.eq_1 (And.intro @Nat.mod_one B.eq_1)) [some 0,some 1] []) ?_ (h0:=Nat.zero_le _);rintro k hI1 Y1 hY1;skip
 refine XW.at 13 ?_;have n1:=hI1
 refine Aa 13 [0,5,6,7,8,9,47,48,51,52,53] ?_
 refine AC 53 (fun c53=>?_) (fun c53=>?_)
 refine Aa 14 [0,5,6,7,8,9,10,47,48,51,52] ?_
 refine XW.at 15 ?_;have hik:(i+1)*Be v≤v.length*Be v:=Nat.mul_le_mul_right _ oM;rw[Nat.succ_mul]at hik;obtain⟨p,hp⟩: ∃ p,p=i*Be v+k:=⟨_,rfl⟩;have hx:(i:Int)*((Be v:Nat):Int)=((i*Be v:Nat):Int):=(by push_cast;rfl);have hx2:((i*Be v:Nat):Int)+(k:Int)=((p:Nat):Int):=oM
 refine A4 15 [0,5,6,7,8,9,10,11,47,48,51,52] ?_
 refine XW.at 16 ?_;obtain⟨y,hy,hym⟩:=Bm (BA v (loF v) (Be v) v.length) (p / 8) (by rw[hlen];omega);have hby:=AhQ (b:=(dU (loF v) x).testBit k) hy (by rw[hp];exact hbp k oM);have hq8:IntKind.i64.wrap (((p:Nat):Int).tdiv 8)=((p / 8:Nat):Int):=(by rw[Int.tdiv_eq_ediv_of_nonneg oM,Ar oM];omega);have hr8:((p:Nat):Int).tmod 8=((p%8:Nat):Int):=(by rw[Int.tmod_eq_emod_of_nonneg oM];omega)
 refine Ah 16 ?_
 refine Aw 6 ?_
 have hx:=hq8;have hx2:=hy
 refine A2 4 ?_
 have hx:=hr8
 refine A2 1 ?_
 have hx:=hby;have hx2:=AhV ((dU (loF v) x).testBit k)
 refine A2 3 ?_
 have hx:=Ag6 (dU (loF v) x) k oM
 refine A2 4 ?_
 refine XO.done [0,5,6,7,8,9,47,48,51,52] ?_
 refine AQ 17 [0,5,6,7,8,9,47,48,51,52] ?_
 refine XH.le ?_;(exact hY1 (k+1) oM oM _ _ (AO (And.intro cuE.eq_1 B.eq_1) [some 0,some 1] []))
 refine XW.at 18 ?_;obtain rfl:k=Be v:=oM;have hac:dU (loF v) x%2^Be v=dU (loF v) x:=Nat.mod_eq_of_lt hwid;have hx:=hac;have hx2:=T1 (loF v) x (hv x hxm);have hset:=up_s hxi;have hua:=AhK (show i<v.length by omega);have hul:(up v i).length=v.length:=(by simp only[up,List.length_append,List.length_take,List.length_replicate];omega)
 refine Ah 18 ?_
 refine A2 7 ?_
 have hx:=hua
 refine Aw 2 ?_
 refine XO.done [0,5,6,7,47,48] ?_
 refine AQ 19 [0,5,6,7,47,48] ?_
 refine XH.le ?_;(exact hY0 (i+1) oM oM _ _ (AO (And.intro cuE.eq_1 (And.intro hset (And.intro @Mh B.eq_1))) [some 0,some 1] []))
 refine XW.at 20 ?_;obtain rfl:i=v.length:=oM
 refine Aa 20 [7] ?_
 refine Aa 21 [4] ?_
 refine Aq ?_;((refine XB.ret [some 0,some 1] [] (hids:=⟨by simp[Al],by simp[Al],rfl⟩) (hwk:=?_) (hwh:=?_);(next=>simp[Az,lk,lkh,wk,wkL,wkE,I]);(next=>simp[Am,Ai,Ak,lkh,wkE,wkL,B,I,cuE,up_n,FV])))
theorem AcJ(v:List Int)(hl:v.length≤16384)(hv: ∀ x∈v,BE x):Ae Tryz.prog 117 [.sl 1 (Ab (B9 v 0))] (fun r=>r= .tup [.sl 1 (An v),I 0]):=by
 have hz:=S1 v
 have e:B9 v 0=BG 0 v++zs v:=by
   have h:=Ui v v.length (Nat.le_refl _)
   rwa [List.take_length]at h
 have hq:=RU 232 v [] hl hv sP
 rw[List.append_nil]at hq
 have:=ZE v hl hv (zs v) oM e hq
 rwa [e]
theorem Aeg(v:List Int)(hl:v.length≤16384)(hv: ∀ x∈v,BE x):Ae Tryz.prog 117 [.sl 1 (Ab (B9 v 1))] (fun r=>r= .tup [.sl 1 (An v),I 0]):=by
 have hz:=S1 (dlt v)
 rw[H7]at hz
 have e:B9 v 1=BG 1 v++zs (dlt v):=Z9 v
 have hq:=AaI 232 v [] hl hv sP
 rw[List.append_nil]at hq
 have:=AaP v hl hv (zs (dlt v)) oM e hq
 rwa [e]
theorem Aei(v:List Int)(h0:0<v.length)(hl:v.length≤16384)(hv: ∀ x∈v,BE x):Ae Tryz.prog 117 [.sl 1 (Ab (B9 v 3))] (fun r=>r= .tup [.sl 1 (An v),I 0]):=by
 have e:B9 v 3=BG 3 v++EO v:=rfl
 have hw:Be v≤64:=HR _ (GZ _ _)
 have hz:(EO v).length≤2^30:=by
   have h1:=C1 (loF v)
   have h2:v.length*Be v≤16384*64:=Nat.mul_le_mul hl hw
   rw[EO,if_neg oM]
   simp only[List.length_append,List.length_cons,List.length_nil,EZ]
   omega
 have:=AaY v hl hv h0 (EO v) hz e (Yb 232 v hl h0 hv)
 rwa [e]
theorem Abp(v:List Int)(h:DO v 3=3):0<v.length:=by
 rcases Nat.eq_zero_or_pos v.length with h0|h0
 · have hv:v=[]:=List.eq_nil_of_length_eq_zero h0
   subst hv
   exact absurd h dK
 · exact h0
theorem AeR(v:List Int)(hl:v.length≤16384)(hv: ∀ x∈v,BE x)(hr:Ae Tryz.prog 117 [.sl 1 (Ab (B9 v 2))] (fun r=>r= .tup [.sl 1 (An v),I 0])):Ae Tryz.prog 117 [.sl 1 (Ab (AZ v))] (fun r=>r= .tup [.sl 1 (An v),I 0]):=by
 have hb:=Hu v 3
 have hp:=Abp v
 unfold AZ
 generalize DO v 3=k at hb hp
 match k,hb,hp with
 |0,_,_=>exact AcJ v hl hv
 |1,_,_=>exact Aeg v hl hv
 |2,_,_=>exact hr
 |3,_,hp=>exact Aei v (hp rfl) hl hv
theorem Vl(v:List Int): ∀ f i,i<v.length→ ∀ k,i≤k→k≤C9 v f i→v.getD k 0=v.getD i 0
 |0,i,h,k,h1,h2=>by rw[C9]at h2;rw[show k=i by omega]
 |f+1,i,h,k,h1,h2=>by
   rw[C9]at h2
   split at h2
   · next hh=>
     rcases Nat.lt_or_ge i k with h3|h3
     · rw[Vl v f (i+1) hh.1 k h3 h2,hh.2]
     · rw[show k=i by omega]
   · rw[show k=i by omega]
theorem RC{v:List Int}{x:Int}: ∀ (n i:Nat),i+n≤v.length→(∀ k,i≤k→k<i+n→v.getD k 0=x)→v.take (i+n)=v.take i++List.replicate n x
 |0,i,_,_=>by simp
 |n+1,i,h,ha=>by
   rw[← Nat.add_assoc,List.take_add_one,RC n i oM (fun k h1 h2=>ha k h1 oM),List.append_assoc,List.replicate_succ']
   have e:=ha (i+n) oM oM
   rw[List.getElem?_eq_getElem oM]
   rw[show v.getD (i+n) 0=v[i+n] by simp[List.getD,show i+n<v.length by omega]]at e
   rw[e];rfl
def RdI(v:List Int)(i:Nat)(b:List UInt8):Prop:=i≤v.length∧ ∃ f,v.length-i≤f∧b=ruG v f i
theorem RdI.s{v:List Int}{i:Nat}{b:List UInt8}(h:RdI v i b)(hi:i<v.length): ∃ (x:Int) (n:Nat) (b':List UInt8),1≤n∧i+n≤v.length∧x∈v∧b=Bc x++(Ap n++b')∧RdI v (i+n) b'∧v.take (i+n)=v.take i++List.replicate n x:=by
 obtain⟨h1,f,h2,h3⟩:=h
 obtain⟨f,rfl⟩: ∃ g,f=g+1:=⟨f-1,oM⟩
 rw[ruG,if_pos hi]at h3
 have hb:=J9 v (v.length-i) i hi
 have he:=Vl v (v.length-i) i hi
 generalize C9 v (v.length-i) i=e at h3 hb he
 refine⟨v.getD e 0,e-i+1,ruG v f (e+1),oM,oM,?_,by rw[h3,List.append_assoc],⟨oM,f,oM,by rw[show i+(e-i+1)=e+1 by omega]⟩,RC _ _ oM (fun k k1 k2=>by rw[he k k1 oM,he e hb.1 (Nat.le_refl _)])⟩
 rw[show v.getD e 0=v[e]'hb.2 by simp[List.getD,hb.2]]
 exact List.getElem_mem _
theorem RdI.e{v:List Int}{i:Nat}{b:List UInt8}(h:RdI v i b)(hi:v.length≤i):b=[]:=by
 obtain⟨h1,f,h2,h3⟩:=h
 rw[h3]
 cases f with
 |zero=>rfl
 |succ f=>rw[ruG,if_neg oM]
theorem RdI.len{v:List Int}{i:Nat}{b:List UInt8}(h:RdI v i b):b.length≤(v.length-i)*22:=by
 obtain⟨h1,f,h2,rfl⟩:=h
 exact MJ v f i
def N6:Prop:= ∀ (x:Int) (n:Nat),1≤n→n≤16384→Ad Tryz.prog 247 [.sl 1 (An [x]),I n] [] (.osl 0 n 1) [some ⟨3,1,An (List.replicate n x)⟩]
theorem Adc(hrep:N6)(T:Nat)(v:List Int)(hl:v.length≤16384)(hv: ∀ x∈v,BE x):Ad Tryz.prog 219 [.ptr 0 2 0 0,I v.length] [some (cuE T (ruG v v.length 0) false)] (.osl 1 v.length 1) [some (cuE T [] false),some ⟨3,1,An v⟩]:=by
 refine BD 46 1 Tryz.func219 ?_
 refine Aa 0 [0,1] ?_
 refine Aa 1 [0,1,5] ?_
 refine A8 2 (fun s:Nat×List UInt8=>⟨[(0,.ptr 0 2 0 0),(1,I v.length),(5,.osl 1 s.1 1)],[(0,some (cuE T s.2 false)),(1,some ⟨3,1,An (v.take s.1)⟩)]⟩) (fun s=>RdI v s.1 s.2) (fun s=>v.length-s.1) (0,ruG v v.length 0) (AO (And.intro cuE.eq_1 (And.intro An.eq_1 B.eq_1)) [some 0,none] []) ?_ (h0:=⟨Nat.zero_le _,v.length,sP,rfl⟩);rintro⟨i,b⟩ hI0 Y0 hY0;skip
 refine XW.at 2 ?_;have m1:RdI v i b:=hI0;have hbl:=m1.len;have hi0:=m1.1;have htl:=R9 hi0
 refine Ah 2 ?_
 refine Ac 5 ?_
 refine Cn 12 (fun g12=>?_) (fun g12=>?_)
 any_goals(refine Ac 6 ?_;refine XO.done [0,1,5,18] ?_;(first|refine CF 18 ?_|refine A3 18 ?_))
 refine XW.at 3 ?_;obtain⟨x,n,b2,q1,q2,q3,hbq,q5,hts⟩:=m1.s oM;have hzr:=Gw x;have hun:Ae Tryz.prog 246 [U64 ((Dp x).toNat:Nat)] (fun r=>r=I x):=(by have:=NP (Dp x);rw[JT x (hv x q3)]at this;rwa [← MV]);have hb2:(Ap n++b2).length≤b.length:=(by rw[hbq];simp)
 refine Ah 3 ?_
 refine Ac 1 ?_
 refine BW 0 (Om T (Dp x).toNat (Ap n++b2) b hbq oM oM) ?_;rintro _ _ ⟨rfl,rfl⟩
 refine AG (hun) ?_;rintro _ rfl
 refine Ac 1 ?_
 refine XO.done [0,1,5,6] ?_
 refine XW.at 4 ?_;have hx:(v.length:Int)- (i:Int)=((v.length-i:Nat):Int):=oM
 refine Ah 4 ?_
 refine A2 5 ?_
 refine BW 0 (Kq T n (v.length-i) b2 (Ap n++b2) rfl oM oM oM) ?_;rintro _ _ ⟨rfl,rfl⟩
 refine Aw 1 ?_
 refine XO.done [0,1,5,6,7] ?_
 refine XW.at 5 ?_;have hx:(((n:Nat):Int)==0)=false:=sO;have hx2:decide (((n:Nat):Int)=0)=false:=sO
 refine Ah 5 ?_
 refine Aw 6 ?_
 refine BQ 33 ?_
 refine Aw 6 ?_
 refine XO.done [0,1,5,6,7] ?_
 refine Ah 6 ?_
 refine Ac 2 ?_
 refine Ag1 ?_
 refine Ac 1 ?_
 refine HO (hrep x n q1 oM) (hei:=by simp) ?_
 refine Ac 2 ?_
 refine XO.done [0,1,5] ?_
 refine XH.le ?_;(exact hY0 (i+n,b2) (q5) (by simp only;omega) _ _ (AO (And.intro cuE.eq_1 (And.intro hts B.eq_1)) [some 0,some 1] []))
 refine XW.at 7 ?_;have hi:i=v.length:=oM;have hb0:=m1.e oM;subst hi;subst hb0;have hfin2:v.take v.length=v:=List.take_length
 refine Aa 7 [4] ?_
 refine Aq ?_;((refine XB.ret [some 0,some 1] [] (hids:=⟨by simp[Al],by simp[Al],rfl⟩) (hwk:=?_) (hwh:=?_);(next=>simp[Az,lk,lkh,wk,wkL,wkE,I]);(next=>simp[Am,Ai,Ak,lkh,wkE,wkL,B,I,cuE,hfin2,FV])))
theorem Adb(hrep:N6)(v:List Int)(hl:v.length≤16384)(hv: ∀ x∈v,BE x):Ae Tryz.prog 117 [.sl 1 (Ab (B9 v 2))] (fun r=>r= .tup [.sl 1 (An v),I 0]):=by
 have hz:=MJ v v.length 0
 have e:B9 v 2=BG 2 v++ruG v v.length 0:=rfl
 have:=Aaj v hl hv (ruG v v.length 0) oM e (Adc hrep 232 v hl hv)
 rwa [e]
theorem YU(hrep:N6)(v:List Int)(hl:v.length≤16384)(hv: ∀ x∈v,BE x):Ae Tryz.prog 117 [.sl 1 (Ab (AZ v))] (fun r=>r= .tup [.sl 1 (An v),I 0]):=AeR v hl hv (Adb hrep v hl hv)
end Go.Proofs.YtpkhodjlnodagaaGreatDoor
