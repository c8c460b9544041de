/- Part 33 of the proof of PlanCandidates. -/
import Derived.Test.YtpkhodjlnodagaaGreatDoorA15
import Derived.Test.YtpkhodjlnodagaaGreatDoorA32
set_option linter.unusedSimpArgs false
set_option linter.unusedVariables false
set_option linter.unusedSectionVars false
namespace Go.Proofs.YtpkhodjlnodagaaGreatDoor
open Go.Av
set_option maxHeartbeats 4000000
set_option maxRecDepth 10000
attribute [local irreducible] XH XO Ad Af A0
section
variable [Yl] {N kk : Nat} {R : Res → Prop} {rv : List ResultVar} {st : List Fr} {n k : Nat} {ops : Array Oper} {s0 s : AS} {G : Prop} {rem : List Oper} {ts : List Av.Touch}
theorem OI(i:Nat){g:Nat}{xs:List AV}{b b':List UInt8}{o:Oper}(q:D4 g xs b b')(h:XO Tryz.prog n ops s0 G (k+1) rem ⟨BR o.dst (.osl (n+8*k) b'.length 1) s.env,[(n+8*k,some ⟨5,1,Ab b'⟩),(i,none)]++s.hp⟩ ((k,[i],[i,n+8*k])::ts))(hcl:oCl o (lk s.env)=some (g,.osl i b.length 1::xs):=by rfl)(hgd:BI ops (lk s.env) o=some true:=by rfl)
   (h1:lkh s.hp i=some ⟨5,1,Ab b⟩:=by rfl) (qa:AE 0 xs=true:=by rfl):XO Tryz.prog n ops s0 G k (o::rem) s ts:=by
 have e0:Bs [i] (n+8*k) 0=i:=rfl
 have e1:Bs [i] (n+8*k) 1=n+8*k:=rfl
 have hb: ∀ l:List UInt8,Cv (Bs [i] (n+8*k)) ⟨5,1,Ab l⟩=⟨5,1,Ab l⟩:=fun l=>Cm _ (A3 0 l)
 refine AaD [i] (xa:= .osl 0 b.length 1::xs) (hs:=[⟨5,1,Ab b⟩]) q hcl hgd ?_ (by simp) ⟨?_,A3 _ _,trivial⟩ (by simp) (by simp) ?_ (by simp) ?_
 · simp only[BJ,ren,e0]
   rw[CE _ _ qa]
   exact Cn _ _
 · rw[h1,hb]
 · simp only[AE,AO,Bool.and_eq_true]
   exact⟨by simp,EH _ _ qa⟩
 · have hw:DM (Bs [i] (n+8*k)) 0 [none,some ⟨5,1,Ab b'⟩]=[(i,none),(n+8*k,some ⟨5,1,Ab b'⟩)]:=by
     simp only[DM,Option.map_some,Option.map_none,hb,e0,Nat.zero_add,e1]
   rw[hw]
   simp only[ren,e1]
   exact h
end
def OX:List Value:=[.func (.func 249) #[] #[],.func (.func 250) #[] #[],.func (.func 251) #[] #[],.func (.func 252) #[] #[]]
def OO:List Value:=[.func (.func 217) #[] #[],.func (.func 218) #[] #[],.func (.func 219) #[] #[],.func (.func 220) #[] #[]]
theorem H4:Ad Tryz.prog 222 [] (fun r=>r= .agg (OX.map .val)):=by
 refine Au 2 Tryz.func222 ?_
 refine Aa 0 [0] ?_
 refine Ae 1 ?_
 refine XO.raw (V6 (parts:= #[(0,.func 249),(1,.func 250),(2,.func 251),(3,.func 252)]) (pv:= #[(0,.func (.func 249) #[] #[]),(1,.func (.func 250) #[] #[]),(2,.func (.func 251) #[] #[]),(3,.func (.func 252) #[] #[])]) (vs:=OX) (fun a=>by simp[Act.eval]) (by kernel_rfl)) ?_
 refine Ac 1 ?_
 refine XO.done [0] ?_
 refine Ap ?_;((exact Bc rfl))
theorem H5:Ad Tryz.prog 178 [] (fun r=>r= .agg (OO.map .val)):=by
 refine Au 2 Tryz.func178 ?_
 refine Aa 0 [0] ?_
 refine Ae 1 ?_
 refine XO.raw (V6 (parts:= #[(0,.func 217),(1,.func 218),(2,.func 219),(3,.func 220)]) (pv:= #[(0,.func (.func 217) #[] #[]),(1,.func (.func 218) #[] #[]),(2,.func (.func 219) #[] #[]),(3,.func (.func 220) #[] #[])]) (vs:=OO) (fun a=>by simp[Act.eval]) (by kernel_rfl)) ?_
 refine Ac 1 ?_
 refine XO.done [0] ?_
 refine Ap ?_;((exact Bc rfl))
theorem Aah{t:TypeId}(h:(Ao Tryz.prog t).map (fun te=>(te.size,Dv te.desc))=some (1,false)): ∃ te,Ao Tryz.prog t=some te∧te.size=1∧Dv te.desc=false:=by
 cases h2:Ao Tryz.prog t with
 |none=>rw[h2]at h;cases h
 |some te=>rw[h2]at h;simp only[Option.map_some,Option.some.injEq,Prod.mk.injEq]at h;exact⟨te,rfl,h.1,h.2⟩
theorem Qv: ∃ te,Ao Tryz.prog 243=some te∧te.size=1∧Dv te.desc=false:=Aah (by kernel_rfl)
theorem Qh: ∃ te,Ao Tryz.prog 233=some te∧te.size=1∧Dv te.desc=false:=Aah (by kernel_rfl)
theorem Oe(v:List Int)(hl:v.length≤16384):IntKind.u64.wrap (v.length:Int)=((v.length:Nat):Int):=IntWalk.u64_in _ (by omega)
theorem QB(k:Nat)(v:List Int)(hl:v.length≤16384):D4 223 [U64 v.length] [UInt8.ofNat k] (BD k v):=Pn [UInt8.ofNat k] v.length (by omega) (by simp)
theorem Ve(v:List Int)(hl:v.length≤16384)(hv: ∀ x∈v,Ce x):Ad Tryz.prog 180 [I 0,.sl 1 (Ak v)] (fun r=>r= .tup [.sl 1 (Ab (Cq v v.length)),I 0]):=by
 obtain⟨te3,ht3,hs3,ha3⟩:=Qv
 have hu:=Oe v hl
 have h8:IntKind.u8.wrap (0:Int)=0:=by decide
 refine Au 29 Tryz.func180 ?_
 refine Aa 0 [0,1] ?_
 refine Ae 1 ?_
 refine Ac 3 ?_
 refine BE 9 ?_
 refine Ac 4 ?_
 refine XO.done [0,1,6] ?_
 refine AM 6 ?_
 refine Aa 3 [0,1,13] ?_
 refine Az 13 (fun c13=>?_) (fun c13=>?_)
 exfalso;omega
 refine XW.at 5 ?_;have hx:=h8;have hx2:=hu
 refine Ae 5 ?_
 refine AC (H4) ?_;rintro _ rfl
 refine Aq 1 ?_
 refine XO.raw (Ir (BQ _) (t:=267) (e:=243) (len:=4) (j:=0) (vs:=OX) VK ht3 hs3 ha3 rfl rfl (by decide) rfl) ?_
 refine AP 6 ?_
 refine FJ 40 (QB 0 v hl) ?_
 refine Aq 1 ?_
 refine OI 72 (Ye v hl) ?_
 refine Aq 2 ?_
 refine XO.done [4,5] ?_
 refine Ap ?_;(exact Ff rfl (hm:=by rw[Cw]))
theorem VB(v:List Int)(hl:v.length≤16384)(hv: ∀ x∈v,Ce x):Ad Tryz.prog 180 [I 1,.sl 1 (Ak v)] (fun r=>r= .tup [.sl 1 (Ab (B3 v v.length)),I 0]):=by
 obtain⟨te3,ht3,hs3,ha3⟩:=Qv
 have hu:=Oe v hl
 have h8:IntKind.u8.wrap (1:Int)=1:=by decide
 refine Au 29 Tryz.func180 ?_
 refine Aa 0 [0,1] ?_
 refine Ae 1 ?_
 refine Ac 3 ?_
 refine BE 9 ?_
 refine Ac 4 ?_
 refine XO.done [0,1,6] ?_
 refine AM 6 ?_
 refine Aa 3 [0,1,13] ?_
 refine Az 13 (fun c13=>?_) (fun c13=>?_)
 exfalso;omega
 refine XW.at 5 ?_;have hx:=h8;have hx2:=hu
 refine Ae 5 ?_
 refine AC (H4) ?_;rintro _ rfl
 refine Aq 1 ?_
 refine XO.raw (Ir (BQ _) (t:=267) (e:=243) (len:=4) (j:=1) (vs:=OX) VK ht3 hs3 ha3 rfl rfl (by decide) rfl) ?_
 refine AP 6 ?_
 refine FJ 40 (QB 1 v hl) ?_
 refine Aq 1 ?_
 refine OI 72 (ZZ v hl hv) ?_
 refine Aq 2 ?_
 refine XO.done [4,5] ?_
 refine Ap ?_;(exact Ff rfl (hm:=by rw[Cw]))
theorem Vj(v:List Int)(hl:v.length≤16384)(hv: ∀ x∈v,Ce x):Ad Tryz.prog 180 [I 2,.sl 1 (Ak v)] (fun r=>r= .tup [.sl 1 (Ab (FA v)),I 0]):=by
 obtain⟨te3,ht3,hs3,ha3⟩:=Qv
 have hu:=Oe v hl
 have h8:IntKind.u8.wrap (2:Int)=2:=by decide
 refine Au 29 Tryz.func180 ?_
 refine Aa 0 [0,1] ?_
 refine Ae 1 ?_
 refine Ac 3 ?_
 refine BE 9 ?_
 refine Ac 4 ?_
 refine XO.done [0,1,6] ?_
 refine AM 6 ?_
 refine Aa 3 [0,1,13] ?_
 refine Az 13 (fun c13=>?_) (fun c13=>?_)
 exfalso;omega
 refine XW.at 5 ?_;have hx:=h8;have hx2:=hu
 refine Ae 5 ?_
 refine AC (H4) ?_;rintro _ rfl
 refine Aq 1 ?_
 refine XO.raw (Ir (BQ _) (t:=267) (e:=243) (len:=4) (j:=2) (vs:=OX) VK ht3 hs3 ha3 rfl rfl (by decide) rfl) ?_
 refine AP 6 ?_
 refine FJ 40 (QB 2 v hl) ?_
 refine Aq 1 ?_
 refine OI 72 (AbK v hl) ?_
 refine Aq 2 ?_
 refine XO.done [4,5] ?_
 refine Ap ?_;(exact Ff rfl (hm:=by rw[Cw]))
theorem VN(v:List Int)(hl:v.length≤16384)(hv: ∀ x∈v,Ce x)(h0:0<v.length):Ad Tryz.prog 180 [I 3,.sl 1 (Ak v)] (fun r=>r= .tup [.sl 1 (Ab (E6 v)),I 0]):=by
 obtain⟨te3,ht3,hs3,ha3⟩:=Qv
 have hu:=Oe v hl
 have h8:IntKind.u8.wrap (3:Int)=3:=by decide
 refine Au 29 Tryz.func180 ?_
 refine Aa 0 [0,1] ?_
 refine Ae 1 ?_
 refine Ac 3 ?_
 refine BE 9 ?_
 refine Ac 4 ?_
 refine XO.done [0,1,6] ?_
 refine AM 6 ?_
 refine Aa 3 [0,1,13] ?_
 refine Az 13 (fun c13=>?_) (fun c13=>?_)
 exfalso;omega
 refine XW.at 5 ?_;have hx:=h8;have hx2:=hu
 refine Ae 5 ?_
 refine AC (H4) ?_;rintro _ rfl
 refine Aq 1 ?_
 refine XO.raw (Ir (BQ _) (t:=267) (e:=243) (len:=4) (j:=3) (vs:=OX) VK ht3 hs3 ha3 rfl rfl (by decide) rfl) ?_
 refine AP 6 ?_
 refine FJ 40 (QB 3 v hl) ?_
 refine Aq 1 ?_
 refine OI 72 (VW v h0 hl) ?_
 refine Aq 2 ?_
 refine XO.done [4,5] ?_
 refine Ap ?_;(exact Ff rfl (hm:=by rw[Cw]))
theorem KF(v:List Int)(hl:v.length≤16384)(hv: ∀ x∈v,Ce x)(k:Nat)(hk:k≤3)(h0:k=3→0<v.length):Ad Tryz.prog 180 [I k,.sl 1 (Ak v)] (fun r=>r= .tup [.sl 1 (Ab (B7 v k)),I 0]):=
 match k,hk,h0 with
 |0,_,_=>Ve v hl hv
 |1,_,_=>VB v hl hv
 |2,_,_=>Vj v hl hv
 |3,_,h0=>VN v hl hv (h0 rfl)
def zs:List Int→List UInt8
 | []=>[]
 |x::l=>Be x++zs l
theorem Wr(a b:List Int):zs (a++b)=zs a++zs b:=by
 induction a with
 |nil=>rfl
 |cons x l ih=>simp only[List.cons_append,zs,ih,List.append_assoc]
theorem Afz{v:List Int}{i:Nat}{x:Int}(h:v[i]? =some x)(R:List UInt8):zs (v.drop i)++R=Be x++(zs (v.drop (i+1))++R):=by
 obtain⟨hl,rfl⟩:=List.getElem?_eq_some_iff.1 h
 rw[List.drop_eq_getElem_cons hl,zs,List.append_assoc]
theorem R7(v:List Int):(zs v).length≤v.length*11:=by
 induction v with
 |nil=>simp[zs]
 |cons x l ih=>
   have:=CV x
   simp only[zs,List.length_append,List.length_cons];omega
theorem Uf(v:List Int): ∀ i,i≤v.length→Cq v i=BD 0 v++zs (v.take i)
 |0,_=>by simp[Cq,zs]
 |i+1,h=>by
   rw[Cq,Uf v i (by omega),List.take_add_one,Wr]
   rw[List.getElem?_eq_getElem (by omega)]
   simp[zs,List.getD,show i<v.length by omega]
theorem Acl{v:List Int}{i:Nat}{x:Int}(h:v[i]? =some x):v.take (i+1)=v.take i++[x]:=by
 rw[List.take_add_one,h];rfl
theorem Se{v:List Int}{i:Nat}(h:i≤v.length):(v.take i).length=i:=by rw[List.length_take];omega
theorem Ki(T:Nat)(v:Nat)(most:Nat)(R b:List UInt8)(hb:b=An v++R)(hv:v≤most)(hm:most<2^28)(hl:b.length≤2^40):A0 Tryz.prog 179 2 [I most] (cuE T b false) (fun r e=>r=I v∧e=cuE T R false):=by
 all_goals refine D7 17 (fn:=Tryz.f179) Tryz.func179 rfl rfl rfl (by simp) rfl ?_
 refine Aa 0 [0,1] ?_
 refine Ae 1 ?_
 refine Ac 1 ?_
 refine BM 0 (Ot T v R b hb (by omega) hl) ?_;rintro _ _ ⟨rfl,rfl⟩
 refine Ac 1 ?_
 refine XO.done [0,1,5] ?_
 refine XW.at 2 ?_;have hx:IntKind.u64.wrap (most:Int)=((most:Nat):Int):=IntWalk.u64_in _ (by omega)
 refine Ba 2 [0,5,11] ?_
 refine AM 11 ?_
 refine Ba 5 [4] ?_
 refine Ap ?_;((refine GM ?_;simp[Ax,cuE,B,I]))
theorem Q8(T:Nat)(v:List Int)(R:List UInt8)(hl:v.length≤16384)(hv: ∀ x∈v,Ce x)(hr:R.length≤2^30):Af Tryz.prog 217 [.ptr 0 2 0 0,I v.length] [some (cuE T (zs v++R) false)] (.osl 1 v.length 1) [some (cuE T R false),some ⟨3,1,Ak v⟩]:=by
 refine BB 24 1 Tryz.func217 ?_
 refine Ae 0 ?_
 refine Ac 1 ?_
 refine A4 [0,1] ?_
 refine Ae 1 ?_
 refine Ac 1 ?_
 refine A4 [0,1,5] ?_
 refine AX 2 (fun i:Nat=>⟨[(0,.ptr 0 2 0 0),(1,I v.length),(5,.osl 1 i 1)],[(0,some (cuE T (zs (v.drop i)++R) false)),(1,some ⟨3,1,Ak (v.take i)⟩)]⟩) (fun i=>i≤v.length) (fun i=>v.length-i) 0 (AD (And.intro cuE.eq_1 (And.intro Ak.eq_1 B.eq_1)) [some 0,none] []) ?_ (h0:=Nat.zero_le _);rintro i hI0 Y0 hY0;skip
 refine XW.at 2 ?_;have m1:=hI0;have hzl:=R7 (v.drop i);rw[List.length_drop]at hzl;have htl:=Se m1
 refine Ae 2 ?_
 refine Ac 5 ?_
 refine BV 10 (fun g10=>?_) (fun g10=>?_)
 any_goals(refine Ac 6 ?_;refine A4 [0,1,5,16] ?_;(first|refine Cd 16 ?_|refine AM 16 ?_))
 refine XW.at 3 ?_;obtain⟨x,hxi,hxm⟩:=Bd v i (by omega);have hzr:=Gp x;have hun:Ad Tryz.prog 246 [U64 ((Dn x).toNat:Nat)] (fun r=>r=I x):=(by have:=Nk (Dn x);rw[JG x (hv x hxm)]at this;rwa [← Me]);have hts:=Acl hxi
 refine Ae 3 ?_
 refine Aq 2 ?_
 refine BM 0 (Ot T (Dn x).toNat (zs (v.drop (i+1))++R) (zs (v.drop i)++R) (Afz hxi R) (by omega) (by rw[List.length_append];omega)) ?_;rintro _ _ ⟨rfl,rfl⟩
 refine AC (hun) ?_;rintro _ rfl
 refine Aq 3 ?_
 refine A4 [0,1,5] ?_
 refine XH.le ?_;(exact hY0 (i+1) (by omega) (by omega) _ _ (AD (And.intro cuE.eq_1 (And.intro hts B.eq_1)) [some 0,some 1] []))
 refine XW.at 4 ?_;obtain rfl:i=v.length:=(by omega);have hfin1:zs (v.drop v.length)++R=R:=(by rw[List.drop_length];rfl);have hfin2:v.take v.length=v:=List.take_length
 refine Ae 4 ?_
 refine Ac 2 ?_
 refine A4 [4] ?_
 refine Ap ?_;((refine XB.ret [some 0,some 1] [] (hids:=⟨by simp[Al],by simp[Al],rfl⟩) (hwk:=?_) (hwh:=?_);(next=>simp[Ax,lk,lkh,wk,wkL,wkE,I]);(next=>simp[Am,Ai,Aj,lkh,wkE,wkL,B,I,cuE,zs,hfin2])))
end Go.Proofs.YtpkhodjlnodagaaGreatDoor
