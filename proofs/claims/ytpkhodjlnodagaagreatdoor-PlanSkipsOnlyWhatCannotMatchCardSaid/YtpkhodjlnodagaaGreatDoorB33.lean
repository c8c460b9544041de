/- Part 33 of the proof of PlanSkipsOnlyWhatCannotMatch. -/
import Derived.Test.YtpkhodjlnodagaaGreatDoorB15
import Derived.Test.YtpkhodjlnodagaaGreatDoorB32
set_option linter.unusedSimpArgs false
set_option linter.unusedVariables false
set_option linter.unusedSectionVars false
namespace Go.Proofs.YtpkhodjlnodagaaGreatDoor
open Go.Av
set_option maxHeartbeats 4000000
set_option maxRecDepth 10000
attribute [local irreducible] XH XO Ae Ad AU
section
variable [Yl] {N kk : Nat} {R : Res → Prop} {rv : List ResultVar} {st : List Fr} {n k : Nat} {ops : Array Oper} {s0 s : AS} {G : Prop} {rem : List Oper} {ts : List Av.Touch}
theorem OZ(i:Nat){g:Nat}{xs:List AV}{b b':List UInt8}{o:Oper}(q:D4 g xs b b')(h:XO Tryz.prog n ops s0 G (k+1) rem ⟨BV o.dst (.osl (n+8*k) b'.length 1) s.env,[(n+8*k,some ⟨5,1,Ab b'⟩),(i,none)]++s.hp⟩ ((k,[i],[i,n+8*k])::ts))(hcl:oCl o (lk s.env)=some (g,.osl i b.length 1::xs):=by rfl)(hgd:BM ops (lk s.env) o=some true:=by rfl)
   (h1:lkh s.hp i=some ⟨5,1,Ab b⟩:=by rfl) (qa:AF 0 xs=true:=by rfl):XO Tryz.prog n ops s0 G k (o::rem) s ts:=by
 have e0:Bu [i] (n+8*k) 0=i:=rfl
 have e1:Bu [i] (n+8*k) 1=n+8*k:=rfl
 have hb: ∀ l:List UInt8,Cy (Bu [i] (n+8*k)) ⟨5,1,Ab l⟩=⟨5,1,Ab l⟩:=fun l=>Cr _ (A5 0 l)
 refine AbH [i] (xa:= .osl 0 b.length 1::xs) (hs:=[⟨5,1,Ab b⟩]) q hcl hgd ?_ sP ⟨?_,A5 _ _,trivial⟩ sP sP ?_ sP ?_
 · simp only[BK,ren,e0]
   rw[CJ _ _ qa]
   exact Cq _ _
 · rw[h1,hb]
 · simp only[AF,AN,Bool.and_eq_true]
   exact⟨sP,EK _ _ qa⟩
 · have hw:DK (Bu [i] (n+8*k)) 0 [none,some ⟨5,1,Ab b'⟩]=[(i,none),(n+8*k,some ⟨5,1,Ab b'⟩)]:=by
     simp only[DK,Option.map_some,Option.map_none,hb,e0,Nat.zero_add,e1]
   rw[hw]
   simp only[ren,e1]
   exact h
end
def PG:List Value:=[.func (.func 249) #[] #[],.func (.func 250) #[] #[],.func (.func 251) #[] #[],.func (.func 252) #[] #[]]
def Pn:List Value:=[.func (.func 217) #[] #[],.func (.func 218) #[] #[],.func (.func 219) #[] #[],.func (.func 220) #[] #[]]
theorem Ih:Ae Tryz.prog 222 [] (fun r=>r= .agg (PG.map .val)):=by
 refine Ax 2 Tryz.func222 ?_
 refine Aa 0 [0] ?_
 refine Ah 1 ?_
 refine XO.raw (YD (parts:= #[(0,.func 249),(1,.func 250),(2,.func 251),(3,.func 252)]) (pv:= #[(0,.func (.func 249) #[] #[]),(1,.func (.func 250) #[] #[]),(2,.func (.func 251) #[] #[]),(3,.func (.func 252) #[] #[])]) (vs:=PG) (fun a=>by simp[Act.eval]) (by kernel_rfl)) ?_
 refine Ac 1 ?_
 refine XO.done [0] ?_
 refine Aq ?_;((exact Bo rfl))
theorem If:Ae Tryz.prog 178 [] (fun r=>r= .agg (Pn.map .val)):=by
 refine Ax 2 Tryz.func178 ?_
 refine Aa 0 [0] ?_
 refine Ah 1 ?_
 refine XO.raw (YD (parts:= #[(0,.func 217),(1,.func 218),(2,.func 219),(3,.func 220)]) (pv:= #[(0,.func (.func 217) #[] #[]),(1,.func (.func 218) #[] #[]),(2,.func (.func 219) #[] #[]),(3,.func (.func 220) #[] #[])]) (vs:=Pn) (fun a=>by simp[Act.eval]) (by kernel_rfl)) ?_
 refine Ac 1 ?_
 refine XO.done [0] ?_
 refine Aq ?_;((exact Bo rfl))
theorem AbP{t:TypeId}(h:(Ao Tryz.prog t).map (fun te=>(te.size,Dw te.desc))=some (1,false)): ∃ te,Ao Tryz.prog t=some te∧te.size=1∧Dw te.desc=false:=by
 cases h2:Ao Tryz.prog t with
 |none=>rw[h2]at h;cases h
 |some te=>rw[h2]at h;simp only[Option.map_some,Option.some.injEq,Prod.mk.injEq]at h;exact⟨te,rfl,h.1,h.2⟩
theorem QP: ∃ te,Ao Tryz.prog 243=some te∧te.size=1∧Dw te.desc=false:=AbP (by kernel_rfl)
theorem QG: ∃ te,Ao Tryz.prog 233=some te∧te.size=1∧Dw te.desc=false:=AbP (by kernel_rfl)
theorem O9(v:List Int)(hl:v.length≤16384):IntKind.u64.wrap (v.length:Int)=((v.length:Nat):Int):=IntWalk.u64_in _ oM
theorem QJ(k:Nat)(v:List Int)(hl:v.length≤16384):D4 223 [U64 v.length] [UInt8.ofNat k] (BG k v):=Pk [UInt8.ofNat k] v.length oM sP
theorem VM(v:List Int)(hl:v.length≤16384)(hv: ∀ x∈v,BE x):Ae Tryz.prog 180 [I 0,.sl 1 (An v)] (fun r=>r= .tup [.sl 1 (Ab (Cv v v.length)),I 0]):=by
 obtain⟨te3,ht3,hs3,ha3⟩:=QP
 have hu:=O9 v hl
 have h8:IntKind.u8.wrap (0:Int)=0:=by decide
 refine Ax 29 Tryz.func180 ?_
 refine Aa 0 [0,1] ?_
 refine Ah 1 ?_
 refine Ac 3 ?_
 refine BQ 9 ?_
 refine Ac 4 ?_
 refine XO.done [0,1,6] ?_
 refine A3 6 ?_
 refine Aa 3 [0,1,13] ?_
 refine AC 13 (fun c13=>?_) (fun c13=>?_)
 exfalso;omega
 refine XW.at 5 ?_;have hx:=h8;have hx2:=hu
 refine Ah 5 ?_
 refine AG (Ih) ?_;rintro _ rfl
 refine Aw 1 ?_
 refine XO.raw (Ip (BU _) (t:=267) (e:=243) (len:=4) (j:=0) (vs:=PG) V4 ht3 hs3 ha3 rfl rfl dC rfl) ?_
 refine A2 6 ?_
 refine Fw 40 (QJ 0 v hl) ?_
 refine Aw 1 ?_
 refine OZ 72 (Aaz v hl) ?_
 refine Aw 2 ?_
 refine XO.done [4,5] ?_
 refine Aq ?_;(exact Hw rfl (hm:=by rw[CB]))
theorem V2(v:List Int)(hl:v.length≤16384)(hv: ∀ x∈v,BE x):Ae Tryz.prog 180 [I 1,.sl 1 (An v)] (fun r=>r= .tup [.sl 1 (Ab (B6 v v.length)),I 0]):=by
 obtain⟨te3,ht3,hs3,ha3⟩:=QP
 have hu:=O9 v hl
 have h8:IntKind.u8.wrap (1:Int)=1:=by decide
 refine Ax 29 Tryz.func180 ?_
 refine Aa 0 [0,1] ?_
 refine Ah 1 ?_
 refine Ac 3 ?_
 refine BQ 9 ?_
 refine Ac 4 ?_
 refine XO.done [0,1,6] ?_
 refine A3 6 ?_
 refine Aa 3 [0,1,13] ?_
 refine AC 13 (fun c13=>?_) (fun c13=>?_)
 exfalso;omega
 refine XW.at 5 ?_;have hx:=h8;have hx2:=hu
 refine Ah 5 ?_
 refine AG (Ih) ?_;rintro _ rfl
 refine Aw 1 ?_
 refine XO.raw (Ip (BU _) (t:=267) (e:=243) (len:=4) (j:=1) (vs:=PG) V4 ht3 hs3 ha3 rfl rfl dC rfl) ?_
 refine A2 6 ?_
 refine Fw 40 (QJ 1 v hl) ?_
 refine Aw 1 ?_
 refine OZ 72 (Abl v hl hv) ?_
 refine Aw 2 ?_
 refine XO.done [4,5] ?_
 refine Aq ?_;(exact Hw rfl (hm:=by rw[CB]))
theorem VG(v:List Int)(hl:v.length≤16384)(hv: ∀ x∈v,BE x):Ae Tryz.prog 180 [I 2,.sl 1 (An v)] (fun r=>r= .tup [.sl 1 (Ab (FJ v)),I 0]):=by
 obtain⟨te3,ht3,hs3,ha3⟩:=QP
 have hu:=O9 v hl
 have h8:IntKind.u8.wrap (2:Int)=2:=by decide
 refine Ax 29 Tryz.func180 ?_
 refine Aa 0 [0,1] ?_
 refine Ah 1 ?_
 refine Ac 3 ?_
 refine BQ 9 ?_
 refine Ac 4 ?_
 refine XO.done [0,1,6] ?_
 refine A3 6 ?_
 refine Aa 3 [0,1,13] ?_
 refine AC 13 (fun c13=>?_) (fun c13=>?_)
 exfalso;omega
 refine XW.at 5 ?_;have hx:=h8;have hx2:=hu
 refine Ah 5 ?_
 refine AG (Ih) ?_;rintro _ rfl
 refine Aw 1 ?_
 refine XO.raw (Ip (BU _) (t:=267) (e:=243) (len:=4) (j:=2) (vs:=PG) V4 ht3 hs3 ha3 rfl rfl dC rfl) ?_
 refine A2 6 ?_
 refine Fw 40 (QJ 2 v hl) ?_
 refine Aw 1 ?_
 refine OZ 72 (Acw v hl) ?_
 refine Aw 2 ?_
 refine XO.done [4,5] ?_
 refine Aq ?_;(exact Hw rfl (hm:=by rw[CB]))
theorem VN(v:List Int)(hl:v.length≤16384)(hv: ∀ x∈v,BE x)(h0:0<v.length):Ae Tryz.prog 180 [I 3,.sl 1 (An v)] (fun r=>r= .tup [.sl 1 (Ab (E8 v)),I 0]):=by
 obtain⟨te3,ht3,hs3,ha3⟩:=QP
 have hu:=O9 v hl
 have h8:IntKind.u8.wrap (3:Int)=3:=by decide
 refine Ax 29 Tryz.func180 ?_
 refine Aa 0 [0,1] ?_
 refine Ah 1 ?_
 refine Ac 3 ?_
 refine BQ 9 ?_
 refine Ac 4 ?_
 refine XO.done [0,1,6] ?_
 refine A3 6 ?_
 refine Aa 3 [0,1,13] ?_
 refine AC 13 (fun c13=>?_) (fun c13=>?_)
 exfalso;omega
 refine XW.at 5 ?_;have hx:=h8;have hx2:=hu
 refine Ah 5 ?_
 refine AG (Ih) ?_;rintro _ rfl
 refine Aw 1 ?_
 refine XO.raw (Ip (BU _) (t:=267) (e:=243) (len:=4) (j:=3) (vs:=PG) V4 ht3 hs3 ha3 rfl rfl dC rfl) ?_
 refine A2 6 ?_
 refine Fw 40 (QJ 3 v hl) ?_
 refine Aw 1 ?_
 refine OZ 72 (Xn v h0 hl) ?_
 refine Aw 2 ?_
 refine XO.done [4,5] ?_
 refine Aq ?_;(exact Hw rfl (hm:=by rw[CB]))
theorem La(v:List Int)(hl:v.length≤16384)(hv: ∀ x∈v,BE x)(k:Nat)(hk:k≤3)(h0:k=3→0<v.length):Ae Tryz.prog 180 [I k,.sl 1 (An v)] (fun r=>r= .tup [.sl 1 (Ab (B9 v k)),I 0]):=
 match k,hk,h0 with
 |0,_,_=>VM v hl hv
 |1,_,_=>V2 v hl hv
 |2,_,_=>VG v hl hv
 |3,_,h0=>VN v hl hv (h0 rfl)
def zs:List Int→List UInt8
 | []=>[]
 |x::l=>Bc x++zs l
theorem XZ(a b:List Int):zs (a++b)=zs a++zs b:=by
 induction a with
 |nil=>rfl
 |cons x l ih=>simp only[List.cons_append,zs,ih,List.append_assoc]
theorem AhJ{v:List Int}{i:Nat}{x:Int}(h:v[i]? =some x)(R:List UInt8):zs (v.drop i)++R=Bc x++(zs (v.drop (i+1))++R):=by
 obtain⟨hl,rfl⟩:=List.getElem?_eq_some_iff.1 h
 rw[List.drop_eq_getElem_cons hl,zs,List.append_assoc]
theorem S1(v:List Int):(zs v).length≤v.length*11:=by
 induction v with
 |nil=>simp[zs]
 |cons x l ih=>
   have:=C1 x
   simp only[zs,List.length_append,List.length_cons];omega
theorem Ui(v:List Int): ∀ i,i≤v.length→Cv v i=BG 0 v++zs (v.take i)
 |0,_=>by simp[Cv,zs]
 |i+1,h=>by
   rw[Cv,Ui v i oM,List.take_add_one,XZ]
   rw[List.getElem?_eq_getElem oM]
   simp[zs,List.getD,show i<v.length by omega]
theorem Aem{v:List Int}{i:Nat}{x:Int}(h:v[i]? =some x):v.take (i+1)=v.take i++[x]:=by
 rw[List.take_add_one,h];rfl
theorem R9{v:List Int}{i:Nat}(h:i≤v.length):(v.take i).length=i:=by rw[List.length_take];omega
theorem Kq(T:Nat)(v:Nat)(most:Nat)(R b:List UInt8)(hb:b=Ap v++R)(hv:v≤most)(hm:most<2^28)(hl:b.length≤2^40):AU Tryz.prog 179 2 [I most] (cuE T b false) (fun r e=>r=I v∧e=cuE T R false):=by
 all_goals refine Eb 17 (fn:=Tryz.f179) Tryz.func179 rfl rfl rfl sP rfl ?_
 refine Aa 0 [0,1] ?_
 refine Ah 1 ?_
 refine Ac 1 ?_
 refine BW 0 (Om T v R b hb oM hl) ?_;rintro _ _ ⟨rfl,rfl⟩
 refine Ac 1 ?_
 refine XO.done [0,1,5] ?_
 refine XW.at 2 ?_;have hx:IntKind.u64.wrap (most:Int)=((most:Nat):Int):=IntWalk.u64_in _ oM
 refine A4 2 [0,5,11] ?_
 refine A3 11 ?_
 refine A4 5 [4] ?_
 refine Aq ?_;((refine G4 ?_;simp[Az,cuE,B,I]))
theorem RU(T:Nat)(v:List Int)(R:List UInt8)(hl:v.length≤16384)(hv: ∀ x∈v,BE x)(hr:R.length≤2^30):Ad Tryz.prog 217 [.ptr 0 2 0 0,I v.length] [some (cuE T (zs v++R) false)] (.osl 1 v.length 1) [some (cuE T R false),some ⟨3,1,An v⟩]:=by
 refine BD 24 1 Tryz.func217 ?_
 refine Ah 0 ?_
 refine Ac 1 ?_
 refine A7 [0,1] ?_
 refine Ah 1 ?_
 refine Ac 1 ?_
 refine A7 [0,1,5] ?_
 refine A8 2 (fun i:Nat=>⟨[(0,.ptr 0 2 0 0),(1,I v.length),(5,.osl 1 i 1)],[(0,some (cuE T (zs (v.drop i)++R) false)),(1,some ⟨3,1,An (v.take i)⟩)]⟩) (fun i=>i≤v.length) (fun i=>v.length-i) 0 (AO (And.intro cuE.eq_1 (And.intro An.eq_1 B.eq_1)) [some 0,none] []) ?_ (h0:=Nat.zero_le _);rintro i hI0 Y0 hY0;skip
 refine XW.at 2 ?_;have m1:=hI0;have hzl:=S1 (v.drop i);rw[List.length_drop]at hzl;have htl:=R9 m1
 refine Ah 2 ?_
 refine Ac 5 ?_
 refine Cn 10 (fun g10=>?_) (fun g10=>?_)
 any_goals(refine Ac 6 ?_;refine A7 [0,1,5,16] ?_;(first|refine CF 16 ?_|refine A3 16 ?_))
 refine XW.at 3 ?_;obtain⟨x,hxi,hxm⟩:=Bm v i oM;have hzr:=Gw x;have hun:Ae Tryz.prog 246 [U64 ((Dp x).toNat:Nat)] (fun r=>r=I x):=(by have:=NP (Dp x);rw[JT x (hv x hxm)]at this;rwa [← MV]);have hts:=Aem hxi
 refine Ah 3 ?_
 refine Aw 2 ?_
 refine BW 0 (Om T (Dp x).toNat (zs (v.drop (i+1))++R) (zs (v.drop i)++R) (AhJ hxi R) oM (by rw[List.length_append];omega)) ?_;rintro _ _ ⟨rfl,rfl⟩
 refine AG (hun) ?_;rintro _ rfl
 refine Aw 3 ?_
 refine A7 [0,1,5] ?_
 refine XH.le ?_;(exact hY0 (i+1) oM oM _ _ (AO (And.intro cuE.eq_1 (And.intro hts B.eq_1)) [some 0,some 1] []))
 refine XW.at 4 ?_;obtain rfl:i=v.length:=oM;have hfin1:zs (v.drop v.length)++R=R:=(by rw[List.drop_length];rfl);have hfin2:v.take v.length=v:=List.take_length
 refine Ah 4 ?_
 refine Ac 2 ?_
 refine A7 [4] ?_
 refine Aq ?_;((refine XB.ret [some 0,some 1] [] (hids:=⟨by simp[Al],by simp[Al],rfl⟩) (hwk:=?_) (hwh:=?_);(next=>simp[Az,lk,lkh,wk,wkL,wkE,I]);(next=>simp[Am,Ai,Ak,lkh,wkE,wkL,B,I,cuE,zs,hfin2])))
end Go.Proofs.YtpkhodjlnodagaaGreatDoor
