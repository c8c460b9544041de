/- Part 19 of the proof of PlanSkipsOnlyWhatCannotMatch. -/
import Derived.Test.YtpkhodjlnodagaaGreatDoorB18
import Derived.IntWalk
set_option linter.unusedSimpArgs false
set_option linter.unusedVariables false
set_option linter.unusedSectionVars false
namespace Go.Proofs.YtpkhodjlnodagaaGreatDoor
open Go.Av
set_option maxHeartbeats 4000000
attribute [local irreducible] Ad
def BL:Nat→Nat→List UInt8
 |0,v=>[UInt8.ofNat v]
 |k+1,v=>if v<128 then [UInt8.ofNat v]else UInt8.ofNat (v%128+128)::BL k (v / 128)
def Ap(v:Nat):List UInt8:=BL 10 v
theorem IW(u:Nat):IntKind.u8.wrap (u:Int)=((u%256:Nat):Int):=by
 simp[IntKind.wrap,IntKind.bits,IntKind.signed]
theorem Ab5(u:Nat):AP .or .u8 (IntKind.u8.wrap (u:Int)) 128=((u%128+128:Nat):Int):=by
 rw[IW]
 have h: ∀ x:Fin 256,AP .or .u8 ((x.val:Nat):Int) 128=((x.val%128+128:Nat):Int):=by decide+kernel
 have:=h ⟨u%256,Nat.mod_lt _ oM⟩
 simp only at this
 rw[this]
 congr 2
 omega
theorem H0(n:Nat)(h:n<256):[AV.val (.int .u8 (n:Int))]=FE (UInt8.ofNat n):=by
 simp[FE,Nat.mod_eq_of_lt h]
theorem Db(b:List UInt8)(v:Nat)(hv:v<2^64)(hb:b.length≤2^40):
   Ad Tryz.prog 183 [.osl 0 b.length 1,.val (.int .u64 v)] [some ⟨5,1,Ab b⟩] (.osl 1 (b++Ap v).length 1) [none,some ⟨5,1,Ab (b++Ap v)⟩]:=by
 refine acN 20 1 Tryz.func183 fun C hN hk=>?_
 refine Af [0,1] ?_ noc [0]
 refine Bw hk 2 (α:=List UInt8×Nat×Nat) (fun a=>⟨[(0,.osl 1 a.1.length 1),(1,.val (.int .u64 a.2.1))],[(1,some ⟨5,1,Ab a.1⟩)]⟩)
   (fun a=>a.1++BL a.2.2 a.2.1=b++Ap v∧a.2.1<128^(a.2.2+1)∧a.1.length+a.2.2=b.length+10∧a.2.2≤10) (fun a=>a.2.2) (b,v,10) ⟨rfl,by simp only;omega,rfl,sP⟩ ?_ ?_
 · exact Bk @A5 [some 0,some 0] []
 · rintro⟨d,u,k⟩ ⟨h1,h2,h3,h4⟩
   simp only at h1 h2 h3 h4
   refine Af [0,1,6] ?_ noc [0]
   refine De rfl (fun h=>?_) (fun h=>?_)
   · simp only[ge_iff_le,decide_eq_true_eq]at h
     obtain⟨k,rfl⟩: ∃ k',k=k'+1:=by
       cases k with
       |zero=>simp at h2;omega
       |succ k=>exact⟨k,rfl⟩
     rw[BL,if_neg oM]at h1
     have h5:u / 128<128^(k+1):=by
       rw[Nat.div_lt_iff_lt_mul oM,← Nat.pow_succ];exact h2
     refine AW.skip (As ?_)
     refine Af [0,1] ?_ noc [0] (hp:=by simp[CB,CC];omega)
     rw[Ab5,H0 _ oM,Ii]
     refine Af [0,1] ?_ noc [0]
     refine⟨(d++[UInt8.ofNat (u%128+128)],u / 128,k),⟨by rw[← h1];simp,h5,sO,by show k≤10;omega⟩,sP,?_⟩
     refine(CL [some 0,some 1] [] ?_ (by simp[Am,Ai,Ak,lkh,A5]))
     simp[AK,wk,lk]
     exact Int.fdiv_eq_ediv_of_nonneg _ oM
   · simp only[ge_iff_le,decide_eq_false_iff_not]at h
     refine AW.exit (Ba (Ba (BZ (As ?_))))
     refine Af [4] ?_ noc [0] (hp:=by simp[CB,CC];omega)
     have h6:BL k u=[UInt8.ofNat u]:=by
       cases k with
       |zero=>rfl
       |succ k=>rw[BL,if_pos oM]
     rw[h6]at h1
     rw[IW,Nat.mod_eq_of_lt oM,H0 _ oM,Ii,h1]
     refine AW.ret (BY [some 0,some 1] [] rfl ?_ ?_ (h2:=trivial))
     · simp[Az,lk,wk]
       have:=congrArg List.length h1
       simp at this
       omega
     · simp[Am,Ai,Ak,lkh,A5]
theorem Tg{a b:List UInt8}{i:Nat}(h1:i<a.length)(h2:i<b.length):a.take (i+1)=b.take (i+1)↔a.take i=b.take i∧a[i]=b[i]:=by
 rw[List.take_succ_eq_append_getElem h1,List.take_succ_eq_append_getElem h2]
 constructor
 · intro h
   have:=List.append_inj h sO
   exact⟨this.1,by simpa using this.2⟩
 · rintro⟨h,h'⟩;rw[h,h']
theorem JN(a b:List UInt8)(ha:a.length≤2^40)(hb:b.length≤2^40):
   Ad Tryz.prog 42 [.sl 1 (Ab a),.sl 1 (Ab b)] [] (.val (.bool (decide (a=b)))) []:=by
 refine acN 26 0 Tryz.func42 fun C hN hk=>?_
 refine Af [0,1] ?_
 refine Af [0,1,10] ?_
 by_cases hl:a.length=b.length
 · refine Ay (by simp[evA,lk,CB,hl]) (AW.skip (As ?_))
   refine Af [0,1,5] ?_
   refine Bw hk 1 (fun i:Nat=>⟨[(0,.sl 1 (Ab a)),(1,.sl 1 (Ab b)),(5,.val (.int .i64 i))],[]⟩) (fun i=>i≤a.length∧a.take i=b.take i) (fun i=>a.length-i) 0 ⟨oM,sP⟩ (Bk trivial [] []) ?_
   rintro i ⟨h1,h2⟩
   refine Af [0,1,5,14] ?_
   refine De rfl (fun h=>?_) (fun h=>?_)
   · simp only[CB,decide_eq_true_eq]at h
     have hi:i<a.length:=by omega
     have hi2:i<b.length:=by omega
     have hx:=Tg hi hi2
     refine AW.skip (As ?_)
     refine nx ?_
     refine rD hN hk noc [] [0,1,5,25] fun K tok htok hK=>?_
     simp only[go_sem,seval,List.getElem?_eq_getElem hi,List.getElem?_eq_getElem hi2]
     refine⟨htok _ dK,hK _ _ ?_⟩
     clear hK K htok tok
     refine nx ?_
     by_cases he:a[i]=b[i]
     · refine Ay (by simp[evA,lk,he]) (AW.skip (CH (As ?_)))
       have F:=Ar (n:= ↑i+1) oM;refine AD [0,1,5] ?_;clear F
       exact⟨i+1,⟨oM,hx.2 ⟨h2,he⟩⟩,oM,(Bk trivial [] [])⟩
     · refine AX (by simp[evA,lk,he]) ?_
       have hne:a≠b:=fun e=>he (by subst e;rfl)
       refine Af [4] ?_
       exact AW.ret (B0 hne [] [])
   · simp only[CB,decide_eq_false_iff_not]at h
     have he:a=b:=by
       rw[List.take_of_length_le oM,List.take_of_length_le oM]at h2;exact h2
     refine AW.exit (Ba (Ba (BZ (As ?_))))
     refine Af [4] ?_
     exact AW.ret (B0 he [] [])
 · refine AX (by simp[evA,lk];omega) ?_
   have hne:a≠b:=fun e=>hl (by rw[e])
   refine Af [4] ?_
   exact AW.ret (B0 hne [] [])
attribute [go_sem] B I U8
theorem bt(b:Bool):b=true∨b=false:=by cases b<;>simp
def Ma(c:UInt8):Bool:=decide ((c.toNat:Int)≥48)&&decide ((c.toNat:Int)≤57)
theorem Ahg(c:UInt8):Ad Tryz.prog 258 [U8 c] [] (B (Ma c)) []:=by
 refine acN 9 0 Tryz.func258 fun C hN hk=>?_
 rcases bt (decide ((c.toNat:Int)≥48))with e1|e1
 all_goals
   refine Af [0] ?_
   have F:=e1;refine AD [2] ?_;clear F
   exact AW.ret (B0 (And.intro Ma.eq_1 e1) [] [])
def lowB(c:UInt8):Bool:=decide ((c.toNat:Int)≥97)&&decide ((c.toNat:Int)≤122)
def upB(c:UInt8):Bool:=decide ((c.toNat:Int)≥65)&&decide ((c.toNat:Int)≤90)
def Hs(c:UInt8):Bool:=lowB c||upB c
theorem UO(c:UInt8):Ad Tryz.prog 241 [U8 c] [] (B (Hs c)) []:=by
 refine acN 17 0 Tryz.func241 fun C hN hk=>?_
 rcases bt (decide ((c.toNat:Int)≥97))with e1|e1<;>rcases bt (decide ((c.toNat:Int)≤122))with e2|e2<;>rcases bt (decide ((c.toNat:Int)≥65))with e3|e3
 all_goals
   refine Af [0] ?_
   have F:=And.intro e1 (And.intro e2 e3);refine AD [2] ?_;clear F
   refine AW.ret (BY [] [] rfl ?_ ?_)
   · simp only[Az,lk,wk,B,Hs,lowB,upB,e1,e2,e3];simp
   · simp[Am]
def QO(c:UInt8):Bool:=Ma c||Hs c||((c.toNat:Int)==95)
theorem Ahe(c:UInt8):Ad Tryz.prog 242 [U8 c] [] (B (QO c)) []:=by
 refine acN 13 0 Tryz.func242 fun C hN hk=>?_
 have hd:=Ahg c
 have hl:=UO c
 rcases bt (Ma c)with e1|e1<;>rcases bt (Hs c)with e2|e2
 all_goals
   rw[e1]at hd
   rw[e2]at hl
   refine Af [0] ?_
   refine rG hN hk (onc 1 (pc [U8 c] (B (Ma c)) []) (onc 4 (pc [U8 c] (B (Hs c)) []) noc)) [] [2] fun K hK=>?_;simp only[go_sem,seval,e1,e2]
   first|with_reducible refine hK _ _ ?_|refine⟨by first|exact BR hd rfl sP|exact⟨BR hd rfl sP,BR hl rfl sP⟩,hK _ _ ?_⟩|refine obK (hK _ _ ?_)
   clear hK K;refine nx ?_
   exact AW.ret (B0 (And.intro QO.eq_1 (And.intro e1 e2)) [] [])
def H6(w:Int):Bool:=decide (w≥1)&&decide (w≤5040)&&((5040:Int).tmod w==0)
theorem AdF(w:Int):Ad Tryz.prog 154 [I w] [] (B (H6 w)) []:=by
 refine acN 14 0 Tryz.func154 fun C hN hk=>?_
 rcases bt (decide (w≥1))with e1|e1<;>rcases bt (decide (w≤5040))with e2|e2
 all_goals
   refine Af [0] ?_
   refine rG hN hk noc [] [2] fun K hK=>?_;simp only[go_sem,seval,e1,e2]
   first|(refine hK _ _ ?_)|(refine⟨by simp at e1;omega,hK _ _ ?_⟩)
   clear hK K;refine nx ?_
   exact AW.ret (B0 (And.intro H6.eq_1 (And.intro e1 e2)) [] [])
theorem YC(x:Int):Ad Tryz.prog 148 [I x] [] (B false) []:=by
 refine acN 6 0 Tryz.func148 fun C hN hk=>?_
 refine Af [0] ?_
 refine Af [2] ?_
 exact AW.ret (B0 trivial [] [])
def ES(x y:Int):Int:=if x<y then-1 else if x>y then 1 else 0
theorem K2(x y:Int):Ad Tryz.prog 98 [I x,I y] [] (I (ES x y)) []:=by
 refine acN 20 0 Tryz.func98 fun C hN hk=>?_
 refine Af [0,1] ?_
 refine Af [0,1,5] ?_ (onc 1 (pc [I x] (B false) []) noc) (hp:=by exact BR (YC x) rfl sP)
 refine Af [0,1,5,6] ?_ (onc 1 (pc [I y] (B false) []) noc) (hp:=by exact BR (YC y) rfl sP)
 refine Af [0,1,6,11] ?_
 refine Ay rfl (AW.skip (As ?_))
 refine Af [0,1,13] ?_
 refine Ay rfl (AW.skip (As ?_))
 refine Af [0,1,16] ?_
 refine De rfl (fun h=>?_) (fun h=>AW.skip (As ?_))
 · simp only[decide_eq_true_eq]at h
   refine Af [4] ?_
   exact AW.ret (B0 (And.intro ES.eq_1 h) [] [])
 · simp only[decide_eq_false_iff_not]at h
   refine Af [0,1,19] ?_
   refine De rfl (fun h'=>?_) (fun h'=>AW.skip (As ?_))
   · simp only[gt_iff_lt,decide_eq_true_eq]at h'
     refine Af [4] ?_
     exact AW.ret (B0 (And.intro ES.eq_1 (And.intro h h')) [] [])
   · simp only[gt_iff_lt,decide_eq_false_iff_not]at h'
     refine Af [4] ?_
     exact AW.ret (B0 (And.intro ES.eq_1 (And.intro h h')) [] [])
attribute [go_sem] U64
def Dp(x:Int):Int:=AP .xor .u64 (IntKind.u64.wrap (IntKind.u64.wrap x*2^1)) (IntKind.u64.wrap (x.fdiv (2^63)))
theorem Aeo(x:Int):Ad Tryz.prog 227 [I x] [] (U64 (Dp x)) []:=by
 refine acN 10 0 Tryz.func227 fun C hN hk=>?_
 refine Af [0] ?_
 refine Af [2] ?_
 refine AW.ret (BY [] [] rfl ?_ ?_)
 · simp only[Az,lk,wk];rfl
 · simp[Am]
def HJ(v:Int):Int:=AP .xor .i64 (IntKind.i64.wrap (v.fdiv (2^1))) (IntKind.i64.wrap (0-IntKind.i64.wrap (AP .and .u64 v 1)))
theorem Agr(v:Int):Ad Tryz.prog 224 [U64 v] [] (I (HJ v)) []:=by
 refine acN 11 0 Tryz.func224 fun C hN hk=>?_
 refine Af [0] ?_
 refine Af [2] ?_
 refine AW.ret (BY [] [] rfl ?_ ?_)
 · simp only[Az,lk,wk];rfl
 · simp[Am]
def J8(b:List UInt8)(at_:Nat):Nat→Nat→Int→Option (Int×Nat)
 |0,_,_=>none
 |f+1,k,v=>match b[at_+k]? with
   |none=>none
   |some d=>if k=9∧1<d.toNat then none else
     if d.toNat<128 then(if 0<k∧d.toNat=0 then none else some (AP .or .u64 v (IntKind.u64.wrap (AP .and .u64 d.toNat 127*2^(7*k))),at_+k+1))
     else J8 b at_ f (k+1) (AP .or .u64 v (IntKind.u64.wrap (AP .and .u64 d.toNat 127*2^(7*k))))
def Hv(b:List UInt8)(at_:Nat):Option (Int×Nat):=J8 b at_ 10 0 0
def Ds:Option (Int×Nat)→AV
 |none=> .tup [U64 0,I 0,B false]
 |some (v,n)=> .tup [U64 v,I n,B true]
theorem DM(b:List UInt8)(at_:Nat)(hb:b.length≤2^40)(ha:at_≤2^41):
   Ad Tryz.prog 124 [.sl 1 (Ab b),I at_] [] (Ds (Hv b at_)) []:=by
 refine acN 59 0 Tryz.func124 fun C hN hk=>?_
 refine Af [0,1] ?_
 refine Af [0,1,7] ?_
 refine Af [0,1,7,8] ?_
 refine Bw hk 1 (α:=Nat×Int) (fun a=>⟨[(0,.sl 1 (Ab b)),(1,I at_),(7,U64 a.2),(8,I a.1)],[]⟩) (fun a=>a.1≤10∧J8 b at_ (10-a.1) a.1 a.2=Hv b at_) (fun a=>10-a.1) (0,0) ⟨sP,rfl⟩ (Bk trivial [] []) ?_
 rintro⟨k,v⟩ ⟨h1,h2⟩
 simp only at h1 h2
 by_cases hk10:k<10
 · have e1:decide ((k:Int)<10)=true:=by simp;omega
   have e2:decide ((at_:Int)≥0)=true:=by simp
   have e3:=Ar (n:=(at_:Int)+k) oM
   obtain⟨f,hf⟩: ∃ f,10-k=f+1:=⟨9-k,oM⟩
   rw[hf]at h2
   by_cases hlt:at_+k<b.length
   · have e4:decide ((at_:Int)+k<b.length)=true:=by simp;omega
     have F:=And.intro e1 (And.intro e2 (And.intro e3 e4));refine AD [0,1,7,8,23] ?_;clear F
     refine AX rfl (AW.skip (As ?_))
     have e5:((at_:Int)+k).toNat=at_+k:=by omega
     obtain⟨d,hd⟩: ∃ d,b[at_+k]? =some d:=⟨_,List.getElem?_eq_getElem hlt⟩
     have hd8:=d.toNat_lt
     have e6:IntKind.u64.wrap (d.toNat:Int)=d.toNat:=IntWalk.u64_in _ oM
     have e7:=Ar (n:=(7:Int)*k) oM
     have e8:((7:Int)*k).toNat=7*k:=by omega
     have e9:min (7*k) 64=7*k:=by omega
     rw[J8,hd]at h2
     simp only at h2
     have F:=And.intro e3 (And.intro e5 (And.intro hd e6));refine AD [0,1,7,8,9] ?_;clear F
     by_cases c1:k=9∧1<d.toNat
     · rw[if_pos c1]at h2
       obtain⟨c1,c2⟩:=c1
       have e10:((k:Int)==9)=true:=by simp;omega
       have e11:decide ((d.toNat:Int)>1)=true:=by simp;omega
       have F:=And.intro e10 e11;refine AD [38] ?_;clear F
       refine cT ?_;refine Af [4,5,6] ?_
       exact AW.ret (B0 (And.intro (Eq.symm h2) (And.intro Ds.eq_1 Ds.eq_2)) [] [])
     · rw[if_neg c1]at h2
       have e12:(((k:Int)==9)&&decide ((d.toNat:Int)>1))=false:=by
         rw[Bool.and_eq_false_iff]
         simp only[beq_eq_false_iff_ne,decide_eq_false_iff_not]
         omega
       rcases bt ((k:Int)==9)with e10|e10
       all_goals
         rw[e10]at e12
         simp only[Bool.true_and,Bool.false_and]at e12
         have F:=And.intro e10 e12;refine AD [0,1,7,8,9,38] ?_;clear F
         refine Ay rfl (AW.skip (As ?_))
         have F:=And.intro e7 (And.intro e8 e9);refine AD [0,1,7,8,9] ?_;clear F
         refine Af [0,1,7,8,9,47] ?_
         refine De rfl (fun h=>?_) (fun h=>AW.skip (CH (As ?_)))
         · simp only[decide_eq_true_eq]at h
           rw[if_pos oM]at h2
           by_cases c3:0<k∧d.toNat=0
           · rw[if_pos c3]at h2
             have e13:decide ((k:Int)>0)=true:=by simp;omega
             have e14:((d.toNat:Int)==0)=true:=by simp;omega
             have F:=And.intro e13 e14;refine AD [53] ?_;clear F
             refine cT ?_;refine Af [4,5,6] ?_
             exact AW.ret (B0 (And.intro (Eq.symm h2) (And.intro Ds.eq_1 Ds.eq_2)) [] [])
           · rw[if_neg c3]at h2
             have e15:(decide ((k:Int)>0)&&((d.toNat:Int)==0))=false:=by
               rw[Bool.and_eq_false_iff]
               simp only[beq_eq_false_iff_ne,decide_eq_false_iff_not]
               omega
             rcases bt (decide ((k:Int)>0))with e13|e13
             all_goals
               rw[e13]at e15
               simp only[Bool.true_and,Bool.false_and]at e15
               have F:=And.intro e13 e15;refine AD [0,1,7,8,53] ?_;clear F
               refine Ay rfl (AW.skip (As ?_))
               have F:=And.intro e3 (Ar (n:=(at_:Int)+k+1) oM);refine AD [4,5,6] ?_;clear F
               exact AW.ret (B0 (And.intro (Eq.symm h2) (And.intro Ds.eq_1 Ds.eq_2)) [] [])
         · simp only[decide_eq_false_iff_not]at h
           rw[if_neg oM]at h2
           have F:=Ar (n:=(k:Int)+1) oM;refine AD [0,1,7,8] ?_;clear F
           refine⟨(k+1,_),⟨oM,?_⟩,sO,(CL [] [] (by simp[AK,wk,lk,I,U64];rfl) (by simp[Am]))⟩
           rw[← h2]
           simp only
           congr 1
           omega
   · rw[J8,List.getElem?_eq_none oM]at h2
     have e4:decide ((at_:Int)+k<b.length)=false:=by simp;omega
     have F:=And.intro e1 (And.intro e2 (And.intro e3 e4));refine AD [0,1,7,8,23] ?_;clear F
     refine cF ?_
     refine AW.exit (Ba (Ba (BZ (As ?_))))
     refine Af [4,5,6] ?_
     exact AW.ret (B0 (And.intro (Eq.symm h2) (And.intro Ds.eq_1 Ds.eq_2)) [] [])
 · have e1:decide ((k:Int)<10)=false:=by simp;omega
   obtain rfl:k=10:=by omega
   rw[J8]at h2
   have F:=e1;refine AD [0,1,7,8,23] ?_;clear F
   refine cF ?_
   refine AW.exit (Ba (Ba (BZ (As ?_))))
   refine Af [4,5,6] ?_
   exact AW.ret (B0 (And.intro (Eq.symm h2) (And.intro Ds.eq_1 Ds.eq_2)) [] [])
abbrev S:=List UInt8
def Au(l:List S):List (List AV):=l.map fun s=>[str s]
theorem FI(l:List S):(Au l).length=l.length:=by simp[Au]
theorem Xb(l:List S)(i:Nat):(Au l)[i]? =(l[i]?).map (fun s=>[str s]):=by simp[Au]
theorem Aam(l m:List S):Au l++Au m=Au (l++m):=by simp[Au]
@[simp] theorem AdY(k:Nat)(l:List S):AB k (Au l)=true:=by
 simp only[AB,Au,List.all_map,List.all_eq_true]
 intro x _
 rfl
@[simp] theorem Ajg(l:List S):(Au l).all (fun c=>c.all CC)=true:=by
 simp only[Au,List.all_map,List.all_eq_true]
 intro x _
 rfl
@[simp] theorem AiZ(l:List S):EC (Au l)=true:=by
 simp only[EC,Au,List.all_map,List.all_eq_true]
 intro x _
 rfl
theorem Ql(l:List S)(i:Nat):(Au l).drop i=Au (l.drop i):=by simp[Au]
theorem P1(l:List S)(i:Nat):(Au l).take i=Au (l.take i):=by simp[Au]
theorem WL(L:List Nat)(l:List S):BF L (Au l)=Au l:=by
 simp only[BF,Au,List.map_map]
 apply List.map_congr_left
 intro x _
 rfl
theorem VI(l:List S)(s:S):Au l++[[AV.val (.string ⟨s.toArray⟩)]]=Au (l++[s]):=by simp[Au,str]
attribute [go_sem] FI Xb WL VI Aam Ql P1
def An(l:List Int):List (List AV):=l.map fun n=>[I n]
theorem EL(l:List Int):(An l).length=l.length:=by simp[An]
theorem WR(l:List Int)(i:Nat):(An l)[i]? =(l[i]?).map (fun s=>[I s]):=by simp[An]
@[simp] theorem Acx(k:Nat)(l:List Int):AB k (An l)=true:=by
 simp only[AB,An,List.all_map,List.all_eq_true]
 intro x _
 rfl
@[simp] theorem Ai2(l:List Int):(An l).all (fun c=>c.all CC)=true:=by
 simp only[An,List.all_map,List.all_eq_true]
 intro x _
 rfl
theorem Mh(L:List Nat)(l:List Int):BF L (An l)=An l:=by
 simp only[BF,An,List.map_map]
 apply List.map_congr_left
 intro x _
 rfl
theorem Wv(l:List Int)(s:Int):An l++[[AV.val (.int .i64 s)]]=An (l++[s]):=by simp[An,I]
theorem ZD(l m:List Int):An l++An m=An (l++m):=by simp[An]
theorem Q2(l:List UInt8)(b:UInt8):Ab l++[[AV.val (.int .u8 b.toNat)]]=Ab (l++[b]):=by simp[Ab,FE]
theorem Tk(l:List UInt8)(i:Nat):(Ab l).drop i=Ab (l.drop i):=by simp[Ab]
theorem Tc(l:List UInt8)(i:Nat):(Ab l).take i=Ab (l.take i):=by simp[Ab]
attribute [go_sem] EL WR Mh Wv ZD Q2 VZ Tk Tc
@[simp] theorem Ai7(l:List Int):EC (An l)=true:=by
 simp only[EC,An,List.all_map,List.all_eq_true]
 intro x _
 rfl
theorem Xt(ρ:Nat→Nat)(l:List S):(Au l).map (BK ρ)=Au l:=DT ρ (AdY 0 l)
theorem Yx(ρ:Nat→Nat)(l:List Int):(An l).map (BK ρ)=An l:=DT ρ (Acx 0 l)
attribute [go_sem] Xt Yx
def FK(a b:S):Nat→Nat→Nat
 |0,i=>i
 |f+1,i=>match a[i]?,b[i]? with
   |some x,some y=>if x=y then FK a b f (i+1)else i
   |_,_=>i
def Cu(a b:S):Nat:=FK a b a.length 0
theorem AdH(a b:S)(ha:a.length≤2^40)(hb:b.length≤2^40):Ad Tryz.prog 184 [str a,str b] [] (I (Cu a b)) []:=by
 refine acN 28 0 Tryz.func184 fun C hN hk=>?_
 refine Af [0,1] ?_
 refine Af [0,1,5] ?_
 refine Bw hk 1 (fun i:Nat=>⟨[(0,str a),(1,str b),(5,I i)],[]⟩) (fun i=>i≤a.length∧FK a b (a.length-i) i=Cu a b) (fun i=>a.length-i) 0 ⟨oM,rfl⟩ (Bk trivial [] []) ?_
 rintro i ⟨h1,h2⟩
 by_cases hi:i<a.length
 · have e1:decide ((i:Int)<a.length)=true:=by simp;omega
   obtain⟨x,hx⟩: ∃ x,a[i]? =some x:=⟨_,List.getElem?_eq_getElem hi⟩
   obtain⟨f,hf⟩: ∃ f,a.length-i=f+1:=⟨a.length-i-1,oM⟩
   rw[hf,FK,hx]at h2
   by_cases hj:i<b.length
   · have e2:decide ((i:Int)<b.length)=true:=by simp;omega
     obtain⟨y,hy⟩: ∃ y,b[i]? =some y:=⟨_,List.getElem?_eq_getElem hj⟩
     rw[hy]at h2
     simp only at h2
     by_cases he:x=y
     · subst he
       rw[if_pos rfl]at h2
       have F:=And.intro e1 (And.intro e2 (And.intro hx hy));refine DI [0,1,5,24] ?_;clear F
       refine AX rfl (AW.skip (As ?_))
       have F:=Ar (n:=(i:Int)+1) oM;refine AD [0,1,5] ?_;clear F
       exact⟨i+1,⟨oM,by rw[show a.length- (i+1)=f by omega];exact h2⟩,oM,(Bk trivial [] [])⟩
     · rw[if_neg he]at h2
       have e3:((x.toNat:Int)==y.toNat)=false:=by simp[he]
       have F:=And.intro e1 (And.intro e2 (And.intro hx (And.intro hy e3)));refine DI [5,24] ?_;clear F
       refine Ay rfl (AW.exit (Ba (Ba (BZ (As ?_)))))
       refine Af [4] ?_
       exact AW.ret (B0 (Eq.symm h2) [] [])
   · have e2:decide ((i:Int)<b.length)=false:=by simp;omega
     rw[List.getElem?_eq_none oM]at h2
     have F:=And.intro e1 e2;refine DI [5,24] ?_;clear F
     refine Ay rfl (AW.exit (Ba (Ba (BZ (As ?_)))))
     refine Af [4] ?_
     exact AW.ret (B0 (Eq.symm h2) [] [])
 · have e1:decide ((i:Int)<a.length)=false:=by simp;omega
   rw[show a.length-i=0 by omega,FK]at h2
   have F:=e1;refine DI [5,24] ?_;clear F
   refine Ay rfl (AW.exit (Ba (Ba (BZ (As ?_)))))
   refine Af [4] ?_
   exact AW.ret (B0 (Eq.symm h2) [] [])
def FR(d:List S)(w:S):Nat→Nat→Nat→Nat
 |0,a,_=>a
 |f+1,a,b=>if a<b then(if Op.bytesLess (d.getD ((a+b) / 2) []) w then FR d w f ((a+b) / 2+1) b else FR d w f a ((a+b) / 2))else a
def CD(d:List S)(w:S):Nat:=FR d w d.length 0 d.length
def DV(d:List S)(w:S):Bool:=match d[CD d w]? with
 |some x=>x==w
 |none=>false
theorem Oz(d:List S)(w:S)(hd:d.length≤2^40):Ad Tryz.prog 43 [.sl 1 (Au d),str w] [] (.tup [I (CD d w),B (DV d w)]) []:=by
 refine acN 40 0 Tryz.func43 fun C hN hk=>?_
 refine Af [0,1] ?_
 refine Af [0,1,6,7] ?_
 refine Bw hk 1 (α:=Nat×Nat) (fun a=>⟨[(0,.sl 1 (Au d)),(1,str w),(6,I a.1),(7,I a.2)],[]⟩) (fun a=>a.1≤a.2∧a.2≤d.length∧ ∃ f,a.2-a.1≤f∧FR d w f a.1 a.2=CD d w) (fun a=>a.2-a.1) (0,d.length) ⟨sP,sP,d.length,sP,rfl⟩ (Bk trivial [] []) ?_
 rintro⟨a,b⟩ ⟨h1,h2,f,h3,h4⟩
 simp only at h1 h2 h3 h4
 by_cases hlt:a<b
 · obtain⟨f,rfl⟩: ∃ f',f=f'+1:=⟨f-1,oM⟩
   rw[FR,if_pos hlt]at h4
   have e1:decide ((a:Int)<b)=true:=by simp;omega
   have F:=e1;refine AD [0,1,6,7,13] ?_;clear F
   refine AX rfl (AW.skip (As ?_))
   have e2:=Ar (n:=(a:Int)+b) oM
   have e3:((a:Int)+b).tdiv 2=((a+b) / 2:Nat):=by rw[Int.tdiv_eq_ediv_of_nonneg oM];omega
   have e4:=Ar (n:=(((a+b) / 2:Nat):Int)) oM
   have F:=And.intro e2 (And.intro e3 e4);refine AD [0,1,6,7,8] ?_;clear F
   have hm:(a+b) / 2<d.length:=by omega
   have hx:=List.getElem?_eq_getElem hm
   have hx2:d.getD ((a+b) / 2) []=d[(a+b) / 2]:=by simp[List.getD,hm]
   rw[hx2]at h4
   generalize d[(a+b) / 2]=x at hx h4
   rcases bt (Op.bytesLess x w)with e5|e5
   · rw[e5,if_pos rfl]at h4
     have F:=And.intro hx e5;refine AD [0,1,6,7,8,23] ?_;clear F
     refine cT ?_;have F:=Ar (n:=(((a+b) / 2:Nat):Int)+1) oM;refine AD [0,1,6,7] ?_;clear F
     exact⟨((a+b) / 2+1,b),⟨by simp only;omega,h2,f,by simp only;omega,h4⟩,by simp only;omega,(Bk trivial [] [])⟩
   · rw[e5,if_neg sP]at h4
     have F:=And.intro hx e5;refine AD [0,1,6,7,8,23] ?_;clear F
     refine cF ?_;refine Af [0,1,6,7] ?_
     exact⟨(a,(a+b) / 2),⟨by simp only;omega,by simp only;omega,f,by simp only;omega,h4⟩,by simp only;omega,(Bk trivial [] [])⟩
 · have e1:decide ((a:Int)<b)=false:=by simp;omega
   have h5:CD d w=a:=by rw[← h4];cases f<;>simp[FR,hlt]
   have F:=e1;refine AD [0,1,6,7,13] ?_;clear F
   refine Ay rfl (AW.exit (Ba (Ba (BZ (As ?_)))))
   by_cases hin:a<d.length
   · have e6:decide ((a:Int)<d.length)=true:=by simp;omega
     have hx:=List.getElem?_eq_getElem hin
     have h6:DV d w=(d[a]==w):=by simp only[DV,h5,hx]
     generalize d[a]=x at hx h6
     have F:=And.intro e6 hx;refine DI [4,5] ?_;clear F
     exact AW.ret (B0 (And.intro h5 h6) [] [])
   · have e6:decide ((a:Int)<d.length)=false:=by simp;omega
     have h6:DV d w=false:=by simp only[DV,h5,List.getElem?_eq_none (Nat.not_lt.1 hin)]
     have F:=e6;refine DI [4,5] ?_;clear F
     exact AW.ret (B0 (And.intro h5 h6) [] [])
def leS(x y:S):Bool:=Op.bytesLess x y||x==y
def IV:List S→Bool
 |a::b::r=>leS b a||IV (b::r)
 |_=>false
def EG(d:List S):Bool:=d.any fun s=>decide (2048<s.length)
def Bb(d:List S):Int:=if 32768<d.length then 4 else if EG d then 3 else if IV d then 19 else 0
theorem AaV{α:Type}{p:α→Bool}{l:List α}{i:Nat}(h:i<l.length):(l.take (i+1)).any p=((l.take i).any p||p l[i]):=by
 rw[List.take_succ_eq_append_getElem h,List.any_append];simp only[List.any_cons,List.any_nil,Bool.or_false]
theorem Ae5{α:Type}{p:α→Bool}{l:List α}{i:Nat}{x:α}(h:l[i]? =some x)(hp:p x=true):l.any p=true:=by
 rw[List.any_eq_true];exact⟨x,List.mem_of_getElem? h,hp⟩
theorem Acq(d:List S)(hd:d.length≤2^40)(hs: ∀ s∈d,s.length≤2^40):Ad Tryz.prog 182 [.sl 1 (Au d)] [] (I (Bb d)) []:=by
 refine acN 36 0 Tryz.func182 fun C hN hk=>?_
 refine Af [0] ?_
 refine Af [0,7] ?_
 refine De rfl (fun h=>?_) (fun h=>AW.skip (As ?_))
 · simp only[gt_iff_lt,decide_eq_true_eq]at h
   refine Af [2] ?_
   exact AW.ret (B0 (And.intro Bb.eq_1 (show 32768<d.length by omega)) [] [])
 · simp only[gt_iff_lt,decide_eq_false_iff_not]at h
   have hlen: ¬ 32768<d.length:=by omega
   refine Af [0,3] ?_
   refine Bw hk 1 (fun i:Nat=>⟨[(0,.sl 1 (Au d)),(3,I i)],[]⟩) (fun i=>i≤d.length∧(d.take i).any (fun s=>decide (2048<s.length))=false) (fun i=>d.length-i) 0 ⟨oM,sP⟩ (Bk trivial [] []) ?_
   rintro i ⟨h1,h2⟩
   by_cases hi:i<d.length
   · have e1:decide ((i:Int)<d.length)=true:=by simp;omega
     have hx:=List.getElem?_eq_getElem hi
     have hnext:=AaV (p:=fun s:S=>decide (2048<s.length)) hi
     have hany: ∀ hp:decide (2048<d[i].length)=true,EG d=true:=fun hp=>Ae5 (p:=fun s:S=>decide (2048<s.length)) hx hp
     generalize d[i]=x at hx hnext hany
     have F:=e1;refine AD [0,3,11] ?_;clear F
     refine AX rfl (AW.skip (As ?_))
     refine Do [0,3,19] ?_
     refine De rfl (fun h=>?_) (fun h=>AW.skip (CH (As ?_)))
     · simp only[gt_iff_lt,decide_eq_true_eq]at h
       have:=hany sO
       refine Af [2] ?_
       exact AW.ret (B0 (And.intro Bb.eq_1 (And.intro hlen this)) [] [])
     · simp only[gt_iff_lt,decide_eq_false_iff_not]at h
       have F:=Ar (n:=(i:Int)+1) oM;refine AD [0,3] ?_;clear F
       exact⟨i+1,⟨oM,by rw[hnext,h2];simp;omega⟩,oM,(Bk trivial [] [])⟩
   · have e1:decide ((i:Int)<d.length)=false:=by simp;omega
     have hnl:EG d=false:=by rw[List.take_of_length_le oM]at h2;exact h2
     have F:=e1;refine AD [0,11] ?_;clear F
     refine Ay rfl (AW.exit (Ba (Ba (BZ (As ?_)))))
     refine Af [0,4] ?_
     refine Bw hk 1 (fun i:Nat=>⟨[(0,.sl 1 (Au d)),(4,I ((i:Int)+1))],[]⟩) (fun i=>i≤d.length∧IV (d.drop i)=IV d) (fun i=>d.length-i) 0 ⟨oM,sP⟩ (Bk trivial [] []) ?_
     clear h1 h2 hi e1
     rintro i ⟨h1,h2⟩
     by_cases hi:i+1<d.length
     · have e1:decide ((i:Int)+1<d.length)=true:=by simp;omega
       have hx:=List.getElem?_eq_getElem hi
       have hy:=List.getElem?_eq_getElem (show i<d.length by omega)
       have hdr:d.drop i=d[i]::d[i+1]::d.drop (i+2):=by
         rw[← List.getElem_cons_drop (show i<d.length by omega),← List.getElem_cons_drop hi]
       have hdr1:d.drop (i+1)=d[i+1]::d.drop (i+2):=by rw[← List.getElem_cons_drop hi]
       rw[hdr,IV]at h2
       rw[← hdr1]at h2
       generalize d[i+1]=x at hx h2
       generalize d[i]=y at hy h2
       have e2:((i:Int)+1).toNat=i+1:=by omega
       have e3:=Ar (n:=(i:Int)+1-1) oM
       have e4:((i:Int)+1-1).toNat=i:=by omega
       have F:=e1;refine AD [0,4,23] ?_;clear F
       refine AX rfl (AW.skip (As ?_))
       have F:=And.intro hx (And.intro hy (And.intro e2 (And.intro e3 e4)));refine DI [0,4,35] ?_;clear F
       refine De rfl (fun h=>?_) (fun h=>AW.skip (CH (As ?_)))
       · have:IV d=true:=by rw[← h2,leS,h];rfl
         refine Af [2] ?_
         exact AW.ret (B0 (And.intro Bb.eq_1 (And.intro hlen (And.intro hnl this))) [] [])
       · rw[leS,h,Bool.false_or]at h2
         have F:=Ar (n:=(i:Int)+1+1) oM;refine AD [0,4] ?_;clear F
         exact⟨i+1,⟨oM,h2⟩,oM,(Bk trivial [] [])⟩
     · have e1:decide ((i:Int)+1<d.length)=false:=by simp;omega
       have hu:IV d=false:=by
         rw[← h2]
         match hdd:d.drop i with
         | []=>rfl
         | [_]=>rfl
         |_::_::_=>have:=congrArg List.length hdd;simp at this;omega
       have F:=e1;refine AD [0,23] ?_;clear F
       refine Ay rfl (AW.exit (Ba (Ba (BZ (As ?_)))))
       refine Af [2] ?_
       exact AW.ret (B0 (And.intro Bb.eq_1 (And.intro hlen (And.intro hnl hu))) [] [])
structure Un where
 i:Nat
 k:Nat
 out:List S
 x:List Int
 y:List Int
def F0(a b:List S)(s:Un):Un:=
 if s.k=b.length∨s.i<a.length∧Op.bytesLess (a.getD s.i []) (b.getD s.k [])=true then⟨s.i+1,s.k,s.out++[a.getD s.i []],s.x++[(s.out.length:Int)],s.y⟩
 else if s.i=a.length∨Op.bytesLess (b.getD s.k []) (a.getD s.i [])=true then⟨s.i,s.k+1,s.out++[b.getD s.k []],s.x,s.y++[(s.out.length:Int)]⟩
 else⟨s.i+1,s.k+1,s.out++[a.getD s.i []],s.x++[(s.out.length:Int)],s.y++[(s.out.length:Int)]⟩
def IL(a b:List S):Nat→Un→Un
 |0,s=>s
 |f+1,s=>if s.i<a.length∨s.k<b.length then IL a b f (F0 a b s)else s
def unF(a b:List S):Un:=IL a b (a.length+b.length) ⟨0,0,[],[],[]⟩
def unS(a b:List S)(s:Un):AS:=⟨[(0,.sl 1 (Au a)),(1,.sl 1 (Au b)),(7,.osl 0 s.out.length 1),(8,.osl 1 s.x.length 1),(9,.osl 2 s.y.length 1),(10,I s.i),(11,I s.k)],[(0,some ⟨9,1,Au s.out⟩),(1,some ⟨3,1,An s.x⟩),(2,some ⟨3,1,An s.y⟩)]⟩
attribute [simp] unS
theorem Agz(a b:List S)(ha:a.length≤2^38)(hb:b.length≤2^38):
   Ad Tryz.prog 143 [.sl 1 (Au a),.sl 1 (Au b)] [] (.tup [.osl 0 (unF a b).out.length 1,.osl 1 (unF a b).x.length 1,.osl 2 (unF a b).y.length 1])
     [some ⟨9,1,Au (unF a b).out⟩,some ⟨3,1,An (unF a b).x⟩,some ⟨3,1,An (unF a b).y⟩]:=by
 refine acN 112 0 Tryz.func143 fun C hN hk=>?_
 refine Af [0,1] ?_
 refine Af [0,1,7] ?_
 refine Af [0,1,7,8,9] ?_
 refine Af [0,1,7,8,9,10,11] ?_
 refine Bw hk 3 (unS a b) (fun s=>s.i≤a.length∧s.k≤b.length∧s.out.length≤s.i+s.k∧s.x.length≤s.i+s.k∧s.y.length≤s.i+s.k∧ ∃ f,a.length-s.i+(b.length-s.k)≤f∧IL a b f s=unF a b) (fun s=>a.length-s.i+(b.length-s.k)) ⟨0,0,[],[],[]⟩ ⟨sP,sP,sP,sP,sP,a.length+b.length,sP,rfl⟩ (Bk (And.intro unS.eq_1 (And.intro Au.eq_1 An.eq_1)) [none,none,none] []) ?_
 rintro⟨i,k,out,x,y⟩ ⟨h1,h2,h3,h4,h5,f,h6,h7⟩
 simp only at h1 h2 h3 h4 h5 h6 h7
 simp only[unS]
 by_cases hlt:i<a.length∨k<b.length
 · obtain⟨f,rfl⟩: ∃ f',f=f'+1:=⟨f-1,oM⟩
   rw[IL,if_pos hlt]at h7
   by_cases hk0:k=b.length
   · -- the rest of a
     have hi:i<a.length:=by omega
     have hx:=List.getElem?_eq_getElem hi
     have hx2:a.getD i []=a[i]:=by simp[List.getD,hi]
     rw[F0,if_pos (.inl hk0)]at h7
     simp only[hx2]at h7
     generalize a[i]=p at hx h7
     have f1:decide ((i:Int)<a.length)=true:=by simp;omega
     have f3:((k:Int)==b.length)=true:=by simp;omega
     have F:=f1;refine AD [0,1,7,8,9,10,11,21] ?_;clear F
     refine AX rfl (AW.skip (As ?_))
     have F:=f3;refine DI [0,1,7,8,9,10,11,43] ?_;clear F
     refine nx ?_;refine cT ?_;refine Af [0,1,7,8,9,10,11] ?_
     refine Do [0,1,7,8,9,10,11] ?_
     have F:=Ar (n:=(i:Int)+1) oM;refine AD [0,1,7,8,9,10,11] ?_;clear F
     exact⟨⟨i+1,k,out++[p],x++[(out.length:Int)],y⟩,⟨by simp only;omega,by simp only;omega,sO,sO,by simp only;omega,f,by simp only;omega,h7⟩,by simp only;omega,(Bk trivial [some 0,some 1,some 2] [])⟩
   · have hk1:k<b.length:=by omega
     have hy:=List.getElem?_eq_getElem hk1
     have hy2:b.getD k []=b[k]:=by simp[List.getD,hk1]
     have f2:decide ((k:Int)<b.length)=true:=by simp;omega
     have f3:((k:Int)==b.length)=false:=by simp;omega
     by_cases hi:i<a.length
     · have hx:=List.getElem?_eq_getElem hi
       have hx2:a.getD i []=a[i]:=by simp[List.getD,hi]
       have f1:decide ((i:Int)<a.length)=true:=by simp;omega
       have f5:((i:Int)==a.length)=false:=by simp;omega
       rw[F0]at h7
       simp only[hx2,hy2]at h7
       generalize a[i]=p at hx h7
       generalize b[k]=q at hy h7
       rcases bt (Op.bytesLess p q)with f4|f4
       · rw[if_pos (.inr ⟨hi,f4⟩)]at h7
         have F:=f1;refine AD [0,1,7,8,9,10,11,21] ?_;clear F
         refine AX rfl (AW.skip (As ?_))
         have F:=And.intro f3 (And.intro f1 (And.intro hx (And.intro hy f4)));refine DI [0,1,7,8,9,10,11,43] ?_;clear F
         refine nx ?_;refine cT ?_;refine Af [0,1,7,8,9,10,11] ?_
         refine Do [0,1,7,8,9,10,11] ?_
         have F:=Ar (n:=(i:Int)+1) oM;refine AD [0,1,7,8,9,10,11] ?_;clear F
         exact⟨⟨i+1,k,out++[p],x++[(out.length:Int)],y⟩,⟨by simp only;omega,by simp only;omega,sO,sO,by simp only;omega,f,by simp only;omega,h7⟩,by simp only;omega,(Bk trivial [some 0,some 1,some 2] [])⟩
       · rw[if_neg (by rw[f4];simp;omega)]at h7
         rcases bt (Op.bytesLess q p)with f6|f6
         · rw[if_pos (.inr f6)]at h7
           have F:=f1;refine AD [0,1,7,8,9,10,11,21] ?_;clear F
           refine AX rfl (AW.skip (As ?_))
           have F:=And.intro f3 (And.intro f1 (And.intro hx (And.intro hy f4)));refine DI [0,1,7,8,9,10,11,43] ?_;clear F
           refine nx ?_;refine cF ?_;have F:=And.intro f5 (And.intro hx (And.intro hy f6));refine DI [0,1,7,8,9,10,11,79] ?_;clear F
           refine nx ?_;refine cT ?_;refine Af [0,1,7,8,9,10,11] ?_
           have F:=hy;refine AD [0,1,7,8,9,10,11] ?_;clear F
           have F:=Ar (n:=(k:Int)+1) oM;refine AD [0,1,7,8,9,10,11] ?_;clear F
           exact⟨⟨i,k+1,out++[q],x,y++[(out.length:Int)]⟩,⟨by simp only;omega,by simp only;omega,sO,by simp only;omega,sO,f,by simp only;omega,h7⟩,by simp only;omega,(Bk trivial [some 0,some 1,some 2] [])⟩
         · rw[if_neg (by rw[f6];simp;omega)]at h7
           have F:=f1;refine AD [0,1,7,8,9,10,11,21] ?_;clear F
           refine AX rfl (AW.skip (As ?_))
           have F:=And.intro f3 (And.intro f1 (And.intro hx (And.intro hy f4)));refine DI [0,1,7,8,9,10,11,43] ?_;clear F
           refine nx ?_;refine cF ?_;have F:=And.intro f5 (And.intro hx (And.intro hy f6));refine DI [0,1,7,8,9,10,11,79] ?_;clear F
           refine nx ?_;refine cF ?_;refine Af [0,1,7,8,9,10,11] ?_
           refine Do [0,1,7,8,9,10,11] ?_
           have F:=Ar (n:=(i:Int)+1) oM;refine AD [0,1,7,8,9,10,11] ?_;clear F;have F:=Ar (n:=(k:Int)+1) oM;refine AD [0,1,7,8,9,10,11] ?_;clear F
           exact⟨⟨i+1,k+1,out++[p],x++[(out.length:Int)],y++[(out.length:Int)]⟩,⟨by simp only;omega,by simp only;omega,sO,sO,sO,f,by simp only;omega,h7⟩,by simp only;omega,(Bk trivial [some 0,some 1,some 2] [])⟩
     · have hi':i=a.length:=by omega
       have f1:decide ((i:Int)<a.length)=false:=by simp;omega
       have f5:((i:Int)==a.length)=true:=by simp;omega
       rw[F0,if_neg (by simp only;omega),if_pos (.inl hi')]at h7
       simp only[hy2]at h7
       generalize b[k]=q at hy h7
       have F:=And.intro f1 f2;refine AD [0,1,7,8,9,10,11,21] ?_;clear F
       refine AX rfl (AW.skip (As ?_))
       have F:=And.intro f3 f1;refine DI [0,1,7,8,9,10,11,43] ?_;clear F
       refine nx ?_;refine cF ?_;have F:=f5;refine DI [0,1,7,8,9,10,11,79] ?_;clear F
       refine nx ?_;refine cT ?_;refine Af [0,1,7,8,9,10,11] ?_
       have F:=hy;refine AD [0,1,7,8,9,10,11] ?_;clear F
       have F:=Ar (n:=(k:Int)+1) oM;refine AD [0,1,7,8,9,10,11] ?_;clear F
       exact⟨⟨i,k+1,out++[q],x,y++[(out.length:Int)]⟩,⟨by simp only;omega,by simp only;omega,sO,by simp only;omega,sO,f,by simp only;omega,h7⟩,by simp only;omega,(Bk trivial [some 0,some 1,some 2] [])⟩
 · obtain⟨rfl,rfl⟩:i=a.length∧k=b.length:=by omega
   have f1:decide ((a.length:Int)<a.length)=false:=by simp
   have f2:decide ((b.length:Int)<b.length)=false:=by simp
   have h8:(⟨a.length,b.length,out,x,y⟩:Un)=unF a b:=by rw[← h7];cases f<;>simp[IL]
   have F:=And.intro f1 f2;refine AD [7,8,9,21] ?_;clear F
   refine Ay rfl (AW.exit (Ba (Ba (BZ (As ?_)))))
   refine Af [4,5,6] ?_
   rw[← h8]
   exact AW.ret (B0 trivial [some 0,some 1,some 2] [])
def D2:Nat→List S→List S
 |0,l=>l
 |f+1,l=>if l.length<2 then l else(unF (D2 f (l.take (l.length / 2))) (D2 f (l.drop (l.length / 2)))).out
def Bg(l:List S):List S:=D2 l.length l
theorem Wf(a b:List S)(s:Un):(F0 a b s).out.length=s.out.length+1:=by
 unfold F0;split
 · simp
 · split<;>simp
theorem SW(a b:List S): ∀ f s,(IL a b f s).out.length≤s.out.length+f
 |0,s=>by simp[IL]
 |f+1,s=>by
   rw[IL];split
   · have:=SW a b f (F0 a b s);rw[Wf]at this;omega
   · omega
theorem Ael(a b:List S):(unF a b).out.length≤a.length+b.length:=by
 have:=SW a b (a.length+b.length) ⟨0,0,[],[],[]⟩;simp at this;exact this
theorem Lf: ∀ f l,(D2 f l).length≤l.length
 |0,l=>by simp[D2]
 |f+1,l=>by
   rw[D2];split
   · omega
   · have h1:=Lf f (l.take (l.length / 2))
     have h2:=Lf f (l.drop (l.length / 2))
     have h3:=Ael (D2 f (l.take (l.length / 2))) (D2 f (l.drop (l.length / 2)))
     simp at h1 h2
     omega
theorem Il: ∀ f g l,l.length≤f→l.length≤g→D2 f l=D2 g l
 |0,g,l,h,_=>by
   have:l=[]:=List.eq_nil_of_length_eq_zero oM
   subst this
   cases g<;>simp[D2]
 |f+1,0,l,_,h=>by
   have:l=[]:=List.eq_nil_of_length_eq_zero oM
   subst this
   simp[D2]
 |f+1,g+1,l,h,h'=>by
   rw[D2,D2]
   split
   · rfl
   · rw[Il f g _ sO sO,Il f g _ sO sO]
theorem SG(l:List S)(h: ¬ l.length<2):Bg l=(unF (Bg (l.take (l.length / 2))) (Bg (l.drop (l.length / 2)))).out:=by
 obtain⟨n,hn⟩: ∃ n,l.length=n+1:=⟨l.length-1,oM⟩
 unfold Bg
 rw[hn,D2,if_neg h]
 rw[Il n _ _ sO (Nat.le_refl _),Il n _ (l.drop _) sO (Nat.le_refl _)]
 rw[hn]
theorem Kk(l:List S)(h:l.length<2):Bg l=l:=by
 unfold Bg
 match l,h with
 | [],_=>rfl
 | [x],_=>simp[D2]
theorem DA(l:List S):(Bg l).length≤l.length:=Lf _ _
theorem Hj: ∀ (m:Nat) (l:List S),l.length≤m→l.length≤2^37→Ad Tryz.prog 83 [.sl 1 (Au l)] [] (.osl 0 (Bg l).length 1) [some ⟨9,1,Au (Bg l)⟩]:=by
 intro m
 induction m with
 |zero=>
   intro l h0 hl
   obtain rfl:l=[]:=List.eq_nil_of_length_eq_zero oM
   refine acN 29 0 Tryz.func83 fun C hN hk=>?_
   refine Af [0] ?_
   refine Af [0,9] ?_
   refine cT ?_;refine Af [2] ?_
   exact AW.ret (B0 (And.intro Bg.eq_1 (And.intro D2.eq_1 D2.eq_2)) [some 0] [])
 |succ m ih=>
   intro l h0 hl
   refine acN 29 0 Tryz.func83 fun C hN hk=>?_
   by_cases h2:l.length<2
   · have e1:decide ((l.length:Int)<2)=true:=by simp;omega
     refine Af [0] ?_
     have F:=e1;refine AD [0,9] ?_;clear F
     refine cT ?_;refine Af [2] ?_
     rw[Kk l h2]
     exact AW.ret (B0 trivial [some 0] [])
   · have e1:decide ((l.length:Int)<2)=false:=by simp;omega
     refine Af [0] ?_
     have F:=e1;refine AD [0,9] ?_;clear F
     refine Ay rfl (AW.skip (As ?_))
     have e2:(l.length:Int).tdiv 2=(l.length / 2:Nat):=by rw[Int.tdiv_eq_ediv_of_nonneg oM];omega
     have e3:=Ar (n:=((l.length / 2:Nat):Int)) oM
     have F:=And.intro e2 e3;refine AD [0,3] ?_;clear F
     rw[SG l h2]
     have q1:=ih (l.take (l.length / 2)) sO sO
     have q2:=ih (l.drop (l.length / 2)) sO sO
     have n1:=DA (l.take (l.length / 2))
     have n2:=DA (l.drop (l.length / 2))
     simp only[List.length_take,List.length_drop]at n1 n2
     have q3:=Agz (Bg (l.take (l.length / 2))) (Bg (l.drop (l.length / 2))) oM oM
     have e4:List.take l.length (Au l)=Au l:=List.take_of_length_le (by rw[FI];omega)
     have e5:List.take l.length l=l:=List.take_of_length_le oM
     generalize Bg (l.take (l.length / 2))=A at*
     generalize Bg (l.drop (l.length / 2))=B' at*
     refine nx ?_
     refine rD hN hk (onc 3 (pc [.sl 1 (Au (l.take (l.length / 2)))] (.osl 0 A.length 1) [some ⟨9,1,Au A⟩]) (onc 7 (pc [.sl 1 (Au (l.drop (l.length / 2)))] (.osl 0 B'.length 1) [some ⟨9,1,Au B'⟩]) (onc 8 (bc [24,56] [.sl 1 (Au A),.sl 1 (Au B')] (.tup [.osl 0 (unF A B').out.length 1,.osl 1 (unF A B').x.length 1,.osl 2 (unF A B').y.length 1]) [some ⟨9,1,Au (unF A B').out⟩,some ⟨3,1,An (unF A B').x⟩,some ⟨3,1,An (unF A B').y⟩]) noc))) [] [4] fun K tok htok hK=>?_
     simp only[go_sem,seval,e4,e5]
     refine⟨htok _ dK,⟨⟨⟨⟨oM,BR q1 rfl sP⟩,oM⟩,BR q2 rfl sP⟩,Fh q3 rfl sP ⟨GL sP rfl rfl (by simp[FI]) rfl,GL sP rfl rfl (by simp[FI]) rfl,trivial⟩ rfl sP (by simp[DY])⟩,hK _ _ ?_⟩
     clear hK K htok tok
     refine Af [2] ?_
     exact AW.ret (B0 trivial [some 0] [])
theorem KG(v:Nat)(hv:v<2^64):
   Ad Tryz.prog 183 [.val (.slice none 0 0),.val (.int .u64 v)] [] (.osl 0 (Ap v).length 1) [some ⟨5,1,Ab (Ap v)⟩]:=by
 refine acN 20 0 Tryz.func183 fun C hN hk=>?_
 refine Af [0,1] ?_
 refine Bw hk 1 (α:=List UInt8×Nat×Nat) (fun a=>⟨[(0,.osl 0 a.1.length 1),(1,.val (.int .u64 a.2.1))],[(0,some ⟨5,1,Ab a.1⟩)]⟩)
   (fun a=>a.1++BL a.2.2 a.2.1=Ap v∧a.2.1<128^(a.2.2+1)∧a.1.length+a.2.2=10∧a.2.2≤10) (fun a=>a.2.2) ([],v,10) ⟨rfl,by simp only;omega,rfl,sP⟩ ?_ ?_
 · exact Bk (And.intro @A5 Ab.eq_1) [none] []
 · rintro⟨d,u,k⟩ ⟨h1,h2,h3,h4⟩
   simp only at h1 h2 h3 h4
   refine Af [0,1,6] ?_
   refine De rfl (fun h=>?_) (fun h=>?_)
   · simp only[ge_iff_le,decide_eq_true_eq]at h
     obtain⟨k,rfl⟩: ∃ k',k=k'+1:=by
       cases k with
       |zero=>simp at h2;omega
       |succ k=>exact⟨k,rfl⟩
     rw[BL,if_neg oM]at h1
     have h5:u / 128<128^(k+1):=by
       rw[Nat.div_lt_iff_lt_mul oM,← Nat.pow_succ];exact h2
     refine AW.skip (As ?_)
     refine Af [0,1] ?_ (hp:=by simp[CB,CC];omega)
     rw[Ab5,H0 _ oM,Ii]
     refine Af [0,1] ?_
     refine⟨(d++[UInt8.ofNat (u%128+128)],u / 128,k),⟨by rw[← h1];simp,h5,sO,by show k≤10;omega⟩,sP,?_⟩
     refine(CL [some 0] [] ?_ (by simp[Am,Ai,Ak,lkh,A5]))
     simp[AK,wk,lk]
     exact Int.fdiv_eq_ediv_of_nonneg _ oM
   · simp only[ge_iff_le,decide_eq_false_iff_not]at h
     refine AW.exit (Ba (Ba (BZ (As ?_))))
     refine Af [4] ?_ (hp:=by simp[CB,CC];omega)
     have h6:BL k u=[UInt8.ofNat u]:=by
       cases k with
       |zero=>rfl
       |succ k=>rw[BL,if_pos oM]
     rw[h6]at h1
     rw[IW,Nat.mod_eq_of_lt oM,H0 _ oM,Ii,h1]
     refine AW.ret (BY [some 0] [] rfl ?_ ?_ (h2:=trivial))
     · simp[Az,lk,wk]
       have:=congrArg List.length h1
       simp at this
       omega
     · simp[Am,Ai,Ak,lkh,A5]
theorem Nm: ∀ k v,(BL k v).length≤k+1
 |0,v=>by simp[BL]
 |k+1,v=>by
   rw[BL];split
   · simp
   · have:=Nm k (v / 128);simp;omega
theorem Bf(v:Nat):(Ap v).length≤11:=Nm 10 v
theorem NL(a b:S): ∀ f i,i≤a.length→FK a b f i≤a.length∧(i≤b.length→FK a b f i≤b.length)
 |0,i,h=>by simp only[FK];exact⟨h,fun h=>h⟩
 |f+1,i,h=>by
   rw[FK]
   split
   · rename_i x y hx hy
     split
     · have h1:i<a.length:=by
         rcases Nat.lt_or_ge i a.length with h|h
         · exact h
         · rw[List.getElem?_eq_none h]at hx;cases hx
       have h2:i<b.length:=by
         rcases Nat.lt_or_ge i b.length with h|h
         · exact h
         · rw[List.getElem?_eq_none h]at hy;cases hy
       have:=NL a b f (i+1) oM
       exact⟨this.1,fun _=>this.2 oM⟩
     · exact⟨h,fun h=>h⟩
   · exact⟨h,fun h=>h⟩
theorem Pz(a b:S):Cu a b≤a.length:=(NL a b _ 0 oM).1
theorem Sq(a b:S):Cu a b≤b.length:=(NL a b _ 0 oM).2 oM
theorem Fb(n:Int):0≤IntKind.u64.wrap n∧IntKind.u64.wrap n<18446744073709551616:=by
 have e1:((2:Int)^IntKind.u64.bits)=18446744073709551616:=by decide
 have e3:IntKind.u64.signed=false:=rfl
 unfold IntKind.wrap
 simp only[e1,e3,Bool.false_and,Bool.false_eq_true,if_false]
 omega
theorem Gw(x:Int):0≤Dp x∧Dp x<2^64:=Fb _
def Bc(x:Int):List UInt8:=Ap (Dp x).toNat
theorem KB(b:List UInt8)(x:Int)(hb:b.length≤2^40):
   Ad Tryz.prog 188 [.osl 0 b.length 1,I x] [some ⟨5,1,Ab b⟩] (.osl 1 (b++Bc x).length 1) [none,some ⟨5,1,Ab (b++Bc x)⟩]:=by
 refine acN 9 1 Tryz.func188 fun C hN hk=>?_
 have hz:=Gw x
 have q:=Db b (Dp x).toNat oM hb
 have e1:((Dp x).toNat:Int)=Dp x:=by omega
 rw[e1]at q
 have q0:=Aeo x
 unfold Bc
 generalize Ap (Dp x).toNat=vv at*
 refine Af [0,1] ?_ noc [0]
 refine rG hN hk (onc 2 (pc [I x] (U64 (Dp x)) []) (onc 3 (oc 0 ⟨5,1,Ab b⟩ [.osl 0 b.length 1,U64 (Dp x)] (.osl 1 (b++vv).length 1) [none,some ⟨5,1,Ab (b++vv)⟩]) noc)) [0] [4] fun K hK=>?_;simp only[go_sem,seval]
 refine⟨⟨BR q0 rfl sP,DJ q rfl sP sP rfl sP sP rfl⟩,hK _ _ ?_⟩
 clear hK K;refine nx ?_
 exact AW.ret (B0 trivial [some 0,some 1] [])
def Ew(d:List S)(i:Nat):Nat:=if i%16=0 then 0 else Cu (d.getD i []) (d.getD (i-1) [])
def E6(d:List S)(i:Nat):S:=(if i%16=0 then []else Ap (Ew d i))++Ap ((d.getD i []).length-Ew d i)++(d.getD i []).drop (Ew d i)
def A0(d:List S):Nat→S
 |0=>Ap d.length
 |i+1=>A0 d i++E6 d i
def AM(d:List S):S:=A0 d d.length
theorem Yr(d:List S)(i:Nat)(h:(d.getD i []).length≤2048):(E6 d i).length≤2070:=by
 unfold E6
 have h1:=Bf (Ew d i)
 have h2:=Bf ((d.getD i []).length-Ew d i)
 generalize d.getD i []=x at*
 generalize Ew d i=n at*
 split
 · simp only[List.length_append,List.length_drop,List.length_nil];omega
 · simp only[List.length_append,List.length_drop];omega
theorem Ff(d:List S)(h:EG d=false): ∀ i,i≤d.length→(A0 d i).length≤11+i*2070
 |0,_=>by simp only[A0];have:=Bf d.length;omega
 |i+1,hi=>by
   have:=Ff d h i oM
   have h2:=Yr d i (by
     simp only[EG,List.any_eq_false,decide_eq_true_eq]at h
     have hm:i<d.length:=by omega
     have:=h d[i] (List.getElem_mem hm)
     simp[List.getD,hm];omega)
   simp only[A0,List.length_append]
   omega
def KC(d:List S):AV×List (Option Ent):=if Bb d=0 then(.tup [.osl 0 (AM d).length 1,I 0],[some ⟨5,1,Ab (AM d)⟩])else(.tup [.val (.slice none 0 0),I (Bb d)],[])
theorem Se(d:List S)(hd:d.length≤2^40)(hs: ∀ s∈d,s.length≤2^40):Ad Tryz.prog 125 [.sl 1 (Au d)] [] (KC d).1 (KC d).2:=by
 refine acN 59 0 Tryz.func125 fun C hN hk=>?_
 have q0:=Acq d hd hs
 refine Af [0] ?_
 refine Af [0,4] ?_ (onc 1 (pc [.sl 1 (Au d)] (I (Bb d)) []) noc) (hp:=by exact BR q0 rfl sP)
 by_cases hc:Bb d=0
 · have hlen:d.length≤32768:=by unfold Bb at hc;split at hc<;>omega
   have hlong:EG d=false:=by
     unfold Bb at hc
     rw[if_neg oM]at hc
     cases h:EG d with
     |false=>rfl
     |true=>rw[h]at hc;simp at hc
   have e0:(Bb d !=0)=false:=by simp[hc]
   unfold KC
   rw[if_pos hc]
   have F:=e0;refine AD [0,11] ?_;clear F
   refine Ay rfl (AW.skip (As ?_))
   have q1:=KG d.length oM
   have e1:IntKind.u64.wrap (d.length:Int)=d.length:=IntWalk.u64_in _ oM
   have F:=e1;refine AD [0,5] ?_ (onc 3 (pc [.val (.slice none 0 0),U64 d.length] (.osl 0 (Ap d.length).length 1) [some ⟨5,1,Ab (Ap d.length)⟩]) noc) (hp:=by exact BR q1 rfl sP);clear F
   refine Af [0,5,6] ?_
   refine Bw hk 1 (fun i:Nat=>⟨[(0,.sl 1 (Au d)),(5,.osl 0 (A0 d i).length 1),(6,I i)],[(0,some ⟨5,1,Ab (A0 d i)⟩)]⟩) (fun i=>i≤d.length) (fun i=>d.length-i) 0 oM (Bk (And.intro A0.eq_1 A0.eq_2) [some 0] []) ?_
   intro i h1
   have hle:=Ff d hlong i h1
   by_cases hi:i<d.length
   · have e2:decide ((i:Int)<d.length)=true:=by simp;omega
     have F:=e2;refine AD [0,5,6,20] ?_;clear F
     refine AX rfl (AW.skip (As ?_))
     refine Af [0,5,6,7] ?_
     have hx:=List.getElem?_eq_getElem hi
     have hx2:d.getD i []=d[i]:=by simp[List.getD,hi]
     have hxl:d[i].length≤2048:=by
       simp only[EG,List.any_eq_false,decide_eq_true_eq]at hlong
       have:=hlong d[i] (List.getElem_mem hi)
       omega
     have hp1:A0 d (i+1)=A0 d i++E6 d i:=rfl
     have e3:(i:Int).tmod 16=((i%16:Nat):Int):=by rw[Int.tmod_eq_emod_of_nonneg oM];omega
     have e7:=Ar (n:=(i:Int)+1) oM
     by_cases h16:i%16=0
     · have e4:(((i%16:Nat):Int) !=0)=false:=by simp;omega
       rw[E6,if_pos h16,show Ew d i=0 by unfold Ew;rw[if_pos h16],hx2]at hp1
       generalize d[i]=x at hx hp1 hxl
       have F:=And.intro e3 e4;refine AD [0,5,6,7,25] ?_;clear F
       refine Ay rfl (AW.skip (As ?_))
       have q2:=Db (A0 d i) (x.length-0) oM oM
       have e5:=Ar (n:=(x.length:Int)-0) oM
       have e6:IntKind.u64.wrap ((x.length:Int)-0)=((x.length-0:Nat):Int):=by rw[IntWalk.u64_in _ oM];omega
       simp only[List.nil_append,List.drop_zero]at hp1
       have hvl:=Bf (x.length-0)
       generalize Ap (x.length-0)=vv at*
       generalize A0 d i=o at*
       have F:=And.intro hx (And.intro e5 e6);refine AD [0,5,6,7] ?_ (onc 9 (oc 0 ⟨5,1,Ab o⟩ [.osl 0 o.length 1,U64 ((x.length-0:Nat):Int)] (.osl 1 (o++vv).length 1) [none,some ⟨5,1,Ab (o++vv)⟩]) noc) (hp:=by exact DJ q2 rfl sP sP rfl sP sP rfl);clear F
       generalize ho2:o++vv=o2 at*
       have hl2:o2.length=o.length+vv.length:=by rw[← ho2];simp
       refine nx ?_;refine rG hN hk noc [] [0,5,6] fun K hK=>?_;simp only[go_sem,seval,hx,List.drop_zero]
       first|with_reducible refine hK _ _ ?_|refine⟨by simp[List.length_drop];omega,hK _ _ ?_⟩|refine obK (hK _ _ ?_)
       clear hK K;have F:=e7;refine AD [0,5,6] ?_;clear F
       exact⟨i+1,oM,oM,(Bk (And.intro hp1 (And.intro (Eq.symm ho2) @Nat.add_assoc)) [some 0] [])⟩
     · have e4:(((i%16:Nat):Int) !=0)=true:=by simp;omega
       have hi0:0<i:=by omega
       have hy:=List.getElem?_eq_getElem (show i-1<d.length by omega)
       have hy2:d.getD (i-1) []=d[i-1]:=by simp[List.getD,show i-1<d.length by omega]
       have hyl:d[i-1].length≤2048:=by
         simp only[EG,List.any_eq_false,decide_eq_true_eq]at hlong
         have:=hlong d[i-1] (List.getElem_mem oM)
         omega
       rw[E6,if_neg h16,show Ew d i=Cu (d.getD i []) (d.getD (i-1) []) by unfold Ew;rw[if_neg h16],hx2,hy2]at hp1
       generalize d[i]=x at hx hp1 hxl
       generalize d[i-1]=y at hy hp1 hyl
       have q3:=AdH x y oM oM
       have hcl:=Pz x y
       have e8:=Ar (n:=(i:Int)-1) oM
       have e9:((i:Int)-1).toNat=i-1:=by omega
       generalize Cu x y=n at*
       have F:=And.intro e3 e4;refine AD [0,5,6,7,25] ?_;clear F
       refine cT ?_;have F:=And.intro hx (And.intro hy (And.intro e8 e9));refine DI [0,5,6,7] ?_ (onc 9 (pc [str x,str y] (I n) []) noc) (hp:=by exact⟨oM,BR q3 rfl sP⟩);clear F
       have e10:IntKind.u64.wrap (n:Int)=n:=IntWalk.u64_in _ oM
       have q4:=Db (A0 d i) n oM oM
       have hvn:=Bf n
       have q2:=Db (A0 d i++Ap n) (x.length-n) oM sO
       have e5:=Ar (n:=(x.length:Int)-n) oM
       have e6:IntKind.u64.wrap ((x.length:Int)-n)=((x.length-n:Nat):Int):=by rw[IntWalk.u64_in _ oM];omega
       have hvl:=Bf (x.length-n)
       have e11:(n:Int).toNat=n:=by omega
       generalize Ap (x.length-n)=vv at*
       generalize Ap n=vn at*
       generalize A0 d i=o at*
       have F:=e10;refine AD [0,5,6,7] ?_ (onc 3 (oc 0 ⟨5,1,Ab o⟩ [.osl 0 o.length 1,U64 n] (.osl 1 (o++vn).length 1) [none,some ⟨5,1,Ab (o++vn)⟩]) noc) (hp:=by exact DJ q4 rfl sP sP rfl sP sP rfl);clear F
       have hl1:(o++vn).length=o.length+vn.length:=by simp
       generalize ho1:o++vn=o1 at*
       have F:=And.intro hx (And.intro e5 e6);refine AD [0,5,6,7] ?_ (onc 9 (oc 0 ⟨5,1,Ab o1⟩ [.osl 0 o1.length 1,U64 ((x.length-n:Nat):Int)] (.osl 1 (o1++vv).length 1) [none,some ⟨5,1,Ab (o1++vv)⟩]) noc) (hp:=by exact DJ q2 rfl sP sP rfl sP sP rfl);clear F
       have hl2:(o1++vv).length=o1.length+vv.length:=by simp
       have hp2:A0 d (i+1)=(o1++vv)++x.drop n:=by rw[hp1,← ho1];simp[List.append_assoc]
       generalize ho2:o1++vv=o2 at*
       have F:=And.intro hx e11;refine AD [0,5,6] ?_ (hp:=by simp[List.length_drop];omega);clear F
       have F:=e7;refine AD [0,5,6] ?_;clear F
       exact⟨i+1,oM,oM,(Bk hp2 [some 0] [])⟩
   · have e2:decide ((i:Int)<d.length)=false:=by simp;omega
     have:i=d.length:=by omega
     have F:=e2;refine AD [0,5,6,20] ?_;clear F
     refine Ay rfl (AW.exit (Ba (Ba (BZ (As ?_)))))
     subst this
     refine Af [2,3] ?_
     exact AW.ret (B0 AM.eq_1 [some 0] [])
 · have e0:(Bb d !=0)=true:=by simp[hc]
   unfold KC
   rw[if_neg hc]
   have F:=e0;refine AD [0,4,11] ?_;clear F
   refine cT ?_;refine Af [2,3] ?_
   exact AW.ret (B0 trivial [] [])
end Go.Proofs.YtpkhodjlnodagaaGreatDoor
namespace Go.Proofs.YtpkhodjlnodagaaGreatDoor
open Go.Av
theorem orU(a b:Nat)(ha:a<2^64)(hb:b<2^64):AP .or .u64 (a:Int) (b:Int)=((a ||| b:Nat):Int):=by
 simp only[AP]
 have e:IntKind.u64.bits=64:=rfl
 rw[BitVec.toNat_or,BitVec.ofInt_natCast,BitVec.ofInt_natCast,BitVec.toNat_ofNat,BitVec.toNat_ofNat,e,Nat.mod_eq_of_lt ha,Nat.mod_eq_of_lt hb]
 have:=Nat.or_lt_two_pow ha hb
 exact IntWalk.u64_in _ oM
theorem WS(d:Nat)(h:d<256):AP .and .u64 (d:Int) 127=((d%128:Nat):Int):=by
 have h2: ∀ x:Fin 256,AP .and .u64 ((x.val:Nat):Int) 127=((x.val%128:Nat):Int):=by decide+kernel
 exact h2 ⟨d,h⟩
theorem AbR(v x k:Nat)(hv:v<2^(7*k))(ht:v+x*2^(7*k)<2^64)(hx:x<128):
   AP .or .u64 (v:Int) (IntKind.u64.wrap ((x:Int)*2^(7*k)))=((v+x*2^(7*k):Nat):Int):=by
 have e:((x:Int)*2^(7*k))=((x*2^(7*k):Nat):Int):=by push_cast;rfl
 rw[e,IntWalk.u64_in _ oM,orU _ _ oM oM]
 have:=Nat.two_pow_add_eq_or_of_lt hv x
 rw[Nat.or_comm,Nat.mul_comm x,← this,Nat.add_comm]
@[simp,go_sem] theorem Aer(l:List UInt8):FY (Ab l)=l:=by
 induction l with
 |nil=>rfl
 |cons a l ih=>
   simp only[Ab,FY,List.map_cons,List.map_map]at ih ⊢
   rw[ih]
   simp[FE,Po]
theorem B2(l:List UInt8): ∀ c∈Ab l,Gu c=true:=by
 intro c hc
 simp only[Ab,List.mem_map]at hc
 obtain⟨x,_,rfl⟩:=hc
 have:=x.toNat_lt
 simp only[FE,Gu,decide_eq_true_eq]
 omega
theorem ofNat_toNat(n:Nat)(h:n<256):(UInt8.ofNat n).toNat=n:=by simp;omega
theorem L3(at_:Nat)(post:List UInt8): ∀ (f k m v:Nat) (pre:List UInt8),f+k=10→pre.length=at_+k→v<2^(7*k)→v+m*2^(7*k)<2^64→(0<k→0<m)→
   J8 (pre++BL f m++post) at_ f k (v:Int)=some (((v+m*2^(7*k):Nat):Int),pre.length+(BL f m).length)
 |0,k,m,v,pre,hf,hp,hv,ht,hm=>by
   obtain rfl:k=10:=by omega
   have:=hm oM
   exfalso
   have:2^(7*10)≤m*2^(7*10):=Nat.le_mul_of_pos_left _ this
   omega
 |f+1,k,m,v,pre,hf,hp,hv,ht,hm=>by
   have hk9:k≤9:=by omega
   have hm9:k=9→m<2:=by rintro rfl;omega
   rw[J8]
   by_cases h:m<128
   · have e:BL (f+1) m=[UInt8.ofNat m]:=by rw[BL,if_pos h]
     have hg:(pre++BL (f+1) m++post)[at_+k]? =some (UInt8.ofNat m):=by
       rw[e,← hp,List.append_assoc,List.getElem?_append_right oM];simp
     rw[hg]
     simp only[ofNat_toNat m oM]
     rw[if_neg oM,if_pos h,if_neg oM,WS m oM,Nat.mod_eq_of_lt h,AbR v m k hv ht h,e,hp]
     rfl
   · have e:BL (f+1) m=UInt8.ofNat (m%128+128)::BL f (m / 128):=by rw[BL,if_neg h]
     have hg:(pre++BL (f+1) m++post)[at_+k]? =some (UInt8.ofNat (m%128+128)):=by
       rw[e,← hp,List.append_assoc,List.getElem?_append_right oM];simp
     rw[hg]
     have hpw:2^(7*(k+1))=2^(7*k)*128:=by rw[show 7*(k+1)=7*k+7 by omega,Nat.pow_add]
     have hsum:v+m%128*2^(7*k)+m / 128*2^(7*(k+1))=v+m*2^(7*k):=by
       rw[hpw]
       generalize 2^(7*k)=p
       have h1:m / 128*(p*128)=(m / 128*128)*p:=by rw[Nat.mul_comm p,Nat.mul_assoc]
       rw[h1,Nat.add_assoc,← Nat.add_mul]
       congr 2
       omega
     have hle:m%128*2^(7*k)≤m*2^(7*k):=Nat.mul_le_mul_right _ (Nat.mod_le _ _)
     simp only[ofNat_toNat (m%128+128) oM]
     rw[if_neg oM,if_neg oM,WS _ oM,show(m%128+128)%128=m%128 by omega,AbR v (m%128) k hv oM oM]
     have hv2:v+m%128*2^(7*k)<2^(7*(k+1)):=by
       rw[hpw]
       have:m%128*2^(7*k)≤127*2^(7*k):=Nat.mul_le_mul_right _ oM
       omega
     have ih:=L3 at_ post f (k+1) (m / 128) (v+m%128*2^(7*k)) (pre++[UInt8.ofNat (m%128+128)]) oM sO hv2 oM oM
     rw[e]
     rw[hsum]at ih
     have hl:pre++UInt8.ofNat (m%128+128)::BL f (m / 128)++post=pre++[UInt8.ofNat (m%128+128)]++BL f (m / 128)++post:=by simp
     rw[hl,ih]
     simp only[List.length_append,List.length_cons,List.length_nil]
     congr 2
     omega
theorem CV(pre post:List UInt8)(m:Nat)(hm:m<2^64):Hv (pre++Ap m++post) pre.length=some ((m:Int),pre.length+(Ap m).length):=by
 have:=L3 pre.length post 10 0 m 0 pre rfl sP sP (by simpa using hm) oM
 simpa [Hv,Ap] using this
end Go.Proofs.YtpkhodjlnodagaaGreatDoor
namespace Go.Proofs.YtpkhodjlnodagaaGreatDoor
open Go.Av
set_option maxHeartbeats 4000000
attribute [local irreducible] Ad
theorem Ou(a b:S): ∀ f i,a.take i=b.take i→a.take (FK a b f i)=b.take (FK a b f i)
 |0,i,h=>h
 |f+1,i,h=>by
   rw[FK]
   split
   · next x y hx hy=>
     split
     · next hxy=>
       subst hxy
       refine Ou a b f (i+1) ?_
       rw[List.take_add_one,List.take_add_one,h,hx,hy]
     · exact h
   · exact h
theorem X8(a b:S):a.take (Cu a b)=b.take (Cu a b):=Ou a b _ 0 sP
theorem M2(d:List S)(i:Nat): ∀ j,∃ t,A0 d (i+j)=A0 d i++t
 |0=>⟨[],sP⟩
 |j+1=>by
   obtain⟨t,ht⟩:=M2 d i j
   exact⟨t++E6 d (i+j),by rw[← Nat.add_assoc,A0,ht,List.append_assoc]⟩
theorem KM(d:List S)(i:Nat)(h:i≤d.length): ∃ t,AM d=A0 d i++t:=by
 obtain⟨t,ht⟩:=M2 d i (d.length-i)
 rw[show i+(d.length-i)=d.length by omega]at ht
 exact⟨t,ht⟩
theorem Rr(d:List S)(hc:Bb d=0):
   Ad Tryz.prog 72 [.sl 1 (Ab (AM d))] [] (.tup [.osl 0 d.length 1,I 0]) [some ⟨9,1,Au d⟩]:=by
 have hlen:d.length≤32768:=by unfold Bb at hc;split at hc<;>omega
 have hlong:EG d=false:=by
   unfold Bb at hc
   rw[if_neg oM]at hc
   cases h:EG d with
   |false=>rfl
   |true=>rw[h]at hc;simp at hc
 have hs: ∀ s∈d,s.length≤2048:=by
   intro s hs
   simp only[EG,List.any_eq_false,decide_eq_true_eq]at hlong
   have:=hlong s hs
   omega
 have hel:=Ff d hlong d.length oM
 have hel':(AM d).length≤2^40:=by unfold AM;omega
 refine acN 114 0 Tryz.func72 fun C hN hk=>?_
 have q0:=DM (AM d) 0 hel' oM
 obtain⟨t0,ht0⟩:=KM d 0 oM
 rw[show Hv (AM d) 0=some ((d.length:Int),(A0 d 0).length) by
   have:=CV [] t0 d.length oM
   simp only[List.nil_append,List.length_nil,Nat.zero_add]at this
   rw[ht0];exact this]at q0
 simp only[Ds]at q0
 refine Af [0] ?_
 refine Af [0,4,5,6] ?_ (onc 1 (pc [.sl 1 (Ab (AM d)),I 0] (.tup [U64 d.length,I (A0 d 0).length,B true]) []) noc) (hp:=by exact BR q0 rfl sP)
 have e0:decide ((d.length:Int)>32768)=false:=by simp;omega
 have F:=e0;refine AD [0,4,5,25] ?_;clear F
 refine Ay rfl (AW.skip (As ?_))
 refine Af [0,4,5,7] ?_
 refine Af [0,4,5,7,8] ?_
 refine Bw hk 1 (fun i:Nat=>⟨[(0,.sl 1 (Ab (AM d))),(4,U64 d.length),(5,I (A0 d i).length),(7,.osl 0 i 1),(8,I i)],[(0,some ⟨9,1,Au (d.take i)⟩)]⟩) (fun i=>i≤d.length) (fun i=>d.length-i) 0 oM (Bk Au.eq_1 [none] []) ?_
 intro i h1
 have e1:=Ar (n:=(d.length:Int)) oM
 by_cases hi:i<d.length
 · have e2:decide ((i:Int)<d.length)=true:=by simp;omega
   have F:=And.intro e1 e2;refine AD [0,4,5,7,8,29] ?_;clear F
   refine AX rfl (AW.skip (As ?_))
   refine Af [0,4,5,7,8,9] ?_
   have hx:=List.getElem?_eq_getElem hi
   have hx2:d.getD i []=d[i]:=by simp[List.getD,hi]
   have hxl:d[i].length≤2048:=hs _ (List.getElem_mem hi)
   have htk:d.take (i+1)=d.take i++[d[i]]:=List.take_succ_eq_append_getElem hi
   have e3:(i:Int).tmod 16=((i%16:Nat):Int):=by rw[Int.tmod_eq_emod_of_nonneg oM];omega
   have e7:=Ar (n:=(i:Int)+1) oM
   obtain⟨t1,ht1⟩:=KM d (i+1) oM
   have htl:(d.take i).length=i:=by simp;omega
   have hb1:=Ff d hlong i oM
   have hb2:=Ff d hlong (i+1) oM
   have hp1:A0 d (i+1)=A0 d i++E6 d i:=rfl
   have hel2:(AM d).length=(A0 d (i+1)).length+t1.length:=by rw[ht1];simp
   by_cases h16:i%16=0
   · have e4:(((i%16:Nat):Int) !=0)=false:=by simp;omega
     rw[E6,if_pos h16,show Ew d i=0 by unfold Ew;rw[if_pos h16],hx2]at hp1
     generalize d[i]=x at hx hp1 hxl htk
     simp only[List.nil_append,List.drop_zero,Nat.sub_zero]at hp1
     have q1:=DM (AM d) (A0 d i).length hel' oM
     have hgv:=CV (A0 d i) (x++t1) x.length oM
     rw[show A0 d i++Ap x.length++(x++t1)=AM d by rw[ht1,hp1];simp[List.append_assoc]]at hgv
     rw[hgv]at q1
     simp only[Ds]at q1
     have hd1:((AM d).drop ((A0 d i).length+(Ap x.length).length)).take x.length=x:=by
       rw[ht1,hp1]
       rw[show(A0 d i++(Ap x.length++x)++t1)=(A0 d i++Ap x.length)++(x++t1) by simp[List.append_assoc]]
       rw[← List.length_append,List.drop_left];simp
     have hl1:(A0 d (i+1)).length=(A0 d i).length+(Ap x.length).length+x.length:=by rw[hp1];simp[Nat.add_assoc]
     generalize (Ap x.length).length=vl at*
     generalize AM d=e at*
     generalize (A0 d i).length=c at*
     have F:=And.intro e3 e4;refine AD [0,4,5,7,8,9,34] ?_;clear F
     refine Ay rfl (AW.skip (As ?_))
     refine Af [0,4,5,7,8,9,10] ?_
     refine rG hN hk (onc 2 (pc [.sl 1 (Ab e),I c] (.tup [U64 x.length,I ((c+vl:Nat):Int),B true]) []) noc) [] [0,4,5,6,7,8,9,10] fun K hK=>?_;simp only[go_sem,seval]
     first|with_reducible refine hK _ _ ?_|refine⟨by exact BR q1 rfl sP,hK _ _ ?_⟩|refine obK (hK _ _ ?_)
     clear hK K;refine nx ?_
     have e8:=Ar (n:=(e.length:Int)- ((c+vl:Nat):Int)) oM
     have e9:=IntWalk.u64_in ((e.length:Int)- ((c+vl:Nat):Int)) oM
     have e10:decide ((x.length:Int)>(e.length:Int)- ((c+vl:Nat):Int))=false:=by simp;omega
     have F:=And.intro e8 (And.intro e9 e10);refine AD [0,4,5,7,8,9,10,72] ?_;clear F
     refine Ay rfl (AW.skip (As ?_))
     refine Af [0,4,5,7,8,9,10,11] ?_
     have F:=And.intro e3 e4;refine AD [0,4,5,7,8,9,10,11,75] ?_;clear F
     refine Ay rfl (AW.skip (As ?_))
     have e11:=Ar (n:=(x.length:Int)) oM
     have e12:=Ar (n:=((c+vl:Nat):Int)+x.length) oM
     have e13:(((c+vl:Nat):Int)).toNat=c+vl:=by omega
     have e14:(((c+vl:Nat):Int)+x.length).toNat=c+vl+x.length:=by omega
     rw[List.take_drop]at hd1
     have F:=And.intro e11 (And.intro e12 (And.intro e13 (And.intro e14 hd1)));refine AD [0,4,5,7,8,10] ?_ (hp:=by exact⟨⟨⟨⟨oM,B2 x⟩,oM⟩,sP⟩,oM,htl⟩);clear F
     have F:=And.intro e11 e12;refine AD [0,4,5,7,8] ?_;clear F
     have F:=e7;refine AD [0,4,5,7,8] ?_;clear F
     exact⟨i+1,oM,oM,(Bk (And.intro hl1 htk) [some 0] [])⟩
   · have e4:(((i%16:Nat):Int) !=0)=true:=by simp;omega
     have hi0:0<i:=by omega
     have hy:=List.getElem?_eq_getElem (show i-1<d.length by omega)
     have hy2:d.getD (i-1) []=d[i-1]:=by simp[List.getD,show i-1<d.length by omega]
     have hyl:d[i-1].length≤2048:=hs _ (List.getElem_mem oM)
     rw[E6,if_neg h16,show Ew d i=Cu (d.getD i []) (d.getD (i-1) []) by unfold Ew;rw[if_neg h16],hx2,hy2]at hp1
     have hy3:(d.take i)[i-1]? =some d[i-1]:=by rw[List.getElem?_take_of_lt oM];exact hy
     generalize d[i]=x at hx hp1 hxl htk
     generalize d[i-1]=y at hy hp1 hyl hy3
     have hcl:=Pz x y
     have hcl2:=Sq x y
     have hct:=X8 x y
     generalize Cu x y=n at*
     have q1:=DM (AM d) (A0 d i).length hel' oM
     have hgv:=CV (A0 d i) (Ap (x.length-n)++x.drop n++t1) n oM
     rw[show A0 d i++Ap n++(Ap (x.length-n)++x.drop n++t1)=AM d by rw[ht1,hp1];simp[List.append_assoc]]at hgv
     rw[hgv]at q1
     have q2:=DM (AM d) (A0 d i++Ap n).length hel' (by simp;have:=Bf n;omega)
     have hgv2:=CV (A0 d i++Ap n) (x.drop n++t1) (x.length-n) oM
     rw[show A0 d i++Ap n++Ap (x.length-n)++(x.drop n++t1)=AM d by rw[ht1,hp1];simp[List.append_assoc]]at hgv2
     rw[hgv2]at q2
     simp only[Ds,List.length_append]at q1 q2
     have hd1:((AM d).drop ((A0 d i).length+(Ap n).length+(Ap (x.length-n)).length)).take (x.length-n)=x.drop n:=by
       rw[ht1,hp1]
       rw[show(A0 d i++(Ap n++Ap (x.length-n)++x.drop n)++t1)=(A0 d i++Ap n++Ap (x.length-n))++(x.drop n++t1) by simp[List.append_assoc]]
       rw[← List.length_append,← List.length_append,List.drop_left,List.take_append_of_le_length sP,List.take_of_length_le sP]
     have hl1:(A0 d (i+1)).length=(A0 d i).length+(Ap n).length+(Ap (x.length-n)).length+(x.length-n):=by rw[hp1];simp[Nat.add_assoc]
     have hjoin:y.take n++x.drop n=x:=by rw[← hct,List.take_append_drop]
     generalize (Ap (x.length-n)).length=vl at*
     generalize (Ap n).length=vn at*
     generalize AM d=e at*
     generalize (A0 d i).length=c at*
     have F:=And.intro e3 e4;refine AD [0,4,5,7,8,9,34] ?_;clear F
     refine cT ?_;refine nx ?_;refine rG hN hk (onc 2 (pc [.sl 1 (Ab e),I c] (.tup [U64 n,I ((c+vn:Nat):Int),B true]) []) noc) [] [0,4,5,6,7,8,9] fun K hK=>?_;simp only[go_sem,seval]
     first|with_reducible refine hK _ _ ?_|refine⟨by exact BR q1 rfl sP,hK _ _ ?_⟩|refine obK (hK _ _ ?_)
     clear hK K;refine nx ?_
     have e15:=Ar (n:=(i:Int)-1) oM
     have e16:((i:Int)-1).toNat=i-1:=by omega
     have e17:=IntWalk.u64_in (y.length:Int) oM
     have e18:decide ((n:Int)>(y.length:Int))=false:=by simp;omega
     have F:=And.intro e15 (And.intro e16 (And.intro e17 (And.intro e18 hy3)));refine AD [0,4,5,7,8,9,54] ?_;clear F
     refine Ay rfl (AW.skip (As ?_))
     refine Af [0,4,5,7,8,9,10] ?_
     refine rG hN hk (onc 2 (pc [.sl 1 (Ab e),I ((c+vn:Nat):Int)] (.tup [U64 ((x.length-n:Nat):Int),I ((c+vn+vl:Nat):Int),B true]) []) noc) [] [0,4,5,6,7,8,9,10] fun K hK=>?_;simp only[go_sem,seval]
     first|with_reducible refine hK _ _ ?_|refine⟨by exact BR q2 rfl sP,hK _ _ ?_⟩|refine obK (hK _ _ ?_)
     clear hK K;refine nx ?_
     have e8:=Ar (n:=(e.length:Int)- ((c+vn+vl:Nat):Int)) oM
     have e9:=IntWalk.u64_in ((e.length:Int)- ((c+vn+vl:Nat):Int)) oM
     have e10:decide (((x.length-n:Nat):Int)>(e.length:Int)- ((c+vn+vl:Nat):Int))=false:=by simp;omega
     have F:=And.intro e8 (And.intro e9 e10);refine AD [0,4,5,7,8,9,10,72] ?_;clear F
     refine Ay rfl (AW.skip (As ?_))
     refine Af [0,4,5,7,8,9,10,11] ?_
     have F:=And.intro e3 e4;refine AD [0,4,5,7,8,9,10,11,75] ?_;clear F
     refine cT ?_
     have e19:(n:Int).toNat=n:=by omega
     have F:=And.intro e15 (And.intro e16 (And.intro e19 hy3));refine AD [0,4,5,7,8,10,11] ?_;clear F
     have e11:=Ar (n:=((x.length-n:Nat):Int)) oM
     have e12:=Ar (n:=((c+vn+vl:Nat):Int)+((x.length-n:Nat):Int)) oM
     have e13:(((c+vn+vl:Nat):Int)).toNat=c+vn+vl:=by omega
     have e14:(((c+vn+vl:Nat):Int)+((x.length-n:Nat):Int)).toNat=c+vn+vl+(x.length-n):=by omega
     rw[List.take_drop]at hd1
     have F:=And.intro e11 (And.intro e12 (And.intro e13 (And.intro e14 hd1)));refine AD [0,4,5,7,8,10] ?_ (hp:=by exact⟨⟨⟨⟨oM,B2 _⟩,sO⟩,sP⟩,oM,htl⟩);clear F
     rw[hjoin]
     have F:=And.intro e11 e12;refine AD [0,4,5,7,8] ?_;clear F
     have F:=e7;refine AD [0,4,5,7,8] ?_;clear F
     exact⟨i+1,oM,oM,(Bk (And.intro hl1 htk) [some 0] [])⟩
 · have e2:decide ((i:Int)<d.length)=false:=by simp;omega
   have:i=d.length:=by omega
   subst this
   have F:=And.intro e1 e2;refine AD [0,7,29] ?_;clear F
   refine Ay rfl (AW.exit (Ba (Ba (BZ (As ?_)))))
   rw[List.take_length]
   have q3:=Se d oM (fun s h=>by have:=hs s h;omega)
   rw[KC,if_pos hc]at q3
   have q4:=JN (AM d) (AM d) hel' hel'
   rw[decide_eq_true rfl]at q4
   generalize AM d=e at*
   refine Af [0,7,12,13] ?_ (onc 1 (bc [0] [.sl 1 (Au d)] (.tup [.osl 0 e.length 1,I 0]) [some ⟨5,1,Ab e⟩]) noc) (hp:=by exact Fh q3 rfl sP ⟨GL sP rfl rfl (by simp[FI]) rfl,trivial⟩ rfl sP (by simp[DY]))
   refine rG hN hk (onc 5 (bc [1] [.sl 1 (Ab e),.sl 1 (Ab e)] (B true) []) noc) [] [0,7,112] fun K hK=>?_;simp only[go_sem,seval,bne_self_eq_false]
   first|with_reducible refine hK _ _ ?_|refine⟨by exact Fh q4 rfl sP ⟨GL sP rfl rfl (by simp[Ab]) rfl,J0,trivial⟩ rfl sP (by simp[DY]),hK _ _ ?_⟩|refine obK (hK _ _ ?_)
   clear hK K;refine nx ?_
   refine Ay rfl (AW.skip (As ?_))
   refine Af [2,3] ?_
   exact AW.ret (B0 trivial [some 0] [])
theorem AhU(k:Nat)(hk3:k≤3)(r:List UInt8):Ad Tryz.prog 127 [.sl 1 (Ab (UInt8.ofNat k::r))] [] (.tup [I k,B true]) []:=by
 refine acN 17 0 Tryz.func127 fun C hN hk=>?_
 have hx:(UInt8.ofNat k::r)[0]? =some (UInt8.ofNat k):=rfl
 have e1:(((UInt8.ofNat k::r).length:Int)==0)=false:=by simp;omega
 have e2:=ofNat_toNat k oM
 have e3:decide ((k:Int)>3)=false:=by simp;omega
 have e4:((0:Int)<((UInt8.ofNat k::r).length:Int)):=by simp
 have e5:=Ar (n:=(k:Int)) oM
 generalize UInt8.ofNat k::r=b at*
 generalize UInt8.ofNat k=x at*
 refine Dg [0] ?_
 refine rG hN hk noc [] [0,12] fun K hK=>?_;simp only[go_sem,reduceIte,Nat.reduceAdd,Nat.reduceMul,Nat.reduceEqDiff,reduceCtorEq,Nat.reduceSub,Nat.reduceLeDiff,Nat.reducePow,e1,hx,e2,e3,Int.toNat_zero]
 first|with_reducible refine hK _ _ ?_|refine⟨by exact Int.le_refl _,hK _ _ ?_⟩|refine obK (hK _ _ ?_)
 clear hK K;refine nx ?_
 refine Ay rfl (AW.skip (As ?_))
 refine nx ?_;refine rG hN hk noc [] [2,3] fun K hK=>?_;simp only[go_sem,reduceIte,Nat.reduceAdd,Nat.reduceMul,Nat.reduceEqDiff,reduceCtorEq,Nat.reduceSub,Nat.reduceLeDiff,Nat.reducePow,hx,e2,e5,Int.toNat_zero]
 first|with_reducible refine hK _ _ ?_|refine⟨by exact Int.le_refl _,hK _ _ ?_⟩|refine obK (hK _ _ ?_)
 clear hK K;refine nx ?_
 exact AW.ret (B0 trivial [] [])
theorem Aco(b:List UInt8)(at_ n:Nat)(v:Int)(hb:b.length≤2^40)(ha:at_≤2^41)(h:Hv b at_=some (v,n)):Ad Tryz.prog 186 [.sl 1 (Ab b),I at_] [] (.tup [I (HJ v),I n,B true]) []:=by
 refine acN 21 0 Tryz.func186 fun C hN hk=>?_
 have q:=DM b at_ hb ha
 rw[h]at q
 have q2:=Agr v
 simp only[Ds]at q
 refine Dg [0,1] ?_
 refine Dg [7,8,9] ?_ (onc 2 (pc [.sl 1 (Ab b),I at_] (.tup [U64 v,I n,B true]) []) noc) (hp:=by exact BR q rfl sP)
 refine Dg [4,5,6] ?_ (onc 1 (pc [U64 v] (I (HJ v)) []) noc) (hp:=by exact BR q2 rfl sP)
 exact AW.ret (B0 trivial [] [])
def DF(v:List Int):Nat→Int
 |0=>v.getD 0 0
 |i+1=>if v.getD i 0<DF v i then v.getD i 0 else DF v i
def Ch(v:List Int):Nat→Int
 |0=>v.getD 0 0
 |i+1=>if v.getD i 0>Ch v i then v.getD i 0 else Ch v i
theorem AdQ(v:List Int)(h0:0<v.length)(hl:v.length≤2^40):Ad Tryz.prog 225 [.sl 1 (An v)] [] (.tup [I (DF v v.length),I (Ch v v.length),B true]) []:=by
 refine acN 37 0 Tryz.func225 fun C hN hk=>?_
 have e1:((v.length:Int)==0)=false:=by simp;intro h;rw[h]at h0;simp at h0
 have hx:=List.getElem?_eq_getElem h0
 have hx2:v.getD 0 0=v[0]:=by simp[List.getD,h0]
 have e4:((0:Int)<(v.length:Int)):=by omega
 refine Dg [0] ?_
 have F:=e1;refine BB [0,10] ?_;clear F
 refine Ay rfl (AW.skip (As ?_))
 refine nx ?_
 refine rD hN hk noc [] [0,5,6] fun K tok htok hK=>?_
 simp only[go_sem,reduceIte,Nat.reduceAdd,Nat.reduceMul,Nat.reduceEqDiff,reduceCtorEq,Nat.reduceSub,Nat.reduceLeDiff,Nat.reducePow,hx,Int.toNat_zero]
 refine⟨htok _ dK,by exact Int.le_refl _,hK _ _ ?_⟩
 clear hK K htok tok
 refine nx ?_
 rw[← hx2]
 clear hx hx2 e1 e4
 refine Dg [0,5,6,7] ?_
 refine Bw hk 0 (fun i:Nat=>⟨[(0,.sl 1 (An v)),(5,I (DF v i)),(6,I (Ch v i)),(7,I i)],[]⟩) (fun i=>i≤v.length) (fun i=>v.length-i) 0 oM (Bk (And.intro (And.intro DF.eq_1 DF.eq_2) (And.intro Ch.eq_1 Ch.eq_2)) [] []) ?_
 intro i h1
 by_cases hi:i<v.length
 · have e2:decide ((i:Int)<v.length)=true:=by simp;omega
   have hx:=List.getElem?_eq_getElem hi
   have hx2:v.getD i 0=v[i]:=by simp[List.getD,hi]
   have hlo:DF v (i+1)=if v[i]<DF v i then v[i]else DF v i:=by rw[DF,hx2]
   have hhi:Ch v (i+1)=if v[i]>Ch v i then v[i]else Ch v i:=by rw[Ch,hx2]
   generalize v[i]=x at*
   have e7:=Ar (n:=(i:Int)+1) oM
   have F:=e2;refine BB [0,5,6,7,20] ?_;clear F
   refine AX rfl (AW.skip (As ?_))
   have F:=hx;refine PR [0,5,6,7] ?_;clear F
   have F:=e7;refine BB [0,5,6,7] ?_;clear F
   exact⟨i+1,oM,oM,(Bk (And.intro hlo hhi) [] [])⟩
 · have e2:decide ((i:Int)<v.length)=false:=by simp;omega
   have:i=v.length:=by omega
   subst this
   have F:=e2;refine BB [5,6,20] ?_;clear F
   refine Ay rfl (AW.exit (Ba (Ba (BZ (As ?_)))))
   refine Dg [2,3,4] ?_
   exact AW.ret (B0 trivial [] [])
def II(b:Nat):Nat:=if b=0 then 0 else Nat.log2 b+1
theorem Afc(x:Nat)(hx:x<256):((List.append (List.append [0,1,2,2,3,3,3,3,4,4,4,4,4,4,4,4,5,5,5,5,5,5,5,5,5,5,5,5,5,5,5,5,6,6,6,6,6,6,6,6,6,6,6,6,6,6,6,6,6,6,6,6,6,6,6,6,6,6,6,6,6,6,6,6] [7,7,7,7,7,7,7,7,7,7,7,7,7,7,7,7,7,7,7,7,7,7,7,7,7,7,7,7,7,7,7,7,7,7,7,7,7,7,7,7,7,7,7,7,7,7,7,7,7,7,7,7,7,7,7,7,7,7,7,7,7,7,7,7]) (List.append [8,8,8,8,8,8,8,8,8,8,8,8,8,8,8,8,8,8,8,8,8,8,8,8,8,8,8,8,8,8,8,8,8,8,8,8,8,8,8,8,8,8,8,8,8,8,8,8,8,8,8,8,8,8,8,8,8,8,8,8,8,8,8,8] [8,8,8,8,8,8,8,8,8,8,8,8,8,8,8,8,8,8,8,8,8,8,8,8,8,8,8,8,8,8,8,8,8,8,8,8,8,8,8,8,8,8,8,8,8,8,8,8,8,8,8,8,8,8,8,8,8,8,8,8,8,8,8,8])):List UInt8)[x]? =some (UInt8.ofNat (II x)):=by
 have h: ∀ i:Fin 256,((List.append (List.append [0,1,2,2,3,3,3,3,4,4,4,4,4,4,4,4,5,5,5,5,5,5,5,5,5,5,5,5,5,5,5,5,6,6,6,6,6,6,6,6,6,6,6,6,6,6,6,6,6,6,6,6,6,6,6,6,6,6,6,6,6,6,6,6] [7,7,7,7,7,7,7,7,7,7,7,7,7,7,7,7,7,7,7,7,7,7,7,7,7,7,7,7,7,7,7,7,7,7,7,7,7,7,7,7,7,7,7,7,7,7,7,7,7,7,7,7,7,7,7,7,7,7,7,7,7,7,7,7]) (List.append [8,8,8,8,8,8,8,8,8,8,8,8,8,8,8,8,8,8,8,8,8,8,8,8,8,8,8,8,8,8,8,8,8,8,8,8,8,8,8,8,8,8,8,8,8,8,8,8,8,8,8,8,8,8,8,8,8,8,8,8,8,8,8,8] [8,8,8,8,8,8,8,8,8,8,8,8,8,8,8,8,8,8,8,8,8,8,8,8,8,8,8,8,8,8,8,8,8,8,8,8,8,8,8,8,8,8,8,8,8,8,8,8,8,8,8,8,8,8,8,8,8,8,8,8,8,8,8,8])):List UInt8)[i.val]? =some (UInt8.ofNat (II i.val)):=by decide+kernel
 exact h ⟨x,hx⟩
theorem Ph(x:Nat)(hx:x<256):II x≤8∧x<2^II x:=by
 have h: ∀ i:Fin 256,II i.val≤8∧i.val<2^II i.val:=by decide+kernel
 exact h ⟨x,hx⟩
def BI(w:Nat)(x:Nat):Nat:=if 2^w≤x then x / 2^w else x
def C2(w:Nat)(x:Nat):Nat:=if 2^w≤x then w else 0
def GU(x:Nat):Nat:=C2 32 x+C2 16 (BI 32 x)+C2 8 (BI 16 (BI 32 x))+II (BI 8 (BI 16 (BI 32 x)))
theorem GH{w v x:Nat}(h:x<2^(w+v))(hv:w≤v):BI v x<2^v:=by
 unfold BI
 split
 · refine Nat.lt_of_lt_of_le ((Nat.div_lt_iff_lt_mul (Nat.two_pow_pos v)).2 (by rwa [← Nat.pow_add])) ?_
   exact Nat.pow_le_pow_right oM hv
 · omega
theorem Vh(x:Nat)(hx:x<2^64):Ad Tryz.prog 226 [U64 x] [] (I (GU x)) []:=by
 have h1:BI 32 x<2^32:=GH (w:=32) hx oM
 have h2:BI 16 (BI 32 x)<2^16:=GH (w:=16) h1 oM
 have h3:BI 8 (BI 16 (BI 32 x))<2^8:=GH (w:=8) h2 oM
 refine acN 25 0 Tryz.func226 fun C hN hk=>?_
 refine Dg [0,2] ?_
 generalize hy:x=y at*
 refine Dg [0,2,4] ?_
 refine AW.join hk 0 ⟨[(0,U64 ((BI 32 y:Nat):Int)),(2,I ((C2 32 y:Nat):Int))],[]⟩ ?_ ?_
 · refine De rfl (fun h=>?_) (fun h=>AW.skip (As ?_))
   · simp only[ge_iff_le,decide_eq_true_eq]at h
     have e1:BI 32 y=y / 2^32:=by unfold BI;rw[if_pos oM]
     have e2:C2 32 y=32:=by unfold C2;rw[if_pos oM]
     have e3:(y:Int).fdiv (2^min (Int.toNat 32) 64)=((y / 2^32:Nat):Int):=by
       rw[show min (Int.toNat 32) 64=32 by decide,Int.fdiv_eq_ediv_of_nonneg _ dC]
       omega
     rw[e1,e2]
     have F:=e3;refine BB [0,2] ?_;clear F
     refine Dg [0,2] ?_
     exact Bk trivial [] []
   · simp only[ge_iff_le,decide_eq_false_iff_not]at h
     have e1:BI 32 y=y:=by unfold BI;rw[if_neg oM]
     have e2:C2 32 y=0:=by unfold C2;rw[if_neg oM]
     rw[e1,e2]
     exact Bk trivial [] []
 have g1:C2 32 y≤32:=by unfold C2;split<;>omega
 unfold GU
 generalize C2 32 y=c at*
 have hcl:c≤32:=by omega
 generalize BI 32 y=y at*
 have h0:=hcl
 refine Dg [0,2,8] ?_
 refine AW.join hk 0 ⟨[(0,U64 ((BI 16 y:Nat):Int)),(2,I ((c+C2 16 y:Nat):Int))],[]⟩ ?_ ?_
 · refine De rfl (fun h=>?_) (fun h=>AW.skip (As ?_))
   · simp only[ge_iff_le,decide_eq_true_eq]at h
     have e1:BI 16 y=y / 2^16:=by unfold BI;rw[if_pos oM]
     have e2:C2 16 y=16:=by unfold C2;rw[if_pos oM]
     have e3:(y:Int).fdiv (2^min (Int.toNat 16) 64)=((y / 2^16:Nat):Int):=by
       rw[show min (Int.toNat 16) 64=16 by decide,Int.fdiv_eq_ediv_of_nonneg _ dC]
       omega
     have e4:=Ar (n:=(c:Int)+16) oM
     rw[e1,e2]
     have F:=e3;refine BB [0,2] ?_;clear F
     have F:=e4;refine BB [0,2] ?_;clear F
     exact Bk h0 [] []
   · simp only[ge_iff_le,decide_eq_false_iff_not]at h
     have e1:BI 16 y=y:=by unfold BI;rw[if_neg oM]
     have e2:C2 16 y=0:=by unfold C2;rw[if_neg oM]
     rw[e1,e2]
     exact Bk trivial [] []
 have g2:C2 16 y≤16:=by unfold C2;split<;>omega
 generalize hcc2:c+C2 16 y=c
 have hcl:c≤48:=by omega
 generalize BI 16 y=y at*
 have h0:=hcl
 refine Dg [0,2,14] ?_
 refine AW.join hk 0 ⟨[(0,U64 ((BI 8 y:Nat):Int)),(2,I ((c+C2 8 y:Nat):Int))],[]⟩ ?_ ?_
 · refine De rfl (fun h=>?_) (fun h=>AW.skip (As ?_))
   · simp only[ge_iff_le,decide_eq_true_eq]at h
     have e1:BI 8 y=y / 2^8:=by unfold BI;rw[if_pos oM]
     have e2:C2 8 y=8:=by unfold C2;rw[if_pos oM]
     have e3:(y:Int).fdiv (2^min (Int.toNat 8) 64)=((y / 2^8:Nat):Int):=by
       rw[show min (Int.toNat 8) 64=8 by decide,Int.fdiv_eq_ediv_of_nonneg _ dC]
       omega
     have e4:=Ar (n:=(c:Int)+8) oM
     rw[e1,e2]
     have F:=e3;refine BB [0,2] ?_;clear F
     have F:=e4;refine BB [0,2] ?_;clear F
     exact Bk h0 [] []
   · simp only[ge_iff_le,decide_eq_false_iff_not]at h
     have e1:BI 8 y=y:=by unfold BI;rw[if_neg oM]
     have e2:C2 8 y=0:=by unfold C2;rw[if_neg oM]
     rw[e1,e2]
     exact Bk trivial [] []
 have g3:C2 8 y≤8:=by unfold C2;split<;>omega
 generalize hcc3:c+C2 8 y=c
 generalize BI 8 y=y at*
 have g4:=Ph y h3
 have e4:IntKind.u8.wrap (y:Int)=y:=by rw[IW];omega
 have e5:=Afc y h3
 have e6:=ofNat_toNat (II y) oM
 have e7:=Ar (n:=(II y:Int)) oM
 have e8:=Ar (n:=(c:Int)+(II y:Int)) oM
 have F:=And.intro e4 (And.intro e5 (And.intro e6 (And.intro e7 e8)));refine BB [2] ?_;clear F
 exact AW.ret (B0 trivial [] [])
theorem QH(a:Nat)(ha:a<2^64):AP .and .u64 (a:Int) 1=((a%2:Nat):Int):=by
 simp only[AP]
 have e:IntKind.u64.bits=64:=rfl
 rw[BitVec.toNat_and,BitVec.ofInt_natCast,show(BitVec.ofInt IntKind.u64.bits 1).toNat=1 by rfl,BitVec.toNat_ofNat,e,Nat.mod_eq_of_lt ha,Nat.and_one_is_mod]
 exact IntWalk.u64_in _ oM
theorem AbG(a k:Nat)(hk:k≤64):(a:Int).fdiv (2^min (k:Int).toNat 64)=((a / 2^k:Nat):Int):=by
 rw[show min (k:Int).toNat 64=k by omega,Int.fdiv_eq_ediv_of_nonneg _ (Int.pow_nonneg dC)]
 push_cast
 rfl
theorem AgN(d k:Nat)(hd:d<2^64)(hk:k≤64):(AP .and .u64 ((d:Int).fdiv (2^min k 64)) 1==1)=d.testBit k:=by
 have hh:min k 64=min (k:Int).toNat 64:=by omega
 rw[hh]
 rw[AbG d k hk,QH _ (by have:=Nat.div_le_self d (2^k);omega),Nat.testBit_eq_decide_div_mod_eq]
 rw[Bool.eq_iff_iff]
 generalize d / 2^k=m
 simp only[beq_iff_eq,decide_eq_true_eq]
 omega
theorem rep0(n:Nat):List.replicate n [AV.val (.int .u8 0)]=Ab (List.replicate n 0):=by simp[Ab,FE]
def Hy(o:List UInt8)(p:Nat):List UInt8:=o.set (p / 8) (UInt8.ofNat ((o.getD (p / 8) 0).toNat ||| 2^(p%8)))
theorem Zw(a p:Nat)(ha:a<256)(hp:p<8):AP .or .u8 (a:Int) (IntKind.u8.wrap (1*2^min p 8))=((a ||| 2^p:Nat):Int)∧a ||| 2^p<256:=by
 have h2: ∀ (x:Fin 256) (y:Fin 8),AP .or .u8 ((x.val:Nat):Int) (IntKind.u8.wrap (1*2^min y.val 8))=((x.val ||| 2^y.val:Nat):Int)∧x.val ||| 2^y.val<256:=by decide+kernel
 exact h2 ⟨a,ha⟩ ⟨p,hp⟩
def dU(lo x:Int):Nat:=(IntKind.u64.wrap (IntKind.u64.wrap x-IntKind.u64.wrap lo)).toNat
def Dk(d at_:Nat):Nat→List UInt8→List UInt8
 |0,o=>o
 |k+1,o=>if d.testBit k then Hy (Dk d at_ k o) (at_+k)else Dk d at_ k o
theorem Io(d at_ k:Nat)(o:List UInt8):(Dk d at_ k o).length=o.length:=by
 induction k with
 |zero=>rfl
 |succ k ih=>simp only[Dk];split<;>simp[Hy,ih]
def BA(v:List Int)(lo:Int)(w:Nat):Nat→List UInt8
 |0=>List.replicate ((v.length*w+7) / 8) 0
 |i+1=>Dk (dU lo (v.getD i 0)) (i*w) w (BA v lo w i)
theorem EZ(v:List Int)(lo:Int)(w i:Nat):(BA v lo w i).length=(v.length*w+7) / 8:=by
 induction i with
 |zero=>simp[BA]
 |succ i ih=>simp only[BA,Io,ih]
def loF(v:List Int):Int:=DF v v.length
def Be(v:List Int):Nat:=GU (dU (loF v) (Ch v v.length))
def EO(v:List Int):List UInt8:=if v.length=0 then []else Bc (loF v)++[UInt8.ofNat (Be v)]++BA v (loF v) (Be v) v.length
theorem GZ(lo x:Int):dU lo x<2^64:=by
 have:=Fb (IntKind.u64.wrap x-IntKind.u64.wrap lo)
 unfold dU;omega
theorem MC(lo x:Int):IntKind.u64.wrap (IntKind.u64.wrap x-IntKind.u64.wrap lo)=(dU lo x:Int):=by
 have:=Fb (IntKind.u64.wrap x-IntKind.u64.wrap lo)
 unfold dU;omega
theorem PW(w x:Nat):C2 w x≤w:=by unfold C2;split<;>omega
theorem HR(x:Nat)(hx:x<2^64):GU x≤64:=by
 have h1:BI 32 x<2^32:=GH (w:=32) hx oM
 have h2:BI 16 (BI 32 x)<2^16:=GH (w:=16) h1 oM
 have h3:BI 8 (BI 16 (BI 32 x))<2^8:=GH (w:=8) h2 oM
 have:=(Ph _ h3).1
 have:=PW 32 x
 have:=PW 16 (BI 32 x)
 have:=PW 8 (BI 16 (BI 32 x))
 unfold GU;omega
theorem AgV(b:List UInt8)(v:List Int)(h0:0<v.length)(hl:v.length≤2^30)(hb:b.length≤2^30):
   Ad Tryz.prog 187 [.osl 0 b.length 1,.sl 1 (An v)] [some ⟨5,1,Ab b⟩] (.osl 1 (b++EO v).length 1) [none,some ⟨5,1,Ab (b++EO v)⟩]:=by
 refine acN 83 1 Tryz.func187 fun C hN hk=>?_
 have e1:((v.length:Int)==0)=false:=by simp;intro h;rw[h]at h0;simp at h0
 have q1:=AdQ v h0 oM
 have q2:=Vh (dU (loF v) (Ch v v.length)) (GZ _ _)
 have q3:=KB b (loF v) oM
 have e2:=MC (loF v) (Ch v v.length)
 have hw:=HR _ (GZ (loF v) (Ch v v.length))
 unfold EO
 rw[if_neg oM]
 rw[show DF v v.length=loF v from rfl]at q1
 rw[show GU (dU (loF v) (Ch v v.length))=Be v from rfl]at q2 hw
 refine Dg [0,1] ?_ noc [0]
 have F:=e1;refine BB [0,1,16] ?_ noc [0];clear F
 refine Ay rfl (AW.skip (As ?_))
 refine Dg [0,1,5,6] ?_ (onc 1 (pc [.sl 1 (An v)] (.tup [I (loF v),I (Ch v v.length),B true]) []) noc) [0] (hp:=by exact BR q1 rfl sP)
 have F:=e2;refine BB [0,1,5,8] ?_ (onc 5 (pc [U64 (dU (loF v) (Ch v v.length))] (I (Be v)) []) noc) [0] (hp:=by exact BR q2 rfl sP);clear F
 clear q1 q2 e2
 generalize Be v=w at*
 generalize loF v=lo at*
 have hz:(Bc lo).length≤11:=Bf _
 generalize Bc lo=pl at*
 have e3:IntKind.u8.wrap (w:Int)=w:=by rw[IW];omega
 have F:=And.intro e3 (H0 w oM);refine BB [0,1,5,8] ?_ (onc 2 (oc 0 ⟨5,1,Ab b⟩ [.osl 0 b.length 1,I lo] (.osl 1 (b++pl).length 1) [none,some ⟨5,1,Ab (b++pl)⟩]) noc) [0] (hp:=by exact⟨⟨DJ q3 rfl sP sP rfl sP sP rfl,sP⟩,sO⟩);clear F
 have hl3:(b++pl).length+1=(b++pl++[UInt8.ofNat w]).length:=by simp[Nat.add_assoc]
 rw[hl3]
 have hl4:(b++pl++[UInt8.ofNat w]).length≤2^31:=by simp;omega
 have hre:b++(pl++[UInt8.ofNat w]++BA v lo w v.length)=b++pl++[UInt8.ofNat w]++BA v lo w v.length:=by simp
 rw[hre]
 clear hre hl3 q3 hz
 generalize b++pl++[UInt8.ofNat w]=b1 at*
 have hvw:v.length*w≤2^30*64:=Nat.mul_le_mul hl hw
 have e4:=Ar (n:=(v.length:Int)*(w:Int)) (by have:((v.length*w:Nat):Int)=(v.length:Int)*w:=by push_cast;rfl
                                             omega)
 have e5:=Ar (n:=(v.length:Int)*(w:Int)+7) (by have:((v.length*w:Nat):Int)=(v.length:Int)*w:=by push_cast;rfl
                                               omega)
 have e6:((v.length:Int)*(w:Int)+7).tdiv 8=(((v.length*w+7) / 8:Nat):Int):=by
   have:((v.length*w:Nat):Int)=(v.length:Int)*w:=by push_cast;rfl
   rw[Int.tdiv_eq_ediv_of_nonneg oM,← this];omega
 have e7:=Ar (n:=(((v.length*w+7) / 8:Nat):Int)) oM
 have F:=And.intro e4 (And.intro e5 (And.intro e6 (And.intro e7 rep0)));refine BB [0,1,5,8,9] ?_ noc [0] (hp:=by exact⟨dC,oM,oM⟩);clear F
 refine Dg [0,1,5,8,9,10] ?_ noc [0]
 refine Dg [0,1,5,8,9,10,11] ?_ noc [0]
 generalize hL:(v.length*w+7) / 8=L at*
 refine Bw hk 3 (fun i:Nat=>⟨[(0,.osl 1 b1.length 1),(1,.sl 1 (An v)),(5,I lo),(8,I w),(9,.osl 2 L 1),(10,I ((i*w:Nat):Int)),(11,I i)],[(0,none),(1,some ⟨5,1,Ab b1⟩),(2,some ⟨5,1,Ab (BA v lo w i)⟩)]⟩) (fun i=>i≤v.length) (fun i=>v.length-i) 0 oM (Bk (And.intro (And.intro BA.eq_1 BA.eq_2) hL) [some 0,some 1,some 2] []) ?_
 intro i h1
 by_cases hi:i<v.length
 · have e8:decide ((i:Int)<v.length)=true:=by simp;omega
   have hx:=List.getElem?_eq_getElem hi
   have hx2:v.getD i 0=v[i]:=by simp[List.getD,hi]
   have hpk:BA v lo w (i+1)=Dk (dU lo v[i]) (i*w) w (BA v lo w i):=by rw[BA,hx2]
   have hol:=EZ v lo w i
   rw[hL]at hol
   generalize v[i]=x at*
   have e9:=MC lo x
   have hdl:=GZ lo x
   have e10:=Ar (n:=(i:Int)+1) oM
   have hiw:i*w+w≤v.length*w:=by rw[← Nat.succ_mul];exact Nat.mul_le_mul_right _ hi
   have F:=e8;refine BB [0,1,5,8,9,10,11,47] ?_ noc [0];clear F
   refine AX rfl (AW.skip (As ?_))
   have F:=And.intro hx e9;refine BB [0,1,5,8,9,10,11,12] ?_ noc [0];clear F
   refine Dg [0,1,5,8,9,10,11,12,13] ?_ noc [0]
   generalize dU lo x=d at*
   generalize BA v lo w i=o at*
   refine Bw hk 3 (fun k:Nat=>⟨[(0,.osl 1 b1.length 1),(1,.sl 1 (An v)),(5,I lo),(8,I w),(9,.osl 2 L 1),(10,I ((i*w+k:Nat):Int)),(11,I i),(12,U64 d),(13,I k)],[(0,none),(1,some ⟨5,1,Ab b1⟩),(2,some ⟨5,1,Ab (Dk d (i*w) k o)⟩)]⟩) (fun k=>k≤w) (fun k=>w-k) 0 oM (Bk (And.intro Dk.eq_1 Dk.eq_2) [some 0,some 1,some 2] []) ?_
   intro k h2
   by_cases hk2:k<w
   · have e11:decide ((k:Int)<w)=true:=by simp;omega
     have F:=e11;refine BB [0,1,5,8,9,10,11,12,13,60] ?_ noc [0];clear F
     refine AX rfl (AW.skip (As ?_))
     have e12:=AgN d k hdl oM
     have F:=e12;refine BB [0,1,5,8,9,10,11,12,13,67] ?_ noc [0];clear F
     have hpk2:Dk d (i*w) (k+1) o=if d.testBit k then Hy (Dk d (i*w) k o) (i*w+k)else Dk d (i*w) k o:=rfl
     have hpl:=Io d (i*w) k o
     rw[hol]at hpl
     generalize Dk d (i*w) k o=o2 at*
     generalize hp:i*w+k=p at*
     have hpb:p / 8<L:=by omega
     have e16:=Ar (n:=(p:Int)+1) oM
     have e17:=Ar (n:=(k:Int)+1) oM
     refine nx ?_
     refine AW.join hk 3 ⟨[(0,.osl 1 b1.length 1),(1,.sl 1 (An v)),(5,I lo),(8,I w),(9,.osl 2 L 1),(10,I p),(11,I i),(12,U64 d),(13,I k)],[(0,none),(1,some ⟨5,1,Ab b1⟩),(2,some ⟨5,1,Ab (Dk d (i*w) (k+1) o)⟩)]⟩ ?_ ?_
     · refine De rfl (fun h=>?_) (fun h=>AW.skip (As ?_))
       · rw[hpk2,if_pos h]
         have e13:(p:Int).tdiv 8=((p / 8:Nat):Int):=by rw[Int.tdiv_eq_ediv_of_nonneg oM];omega
         have e14:(p:Int).tmod 8=((p%8:Nat):Int):=by rw[Int.tmod_eq_emod_of_nonneg oM];omega
         have e15:=Ar (n:=((p / 8:Nat):Int)) oM
         have hy:=List.getElem?_eq_getElem (show p / 8<o2.length by omega)
         have hy2:o2.getD (p / 8) 0=o2[p / 8]:=by simp[List.getD,show p / 8<o2.length by omega]
         have hy3:Hy o2 p=o2.set (p / 8) (UInt8.ofNat ((o2[p / 8]).toNat ||| 2^(p%8))):=by rw[Hy,hy2]
         generalize o2[p / 8]=y at*
         have e18:=Zw y.toNat (p%8) y.toNat_lt oM
         have hset:(Ab o2).set (p / 8) [AV.val (.int .u8 ((y.toNat ||| 2^(p%8):Nat):Int))]=Ab (Hy o2 p):=by
           rw[hy3,H0 _ e18.2,Ab,Ab,List.map_set]
         have F:=And.intro e13 (And.intro e14 (And.intro e15 (And.intro hy (And.intro (e18.1) hset))));refine PR [0,1,5,8,9,10,11,12,13] ?_ noc [0] (hp:=by exact⟨⟨⟨dC,oM⟩,dC⟩,oM⟩);clear F
         exact Bk trivial [some 0,some 1,some 2] []
       · rw[hpk2,if_neg (by simp[h])]
         exact Bk trivial [some 0,some 1,some 2] []
     have F:=e16;refine BB [0,1,5,8,9,10,11,12,13] ?_ noc [0];clear F
     have F:=e17;refine BB [0,1,5,8,9,10,11,12,13] ?_ noc [0];clear F
     exact⟨k+1,oM,oM,(Bk (And.intro (Eq.symm hp) @Int.add_assoc) [some 0,some 1,some 2] [])⟩
   · have e11:decide ((k:Int)<w)=false:=by simp;omega
     have:k=w:=by omega
     subst this
     have F:=e11;refine BB [0,1,5,8,9,10,11,60] ?_ noc [0];clear F
     refine Ay rfl (AW.exit (Ba (Ba (BZ ?_))))
     have F:=e10;refine BB [0,1,5,8,9,10,11] ?_ noc [0];clear F
     exact⟨i+1,oM,oM,(Bk (And.intro @Int.add_mul hpk) [some 0,some 1,some 2] [])⟩
 · have e8:decide ((i:Int)<v.length)=false:=by simp;omega
   have:i=v.length:=by omega
   subst this
   have F:=e8;refine BB [0,9,47] ?_ noc [0];clear F
   refine Ay rfl (AW.exit (Ba (Ba (BZ (As ?_)))))
   have hol:=EZ v lo w v.length
   rw[hL]at hol
   generalize BA v lo w v.length=o at*
   refine Dg [4] ?_ noc [0] (hp:=by exact⟨hol,Ms o,oM⟩)
   exact AW.ret (B0 trivial [some 0,some 1] [])
def BG(k:Nat)(v:List Int):List UInt8:=[UInt8.ofNat k]++Ap v.length
def Cv(v:List Int):Nat→List UInt8
 |0=>BG 0 v
 |i+1=>Cv v i++Bc (v.getD i 0)
def E2(v:List Int)(i:Nat):Int:=if 0<i then IntKind.i64.wrap (v.getD i 0-v.getD (i-1) 0)else v.getD i 0
def B6(v:List Int):Nat→List UInt8
 |0=>BG 1 v
 |i+1=>B6 v i++Bc (E2 v i)
theorem C1(x:Int):(Bc x).length≤11:=Bf _
theorem FU(k:Nat)(v:List Int):(BG k v).length≤12:=by
 have:=Bf v.length
 simp[BG];omega
theorem Ji(v:List Int): ∀ i,(Cv v i).length≤12+i*11
 |0=>by have:=FU 0 v;simp only[Cv];omega
 |i+1=>by
   have:=Ji v i
   have:=C1 (v.getD i 0)
   simp only[Cv,List.length_append];omega
theorem JB(v:List Int): ∀ i,(B6 v i).length≤12+i*11
 |0=>by have:=FU 1 v;simp only[B6];omega
 |i+1=>by
   have:=JB v i
   have:=C1 (E2 v i)
   simp only[B6,List.length_append];omega
theorem ZO(v:List Int)(hl:v.length≤16384):
   Ad Tryz.prog 130 [I 0,.sl 1 (An v)] [] (.tup [.osl 0 (Cv v v.length).length 1,I 0]) [some ⟨5,1,Ab (Cv v v.length)⟩]:=by
 refine acN 95 0 Tryz.func130 fun C hN hk=>?_
 have a1:decide ((0:Int)<0)=false:=by decide
 have a2:decide ((0:Int)>3)=false:=by decide
 have a3:decide ((v.length:Int)>16384)=false:=by simp;omega
 have a4:IntKind.u8.wrap (0:Int)=0:=by decide
 have a5:IntKind.u64.wrap (v.length:Int)=v.length:=IntWalk.u64_in _ oM
 have a6:((0:Int)==3)=false:=by decide
 have a7:((0:Int)==2)=false:=by decide
 have a8:((0:Int)==1)=false:=by decide
 have q1:=Db [UInt8.ofNat 0] v.length oM sP
 refine Dg [0,1] ?_
 have F:=And.intro a1 a2;refine BB [0,1,14] ?_;clear F
 refine Ay rfl (AW.skip (As ?_))
 have F:=a3;refine BB [0,1,17] ?_;clear F
 refine Ay rfl (AW.skip (As ?_))
 have F:=And.intro a4 a5;refine BB [0,1,6] ?_ (onc 6 (oc 16 ⟨5,1,Ab [UInt8.ofNat 0]⟩ [.osl 0 [UInt8.ofNat 0].length 1,U64 v.length] (.osl 1 ([UInt8.ofNat 0]++Ap v.length).length 1) [none,some ⟨5,1,Ab ([UInt8.ofNat 0]++Ap v.length)⟩]) noc) (hp:=by exact⟨sP,DJ q1 rfl sP sP rfl sP sP rfl⟩);clear F
 rw[show(Ap v.length).length+1=(BG 0 v).length from rfl,show UInt8.ofNat 0::Ap v.length=BG 0 v from rfl]
 clear q1
 have F:=a6;refine BB [0,1,6,26] ?_;clear F
 refine Ay rfl (AW.skip (As ?_))
 refine Dg [0,1,6,7] ?_
 refine Bw hk 1 (fun i:Nat=>⟨[(0,I 0),(1,.sl 1 (An v)),(6,.osl 0 (Cv v i).length 1),(7,I i)],[(0,some ⟨5,1,Ab (Cv v i)⟩)]⟩) (fun i=>i≤v.length) (fun i=>v.length-i) 0 oM (Bk (And.intro Cv.eq_1 Cv.eq_2) [some 0] []) ?_
 intro i h1
 by_cases hi:i<v.length
 · have b1:decide ((i:Int)<v.length)=true:=by simp;omega
   have hx:=List.getElem?_eq_getElem hi
   have hx2:v.getD i 0=v[i]:=by simp[List.getD,hi]
   have b2:=Ar (n:=(i:Int)+1) oM
   have hol:=Ji v i
   have hpk:Cv v (i+1)=Cv v i++Bc (v.getD i 0):=rfl
   rw[hx2]at hpk
   generalize v[i]=x at*
   have q2:=KB (Cv v i) x oM
   generalize Cv v i=o at*
   generalize Bc x=px at*
   have F:=b1;refine BB [0,1,6,7,33] ?_;clear F
   refine AX rfl (AW.skip (As ?_))
   have F:=a7;refine BB [0,1,6,7,42] ?_;clear F
   refine cF ?_;have F:=a8;refine BB [0,1,6,7,75] ?_;clear F
   refine cF ?_;have F:=hx;refine BB [0,1,6,7] ?_ (onc 5 (oc 0 ⟨5,1,Ab o⟩ [.osl 0 o.length 1,I x] (.osl 1 (o++px).length 1) [none,some ⟨5,1,Ab (o++px)⟩]) noc) (hp:=by exact DJ q2 rfl sP sP rfl sP sP rfl);clear F
   have F:=b2;refine BB [0,1,6,7] ?_;clear F
   exact⟨i+1,oM,oM,(Bk hpk [some 0] [])⟩
 · have b1:decide ((i:Int)<v.length)=false:=by simp;omega
   have:i=v.length:=by omega
   subst this
   have F:=b1;refine BB [6,33] ?_;clear F
   refine Ay rfl (AW.exit (Ba (Ba (BZ (As ?_)))))
   refine Dg [4,5] ?_
   exact AW.ret (B0 trivial [some 0] [])
theorem Aal(v:List Int)(hl:v.length≤16384):
   Ad Tryz.prog 130 [I 1,.sl 1 (An v)] [] (.tup [.osl 0 (B6 v v.length).length 1,I 0]) [some ⟨5,1,Ab (B6 v v.length)⟩]:=by
 refine acN 95 0 Tryz.func130 fun C hN hk=>?_
 have a1:decide ((1:Int)<0)=false:=by decide
 have a2:decide ((1:Int)>3)=false:=by decide
 have a3:decide ((v.length:Int)>16384)=false:=by simp;omega
 have a4:IntKind.u8.wrap (1:Int)=1:=by decide
 have a5:IntKind.u64.wrap (v.length:Int)=v.length:=IntWalk.u64_in _ oM
 have a6:((1:Int)==3)=false:=by decide
 have a7:((1:Int)==2)=false:=by decide
 have a8:((1:Int)==1)=true:=by decide
 have q1:=Db [UInt8.ofNat 1] v.length oM sP
 refine Dg [0,1] ?_
 have F:=And.intro a1 a2;refine BB [0,1,14] ?_;clear F
 refine Ay rfl (AW.skip (As ?_))
 have F:=a3;refine BB [0,1,17] ?_;clear F
 refine Ay rfl (AW.skip (As ?_))
 have F:=And.intro a4 a5;refine BB [0,1,6] ?_ (onc 6 (oc 16 ⟨5,1,Ab [UInt8.ofNat 1]⟩ [.osl 0 [UInt8.ofNat 1].length 1,U64 v.length] (.osl 1 ([UInt8.ofNat 1]++Ap v.length).length 1) [none,some ⟨5,1,Ab ([UInt8.ofNat 1]++Ap v.length)⟩]) noc) (hp:=by exact⟨sP,DJ q1 rfl sP sP rfl sP sP rfl⟩);clear F
 rw[show(Ap v.length).length+1=(BG 1 v).length from rfl,show UInt8.ofNat 1::Ap v.length=BG 1 v from rfl]
 clear q1
 have F:=a6;refine BB [0,1,6,26] ?_;clear F
 refine Ay rfl (AW.skip (As ?_))
 refine Dg [0,1,6,7] ?_
 refine Bw hk 1 (fun i:Nat=>⟨[(0,I 1),(1,.sl 1 (An v)),(6,.osl 0 (B6 v i).length 1),(7,I i)],[(0,some ⟨5,1,Ab (B6 v i)⟩)]⟩) (fun i=>i≤v.length) (fun i=>v.length-i) 0 oM (Bk (And.intro B6.eq_1 B6.eq_2) [some 0] []) ?_
 intro i h1
 by_cases hi:i<v.length
 · have b1:decide ((i:Int)<v.length)=true:=by simp;omega
   have hx:=List.getElem?_eq_getElem hi
   have hx2:v.getD i 0=v[i]:=by simp[List.getD,hi]
   have b2:=Ar (n:=(i:Int)+1) oM
   have hol:=JB v i
   have hpk:B6 v (i+1)=B6 v i++Bc (E2 v i):=rfl
   have F:=b1;refine BB [0,1,6,7,33] ?_;clear F
   refine AX rfl (AW.skip (As ?_))
   have F:=a7;refine BB [0,1,6,7,42] ?_;clear F
   refine cF ?_
   by_cases hi0:0<i
   · have b3:decide ((i:Int)>0)=true:=by simp;omega
     have hy:=List.getElem?_eq_getElem (show i-1<v.length by omega)
     have hy2:v.getD (i-1) 0=v[i-1]:=by simp[List.getD,show i-1<v.length by omega]
     rw[E2,if_pos hi0,hx2,hy2]at hpk
     generalize v[i]=x at*
     generalize v[i-1]=y at*
     have b4:=Ar (n:=(i:Int)-1) oM
     have b5:((i:Int)-1).toNat=i-1:=by omega
     generalize hz:IntKind.i64.wrap (x-y)=z at*
     have q2:=KB (B6 v i) z oM
     generalize B6 v i=o at*
     generalize Bc z=px at*
     have F:=And.intro a8 b3;refine BB [0,1,6,7,75] ?_;clear F
     refine cT ?_;have F:=And.intro hx (And.intro hy (And.intro b4 (And.intro b5 hz)));refine PR [0,1,6,7] ?_ (onc 11 (oc 0 ⟨5,1,Ab o⟩ [.osl 0 o.length 1,I z] (.osl 1 (o++px).length 1) [none,some ⟨5,1,Ab (o++px)⟩]) noc) (hp:=by exact⟨oM,DJ q2 rfl sP sP rfl sP sP rfl⟩);clear F
     have F:=b2;refine BB [0,1,6,7] ?_;clear F
     exact⟨i+1,oM,oM,(Bk hpk [some 0] [])⟩
   · have b3:decide ((i:Int)>0)=false:=by simp;omega
     rw[E2,if_neg hi0,hx2]at hpk
     generalize v[i]=x at*
     have q2:=KB (B6 v i) x oM
     generalize B6 v i=o at*
     generalize Bc x=px at*
     have F:=And.intro a8 b3;refine BB [0,1,6,7,75] ?_;clear F
     refine cF ?_;have F:=hx;refine BB [0,1,6,7] ?_ (onc 5 (oc 0 ⟨5,1,Ab o⟩ [.osl 0 o.length 1,I x] (.osl 1 (o++px).length 1) [none,some ⟨5,1,Ab (o++px)⟩]) noc) (hp:=by exact DJ q2 rfl sP sP rfl sP sP rfl);clear F
     have F:=b2;refine BB [0,1,6,7] ?_;clear F
     exact⟨i+1,oM,oM,(Bk hpk [some 0] [])⟩
 · have b1:decide ((i:Int)<v.length)=false:=by simp;omega
   have:i=v.length:=by omega
   subst this
   have F:=b1;refine BB [6,33] ?_;clear F
   refine Ay rfl (AW.exit (Ba (Ba (BZ (As ?_)))))
   refine Dg [4,5] ?_
   exact AW.ret (B0 trivial [some 0] [])
def E8(v:List Int):List UInt8:=BG 3 v++EO v
theorem Yn(v:List Int)(h0:0<v.length)(hl:v.length≤16384):
   Ad Tryz.prog 130 [I 3,.sl 1 (An v)] [] (.tup [.osl 0 (E8 v).length 1,I 0]) [some ⟨5,1,Ab (E8 v)⟩]:=by
 refine acN 95 0 Tryz.func130 fun C hN hk=>?_
 have a1:decide ((3:Int)<0)=false:=by decide
 have a2:decide ((3:Int)>3)=false:=by decide
 have a3:decide ((v.length:Int)>16384)=false:=by simp;omega
 have a4:IntKind.u8.wrap (3:Int)=3:=by decide
 have a5:IntKind.u64.wrap (v.length:Int)=v.length:=IntWalk.u64_in _ oM
 have a6:((3:Int)==3)=true:=by decide
 have a7:((3:Int)==2)=false:=by decide
 have a8:((3:Int)==1)=false:=by decide
 have q1:=Db [UInt8.ofNat 3] v.length oM sP
 refine Dg [0,1] ?_
 have F:=And.intro a1 a2;refine BB [0,1,14] ?_;clear F
 refine Ay rfl (AW.skip (As ?_))
 have F:=a3;refine BB [0,1,17] ?_;clear F
 refine Ay rfl (AW.skip (As ?_))
 have F:=And.intro a4 a5;refine BB [0,1,6] ?_ (onc 6 (oc 16 ⟨5,1,Ab [UInt8.ofNat 3]⟩ [.osl 0 [UInt8.ofNat 3].length 1,U64 v.length] (.osl 1 ([UInt8.ofNat 3]++Ap v.length).length 1) [none,some ⟨5,1,Ab ([UInt8.ofNat 3]++Ap v.length)⟩]) noc) (hp:=by exact⟨sP,DJ q1 rfl sP sP rfl sP sP rfl⟩);clear F
 rw[show(Ap v.length).length+1=(BG 3 v).length from rfl,show UInt8.ofNat 3::Ap v.length=BG 3 v from rfl]
 clear q1
 have F:=a6;refine BB [0,1,6,26] ?_;clear F
 refine cT ?_
 have hhl:=FU 3 v
 have q2:=AgV (BG 3 v) v h0 oM oM
 unfold E8
 generalize BG 3 v=o at*
 generalize EO v=px at*
 refine Dg [4,5] ?_ (onc 2 (oc 0 ⟨5,1,Ab o⟩ [.osl 0 o.length 1,.sl 1 (An v)] (.osl 1 (o++px).length 1) [none,some ⟨5,1,Ab (o++px)⟩]) noc) (hp:=by exact DJ q2 rfl sP sP rfl sP sP rfl)
 exact AW.ret (B0 trivial [some 0] [])
end Go.Proofs.YtpkhodjlnodagaaGreatDoor
