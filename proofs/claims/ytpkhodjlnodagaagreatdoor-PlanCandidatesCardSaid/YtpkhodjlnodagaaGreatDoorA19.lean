/- Part 19 of the proof of PlanCandidates. -/
import Derived.Test.YtpkhodjlnodagaaGreatDoorA18
import Derived.IntWalk
set_option linter.unusedSimpArgs false
set_option linter.unusedVariables false
set_option linter.unusedSectionVars false
namespace Go.Proofs.YtpkhodjlnodagaaGreatDoor
open Go.Av
set_option maxHeartbeats 4000000
attribute [local irreducible] Af
def BG:Nat→Nat→List UInt8
 |0,v=>[UInt8.ofNat v]
 |k+1,v=>if v<128 then [UInt8.ofNat v]else UInt8.ofNat (v%128+128)::BG k (v / 128)
def An(v:Nat):List UInt8:=BG 10 v
theorem IU(u:Nat):IntKind.u8.wrap (u:Int)=((u%256:Nat):Int):=by
 simp[IntKind.wrap,IntKind.bits,IntKind.signed]
theorem AaF(u:Nat):AN .or .u8 (IntKind.u8.wrap (u:Int)) 128=((u%128+128:Nat):Int):=by
 rw[IU]
 have h: ∀ x:Fin 256,AN .or .u8 ((x.val:Nat):Int) 128=((x.val%128+128:Nat):Int):=by decide+kernel
 have:=h ⟨u%256,Nat.mod_lt _ (by omega)⟩
 simp only at this
 rw[this]
 congr 2
 omega
theorem HU(n:Nat)(h:n<256):[AV.val (.int .u8 (n:Int))]=FE (UInt8.ofNat n):=by
 simp[FE,Nat.mod_eq_of_lt h]
theorem C7(b:List UInt8)(v:Nat)(hv:v<2^64)(hb:b.length≤2^40):
   Af Tryz.prog 183 [.osl 0 b.length 1,.val (.int .u64 v)] [some ⟨5,1,Ab b⟩] (.osl 1 (b++An v).length 1) [none,some ⟨5,1,Ab (b++An v)⟩]:=by
 refine acN 20 1 Tryz.func183 fun C hN hk=>?_
 refine Ah [0,1] ?_ noc [0]
 refine Bw hk 2 (α:=List UInt8×Nat×Nat) (fun a=>⟨[(0,.osl 1 a.1.length 1),(1,.val (.int .u64 a.2.1))],[(1,some ⟨5,1,Ab a.1⟩)]⟩)
   (fun a=>a.1++BG a.2.2 a.2.1=b++An v∧a.2.1<128^(a.2.2+1)∧a.1.length+a.2.2=b.length+10∧a.2.2≤10) (fun a=>a.2.2) (b,v,10) ⟨rfl,by simp only;omega,rfl,by simp⟩ ?_ ?_
 · exact Bk @A3 [some 0,some 0] []
 · rintro⟨d,u,k⟩ ⟨h1,h2,h3,h4⟩
   simp only at h1 h2 h3 h4
   refine Ah [0,1,6] ?_ noc [0]
   refine C8 rfl (fun h=>?_) (fun h=>?_)
   · simp only[ge_iff_le,decide_eq_true_eq]at h
     obtain⟨k,rfl⟩: ∃ k',k=k'+1:=by
       cases k with
       |zero=>simp at h2;omega
       |succ k=>exact⟨k,rfl⟩
     rw[BG,if_neg (by omega)]at h1
     have h5:u / 128<128^(k+1):=by
       rw[Nat.div_lt_iff_lt_mul (by omega),← Nat.pow_succ];exact h2
     refine AW.skip (Aw ?_)
     refine Ah [0,1] ?_ noc [0] (hp:=by simp[Cw,Cx];omega)
     rw[AaF,HU _ (by omega),H2]
     refine Ah [0,1] ?_ noc [0]
     refine⟨(d++[UInt8.ofNat (u%128+128)],u / 128,k),⟨by rw[← h1];simp,h5,by simp;omega,by show k≤10;omega⟩,by simp,?_⟩
     refine(Cy [some 0,some 1] [] ?_ (by simp[Am,Ai,Aj,lkh,A3]))
     simp[AR,wk,lk]
     exact Int.fdiv_eq_ediv_of_nonneg _ (by omega)
   · simp only[ge_iff_le,decide_eq_false_iff_not]at h
     refine AW.exit (A8 (A8 (BW (Aw ?_))))
     refine Ah [4] ?_ noc [0] (hp:=by simp[Cw,Cx];omega)
     have h6:BG k u=[UInt8.ofNat u]:=by
       cases k with
       |zero=>rfl
       |succ k=>rw[BG,if_pos (by omega)]
     rw[h6]at h1
     rw[IU,Nat.mod_eq_of_lt (by omega),HU _ (by omega),H2,h1]
     refine AW.ret (B0 [some 0,some 1] [] rfl ?_ ?_ (h2:=trivial))
     · simp[Ax,lk,wk]
       have:=congrArg List.length h1
       simp at this
       omega
     · simp[Am,Ai,Aj,lkh,A3]
theorem S2{a b:List UInt8}{i:Nat}(h1:i<a.length)(h2:i<b.length):a.take (i+1)=b.take (i+1)↔a.take i=b.take i∧a[i]=b[i]:=by
 rw[List.take_succ_eq_append_getElem h1,List.take_succ_eq_append_getElem h2]
 constructor
 · intro h
   have:=List.append_inj h (by simp;omega)
   exact⟨this.1,by simpa using this.2⟩
 · rintro⟨h,h'⟩;rw[h,h']
theorem LL(a b:List UInt8)(ha:a.length≤2^40)(hb:b.length≤2^40):
   Af Tryz.prog 42 [.sl 1 (Ab a),.sl 1 (Ab b)] [] (.val (.bool (decide (a=b)))) []:=by
 refine acN 26 0 Tryz.func42 fun C hN hk=>?_
 refine Ah [0,1] ?_
 refine Ah [0,1,10] ?_
 by_cases hl:a.length=b.length
 · refine Ar (by simp[evA,lk,Cw,hl]) (AW.skip (Aw ?_))
   refine Ah [0,1,5] ?_
   refine Bw hk 1 (fun i:Nat=>⟨[(0,.sl 1 (Ab a)),(1,.sl 1 (Ab b)),(5,.val (.int .i64 i))],[]⟩) (fun i=>i≤a.length∧a.take i=b.take i) (fun i=>a.length-i) 0 ⟨by omega,by simp⟩ (Bk trivial [] []) ?_
   rintro i ⟨h1,h2⟩
   refine Ah [0,1,5,14] ?_
   refine C8 rfl (fun h=>?_) (fun h=>?_)
   · simp only[Cw,decide_eq_true_eq]at h
     have hi:i<a.length:=by omega
     have hi2:i<b.length:=by omega
     have hx:=S2 hi hi2
     refine AW.skip (Aw ?_)
     refine nx ?_
     refine rD hN hk noc [] [0,1,5,25] fun K tok htok hK=>?_
     simp only[go_sem,seval,List.getElem?_eq_getElem hi,List.getElem?_eq_getElem hi2]
     refine⟨htok _ (by decide+kernel),hK _ _ ?_⟩
     clear hK K htok tok
     refine nx ?_
     by_cases he:a[i]=b[i]
     · refine Ar (by simp[evA,lk,he]) (AW.skip (CC (Aw ?_)))
       have F:=As (n:= ↑i+1) (by omega);refine AB [0,1,5] ?_;clear F
       exact⟨i+1,⟨by omega,hx.2 ⟨h2,he⟩⟩,by omega,(Bk trivial [] [])⟩
     · refine AI (by simp[evA,lk,he]) ?_
       have hne:a≠b:=fun e=>he (by subst e;rfl)
       refine Ah [4] ?_
       exact AW.ret (BX hne [] [])
   · simp only[Cw,decide_eq_false_iff_not]at h
     have he:a=b:=by
       rw[List.take_of_length_le (by omega),List.take_of_length_le (by omega)]at h2;exact h2
     refine AW.exit (A8 (A8 (BW (Aw ?_))))
     refine Ah [4] ?_
     exact AW.ret (BX he [] [])
 · refine AI (by simp[evA,lk];omega) ?_
   have hne:a≠b:=fun e=>hl (by rw[e])
   refine Ah [4] ?_
   exact AW.ret (BX hne [] [])
attribute [go_sem] B I U8
theorem bt(b:Bool):b=true∨b=false:=by cases b<;>simp
def Ll(c:UInt8):Bool:=decide ((c.toNat:Int)≥48)&&decide ((c.toNat:Int)≤57)
theorem AfQ(c:UInt8):Af Tryz.prog 258 [U8 c] [] (B (Ll c)) []:=by
 refine acN 9 0 Tryz.func258 fun C hN hk=>?_
 rcases bt (decide ((c.toNat:Int)≥48))with e1|e1
 all_goals
   refine Ah [0] ?_
   have F:=e1;refine AB [2] ?_;clear F
   exact AW.ret (BX (And.intro Ll.eq_1 e1) [] [])
def lowB(c:UInt8):Bool:=decide ((c.toNat:Int)≥97)&&decide ((c.toNat:Int)≤122)
def upB(c:UInt8):Bool:=decide ((c.toNat:Int)≥65)&&decide ((c.toNat:Int)≤90)
def G6(c:UInt8):Bool:=lowB c||upB c
theorem UE(c:UInt8):Af Tryz.prog 241 [U8 c] [] (B (G6 c)) []:=by
 refine acN 17 0 Tryz.func241 fun C hN hk=>?_
 rcases bt (decide ((c.toNat:Int)≥97))with e1|e1<;>rcases bt (decide ((c.toNat:Int)≤122))with e2|e2<;>rcases bt (decide ((c.toNat:Int)≥65))with e3|e3
 all_goals
   refine Ah [0] ?_
   have F:=And.intro e1 (And.intro e2 e3);refine AB [2] ?_;clear F
   refine AW.ret (B0 [] [] rfl ?_ ?_)
   · simp only[Ax,lk,wk,B,G6,lowB,upB,e1,e2,e3];simp
   · simp[Am]
def Qx(c:UInt8):Bool:=Ll c||G6 c||((c.toNat:Int)==95)
theorem AgB(c:UInt8):Af Tryz.prog 242 [U8 c] [] (B (Qx c)) []:=by
 refine acN 13 0 Tryz.func242 fun C hN hk=>?_
 have hd:=AfQ c
 have hl:=UE c
 rcases bt (Ll c)with e1|e1<;>rcases bt (G6 c)with e2|e2
 all_goals
   rw[e1]at hd
   rw[e2]at hl
   refine Ah [0] ?_
   refine rG hN hk (onc 1 (pc [U8 c] (B (Ll c)) []) (onc 4 (pc [U8 c] (B (G6 c)) []) noc)) [] [2] fun K hK=>?_;simp only[go_sem,seval,e1,e2]
   first|with_reducible refine hK _ _ ?_|refine⟨by first|exact BN hd rfl (by simp)|exact⟨BN hd rfl (by simp),BN hl rfl (by simp)⟩,hK _ _ ?_⟩|refine obK (hK _ _ ?_)
   clear hK K;refine nx ?_
   exact AW.ret (BX (And.intro Qx.eq_1 (And.intro e1 e2)) [] [])
def Kk(w:Int):Bool:=decide (w≥1)&&decide (w≤5040)&&((5040:Int).tmod w==0)
theorem Aca(w:Int):Af Tryz.prog 154 [I w] [] (B (Kk w)) []:=by
 refine acN 14 0 Tryz.func154 fun C hN hk=>?_
 rcases bt (decide (w≥1))with e1|e1<;>rcases bt (decide (w≤5040))with e2|e2
 all_goals
   refine Ah [0] ?_
   refine rG hN hk noc [] [2] fun K hK=>?_;simp only[go_sem,seval,e1,e2]
   first|(refine hK _ _ ?_)|(refine⟨by simp at e1;omega,hK _ _ ?_⟩)
   clear hK K;refine nx ?_
   exact AW.ret (BX (And.intro Kk.eq_1 (And.intro e1 e2)) [] [])
theorem Wv(x:Int):Af Tryz.prog 148 [I x] [] (B false) []:=by
 refine acN 6 0 Tryz.func148 fun C hN hk=>?_
 refine Ah [0] ?_
 refine Ah [2] ?_
 exact AW.ret (BX trivial [] [])
def EM(x y:Int):Int:=if x<y then-1 else if x>y then 1 else 0
theorem K5(x y:Int):Af Tryz.prog 98 [I x,I y] [] (I (EM x y)) []:=by
 refine acN 20 0 Tryz.func98 fun C hN hk=>?_
 refine Ah [0,1] ?_
 refine Ah [0,1,5] ?_ (onc 1 (pc [I x] (B false) []) noc) (hp:=by exact BN (Wv x) rfl (by simp))
 refine Ah [0,1,5,6] ?_ (onc 1 (pc [I y] (B false) []) noc) (hp:=by exact BN (Wv y) rfl (by simp))
 refine Ah [0,1,6,11] ?_
 refine Ar rfl (AW.skip (Aw ?_))
 refine Ah [0,1,13] ?_
 refine Ar rfl (AW.skip (Aw ?_))
 refine Ah [0,1,16] ?_
 refine C8 rfl (fun h=>?_) (fun h=>AW.skip (Aw ?_))
 · simp only[decide_eq_true_eq]at h
   refine Ah [4] ?_
   exact AW.ret (BX (And.intro EM.eq_1 h) [] [])
 · simp only[decide_eq_false_iff_not]at h
   refine Ah [0,1,19] ?_
   refine C8 rfl (fun h'=>?_) (fun h'=>AW.skip (Aw ?_))
   · simp only[gt_iff_lt,decide_eq_true_eq]at h'
     refine Ah [4] ?_
     exact AW.ret (BX (And.intro EM.eq_1 (And.intro h h')) [] [])
   · simp only[gt_iff_lt,decide_eq_false_iff_not]at h'
     refine Ah [4] ?_
     exact AW.ret (BX (And.intro EM.eq_1 (And.intro h h')) [] [])
attribute [go_sem] U64
def Dn(x:Int):Int:=AN .xor .u64 (IntKind.u64.wrap (IntKind.u64.wrap x*2^1)) (IntKind.u64.wrap (x.fdiv (2^63)))
theorem Abe(x:Int):Af Tryz.prog 227 [I x] [] (U64 (Dn x)) []:=by
 refine acN 10 0 Tryz.func227 fun C hN hk=>?_
 refine Ah [0] ?_
 refine Ah [2] ?_
 refine AW.ret (B0 [] [] rfl ?_ ?_)
 · simp only[Ax,lk,wk];rfl
 · simp[Am]
def HC(v:Int):Int:=AN .xor .i64 (IntKind.i64.wrap (v.fdiv (2^1))) (IntKind.i64.wrap (0-IntKind.i64.wrap (AN .and .u64 v 1)))
theorem AeC(v:Int):Af Tryz.prog 224 [U64 v] [] (I (HC v)) []:=by
 refine acN 11 0 Tryz.func224 fun C hN hk=>?_
 refine Ah [0] ?_
 refine Ah [2] ?_
 refine AW.ret (B0 [] [] rfl ?_ ?_)
 · simp only[Ax,lk,wk];rfl
 · simp[Am]
def JT(b:List UInt8)(at_:Nat):Nat→Nat→Int→Option (Int×Nat)
 |0,_,_=>none
 |f+1,k,v=>match b[at_+k]? with
   |none=>none
   |some d=>if k=9∧1<d.toNat then none else
     if d.toNat<128 then(if 0<k∧d.toNat=0 then none else some (AN .or .u64 v (IntKind.u64.wrap (AN .and .u64 d.toNat 127*2^(7*k))),at_+k+1))
     else JT b at_ f (k+1) (AN .or .u64 v (IntKind.u64.wrap (AN .and .u64 d.toNat 127*2^(7*k))))
def G9(b:List UInt8)(at_:Nat):Option (Int×Nat):=JT b at_ 10 0 0
def Ds:Option (Int×Nat)→AV
 |none=> .tup [U64 0,I 0,B false]
 |some (v,n)=> .tup [U64 v,I n,B true]
theorem DH(b:List UInt8)(at_:Nat)(hb:b.length≤2^40)(ha:at_≤2^41):
   Af Tryz.prog 124 [.sl 1 (Ab b),I at_] [] (Ds (G9 b at_)) []:=by
 refine acN 59 0 Tryz.func124 fun C hN hk=>?_
 refine Ah [0,1] ?_
 refine Ah [0,1,7] ?_
 refine Ah [0,1,7,8] ?_
 refine Bw hk 1 (α:=Nat×Int) (fun a=>⟨[(0,.sl 1 (Ab b)),(1,I at_),(7,U64 a.2),(8,I a.1)],[]⟩) (fun a=>a.1≤10∧JT b at_ (10-a.1) a.1 a.2=G9 b at_) (fun a=>10-a.1) (0,0) ⟨by simp,rfl⟩ (Bk trivial [] []) ?_
 rintro⟨k,v⟩ ⟨h1,h2⟩
 simp only at h1 h2
 by_cases hk10:k<10
 · have e1:decide ((k:Int)<10)=true:=by simp;omega
   have e2:decide ((at_:Int)≥0)=true:=by simp
   have e3:=As (n:=(at_:Int)+k) (by omega)
   obtain⟨f,hf⟩: ∃ f,10-k=f+1:=⟨9-k,by omega⟩
   rw[hf]at h2
   by_cases hlt:at_+k<b.length
   · have e4:decide ((at_:Int)+k<b.length)=true:=by simp;omega
     have F:=And.intro e1 (And.intro e2 (And.intro e3 e4));refine AB [0,1,7,8,23] ?_;clear F
     refine AI rfl (AW.skip (Aw ?_))
     have e5:((at_:Int)+k).toNat=at_+k:=by omega
     obtain⟨d,hd⟩: ∃ d,b[at_+k]? =some d:=⟨_,List.getElem?_eq_getElem hlt⟩
     have hd8:=d.toNat_lt
     have e6:IntKind.u64.wrap (d.toNat:Int)=d.toNat:=IntWalk.u64_in _ (by omega)
     have e7:=As (n:=(7:Int)*k) (by omega)
     have e8:((7:Int)*k).toNat=7*k:=by omega
     have e9:min (7*k) 64=7*k:=by omega
     rw[JT,hd]at h2
     simp only at h2
     have F:=And.intro e3 (And.intro e5 (And.intro hd e6));refine AB [0,1,7,8,9] ?_;clear F
     by_cases c1:k=9∧1<d.toNat
     · rw[if_pos c1]at h2
       obtain⟨c1,c2⟩:=c1
       have e10:((k:Int)==9)=true:=by simp;omega
       have e11:decide ((d.toNat:Int)>1)=true:=by simp;omega
       have F:=And.intro e10 e11;refine AB [38] ?_;clear F
       refine cT ?_;refine Ah [4,5,6] ?_
       exact AW.ret (BX (And.intro (Eq.symm h2) (And.intro Ds.eq_1 Ds.eq_2)) [] [])
     · rw[if_neg c1]at h2
       have e12:(((k:Int)==9)&&decide ((d.toNat:Int)>1))=false:=by
         rw[Bool.and_eq_false_iff]
         simp only[beq_eq_false_iff_ne,decide_eq_false_iff_not]
         omega
       rcases bt ((k:Int)==9)with e10|e10
       all_goals
         rw[e10]at e12
         simp only[Bool.true_and,Bool.false_and]at e12
         have F:=And.intro e10 e12;refine AB [0,1,7,8,9,38] ?_;clear F
         refine Ar rfl (AW.skip (Aw ?_))
         have F:=And.intro e7 (And.intro e8 e9);refine AB [0,1,7,8,9] ?_;clear F
         refine Ah [0,1,7,8,9,47] ?_
         refine C8 rfl (fun h=>?_) (fun h=>AW.skip (CC (Aw ?_)))
         · simp only[decide_eq_true_eq]at h
           rw[if_pos (by omega)]at h2
           by_cases c3:0<k∧d.toNat=0
           · rw[if_pos c3]at h2
             have e13:decide ((k:Int)>0)=true:=by simp;omega
             have e14:((d.toNat:Int)==0)=true:=by simp;omega
             have F:=And.intro e13 e14;refine AB [53] ?_;clear F
             refine cT ?_;refine Ah [4,5,6] ?_
             exact AW.ret (BX (And.intro (Eq.symm h2) (And.intro Ds.eq_1 Ds.eq_2)) [] [])
           · rw[if_neg c3]at h2
             have e15:(decide ((k:Int)>0)&&((d.toNat:Int)==0))=false:=by
               rw[Bool.and_eq_false_iff]
               simp only[beq_eq_false_iff_ne,decide_eq_false_iff_not]
               omega
             rcases bt (decide ((k:Int)>0))with e13|e13
             all_goals
               rw[e13]at e15
               simp only[Bool.true_and,Bool.false_and]at e15
               have F:=And.intro e13 e15;refine AB [0,1,7,8,53] ?_;clear F
               refine Ar rfl (AW.skip (Aw ?_))
               have F:=And.intro e3 (As (n:=(at_:Int)+k+1) (by omega));refine AB [4,5,6] ?_;clear F
               exact AW.ret (BX (And.intro (Eq.symm h2) (And.intro Ds.eq_1 Ds.eq_2)) [] [])
         · simp only[decide_eq_false_iff_not]at h
           rw[if_neg (by omega)]at h2
           have F:=As (n:=(k:Int)+1) (by omega);refine AB [0,1,7,8] ?_;clear F
           refine⟨(k+1,_),⟨by omega,?_⟩,by simp;omega,(Cy [] [] (by simp[AR,wk,lk,I,U64];rfl) (by simp[Am]))⟩
           rw[← h2]
           simp only
           congr 1
           omega
   · rw[JT,List.getElem?_eq_none (by omega)]at h2
     have e4:decide ((at_:Int)+k<b.length)=false:=by simp;omega
     have F:=And.intro e1 (And.intro e2 (And.intro e3 e4));refine AB [0,1,7,8,23] ?_;clear F
     refine cF ?_
     refine AW.exit (A8 (A8 (BW (Aw ?_))))
     refine Ah [4,5,6] ?_
     exact AW.ret (BX (And.intro (Eq.symm h2) (And.intro Ds.eq_1 Ds.eq_2)) [] [])
 · have e1:decide ((k:Int)<10)=false:=by simp;omega
   obtain rfl:k=10:=by omega
   rw[JT]at h2
   have F:=e1;refine AB [0,1,7,8,23] ?_;clear F
   refine cF ?_
   refine AW.exit (A8 (A8 (BW (Aw ?_))))
   refine Ah [4,5,6] ?_
   exact AW.ret (BX (And.intro (Eq.symm h2) (And.intro Ds.eq_1 Ds.eq_2)) [] [])
abbrev S:=List UInt8
def Ay(l:List S):List (List AV):=l.map fun s=>[str s]
theorem FL(l:List S):(Ay l).length=l.length:=by simp[Ay]
theorem V2(l:List S)(i:Nat):(Ay l)[i]? =(l[i]?).map (fun s=>[str s]):=by simp[Ay]
theorem Zk(l m:List S):Ay l++Ay m=Ay (l++m):=by simp[Ay]
@[simp] theorem Abg(k:Nat)(l:List S):AA k (Ay l)=true:=by
 simp only[AA,Ay,List.all_map,List.all_eq_true]
 intro x _
 rfl
@[simp] theorem AhU(l:List S):(Ay l).all (fun c=>c.all Cx)=true:=by
 simp only[Ay,List.all_map,List.all_eq_true]
 intro x _
 rfl
@[simp] theorem Ah7(l:List S):Ex (Ay l)=true:=by
 simp only[Ex,Ay,List.all_map,List.all_eq_true]
 intro x _
 rfl
theorem PX(l:List S)(i:Nat):(Ay l).drop i=Ay (l.drop i):=by simp[Ay]
theorem PS(l:List S)(i:Nat):(Ay l).take i=Ay (l.take i):=by simp[Ay]
theorem Wx(L:List Nat)(l:List S):BK L (Ay l)=Ay l:=by
 simp only[BK,Ay,List.map_map]
 apply List.map_congr_left
 intro x _
 rfl
theorem Vt(l:List S)(s:S):Ay l++[[AV.val (.string ⟨s.toArray⟩)]]=Ay (l++[s]):=by simp[Ay,str]
attribute [go_sem] FL V2 Wx Vt Zk PX PS
def Ak(l:List Int):List (List AV):=l.map fun n=>[I n]
theorem ED(l:List Int):(Ak l).length=l.length:=by simp[Ak]
theorem Xr(l:List Int)(i:Nat):(Ak l)[i]? =(l[i]?).map (fun s=>[I s]):=by simp[Ak]
@[simp] theorem Acg(k:Nat)(l:List Int):AA k (Ak l)=true:=by
 simp only[AA,Ak,List.all_map,List.all_eq_true]
 intro x _
 rfl
@[simp] theorem AhR(l:List Int):(Ak l).all (fun c=>c.all Cx)=true:=by
 simp only[Ak,List.all_map,List.all_eq_true]
 intro x _
 rfl
theorem LP(L:List Nat)(l:List Int):BK L (Ak l)=Ak l:=by
 simp only[BK,Ak,List.map_map]
 apply List.map_congr_left
 intro x _
 rfl
theorem U2(l:List Int)(s:Int):Ak l++[[AV.val (.int .i64 s)]]=Ak (l++[s]):=by simp[Ak,I]
theorem Zy(l m:List Int):Ak l++Ak m=Ak (l++m):=by simp[Ak]
theorem Sx(l:List UInt8)(b:UInt8):Ab l++[[AV.val (.int .u8 b.toNat)]]=Ab (l++[b]):=by simp[Ab,FE]
theorem SS(l:List UInt8)(i:Nat):(Ab l).drop i=Ab (l.drop i):=by simp[Ab]
theorem SD(l:List UInt8)(i:Nat):(Ab l).take i=Ab (l.take i):=by simp[Ab]
attribute [go_sem] ED Xr LP U2 Zy Sx U0 SS SD
@[simp] theorem AhO(l:List Int):Ex (Ak l)=true:=by
 simp only[Ex,Ak,List.all_map,List.all_eq_true]
 intro x _
 rfl
theorem VS(ρ:Nat→Nat)(l:List S):(Ay l).map (BJ ρ)=Ay l:=EB ρ (Abg 0 l)
theorem WA(ρ:Nat→Nat)(l:List Int):(Ak l).map (BJ ρ)=Ak l:=EB ρ (Acg 0 l)
attribute [go_sem] VS WA
def FB(a b:S):Nat→Nat→Nat
 |0,i=>i
 |f+1,i=>match a[i]?,b[i]? with
   |some x,some y=>if x=y then FB a b f (i+1)else i
   |_,_=>i
def Cr(a b:S):Nat:=FB a b a.length 0
theorem Acz(a b:S)(ha:a.length≤2^40)(hb:b.length≤2^40):Af Tryz.prog 184 [str a,str b] [] (I (Cr a b)) []:=by
 refine acN 28 0 Tryz.func184 fun C hN hk=>?_
 refine Ah [0,1] ?_
 refine Ah [0,1,5] ?_
 refine Bw hk 1 (fun i:Nat=>⟨[(0,str a),(1,str b),(5,I i)],[]⟩) (fun i=>i≤a.length∧FB a b (a.length-i) i=Cr a b) (fun i=>a.length-i) 0 ⟨by omega,rfl⟩ (Bk trivial [] []) ?_
 rintro i ⟨h1,h2⟩
 by_cases hi:i<a.length
 · have e1:decide ((i:Int)<a.length)=true:=by simp;omega
   obtain⟨x,hx⟩: ∃ x,a[i]? =some x:=⟨_,List.getElem?_eq_getElem hi⟩
   obtain⟨f,hf⟩: ∃ f,a.length-i=f+1:=⟨a.length-i-1,by omega⟩
   rw[hf,FB,hx]at h2
   by_cases hj:i<b.length
   · have e2:decide ((i:Int)<b.length)=true:=by simp;omega
     obtain⟨y,hy⟩: ∃ y,b[i]? =some y:=⟨_,List.getElem?_eq_getElem hj⟩
     rw[hy]at h2
     simp only at h2
     by_cases he:x=y
     · subst he
       rw[if_pos rfl]at h2
       have F:=And.intro e1 (And.intro e2 (And.intro hx hy));refine DV [0,1,5,24] ?_;clear F
       refine AI rfl (AW.skip (Aw ?_))
       have F:=As (n:=(i:Int)+1) (by omega);refine AB [0,1,5] ?_;clear F
       exact⟨i+1,⟨by omega,by rw[show a.length- (i+1)=f by omega];exact h2⟩,by omega,(Bk trivial [] [])⟩
     · rw[if_neg he]at h2
       have e3:((x.toNat:Int)==y.toNat)=false:=by simp[he]
       have F:=And.intro e1 (And.intro e2 (And.intro hx (And.intro hy e3)));refine DV [5,24] ?_;clear F
       refine Ar rfl (AW.exit (A8 (A8 (BW (Aw ?_)))))
       refine Ah [4] ?_
       exact AW.ret (BX (Eq.symm h2) [] [])
   · have e2:decide ((i:Int)<b.length)=false:=by simp;omega
     rw[List.getElem?_eq_none (by omega)]at h2
     have F:=And.intro e1 e2;refine DV [5,24] ?_;clear F
     refine Ar rfl (AW.exit (A8 (A8 (BW (Aw ?_)))))
     refine Ah [4] ?_
     exact AW.ret (BX (Eq.symm h2) [] [])
 · have e1:decide ((i:Int)<a.length)=false:=by simp;omega
   rw[show a.length-i=0 by omega,FB]at h2
   have F:=e1;refine DV [5,24] ?_;clear F
   refine Ar rfl (AW.exit (A8 (A8 (BW (Aw ?_)))))
   refine Ah [4] ?_
   exact AW.ret (BX (Eq.symm h2) [] [])
def Fo(d:List S)(w:S):Nat→Nat→Nat→Nat
 |0,a,_=>a
 |f+1,a,b=>if a<b then(if Op.bytesLess (d.getD ((a+b) / 2) []) w then Fo d w f ((a+b) / 2+1) b else Fo d w f a ((a+b) / 2))else a
def CZ(d:List S)(w:S):Nat:=Fo d w d.length 0 d.length
def C2(d:List S)(w:S):Bool:=match d[CZ d w]? with
 |some x=>x==w
 |none=>false
theorem Rf(d:List S)(w:S)(hd:d.length≤2^40):Af Tryz.prog 43 [.sl 1 (Ay d),str w] [] (.tup [I (CZ d w),B (C2 d w)]) []:=by
 refine acN 40 0 Tryz.func43 fun C hN hk=>?_
 refine Ah [0,1] ?_
 refine Ah [0,1,6,7] ?_
 refine Bw hk 1 (α:=Nat×Nat) (fun a=>⟨[(0,.sl 1 (Ay d)),(1,str w),(6,I a.1),(7,I a.2)],[]⟩) (fun a=>a.1≤a.2∧a.2≤d.length∧ ∃ f,a.2-a.1≤f∧Fo d w f a.1 a.2=CZ d w) (fun a=>a.2-a.1) (0,d.length) ⟨by simp,by simp,d.length,by simp,rfl⟩ (Bk trivial [] []) ?_
 rintro⟨a,b⟩ ⟨h1,h2,f,h3,h4⟩
 simp only at h1 h2 h3 h4
 by_cases hlt:a<b
 · obtain⟨f,rfl⟩: ∃ f',f=f'+1:=⟨f-1,by omega⟩
   rw[Fo,if_pos hlt]at h4
   have e1:decide ((a:Int)<b)=true:=by simp;omega
   have F:=e1;refine AB [0,1,6,7,13] ?_;clear F
   refine AI rfl (AW.skip (Aw ?_))
   have e2:=As (n:=(a:Int)+b) (by omega)
   have e3:((a:Int)+b).tdiv 2=((a+b) / 2:Nat):=by rw[Int.tdiv_eq_ediv_of_nonneg (by omega)];omega
   have e4:=As (n:=(((a+b) / 2:Nat):Int)) (by omega)
   have F:=And.intro e2 (And.intro e3 e4);refine AB [0,1,6,7,8] ?_;clear F
   have hm:(a+b) / 2<d.length:=by omega
   have hx:=List.getElem?_eq_getElem hm
   have hx2:d.getD ((a+b) / 2) []=d[(a+b) / 2]:=by simp[List.getD,hm]
   rw[hx2]at h4
   generalize d[(a+b) / 2]=x at hx h4
   rcases bt (Op.bytesLess x w)with e5|e5
   · rw[e5,if_pos rfl]at h4
     have F:=And.intro hx e5;refine AB [0,1,6,7,8,23] ?_;clear F
     refine cT ?_;have F:=As (n:=(((a+b) / 2:Nat):Int)+1) (by omega);refine AB [0,1,6,7] ?_;clear F
     exact⟨((a+b) / 2+1,b),⟨by simp only;omega,h2,f,by simp only;omega,h4⟩,by simp only;omega,(Bk trivial [] [])⟩
   · rw[e5,if_neg (by simp)]at h4
     have F:=And.intro hx e5;refine AB [0,1,6,7,8,23] ?_;clear F
     refine cF ?_;refine Ah [0,1,6,7] ?_
     exact⟨(a,(a+b) / 2),⟨by simp only;omega,by simp only;omega,f,by simp only;omega,h4⟩,by simp only;omega,(Bk trivial [] [])⟩
 · have e1:decide ((a:Int)<b)=false:=by simp;omega
   have h5:CZ d w=a:=by rw[← h4];cases f<;>simp[Fo,hlt]
   have F:=e1;refine AB [0,1,6,7,13] ?_;clear F
   refine Ar rfl (AW.exit (A8 (A8 (BW (Aw ?_)))))
   by_cases hin:a<d.length
   · have e6:decide ((a:Int)<d.length)=true:=by simp;omega
     have hx:=List.getElem?_eq_getElem hin
     have h6:C2 d w=(d[a]==w):=by simp only[C2,h5,hx]
     generalize d[a]=x at hx h6
     have F:=And.intro e6 hx;refine DV [4,5] ?_;clear F
     exact AW.ret (BX (And.intro h5 h6) [] [])
   · have e6:decide ((a:Int)<d.length)=false:=by simp;omega
     have h6:C2 d w=false:=by simp only[C2,h5,List.getElem?_eq_none (Nat.not_lt.1 hin)]
     have F:=e6;refine DV [4,5] ?_;clear F
     exact AW.ret (BX (And.intro h5 h6) [] [])
def leS(x y:S):Bool:=Op.bytesLess x y||x==y
def IN:List S→Bool
 |a::b::r=>leS b a||IN (b::r)
 |_=>false
def Ey(d:List S):Bool:=d.any fun s=>decide (2048<s.length)
def A6(d:List S):Int:=if 32768<d.length then 4 else if Ey d then 3 else if IN d then 19 else 0
theorem Yk{α:Type}{p:α→Bool}{l:List α}{i:Nat}(h:i<l.length):(l.take (i+1)).any p=((l.take i).any p||p l[i]):=by
 rw[List.take_succ_eq_append_getElem h,List.any_append];simp only[List.any_cons,List.any_nil,Bool.or_false]
theorem Aex{α:Type}{p:α→Bool}{l:List α}{i:Nat}{x:α}(h:l[i]? =some x)(hp:p x=true):l.any p=true:=by
 rw[List.any_eq_true];exact⟨x,List.mem_of_getElem? h,hp⟩
theorem Ack(d:List S)(hd:d.length≤2^40)(hs: ∀ s∈d,s.length≤2^40):Af Tryz.prog 182 [.sl 1 (Ay d)] [] (I (A6 d)) []:=by
 refine acN 36 0 Tryz.func182 fun C hN hk=>?_
 refine Ah [0] ?_
 refine Ah [0,7] ?_
 refine C8 rfl (fun h=>?_) (fun h=>AW.skip (Aw ?_))
 · simp only[gt_iff_lt,decide_eq_true_eq]at h
   refine Ah [2] ?_
   exact AW.ret (BX (And.intro A6.eq_1 (show 32768<d.length by omega)) [] [])
 · simp only[gt_iff_lt,decide_eq_false_iff_not]at h
   have hlen: ¬ 32768<d.length:=by omega
   refine Ah [0,3] ?_
   refine Bw hk 1 (fun i:Nat=>⟨[(0,.sl 1 (Ay d)),(3,I i)],[]⟩) (fun i=>i≤d.length∧(d.take i).any (fun s=>decide (2048<s.length))=false) (fun i=>d.length-i) 0 ⟨by omega,by simp⟩ (Bk trivial [] []) ?_
   rintro i ⟨h1,h2⟩
   by_cases hi:i<d.length
   · have e1:decide ((i:Int)<d.length)=true:=by simp;omega
     have hx:=List.getElem?_eq_getElem hi
     have hnext:=Yk (p:=fun s:S=>decide (2048<s.length)) hi
     have hany: ∀ hp:decide (2048<d[i].length)=true,Ey d=true:=fun hp=>Aex (p:=fun s:S=>decide (2048<s.length)) hx hp
     generalize d[i]=x at hx hnext hany
     have F:=e1;refine AB [0,3,11] ?_;clear F
     refine AI rfl (AW.skip (Aw ?_))
     refine Dw [0,3,19] ?_
     refine C8 rfl (fun h=>?_) (fun h=>AW.skip (CC (Aw ?_)))
     · simp only[gt_iff_lt,decide_eq_true_eq]at h
       have:=hany (by simp;omega)
       refine Ah [2] ?_
       exact AW.ret (BX (And.intro A6.eq_1 (And.intro hlen this)) [] [])
     · simp only[gt_iff_lt,decide_eq_false_iff_not]at h
       have F:=As (n:=(i:Int)+1) (by omega);refine AB [0,3] ?_;clear F
       exact⟨i+1,⟨by omega,by rw[hnext,h2];simp;omega⟩,by omega,(Bk trivial [] [])⟩
   · have e1:decide ((i:Int)<d.length)=false:=by simp;omega
     have hnl:Ey d=false:=by rw[List.take_of_length_le (by omega)]at h2;exact h2
     have F:=e1;refine AB [0,11] ?_;clear F
     refine Ar rfl (AW.exit (A8 (A8 (BW (Aw ?_)))))
     refine Ah [0,4] ?_
     refine Bw hk 1 (fun i:Nat=>⟨[(0,.sl 1 (Ay d)),(4,I ((i:Int)+1))],[]⟩) (fun i=>i≤d.length∧IN (d.drop i)=IN d) (fun i=>d.length-i) 0 ⟨by omega,by simp⟩ (Bk trivial [] []) ?_
     clear h1 h2 hi e1
     rintro i ⟨h1,h2⟩
     by_cases hi:i+1<d.length
     · have e1:decide ((i:Int)+1<d.length)=true:=by simp;omega
       have hx:=List.getElem?_eq_getElem hi
       have hy:=List.getElem?_eq_getElem (show i<d.length by omega)
       have hdr:d.drop i=d[i]::d[i+1]::d.drop (i+2):=by
         rw[← List.getElem_cons_drop (show i<d.length by omega),← List.getElem_cons_drop hi]
       have hdr1:d.drop (i+1)=d[i+1]::d.drop (i+2):=by rw[← List.getElem_cons_drop hi]
       rw[hdr,IN]at h2
       rw[← hdr1]at h2
       generalize d[i+1]=x at hx h2
       generalize d[i]=y at hy h2
       have e2:((i:Int)+1).toNat=i+1:=by omega
       have e3:=As (n:=(i:Int)+1-1) (by omega)
       have e4:((i:Int)+1-1).toNat=i:=by omega
       have F:=e1;refine AB [0,4,23] ?_;clear F
       refine AI rfl (AW.skip (Aw ?_))
       have F:=And.intro hx (And.intro hy (And.intro e2 (And.intro e3 e4)));refine DV [0,4,35] ?_;clear F
       refine C8 rfl (fun h=>?_) (fun h=>AW.skip (CC (Aw ?_)))
       · have:IN d=true:=by rw[← h2,leS,h];rfl
         refine Ah [2] ?_
         exact AW.ret (BX (And.intro A6.eq_1 (And.intro hlen (And.intro hnl this))) [] [])
       · rw[leS,h,Bool.false_or]at h2
         have F:=As (n:=(i:Int)+1+1) (by omega);refine AB [0,4] ?_;clear F
         exact⟨i+1,⟨by omega,h2⟩,by omega,(Bk trivial [] [])⟩
     · have e1:decide ((i:Int)+1<d.length)=false:=by simp;omega
       have hu:IN d=false:=by
         rw[← h2]
         match hdd:d.drop i with
         | []=>rfl
         | [_]=>rfl
         |_::_::_=>have:=congrArg List.length hdd;simp at this;omega
       have F:=e1;refine AB [0,23] ?_;clear F
       refine Ar rfl (AW.exit (A8 (A8 (BW (Aw ?_)))))
       refine Ah [2] ?_
       exact AW.ret (BX (And.intro A6.eq_1 (And.intro hlen (And.intro hnl hu))) [] [])
structure Un where
 i:Nat
 k:Nat
 out:List S
 x:List Int
 y:List Int
def FT(a b:List S)(s:Un):Un:=
 if s.k=b.length∨s.i<a.length∧Op.bytesLess (a.getD s.i []) (b.getD s.k [])=true then⟨s.i+1,s.k,s.out++[a.getD s.i []],s.x++[(s.out.length:Int)],s.y⟩
 else if s.i=a.length∨Op.bytesLess (b.getD s.k []) (a.getD s.i [])=true then⟨s.i,s.k+1,s.out++[b.getD s.k []],s.x,s.y++[(s.out.length:Int)]⟩
 else⟨s.i+1,s.k+1,s.out++[a.getD s.i []],s.x++[(s.out.length:Int)],s.y++[(s.out.length:Int)]⟩
def IE(a b:List S):Nat→Un→Un
 |0,s=>s
 |f+1,s=>if s.i<a.length∨s.k<b.length then IE a b f (FT a b s)else s
def unF(a b:List S):Un:=IE a b (a.length+b.length) ⟨0,0,[],[],[]⟩
def unS(a b:List S)(s:Un):AS:=⟨[(0,.sl 1 (Ay a)),(1,.sl 1 (Ay b)),(7,.osl 0 s.out.length 1),(8,.osl 1 s.x.length 1),(9,.osl 2 s.y.length 1),(10,I s.i),(11,I s.k)],[(0,some ⟨9,1,Ay s.out⟩),(1,some ⟨3,1,Ak s.x⟩),(2,some ⟨3,1,Ak s.y⟩)]⟩
attribute [simp] unS
theorem Aev(a b:List S)(ha:a.length≤2^38)(hb:b.length≤2^38):
   Af Tryz.prog 143 [.sl 1 (Ay a),.sl 1 (Ay b)] [] (.tup [.osl 0 (unF a b).out.length 1,.osl 1 (unF a b).x.length 1,.osl 2 (unF a b).y.length 1])
     [some ⟨9,1,Ay (unF a b).out⟩,some ⟨3,1,Ak (unF a b).x⟩,some ⟨3,1,Ak (unF a b).y⟩]:=by
 refine acN 112 0 Tryz.func143 fun C hN hk=>?_
 refine Ah [0,1] ?_
 refine Ah [0,1,7] ?_
 refine Ah [0,1,7,8,9] ?_
 refine Ah [0,1,7,8,9,10,11] ?_
 refine Bw hk 3 (unS a b) (fun s=>s.i≤a.length∧s.k≤b.length∧s.out.length≤s.i+s.k∧s.x.length≤s.i+s.k∧s.y.length≤s.i+s.k∧ ∃ f,a.length-s.i+(b.length-s.k)≤f∧IE a b f s=unF a b) (fun s=>a.length-s.i+(b.length-s.k)) ⟨0,0,[],[],[]⟩ ⟨by simp,by simp,by simp,by simp,by simp,a.length+b.length,by simp,rfl⟩ (Bk (And.intro unS.eq_1 (And.intro Ay.eq_1 Ak.eq_1)) [none,none,none] []) ?_
 rintro⟨i,k,out,x,y⟩ ⟨h1,h2,h3,h4,h5,f,h6,h7⟩
 simp only at h1 h2 h3 h4 h5 h6 h7
 simp only[unS]
 by_cases hlt:i<a.length∨k<b.length
 · obtain⟨f,rfl⟩: ∃ f',f=f'+1:=⟨f-1,by omega⟩
   rw[IE,if_pos hlt]at h7
   by_cases hk0:k=b.length
   · -- the rest of a
     have hi:i<a.length:=by omega
     have hx:=List.getElem?_eq_getElem hi
     have hx2:a.getD i []=a[i]:=by simp[List.getD,hi]
     rw[FT,if_pos (.inl hk0)]at h7
     simp only[hx2]at h7
     generalize a[i]=p at hx h7
     have f1:decide ((i:Int)<a.length)=true:=by simp;omega
     have f3:((k:Int)==b.length)=true:=by simp;omega
     have F:=f1;refine AB [0,1,7,8,9,10,11,21] ?_;clear F
     refine AI rfl (AW.skip (Aw ?_))
     have F:=f3;refine DV [0,1,7,8,9,10,11,43] ?_;clear F
     refine nx ?_;refine cT ?_;refine Ah [0,1,7,8,9,10,11] ?_
     refine Dw [0,1,7,8,9,10,11] ?_
     have F:=As (n:=(i:Int)+1) (by omega);refine AB [0,1,7,8,9,10,11] ?_;clear F
     exact⟨⟨i+1,k,out++[p],x++[(out.length:Int)],y⟩,⟨by simp only;omega,by simp only;omega,by simp;omega,by simp;omega,by simp only;omega,f,by simp only;omega,h7⟩,by simp only;omega,(Bk trivial [some 0,some 1,some 2] [])⟩
   · have hk1:k<b.length:=by omega
     have hy:=List.getElem?_eq_getElem hk1
     have hy2:b.getD k []=b[k]:=by simp[List.getD,hk1]
     have f2:decide ((k:Int)<b.length)=true:=by simp;omega
     have f3:((k:Int)==b.length)=false:=by simp;omega
     by_cases hi:i<a.length
     · have hx:=List.getElem?_eq_getElem hi
       have hx2:a.getD i []=a[i]:=by simp[List.getD,hi]
       have f1:decide ((i:Int)<a.length)=true:=by simp;omega
       have f5:((i:Int)==a.length)=false:=by simp;omega
       rw[FT]at h7
       simp only[hx2,hy2]at h7
       generalize a[i]=p at hx h7
       generalize b[k]=q at hy h7
       rcases bt (Op.bytesLess p q)with f4|f4
       · rw[if_pos (.inr ⟨hi,f4⟩)]at h7
         have F:=f1;refine AB [0,1,7,8,9,10,11,21] ?_;clear F
         refine AI rfl (AW.skip (Aw ?_))
         have F:=And.intro f3 (And.intro f1 (And.intro hx (And.intro hy f4)));refine DV [0,1,7,8,9,10,11,43] ?_;clear F
         refine nx ?_;refine cT ?_;refine Ah [0,1,7,8,9,10,11] ?_
         refine Dw [0,1,7,8,9,10,11] ?_
         have F:=As (n:=(i:Int)+1) (by omega);refine AB [0,1,7,8,9,10,11] ?_;clear F
         exact⟨⟨i+1,k,out++[p],x++[(out.length:Int)],y⟩,⟨by simp only;omega,by simp only;omega,by simp;omega,by simp;omega,by simp only;omega,f,by simp only;omega,h7⟩,by simp only;omega,(Bk trivial [some 0,some 1,some 2] [])⟩
       · rw[if_neg (by rw[f4];simp;omega)]at h7
         rcases bt (Op.bytesLess q p)with f6|f6
         · rw[if_pos (.inr f6)]at h7
           have F:=f1;refine AB [0,1,7,8,9,10,11,21] ?_;clear F
           refine AI rfl (AW.skip (Aw ?_))
           have F:=And.intro f3 (And.intro f1 (And.intro hx (And.intro hy f4)));refine DV [0,1,7,8,9,10,11,43] ?_;clear F
           refine nx ?_;refine cF ?_;have F:=And.intro f5 (And.intro hx (And.intro hy f6));refine DV [0,1,7,8,9,10,11,79] ?_;clear F
           refine nx ?_;refine cT ?_;refine Ah [0,1,7,8,9,10,11] ?_
           have F:=hy;refine AB [0,1,7,8,9,10,11] ?_;clear F
           have F:=As (n:=(k:Int)+1) (by omega);refine AB [0,1,7,8,9,10,11] ?_;clear F
           exact⟨⟨i,k+1,out++[q],x,y++[(out.length:Int)]⟩,⟨by simp only;omega,by simp only;omega,by simp;omega,by simp only;omega,by simp;omega,f,by simp only;omega,h7⟩,by simp only;omega,(Bk trivial [some 0,some 1,some 2] [])⟩
         · rw[if_neg (by rw[f6];simp;omega)]at h7
           have F:=f1;refine AB [0,1,7,8,9,10,11,21] ?_;clear F
           refine AI rfl (AW.skip (Aw ?_))
           have F:=And.intro f3 (And.intro f1 (And.intro hx (And.intro hy f4)));refine DV [0,1,7,8,9,10,11,43] ?_;clear F
           refine nx ?_;refine cF ?_;have F:=And.intro f5 (And.intro hx (And.intro hy f6));refine DV [0,1,7,8,9,10,11,79] ?_;clear F
           refine nx ?_;refine cF ?_;refine Ah [0,1,7,8,9,10,11] ?_
           refine Dw [0,1,7,8,9,10,11] ?_
           have F:=As (n:=(i:Int)+1) (by omega);refine AB [0,1,7,8,9,10,11] ?_;clear F;have F:=As (n:=(k:Int)+1) (by omega);refine AB [0,1,7,8,9,10,11] ?_;clear F
           exact⟨⟨i+1,k+1,out++[p],x++[(out.length:Int)],y++[(out.length:Int)]⟩,⟨by simp only;omega,by simp only;omega,by simp;omega,by simp;omega,by simp;omega,f,by simp only;omega,h7⟩,by simp only;omega,(Bk trivial [some 0,some 1,some 2] [])⟩
     · have hi':i=a.length:=by omega
       have f1:decide ((i:Int)<a.length)=false:=by simp;omega
       have f5:((i:Int)==a.length)=true:=by simp;omega
       rw[FT,if_neg (by simp only;omega),if_pos (.inl hi')]at h7
       simp only[hy2]at h7
       generalize b[k]=q at hy h7
       have F:=And.intro f1 f2;refine AB [0,1,7,8,9,10,11,21] ?_;clear F
       refine AI rfl (AW.skip (Aw ?_))
       have F:=And.intro f3 f1;refine DV [0,1,7,8,9,10,11,43] ?_;clear F
       refine nx ?_;refine cF ?_;have F:=f5;refine DV [0,1,7,8,9,10,11,79] ?_;clear F
       refine nx ?_;refine cT ?_;refine Ah [0,1,7,8,9,10,11] ?_
       have F:=hy;refine AB [0,1,7,8,9,10,11] ?_;clear F
       have F:=As (n:=(k:Int)+1) (by omega);refine AB [0,1,7,8,9,10,11] ?_;clear F
       exact⟨⟨i,k+1,out++[q],x,y++[(out.length:Int)]⟩,⟨by simp only;omega,by simp only;omega,by simp;omega,by simp only;omega,by simp;omega,f,by simp only;omega,h7⟩,by simp only;omega,(Bk trivial [some 0,some 1,some 2] [])⟩
 · obtain⟨rfl,rfl⟩:i=a.length∧k=b.length:=by omega
   have f1:decide ((a.length:Int)<a.length)=false:=by simp
   have f2:decide ((b.length:Int)<b.length)=false:=by simp
   have h8:(⟨a.length,b.length,out,x,y⟩:Un)=unF a b:=by rw[← h7];cases f<;>simp[IE]
   have F:=And.intro f1 f2;refine AB [7,8,9,21] ?_;clear F
   refine Ar rfl (AW.exit (A8 (A8 (BW (Aw ?_)))))
   refine Ah [4,5,6] ?_
   rw[← h8]
   exact AW.ret (BX trivial [some 0,some 1,some 2] [])
def D6:Nat→List S→List S
 |0,l=>l
 |f+1,l=>if l.length<2 then l else(unF (D6 f (l.take (l.length / 2))) (D6 f (l.drop (l.length / 2)))).out
def Bi(l:List S):List S:=D6 l.length l
theorem Vg(a b:List S)(s:Un):(FT a b s).out.length=s.out.length+1:=by
 unfold FT;split
 · simp
 · split<;>simp
theorem R5(a b:List S): ∀ f s,(IE a b f s).out.length≤s.out.length+f
 |0,s=>by simp[IE]
 |f+1,s=>by
   rw[IE];split
   · have:=R5 a b f (FT a b s);rw[Vg]at this;omega
   · omega
theorem AcR(a b:List S):(unF a b).out.length≤a.length+b.length:=by
 have:=R5 a b (a.length+b.length) ⟨0,0,[],[],[]⟩;simp at this;exact this
theorem Kt: ∀ f l,(D6 f l).length≤l.length
 |0,l=>by simp[D6]
 |f+1,l=>by
   rw[D6];split
   · omega
   · have h1:=Kt f (l.take (l.length / 2))
     have h2:=Kt f (l.drop (l.length / 2))
     have h3:=AcR (D6 f (l.take (l.length / 2))) (D6 f (l.drop (l.length / 2)))
     simp at h1 h2
     omega
theorem H6: ∀ f g l,l.length≤f→l.length≤g→D6 f l=D6 g l
 |0,g,l,h,_=>by
   have:l=[]:=List.eq_nil_of_length_eq_zero (by omega)
   subst this
   cases g<;>simp[D6]
 |f+1,0,l,_,h=>by
   have:l=[]:=List.eq_nil_of_length_eq_zero (by omega)
   subst this
   simp[D6]
 |f+1,g+1,l,h,h'=>by
   rw[D6,D6]
   split
   · rfl
   · rw[H6 f g _ (by simp;omega) (by simp;omega),H6 f g _ (by simp;omega) (by simp;omega)]
theorem R1(l:List S)(h: ¬ l.length<2):Bi l=(unF (Bi (l.take (l.length / 2))) (Bi (l.drop (l.length / 2)))).out:=by
 obtain⟨n,hn⟩: ∃ n,l.length=n+1:=⟨l.length-1,by omega⟩
 unfold Bi
 rw[hn,D6,if_neg h]
 rw[H6 n _ _ (by simp;omega) (Nat.le_refl _),H6 n _ (l.drop _) (by simp;omega) (Nat.le_refl _)]
 rw[hn]
theorem JX(l:List S)(h:l.length<2):Bi l=l:=by
 unfold Bi
 match l,h with
 | [],_=>rfl
 | [x],_=>simp[D6]
theorem Do(l:List S):(Bi l).length≤l.length:=Kt _ _
theorem Gn: ∀ (m:Nat) (l:List S),l.length≤m→l.length≤2^37→Af Tryz.prog 83 [.sl 1 (Ay l)] [] (.osl 0 (Bi l).length 1) [some ⟨9,1,Ay (Bi l)⟩]:=by
 intro m
 induction m with
 |zero=>
   intro l h0 hl
   obtain rfl:l=[]:=List.eq_nil_of_length_eq_zero (by omega)
   refine acN 29 0 Tryz.func83 fun C hN hk=>?_
   refine Ah [0] ?_
   refine Ah [0,9] ?_
   refine cT ?_;refine Ah [2] ?_
   exact AW.ret (BX (And.intro Bi.eq_1 (And.intro D6.eq_1 D6.eq_2)) [some 0] [])
 |succ m ih=>
   intro l h0 hl
   refine acN 29 0 Tryz.func83 fun C hN hk=>?_
   by_cases h2:l.length<2
   · have e1:decide ((l.length:Int)<2)=true:=by simp;omega
     refine Ah [0] ?_
     have F:=e1;refine AB [0,9] ?_;clear F
     refine cT ?_;refine Ah [2] ?_
     rw[JX l h2]
     exact AW.ret (BX trivial [some 0] [])
   · have e1:decide ((l.length:Int)<2)=false:=by simp;omega
     refine Ah [0] ?_
     have F:=e1;refine AB [0,9] ?_;clear F
     refine Ar rfl (AW.skip (Aw ?_))
     have e2:(l.length:Int).tdiv 2=(l.length / 2:Nat):=by rw[Int.tdiv_eq_ediv_of_nonneg (by omega)];omega
     have e3:=As (n:=((l.length / 2:Nat):Int)) (by omega)
     have F:=And.intro e2 e3;refine AB [0,3] ?_;clear F
     rw[R1 l h2]
     have q1:=ih (l.take (l.length / 2)) (by simp;omega) (by simp;omega)
     have q2:=ih (l.drop (l.length / 2)) (by simp;omega) (by simp;omega)
     have n1:=Do (l.take (l.length / 2))
     have n2:=Do (l.drop (l.length / 2))
     simp only[List.length_take,List.length_drop]at n1 n2
     have q3:=Aev (Bi (l.take (l.length / 2))) (Bi (l.drop (l.length / 2))) (by omega) (by omega)
     have e4:List.take l.length (Ay l)=Ay l:=List.take_of_length_le (by rw[FL];omega)
     have e5:List.take l.length l=l:=List.take_of_length_le (by omega)
     generalize Bi (l.take (l.length / 2))=A at*
     generalize Bi (l.drop (l.length / 2))=B' at*
     refine nx ?_
     refine rD hN hk (onc 3 (pc [.sl 1 (Ay (l.take (l.length / 2)))] (.osl 0 A.length 1) [some ⟨9,1,Ay A⟩]) (onc 7 (pc [.sl 1 (Ay (l.drop (l.length / 2)))] (.osl 0 B'.length 1) [some ⟨9,1,Ay B'⟩]) (onc 8 (bc [24,56] [.sl 1 (Ay A),.sl 1 (Ay B')] (.tup [.osl 0 (unF A B').out.length 1,.osl 1 (unF A B').x.length 1,.osl 2 (unF A B').y.length 1]) [some ⟨9,1,Ay (unF A B').out⟩,some ⟨3,1,Ak (unF A B').x⟩,some ⟨3,1,Ak (unF A B').y⟩]) noc))) [] [4] fun K tok htok hK=>?_
     simp only[go_sem,seval,e4,e5]
     refine⟨htok _ (by decide+kernel),⟨⟨⟨⟨by omega,BN q1 rfl (by simp)⟩,by omega⟩,BN q2 rfl (by simp)⟩,E5 q3 rfl (by simp) ⟨F6 (by simp) rfl rfl (by simp[FL]) rfl,F6 (by simp) rfl rfl (by simp[FL]) rfl,trivial⟩ rfl (by simp) (by simp[DI])⟩,hK _ _ ?_⟩
     clear hK K htok tok
     refine Ah [2] ?_
     exact AW.ret (BX trivial [some 0] [])
theorem K7(v:Nat)(hv:v<2^64):
   Af Tryz.prog 183 [.val (.slice none 0 0),.val (.int .u64 v)] [] (.osl 0 (An v).length 1) [some ⟨5,1,Ab (An v)⟩]:=by
 refine acN 20 0 Tryz.func183 fun C hN hk=>?_
 refine Ah [0,1] ?_
 refine Bw hk 1 (α:=List UInt8×Nat×Nat) (fun a=>⟨[(0,.osl 0 a.1.length 1),(1,.val (.int .u64 a.2.1))],[(0,some ⟨5,1,Ab a.1⟩)]⟩)
   (fun a=>a.1++BG a.2.2 a.2.1=An v∧a.2.1<128^(a.2.2+1)∧a.1.length+a.2.2=10∧a.2.2≤10) (fun a=>a.2.2) ([],v,10) ⟨rfl,by simp only;omega,rfl,by simp⟩ ?_ ?_
 · exact Bk (And.intro @A3 Ab.eq_1) [none] []
 · rintro⟨d,u,k⟩ ⟨h1,h2,h3,h4⟩
   simp only at h1 h2 h3 h4
   refine Ah [0,1,6] ?_
   refine C8 rfl (fun h=>?_) (fun h=>?_)
   · simp only[ge_iff_le,decide_eq_true_eq]at h
     obtain⟨k,rfl⟩: ∃ k',k=k'+1:=by
       cases k with
       |zero=>simp at h2;omega
       |succ k=>exact⟨k,rfl⟩
     rw[BG,if_neg (by omega)]at h1
     have h5:u / 128<128^(k+1):=by
       rw[Nat.div_lt_iff_lt_mul (by omega),← Nat.pow_succ];exact h2
     refine AW.skip (Aw ?_)
     refine Ah [0,1] ?_ (hp:=by simp[Cw,Cx];omega)
     rw[AaF,HU _ (by omega),H2]
     refine Ah [0,1] ?_
     refine⟨(d++[UInt8.ofNat (u%128+128)],u / 128,k),⟨by rw[← h1];simp,h5,by simp;omega,by show k≤10;omega⟩,by simp,?_⟩
     refine(Cy [some 0] [] ?_ (by simp[Am,Ai,Aj,lkh,A3]))
     simp[AR,wk,lk]
     exact Int.fdiv_eq_ediv_of_nonneg _ (by omega)
   · simp only[ge_iff_le,decide_eq_false_iff_not]at h
     refine AW.exit (A8 (A8 (BW (Aw ?_))))
     refine Ah [4] ?_ (hp:=by simp[Cw,Cx];omega)
     have h6:BG k u=[UInt8.ofNat u]:=by
       cases k with
       |zero=>rfl
       |succ k=>rw[BG,if_pos (by omega)]
     rw[h6]at h1
     rw[IU,Nat.mod_eq_of_lt (by omega),HU _ (by omega),H2,h1]
     refine AW.ret (B0 [some 0] [] rfl ?_ ?_ (h2:=trivial))
     · simp[Ax,lk,wk]
       have:=congrArg List.length h1
       simp at this
       omega
     · simp[Am,Ai,Aj,lkh,A3]
theorem MO: ∀ k v,(BG k v).length≤k+1
 |0,v=>by simp[BG]
 |k+1,v=>by
   rw[BG];split
   · simp
   · have:=MO k (v / 128);simp;omega
theorem Bh(v:Nat):(An v).length≤11:=MO 10 v
theorem Nq(a b:S): ∀ f i,i≤a.length→FB a b f i≤a.length∧(i≤b.length→FB a b f i≤b.length)
 |0,i,h=>by simp only[FB];exact⟨h,fun h=>h⟩
 |f+1,i,h=>by
   rw[FB]
   split
   · rename_i x y hx hy
     split
     · have h1:i<a.length:=by
         rcases Nat.lt_or_ge i a.length with h|h
         · exact h
         · rw[List.getElem?_eq_none h]at hx;cases hx
       have h2:i<b.length:=by
         rcases Nat.lt_or_ge i b.length with h|h
         · exact h
         · rw[List.getElem?_eq_none h]at hy;cases hy
       have:=Nq a b f (i+1) (by omega)
       exact⟨this.1,fun _=>this.2 (by omega)⟩
     · exact⟨h,fun h=>h⟩
   · exact⟨h,fun h=>h⟩
theorem Pt(a b:S):Cr a b≤a.length:=(Nq a b _ 0 (by omega)).1
theorem Sl(a b:S):Cr a b≤b.length:=(Nq a b _ 0 (by omega)).2 (by omega)
theorem J4(n:Int):0≤IntKind.u64.wrap n∧IntKind.u64.wrap n<18446744073709551616:=by
 have e1:((2:Int)^IntKind.u64.bits)=18446744073709551616:=by decide
 have e3:IntKind.u64.signed=false:=rfl
 unfold IntKind.wrap
 simp only[e1,e3,Bool.false_and,Bool.false_eq_true,if_false]
 omega
theorem Gp(x:Int):0≤Dn x∧Dn x<2^64:=J4 _
def Be(x:Int):List UInt8:=An (Dn x).toNat
theorem Kb(b:List UInt8)(x:Int)(hb:b.length≤2^40):
   Af Tryz.prog 188 [.osl 0 b.length 1,I x] [some ⟨5,1,Ab b⟩] (.osl 1 (b++Be x).length 1) [none,some ⟨5,1,Ab (b++Be x)⟩]:=by
 refine acN 9 1 Tryz.func188 fun C hN hk=>?_
 have hz:=Gp x
 have q:=C7 b (Dn x).toNat (by omega) hb
 have e1:((Dn x).toNat:Int)=Dn x:=by omega
 rw[e1]at q
 have q0:=Abe x
 unfold Be
 generalize An (Dn x).toNat=vv at*
 refine Ah [0,1] ?_ noc [0]
 refine rG hN hk (onc 2 (pc [I x] (U64 (Dn x)) []) (onc 3 (oc 0 ⟨5,1,Ab b⟩ [.osl 0 b.length 1,U64 (Dn x)] (.osl 1 (b++vv).length 1) [none,some ⟨5,1,Ab (b++vv)⟩]) noc)) [0] [4] fun K hK=>?_;simp only[go_sem,seval]
 refine⟨⟨BN q0 rfl (by simp),DJ q rfl (by simp) (by simp) rfl (by simp) (by simp) rfl⟩,hK _ _ ?_⟩
 clear hK K;refine nx ?_
 exact AW.ret (BX trivial [some 0,some 1] [])
def Er(d:List S)(i:Nat):Nat:=if i%16=0 then 0 else Cr (d.getD i []) (d.getD (i-1) [])
def EY(d:List S)(i:Nat):S:=(if i%16=0 then []else An (Er d i))++An ((d.getD i []).length-Er d i)++(d.getD i []).drop (Er d i)
def A1(d:List S):Nat→S
 |0=>An d.length
 |i+1=>A1 d i++EY d i
def AG(d:List S):S:=A1 d d.length
theorem XK(d:List S)(i:Nat)(h:(d.getD i []).length≤2048):(EY d i).length≤2070:=by
 unfold EY
 have h1:=Bh (Er d i)
 have h2:=Bh ((d.getD i []).length-Er d i)
 generalize d.getD i []=x at*
 generalize Er d i=n at*
 split
 · simp only[List.length_append,List.length_drop,List.length_nil];omega
 · simp only[List.length_append,List.length_drop];omega
theorem E3(d:List S)(h:Ey d=false): ∀ i,i≤d.length→(A1 d i).length≤11+i*2070
 |0,_=>by simp only[A1];have:=Bh d.length;omega
 |i+1,hi=>by
   have:=E3 d h i (by omega)
   have h2:=XK d i (by
     simp only[Ey,List.any_eq_false,decide_eq_true_eq]at h
     have hm:i<d.length:=by omega
     have:=h d[i] (List.getElem_mem hm)
     simp[List.getD,hm];omega)
   simp only[A1,List.length_append]
   omega
def Kf(d:List S):AV×List (Option Ent):=if A6 d=0 then(.tup [.osl 0 (AG d).length 1,I 0],[some ⟨5,1,Ab (AG d)⟩])else(.tup [.val (.slice none 0 0),I (A6 d)],[])
theorem RA(d:List S)(hd:d.length≤2^40)(hs: ∀ s∈d,s.length≤2^40):Af Tryz.prog 125 [.sl 1 (Ay d)] [] (Kf d).1 (Kf d).2:=by
 refine acN 59 0 Tryz.func125 fun C hN hk=>?_
 have q0:=Ack d hd hs
 refine Ah [0] ?_
 refine Ah [0,4] ?_ (onc 1 (pc [.sl 1 (Ay d)] (I (A6 d)) []) noc) (hp:=by exact BN q0 rfl (by simp))
 by_cases hc:A6 d=0
 · have hlen:d.length≤32768:=by unfold A6 at hc;split at hc<;>omega
   have hlong:Ey d=false:=by
     unfold A6 at hc
     rw[if_neg (by omega)]at hc
     cases h:Ey d with
     |false=>rfl
     |true=>rw[h]at hc;simp at hc
   have e0:(A6 d !=0)=false:=by simp[hc]
   unfold Kf
   rw[if_pos hc]
   have F:=e0;refine AB [0,11] ?_;clear F
   refine Ar rfl (AW.skip (Aw ?_))
   have q1:=K7 d.length (by omega)
   have e1:IntKind.u64.wrap (d.length:Int)=d.length:=IntWalk.u64_in _ (by omega)
   have F:=e1;refine AB [0,5] ?_ (onc 3 (pc [.val (.slice none 0 0),U64 d.length] (.osl 0 (An d.length).length 1) [some ⟨5,1,Ab (An d.length)⟩]) noc) (hp:=by exact BN q1 rfl (by simp));clear F
   refine Ah [0,5,6] ?_
   refine Bw hk 1 (fun i:Nat=>⟨[(0,.sl 1 (Ay d)),(5,.osl 0 (A1 d i).length 1),(6,I i)],[(0,some ⟨5,1,Ab (A1 d i)⟩)]⟩) (fun i=>i≤d.length) (fun i=>d.length-i) 0 (by omega) (Bk (And.intro A1.eq_1 A1.eq_2) [some 0] []) ?_
   intro i h1
   have hle:=E3 d hlong i h1
   by_cases hi:i<d.length
   · have e2:decide ((i:Int)<d.length)=true:=by simp;omega
     have F:=e2;refine AB [0,5,6,20] ?_;clear F
     refine AI rfl (AW.skip (Aw ?_))
     refine Ah [0,5,6,7] ?_
     have hx:=List.getElem?_eq_getElem hi
     have hx2:d.getD i []=d[i]:=by simp[List.getD,hi]
     have hxl:d[i].length≤2048:=by
       simp only[Ey,List.any_eq_false,decide_eq_true_eq]at hlong
       have:=hlong d[i] (List.getElem_mem hi)
       omega
     have hp1:A1 d (i+1)=A1 d i++EY d i:=rfl
     have e3:(i:Int).tmod 16=((i%16:Nat):Int):=by rw[Int.tmod_eq_emod_of_nonneg (by omega)];omega
     have e7:=As (n:=(i:Int)+1) (by omega)
     by_cases h16:i%16=0
     · have e4:(((i%16:Nat):Int) !=0)=false:=by simp;omega
       rw[EY,if_pos h16,show Er d i=0 by unfold Er;rw[if_pos h16],hx2]at hp1
       generalize d[i]=x at hx hp1 hxl
       have F:=And.intro e3 e4;refine AB [0,5,6,7,25] ?_;clear F
       refine Ar rfl (AW.skip (Aw ?_))
       have q2:=C7 (A1 d i) (x.length-0) (by omega) (by omega)
       have e5:=As (n:=(x.length:Int)-0) (by omega)
       have e6:IntKind.u64.wrap ((x.length:Int)-0)=((x.length-0:Nat):Int):=by rw[IntWalk.u64_in _ (by omega)];omega
       simp only[List.nil_append,List.drop_zero]at hp1
       have hvl:=Bh (x.length-0)
       generalize An (x.length-0)=vv at*
       generalize A1 d i=o at*
       have F:=And.intro hx (And.intro e5 e6);refine AB [0,5,6,7] ?_ (onc 9 (oc 0 ⟨5,1,Ab o⟩ [.osl 0 o.length 1,U64 ((x.length-0:Nat):Int)] (.osl 1 (o++vv).length 1) [none,some ⟨5,1,Ab (o++vv)⟩]) noc) (hp:=by exact DJ q2 rfl (by simp) (by simp) rfl (by simp) (by simp) rfl);clear F
       generalize ho2:o++vv=o2 at*
       have hl2:o2.length=o.length+vv.length:=by rw[← ho2];simp
       refine nx ?_;refine rG hN hk noc [] [0,5,6] fun K hK=>?_;simp only[go_sem,seval,hx,List.drop_zero]
       first|with_reducible refine hK _ _ ?_|refine⟨by simp[List.length_drop];omega,hK _ _ ?_⟩|refine obK (hK _ _ ?_)
       clear hK K;have F:=e7;refine AB [0,5,6] ?_;clear F
       exact⟨i+1,by omega,by omega,(Bk (And.intro hp1 (And.intro (Eq.symm ho2) @Nat.add_assoc)) [some 0] [])⟩
     · have e4:(((i%16:Nat):Int) !=0)=true:=by simp;omega
       have hi0:0<i:=by omega
       have hy:=List.getElem?_eq_getElem (show i-1<d.length by omega)
       have hy2:d.getD (i-1) []=d[i-1]:=by simp[List.getD,show i-1<d.length by omega]
       have hyl:d[i-1].length≤2048:=by
         simp only[Ey,List.any_eq_false,decide_eq_true_eq]at hlong
         have:=hlong d[i-1] (List.getElem_mem (by omega))
         omega
       rw[EY,if_neg h16,show Er d i=Cr (d.getD i []) (d.getD (i-1) []) by unfold Er;rw[if_neg h16],hx2,hy2]at hp1
       generalize d[i]=x at hx hp1 hxl
       generalize d[i-1]=y at hy hp1 hyl
       have q3:=Acz x y (by omega) (by omega)
       have hcl:=Pt x y
       have e8:=As (n:=(i:Int)-1) (by omega)
       have e9:((i:Int)-1).toNat=i-1:=by omega
       generalize Cr x y=n at*
       have F:=And.intro e3 e4;refine AB [0,5,6,7,25] ?_;clear F
       refine cT ?_;have F:=And.intro hx (And.intro hy (And.intro e8 e9));refine DV [0,5,6,7] ?_ (onc 9 (pc [str x,str y] (I n) []) noc) (hp:=by exact⟨by omega,BN q3 rfl (by simp)⟩);clear F
       have e10:IntKind.u64.wrap (n:Int)=n:=IntWalk.u64_in _ (by omega)
       have q4:=C7 (A1 d i) n (by omega) (by omega)
       have hvn:=Bh n
       have q2:=C7 (A1 d i++An n) (x.length-n) (by omega) (by simp;omega)
       have e5:=As (n:=(x.length:Int)-n) (by omega)
       have e6:IntKind.u64.wrap ((x.length:Int)-n)=((x.length-n:Nat):Int):=by rw[IntWalk.u64_in _ (by omega)];omega
       have hvl:=Bh (x.length-n)
       have e11:(n:Int).toNat=n:=by omega
       generalize An (x.length-n)=vv at*
       generalize An n=vn at*
       generalize A1 d i=o at*
       have F:=e10;refine AB [0,5,6,7] ?_ (onc 3 (oc 0 ⟨5,1,Ab o⟩ [.osl 0 o.length 1,U64 n] (.osl 1 (o++vn).length 1) [none,some ⟨5,1,Ab (o++vn)⟩]) noc) (hp:=by exact DJ q4 rfl (by simp) (by simp) rfl (by simp) (by simp) rfl);clear F
       have hl1:(o++vn).length=o.length+vn.length:=by simp
       generalize ho1:o++vn=o1 at*
       have F:=And.intro hx (And.intro e5 e6);refine AB [0,5,6,7] ?_ (onc 9 (oc 0 ⟨5,1,Ab o1⟩ [.osl 0 o1.length 1,U64 ((x.length-n:Nat):Int)] (.osl 1 (o1++vv).length 1) [none,some ⟨5,1,Ab (o1++vv)⟩]) noc) (hp:=by exact DJ q2 rfl (by simp) (by simp) rfl (by simp) (by simp) rfl);clear F
       have hl2:(o1++vv).length=o1.length+vv.length:=by simp
       have hp2:A1 d (i+1)=(o1++vv)++x.drop n:=by rw[hp1,← ho1];simp[List.append_assoc]
       generalize ho2:o1++vv=o2 at*
       have F:=And.intro hx e11;refine AB [0,5,6] ?_ (hp:=by simp[List.length_drop];omega);clear F
       have F:=e7;refine AB [0,5,6] ?_;clear F
       exact⟨i+1,by omega,by omega,(Bk hp2 [some 0] [])⟩
   · have e2:decide ((i:Int)<d.length)=false:=by simp;omega
     have:i=d.length:=by omega
     have F:=e2;refine AB [0,5,6,20] ?_;clear F
     refine Ar rfl (AW.exit (A8 (A8 (BW (Aw ?_)))))
     subst this
     refine Ah [2,3] ?_
     exact AW.ret (BX AG.eq_1 [some 0] [])
 · have e0:(A6 d !=0)=true:=by simp[hc]
   unfold Kf
   rw[if_neg hc]
   have F:=e0;refine AB [0,4,11] ?_;clear F
   refine cT ?_;refine Ah [2,3] ?_
   exact AW.ret (BX trivial [] [])
end Go.Proofs.YtpkhodjlnodagaaGreatDoor
namespace Go.Proofs.YtpkhodjlnodagaaGreatDoor
open Go.Av
theorem orU(a b:Nat)(ha:a<2^64)(hb:b<2^64):AN .or .u64 (a:Int) (b:Int)=((a ||| b:Nat):Int):=by
 simp only[AN]
 have e:IntKind.u64.bits=64:=rfl
 rw[BitVec.toNat_or,BitVec.ofInt_natCast,BitVec.ofInt_natCast,BitVec.toNat_ofNat,BitVec.toNat_ofNat,e,Nat.mod_eq_of_lt ha,Nat.mod_eq_of_lt hb]
 have:=Nat.or_lt_two_pow ha hb
 exact IntWalk.u64_in _ (by omega)
theorem Xu(d:Nat)(h:d<256):AN .and .u64 (d:Int) 127=((d%128:Nat):Int):=by
 have h2: ∀ x:Fin 256,AN .and .u64 ((x.val:Nat):Int) 127=((x.val%128:Nat):Int):=by decide+kernel
 exact h2 ⟨d,h⟩
theorem Aax(v x k:Nat)(hv:v<2^(7*k))(ht:v+x*2^(7*k)<2^64)(hx:x<128):
   AN .or .u64 (v:Int) (IntKind.u64.wrap ((x:Int)*2^(7*k)))=((v+x*2^(7*k):Nat):Int):=by
 have e:((x:Int)*2^(7*k))=((x*2^(7*k):Nat):Int):=by push_cast;rfl
 rw[e,IntWalk.u64_in _ (by omega),orU _ _ (by omega) (by omega)]
 have:=Nat.two_pow_add_eq_or_of_lt hv x
 rw[Nat.or_comm,Nat.mul_comm x,← this,Nat.add_comm]
@[simp,go_sem] theorem Ac5(l:List UInt8):FR (Ab l)=l:=by
 induction l with
 |nil=>rfl
 |cons a l ih=>
   simp only[Ab,FR,List.map_cons,List.map_map]at ih ⊢
   rw[ih]
   simp[FE,OT]
theorem BY(l:List UInt8): ∀ c∈Ab l,Gi c=true:=by
 intro c hc
 simp only[Ab,List.mem_map]at hc
 obtain⟨x,_,rfl⟩:=hc
 have:=x.toNat_lt
 simp only[FE,Gi,decide_eq_true_eq]
 omega
theorem ofNat_toNat(n:Nat)(h:n<256):(UInt8.ofNat n).toNat=n:=by simp;omega
theorem L4(at_:Nat)(post:List UInt8): ∀ (f k m v:Nat) (pre:List UInt8),f+k=10→pre.length=at_+k→v<2^(7*k)→v+m*2^(7*k)<2^64→(0<k→0<m)→
   JT (pre++BG f m++post) at_ f k (v:Int)=some (((v+m*2^(7*k):Nat):Int),pre.length+(BG f m).length)
 |0,k,m,v,pre,hf,hp,hv,ht,hm=>by
   obtain rfl:k=10:=by omega
   have:=hm (by omega)
   exfalso
   have:2^(7*10)≤m*2^(7*10):=Nat.le_mul_of_pos_left _ this
   omega
 |f+1,k,m,v,pre,hf,hp,hv,ht,hm=>by
   have hk9:k≤9:=by omega
   have hm9:k=9→m<2:=by rintro rfl;omega
   rw[JT]
   by_cases h:m<128
   · have e:BG (f+1) m=[UInt8.ofNat m]:=by rw[BG,if_pos h]
     have hg:(pre++BG (f+1) m++post)[at_+k]? =some (UInt8.ofNat m):=by
       rw[e,← hp,List.append_assoc,List.getElem?_append_right (by omega)];simp
     rw[hg]
     simp only[ofNat_toNat m (by omega)]
     rw[if_neg (by omega),if_pos h,if_neg (by omega),Xu m (by omega),Nat.mod_eq_of_lt h,Aax v m k hv ht h,e,hp]
     rfl
   · have e:BG (f+1) m=UInt8.ofNat (m%128+128)::BG f (m / 128):=by rw[BG,if_neg h]
     have hg:(pre++BG (f+1) m++post)[at_+k]? =some (UInt8.ofNat (m%128+128)):=by
       rw[e,← hp,List.append_assoc,List.getElem?_append_right (by omega)];simp
     rw[hg]
     have hpw:2^(7*(k+1))=2^(7*k)*128:=by rw[show 7*(k+1)=7*k+7 by omega,Nat.pow_add]
     have hsum:v+m%128*2^(7*k)+m / 128*2^(7*(k+1))=v+m*2^(7*k):=by
       rw[hpw]
       generalize 2^(7*k)=p
       have h1:m / 128*(p*128)=(m / 128*128)*p:=by rw[Nat.mul_comm p,Nat.mul_assoc]
       rw[h1,Nat.add_assoc,← Nat.add_mul]
       congr 2
       omega
     have hle:m%128*2^(7*k)≤m*2^(7*k):=Nat.mul_le_mul_right _ (Nat.mod_le _ _)
     simp only[ofNat_toNat (m%128+128) (by omega)]
     rw[if_neg (by omega),if_neg (by omega),Xu _ (by omega),show(m%128+128)%128=m%128 by omega,Aax v (m%128) k hv (by omega) (by omega)]
     have hv2:v+m%128*2^(7*k)<2^(7*(k+1)):=by
       rw[hpw]
       have:m%128*2^(7*k)≤127*2^(7*k):=Nat.mul_le_mul_right _ (by omega)
       omega
     have ih:=L4 at_ post f (k+1) (m / 128) (v+m%128*2^(7*k)) (pre++[UInt8.ofNat (m%128+128)]) (by omega) (by simp;omega) hv2 (by omega) (by omega)
     rw[e]
     rw[hsum]at ih
     have hl:pre++UInt8.ofNat (m%128+128)::BG f (m / 128)++post=pre++[UInt8.ofNat (m%128+128)]++BG f (m / 128)++post:=by simp
     rw[hl,ih]
     simp only[List.length_append,List.length_cons,List.length_nil]
     congr 2
     omega
theorem CO(pre post:List UInt8)(m:Nat)(hm:m<2^64):G9 (pre++An m++post) pre.length=some ((m:Int),pre.length+(An m).length):=by
 have:=L4 pre.length post 10 0 m 0 pre rfl (by simp) (by simp) (by simpa using hm) (by omega)
 simpa [G9,An] using this
end Go.Proofs.YtpkhodjlnodagaaGreatDoor
namespace Go.Proofs.YtpkhodjlnodagaaGreatDoor
open Go.Av
set_option maxHeartbeats 4000000
attribute [local irreducible] Af
theorem OF(a b:S): ∀ f i,a.take i=b.take i→a.take (FB a b f i)=b.take (FB a b f i)
 |0,i,h=>h
 |f+1,i,h=>by
   rw[FB]
   split
   · next x y hx hy=>
     split
     · next hxy=>
       subst hxy
       refine OF a b f (i+1) ?_
       rw[List.take_add_one,List.take_add_one,h,hx,hy]
     · exact h
   · exact h
theorem XL(a b:S):a.take (Cr a b)=b.take (Cr a b):=OF a b _ 0 (by simp)
theorem MU(d:List S)(i:Nat): ∀ j,∃ t,A1 d (i+j)=A1 d i++t
 |0=>⟨[],by simp⟩
 |j+1=>by
   obtain⟨t,ht⟩:=MU d i j
   exact⟨t++EY d (i+j),by rw[← Nat.add_assoc,A1,ht,List.append_assoc]⟩
theorem KV(d:List S)(i:Nat)(h:i≤d.length): ∃ t,AG d=A1 d i++t:=by
 obtain⟨t,ht⟩:=MU d i (d.length-i)
 rw[show i+(d.length-i)=d.length by omega]at ht
 exact⟨t,ht⟩
theorem NH(d:List S)(hc:A6 d=0):
   Af Tryz.prog 72 [.sl 1 (Ab (AG d))] [] (.tup [.osl 0 d.length 1,I 0]) [some ⟨9,1,Ay d⟩]:=by
 have hlen:d.length≤32768:=by unfold A6 at hc;split at hc<;>omega
 have hlong:Ey d=false:=by
   unfold A6 at hc
   rw[if_neg (by omega)]at hc
   cases h:Ey d with
   |false=>rfl
   |true=>rw[h]at hc;simp at hc
 have hs: ∀ s∈d,s.length≤2048:=by
   intro s hs
   simp only[Ey,List.any_eq_false,decide_eq_true_eq]at hlong
   have:=hlong s hs
   omega
 have hel:=E3 d hlong d.length (by omega)
 have hel':(AG d).length≤2^40:=by unfold AG;omega
 refine acN 114 0 Tryz.func72 fun C hN hk=>?_
 have q0:=DH (AG d) 0 hel' (by omega)
 obtain⟨t0,ht0⟩:=KV d 0 (by omega)
 rw[show G9 (AG d) 0=some ((d.length:Int),(A1 d 0).length) by
   have:=CO [] t0 d.length (by omega)
   simp only[List.nil_append,List.length_nil,Nat.zero_add]at this
   rw[ht0];exact this]at q0
 simp only[Ds]at q0
 refine Ah [0] ?_
 refine Ah [0,4,5,6] ?_ (onc 1 (pc [.sl 1 (Ab (AG d)),I 0] (.tup [U64 d.length,I (A1 d 0).length,B true]) []) noc) (hp:=by exact BN q0 rfl (by simp))
 have e0:decide ((d.length:Int)>32768)=false:=by simp;omega
 have F:=e0;refine AB [0,4,5,25] ?_;clear F
 refine Ar rfl (AW.skip (Aw ?_))
 refine Ah [0,4,5,7] ?_
 refine Ah [0,4,5,7,8] ?_
 refine Bw hk 1 (fun i:Nat=>⟨[(0,.sl 1 (Ab (AG d))),(4,U64 d.length),(5,I (A1 d i).length),(7,.osl 0 i 1),(8,I i)],[(0,some ⟨9,1,Ay (d.take i)⟩)]⟩) (fun i=>i≤d.length) (fun i=>d.length-i) 0 (by omega) (Bk Ay.eq_1 [none] []) ?_
 intro i h1
 have e1:=As (n:=(d.length:Int)) (by omega)
 by_cases hi:i<d.length
 · have e2:decide ((i:Int)<d.length)=true:=by simp;omega
   have F:=And.intro e1 e2;refine AB [0,4,5,7,8,29] ?_;clear F
   refine AI rfl (AW.skip (Aw ?_))
   refine Ah [0,4,5,7,8,9] ?_
   have hx:=List.getElem?_eq_getElem hi
   have hx2:d.getD i []=d[i]:=by simp[List.getD,hi]
   have hxl:d[i].length≤2048:=hs _ (List.getElem_mem hi)
   have htk:d.take (i+1)=d.take i++[d[i]]:=List.take_succ_eq_append_getElem hi
   have e3:(i:Int).tmod 16=((i%16:Nat):Int):=by rw[Int.tmod_eq_emod_of_nonneg (by omega)];omega
   have e7:=As (n:=(i:Int)+1) (by omega)
   obtain⟨t1,ht1⟩:=KV d (i+1) (by omega)
   have htl:(d.take i).length=i:=by simp;omega
   have hb1:=E3 d hlong i (by omega)
   have hb2:=E3 d hlong (i+1) (by omega)
   have hp1:A1 d (i+1)=A1 d i++EY d i:=rfl
   have hel2:(AG d).length=(A1 d (i+1)).length+t1.length:=by rw[ht1];simp
   by_cases h16:i%16=0
   · have e4:(((i%16:Nat):Int) !=0)=false:=by simp;omega
     rw[EY,if_pos h16,show Er d i=0 by unfold Er;rw[if_pos h16],hx2]at hp1
     generalize d[i]=x at hx hp1 hxl htk
     simp only[List.nil_append,List.drop_zero,Nat.sub_zero]at hp1
     have q1:=DH (AG d) (A1 d i).length hel' (by omega)
     have hgv:=CO (A1 d i) (x++t1) x.length (by omega)
     rw[show A1 d i++An x.length++(x++t1)=AG d by rw[ht1,hp1];simp[List.append_assoc]]at hgv
     rw[hgv]at q1
     simp only[Ds]at q1
     have hd1:((AG d).drop ((A1 d i).length+(An x.length).length)).take x.length=x:=by
       rw[ht1,hp1]
       rw[show(A1 d i++(An x.length++x)++t1)=(A1 d i++An x.length)++(x++t1) by simp[List.append_assoc]]
       rw[← List.length_append,List.drop_left];simp
     have hl1:(A1 d (i+1)).length=(A1 d i).length+(An x.length).length+x.length:=by rw[hp1];simp[Nat.add_assoc]
     generalize (An x.length).length=vl at*
     generalize AG d=e at*
     generalize (A1 d i).length=c at*
     have F:=And.intro e3 e4;refine AB [0,4,5,7,8,9,34] ?_;clear F
     refine Ar rfl (AW.skip (Aw ?_))
     refine Ah [0,4,5,7,8,9,10] ?_
     refine rG hN hk (onc 2 (pc [.sl 1 (Ab e),I c] (.tup [U64 x.length,I ((c+vl:Nat):Int),B true]) []) noc) [] [0,4,5,6,7,8,9,10] fun K hK=>?_;simp only[go_sem,seval]
     first|with_reducible refine hK _ _ ?_|refine⟨by exact BN q1 rfl (by simp),hK _ _ ?_⟩|refine obK (hK _ _ ?_)
     clear hK K;refine nx ?_
     have e8:=As (n:=(e.length:Int)- ((c+vl:Nat):Int)) (by omega)
     have e9:=IntWalk.u64_in ((e.length:Int)- ((c+vl:Nat):Int)) (by omega)
     have e10:decide ((x.length:Int)>(e.length:Int)- ((c+vl:Nat):Int))=false:=by simp;omega
     have F:=And.intro e8 (And.intro e9 e10);refine AB [0,4,5,7,8,9,10,72] ?_;clear F
     refine Ar rfl (AW.skip (Aw ?_))
     refine Ah [0,4,5,7,8,9,10,11] ?_
     have F:=And.intro e3 e4;refine AB [0,4,5,7,8,9,10,11,75] ?_;clear F
     refine Ar rfl (AW.skip (Aw ?_))
     have e11:=As (n:=(x.length:Int)) (by omega)
     have e12:=As (n:=((c+vl:Nat):Int)+x.length) (by omega)
     have e13:(((c+vl:Nat):Int)).toNat=c+vl:=by omega
     have e14:(((c+vl:Nat):Int)+x.length).toNat=c+vl+x.length:=by omega
     rw[List.take_drop]at hd1
     have F:=And.intro e11 (And.intro e12 (And.intro e13 (And.intro e14 hd1)));refine AB [0,4,5,7,8,10] ?_ (hp:=by exact⟨⟨⟨⟨by omega,BY x⟩,by omega⟩,by simp⟩,by omega,htl⟩);clear F
     have F:=And.intro e11 e12;refine AB [0,4,5,7,8] ?_;clear F
     have F:=e7;refine AB [0,4,5,7,8] ?_;clear F
     exact⟨i+1,by omega,by omega,(Bk (And.intro hl1 htk) [some 0] [])⟩
   · have e4:(((i%16:Nat):Int) !=0)=true:=by simp;omega
     have hi0:0<i:=by omega
     have hy:=List.getElem?_eq_getElem (show i-1<d.length by omega)
     have hy2:d.getD (i-1) []=d[i-1]:=by simp[List.getD,show i-1<d.length by omega]
     have hyl:d[i-1].length≤2048:=hs _ (List.getElem_mem (by omega))
     rw[EY,if_neg h16,show Er d i=Cr (d.getD i []) (d.getD (i-1) []) by unfold Er;rw[if_neg h16],hx2,hy2]at hp1
     have hy3:(d.take i)[i-1]? =some d[i-1]:=by rw[List.getElem?_take_of_lt (by omega)];exact hy
     generalize d[i]=x at hx hp1 hxl htk
     generalize d[i-1]=y at hy hp1 hyl hy3
     have hcl:=Pt x y
     have hcl2:=Sl x y
     have hct:=XL x y
     generalize Cr x y=n at*
     have q1:=DH (AG d) (A1 d i).length hel' (by omega)
     have hgv:=CO (A1 d i) (An (x.length-n)++x.drop n++t1) n (by omega)
     rw[show A1 d i++An n++(An (x.length-n)++x.drop n++t1)=AG d by rw[ht1,hp1];simp[List.append_assoc]]at hgv
     rw[hgv]at q1
     have q2:=DH (AG d) (A1 d i++An n).length hel' (by simp;have:=Bh n;omega)
     have hgv2:=CO (A1 d i++An n) (x.drop n++t1) (x.length-n) (by omega)
     rw[show A1 d i++An n++An (x.length-n)++(x.drop n++t1)=AG d by rw[ht1,hp1];simp[List.append_assoc]]at hgv2
     rw[hgv2]at q2
     simp only[Ds,List.length_append]at q1 q2
     have hd1:((AG d).drop ((A1 d i).length+(An n).length+(An (x.length-n)).length)).take (x.length-n)=x.drop n:=by
       rw[ht1,hp1]
       rw[show(A1 d i++(An n++An (x.length-n)++x.drop n)++t1)=(A1 d i++An n++An (x.length-n))++(x.drop n++t1) by simp[List.append_assoc]]
       rw[← List.length_append,← List.length_append,List.drop_left,List.take_append_of_le_length (by simp),List.take_of_length_le (by simp)]
     have hl1:(A1 d (i+1)).length=(A1 d i).length+(An n).length+(An (x.length-n)).length+(x.length-n):=by rw[hp1];simp[Nat.add_assoc]
     have hjoin:y.take n++x.drop n=x:=by rw[← hct,List.take_append_drop]
     generalize (An (x.length-n)).length=vl at*
     generalize (An n).length=vn at*
     generalize AG d=e at*
     generalize (A1 d i).length=c at*
     have F:=And.intro e3 e4;refine AB [0,4,5,7,8,9,34] ?_;clear F
     refine cT ?_;refine nx ?_;refine rG hN hk (onc 2 (pc [.sl 1 (Ab e),I c] (.tup [U64 n,I ((c+vn:Nat):Int),B true]) []) noc) [] [0,4,5,6,7,8,9] fun K hK=>?_;simp only[go_sem,seval]
     first|with_reducible refine hK _ _ ?_|refine⟨by exact BN q1 rfl (by simp),hK _ _ ?_⟩|refine obK (hK _ _ ?_)
     clear hK K;refine nx ?_
     have e15:=As (n:=(i:Int)-1) (by omega)
     have e16:((i:Int)-1).toNat=i-1:=by omega
     have e17:=IntWalk.u64_in (y.length:Int) (by omega)
     have e18:decide ((n:Int)>(y.length:Int))=false:=by simp;omega
     have F:=And.intro e15 (And.intro e16 (And.intro e17 (And.intro e18 hy3)));refine AB [0,4,5,7,8,9,54] ?_;clear F
     refine Ar rfl (AW.skip (Aw ?_))
     refine Ah [0,4,5,7,8,9,10] ?_
     refine rG hN hk (onc 2 (pc [.sl 1 (Ab e),I ((c+vn:Nat):Int)] (.tup [U64 ((x.length-n:Nat):Int),I ((c+vn+vl:Nat):Int),B true]) []) noc) [] [0,4,5,6,7,8,9,10] fun K hK=>?_;simp only[go_sem,seval]
     first|with_reducible refine hK _ _ ?_|refine⟨by exact BN q2 rfl (by simp),hK _ _ ?_⟩|refine obK (hK _ _ ?_)
     clear hK K;refine nx ?_
     have e8:=As (n:=(e.length:Int)- ((c+vn+vl:Nat):Int)) (by omega)
     have e9:=IntWalk.u64_in ((e.length:Int)- ((c+vn+vl:Nat):Int)) (by omega)
     have e10:decide (((x.length-n:Nat):Int)>(e.length:Int)- ((c+vn+vl:Nat):Int))=false:=by simp;omega
     have F:=And.intro e8 (And.intro e9 e10);refine AB [0,4,5,7,8,9,10,72] ?_;clear F
     refine Ar rfl (AW.skip (Aw ?_))
     refine Ah [0,4,5,7,8,9,10,11] ?_
     have F:=And.intro e3 e4;refine AB [0,4,5,7,8,9,10,11,75] ?_;clear F
     refine cT ?_
     have e19:(n:Int).toNat=n:=by omega
     have F:=And.intro e15 (And.intro e16 (And.intro e19 hy3));refine AB [0,4,5,7,8,10,11] ?_;clear F
     have e11:=As (n:=((x.length-n:Nat):Int)) (by omega)
     have e12:=As (n:=((c+vn+vl:Nat):Int)+((x.length-n:Nat):Int)) (by omega)
     have e13:(((c+vn+vl:Nat):Int)).toNat=c+vn+vl:=by omega
     have e14:(((c+vn+vl:Nat):Int)+((x.length-n:Nat):Int)).toNat=c+vn+vl+(x.length-n):=by omega
     rw[List.take_drop]at hd1
     have F:=And.intro e11 (And.intro e12 (And.intro e13 (And.intro e14 hd1)));refine AB [0,4,5,7,8,10] ?_ (hp:=by exact⟨⟨⟨⟨by omega,BY _⟩,by simp;omega⟩,by simp⟩,by omega,htl⟩);clear F
     rw[hjoin]
     have F:=And.intro e11 e12;refine AB [0,4,5,7,8] ?_;clear F
     have F:=e7;refine AB [0,4,5,7,8] ?_;clear F
     exact⟨i+1,by omega,by omega,(Bk (And.intro hl1 htk) [some 0] [])⟩
 · have e2:decide ((i:Int)<d.length)=false:=by simp;omega
   have:i=d.length:=by omega
   subst this
   have F:=And.intro e1 e2;refine AB [0,7,29] ?_;clear F
   refine Ar rfl (AW.exit (A8 (A8 (BW (Aw ?_)))))
   rw[List.take_length]
   have q3:=RA d (by omega) (fun s h=>by have:=hs s h;omega)
   rw[Kf,if_pos hc]at q3
   have q4:=LL (AG d) (AG d) hel' hel'
   rw[decide_eq_true rfl]at q4
   generalize AG d=e at*
   refine Ah [0,7,12,13] ?_ (onc 1 (bc [0] [.sl 1 (Ay d)] (.tup [.osl 0 e.length 1,I 0]) [some ⟨5,1,Ab e⟩]) noc) (hp:=by exact E5 q3 rfl (by simp) ⟨F6 (by simp) rfl rfl (by simp[FL]) rfl,trivial⟩ rfl (by simp) (by simp[DI]))
   refine rG hN hk (onc 5 (bc [1] [.sl 1 (Ab e),.sl 1 (Ab e)] (B true) []) noc) [] [0,7,112] fun K hK=>?_;simp only[go_sem,seval,bne_self_eq_false]
   first|with_reducible refine hK _ _ ?_|refine⟨by exact E5 q4 rfl (by simp) ⟨F6 (by simp) rfl rfl (by simp[Ab]) rfl,Jy,trivial⟩ rfl (by simp) (by simp[DI]),hK _ _ ?_⟩|refine obK (hK _ _ ?_)
   clear hK K;refine nx ?_
   refine Ar rfl (AW.skip (Aw ?_))
   refine Ah [2,3] ?_
   exact AW.ret (BX trivial [some 0] [])
theorem Agu(k:Nat)(hk3:k≤3)(r:List UInt8):Af Tryz.prog 127 [.sl 1 (Ab (UInt8.ofNat k::r))] [] (.tup [I k,B true]) []:=by
 refine acN 17 0 Tryz.func127 fun C hN hk=>?_
 have hx:(UInt8.ofNat k::r)[0]? =some (UInt8.ofNat k):=rfl
 have e1:(((UInt8.ofNat k::r).length:Int)==0)=false:=by simp;omega
 have e2:=ofNat_toNat k (by omega)
 have e3:decide ((k:Int)>3)=false:=by simp;omega
 have e4:((0:Int)<((UInt8.ofNat k::r).length:Int)):=by simp
 have e5:=As (n:=(k:Int)) (by omega)
 generalize UInt8.ofNat k::r=b at*
 generalize UInt8.ofNat k=x at*
 refine Dh [0] ?_
 refine rG hN hk noc [] [0,12] fun K hK=>?_;simp only[go_sem,reduceIte,Nat.reduceAdd,Nat.reduceMul,Nat.reduceEqDiff,reduceCtorEq,Nat.reduceSub,Nat.reduceLeDiff,Nat.reducePow,e1,hx,e2,e3,Int.toNat_zero]
 first|with_reducible refine hK _ _ ?_|refine⟨by exact Int.le_refl _,hK _ _ ?_⟩|refine obK (hK _ _ ?_)
 clear hK K;refine nx ?_
 refine Ar rfl (AW.skip (Aw ?_))
 refine nx ?_;refine rG hN hk noc [] [2,3] fun K hK=>?_;simp only[go_sem,reduceIte,Nat.reduceAdd,Nat.reduceMul,Nat.reduceEqDiff,reduceCtorEq,Nat.reduceSub,Nat.reduceLeDiff,Nat.reducePow,hx,e2,e5,Int.toNat_zero]
 first|with_reducible refine hK _ _ ?_|refine⟨by exact Int.le_refl _,hK _ _ ?_⟩|refine obK (hK _ _ ?_)
 clear hK K;refine nx ?_
 exact AW.ret (BX trivial [] [])
theorem Acw(b:List UInt8)(at_ n:Nat)(v:Int)(hb:b.length≤2^40)(ha:at_≤2^41)(h:G9 b at_=some (v,n)):Af Tryz.prog 186 [.sl 1 (Ab b),I at_] [] (.tup [I (HC v),I n,B true]) []:=by
 refine acN 21 0 Tryz.func186 fun C hN hk=>?_
 have q:=DH b at_ hb ha
 rw[h]at q
 have q2:=AeC v
 simp only[Ds]at q
 refine Dh [0,1] ?_
 refine Dh [7,8,9] ?_ (onc 2 (pc [.sl 1 (Ab b),I at_] (.tup [U64 v,I n,B true]) []) noc) (hp:=by exact BN q rfl (by simp))
 refine Dh [4,5,6] ?_ (onc 1 (pc [U64 v] (I (HC v)) []) noc) (hp:=by exact BN q2 rfl (by simp))
 exact AW.ret (BX trivial [] [])
def DG(v:List Int):Nat→Int
 |0=>v.getD 0 0
 |i+1=>if v.getD i 0<DG v i then v.getD i 0 else DG v i
def B9(v:List Int):Nat→Int
 |0=>v.getD 0 0
 |i+1=>if v.getD i 0>B9 v i then v.getD i 0 else B9 v i
theorem Abt(v:List Int)(h0:0<v.length)(hl:v.length≤2^40):Af Tryz.prog 225 [.sl 1 (Ak v)] [] (.tup [I (DG v v.length),I (B9 v v.length),B true]) []:=by
 refine acN 37 0 Tryz.func225 fun C hN hk=>?_
 have e1:((v.length:Int)==0)=false:=by simp;intro h;rw[h]at h0;simp at h0
 have hx:=List.getElem?_eq_getElem h0
 have hx2:v.getD 0 0=v[0]:=by simp[List.getD,h0]
 have e4:((0:Int)<(v.length:Int)):=by omega
 refine Dh [0] ?_
 have F:=e1;refine BA [0,10] ?_;clear F
 refine Ar rfl (AW.skip (Aw ?_))
 refine nx ?_
 refine rD hN hk noc [] [0,5,6] fun K tok htok hK=>?_
 simp only[go_sem,reduceIte,Nat.reduceAdd,Nat.reduceMul,Nat.reduceEqDiff,reduceCtorEq,Nat.reduceSub,Nat.reduceLeDiff,Nat.reducePow,hx,Int.toNat_zero]
 refine⟨htok _ (by decide+kernel),by exact Int.le_refl _,hK _ _ ?_⟩
 clear hK K htok tok
 refine nx ?_
 rw[← hx2]
 clear hx hx2 e1 e4
 refine Dh [0,5,6,7] ?_
 refine Bw hk 0 (fun i:Nat=>⟨[(0,.sl 1 (Ak v)),(5,I (DG v i)),(6,I (B9 v i)),(7,I i)],[]⟩) (fun i=>i≤v.length) (fun i=>v.length-i) 0 (by omega) (Bk (And.intro (And.intro DG.eq_1 DG.eq_2) (And.intro B9.eq_1 B9.eq_2)) [] []) ?_
 intro i h1
 by_cases hi:i<v.length
 · have e2:decide ((i:Int)<v.length)=true:=by simp;omega
   have hx:=List.getElem?_eq_getElem hi
   have hx2:v.getD i 0=v[i]:=by simp[List.getD,hi]
   have hlo:DG v (i+1)=if v[i]<DG v i then v[i]else DG v i:=by rw[DG,hx2]
   have hhi:B9 v (i+1)=if v[i]>B9 v i then v[i]else B9 v i:=by rw[B9,hx2]
   generalize v[i]=x at*
   have e7:=As (n:=(i:Int)+1) (by omega)
   have F:=e2;refine BA [0,5,6,7,20] ?_;clear F
   refine AI rfl (AW.skip (Aw ?_))
   have F:=hx;refine OV [0,5,6,7] ?_;clear F
   have F:=e7;refine BA [0,5,6,7] ?_;clear F
   exact⟨i+1,by omega,by omega,(Bk (And.intro hlo hhi) [] [])⟩
 · have e2:decide ((i:Int)<v.length)=false:=by simp;omega
   have:i=v.length:=by omega
   subst this
   have F:=e2;refine BA [5,6,20] ?_;clear F
   refine Ar rfl (AW.exit (A8 (A8 (BW (Aw ?_)))))
   refine Dh [2,3,4] ?_
   exact AW.ret (BX trivial [] [])
def Iz(b:Nat):Nat:=if b=0 then 0 else Nat.log2 b+1
theorem Ad0(x:Nat)(hx:x<256):((List.append (List.append [0,1,2,2,3,3,3,3,4,4,4,4,4,4,4,4,5,5,5,5,5,5,5,5,5,5,5,5,5,5,5,5,6,6,6,6,6,6,6,6,6,6,6,6,6,6,6,6,6,6,6,6,6,6,6,6,6,6,6,6,6,6,6,6] [7,7,7,7,7,7,7,7,7,7,7,7,7,7,7,7,7,7,7,7,7,7,7,7,7,7,7,7,7,7,7,7,7,7,7,7,7,7,7,7,7,7,7,7,7,7,7,7,7,7,7,7,7,7,7,7,7,7,7,7,7,7,7,7]) (List.append [8,8,8,8,8,8,8,8,8,8,8,8,8,8,8,8,8,8,8,8,8,8,8,8,8,8,8,8,8,8,8,8,8,8,8,8,8,8,8,8,8,8,8,8,8,8,8,8,8,8,8,8,8,8,8,8,8,8,8,8,8,8,8,8] [8,8,8,8,8,8,8,8,8,8,8,8,8,8,8,8,8,8,8,8,8,8,8,8,8,8,8,8,8,8,8,8,8,8,8,8,8,8,8,8,8,8,8,8,8,8,8,8,8,8,8,8,8,8,8,8,8,8,8,8,8,8,8,8])):List UInt8)[x]? =some (UInt8.ofNat (Iz x)):=by
 have h: ∀ i:Fin 256,((List.append (List.append [0,1,2,2,3,3,3,3,4,4,4,4,4,4,4,4,5,5,5,5,5,5,5,5,5,5,5,5,5,5,5,5,6,6,6,6,6,6,6,6,6,6,6,6,6,6,6,6,6,6,6,6,6,6,6,6,6,6,6,6,6,6,6,6] [7,7,7,7,7,7,7,7,7,7,7,7,7,7,7,7,7,7,7,7,7,7,7,7,7,7,7,7,7,7,7,7,7,7,7,7,7,7,7,7,7,7,7,7,7,7,7,7,7,7,7,7,7,7,7,7,7,7,7,7,7,7,7,7]) (List.append [8,8,8,8,8,8,8,8,8,8,8,8,8,8,8,8,8,8,8,8,8,8,8,8,8,8,8,8,8,8,8,8,8,8,8,8,8,8,8,8,8,8,8,8,8,8,8,8,8,8,8,8,8,8,8,8,8,8,8,8,8,8,8,8] [8,8,8,8,8,8,8,8,8,8,8,8,8,8,8,8,8,8,8,8,8,8,8,8,8,8,8,8,8,8,8,8,8,8,8,8,8,8,8,8,8,8,8,8,8,8,8,8,8,8,8,8,8,8,8,8,8,8,8,8,8,8,8,8])):List UInt8)[i.val]? =some (UInt8.ofNat (Iz i.val)):=by decide+kernel
 exact h ⟨x,hx⟩
theorem OZ(x:Nat)(hx:x<256):Iz x≤8∧x<2^Iz x:=by
 have h: ∀ i:Fin 256,Iz i.val≤8∧i.val<2^Iz i.val:=by decide+kernel
 exact h ⟨x,hx⟩
def BH(w:Nat)(x:Nat):Nat:=if 2^w≤x then x / 2^w else x
def CX(w:Nat)(x:Nat):Nat:=if 2^w≤x then w else 0
def GF(x:Nat):Nat:=CX 32 x+CX 16 (BH 32 x)+CX 8 (BH 16 (BH 32 x))+Iz (BH 8 (BH 16 (BH 32 x)))
theorem Gy{w v x:Nat}(h:x<2^(w+v))(hv:w≤v):BH v x<2^v:=by
 unfold BH
 split
 · refine Nat.lt_of_lt_of_le ((Nat.div_lt_iff_lt_mul (Nat.two_pow_pos v)).2 (by rwa [← Nat.pow_add])) ?_
   exact Nat.pow_le_pow_right (by omega) hv
 · omega
theorem TP(x:Nat)(hx:x<2^64):Af Tryz.prog 226 [U64 x] [] (I (GF x)) []:=by
 have h1:BH 32 x<2^32:=Gy (w:=32) hx (by omega)
 have h2:BH 16 (BH 32 x)<2^16:=Gy (w:=16) h1 (by omega)
 have h3:BH 8 (BH 16 (BH 32 x))<2^8:=Gy (w:=8) h2 (by omega)
 refine acN 25 0 Tryz.func226 fun C hN hk=>?_
 refine Dh [0,2] ?_
 generalize hy:x=y at*
 refine Dh [0,2,4] ?_
 refine AW.join hk 0 ⟨[(0,U64 ((BH 32 y:Nat):Int)),(2,I ((CX 32 y:Nat):Int))],[]⟩ ?_ ?_
 · refine C8 rfl (fun h=>?_) (fun h=>AW.skip (Aw ?_))
   · simp only[ge_iff_le,decide_eq_true_eq]at h
     have e1:BH 32 y=y / 2^32:=by unfold BH;rw[if_pos (by omega)]
     have e2:CX 32 y=32:=by unfold CX;rw[if_pos (by omega)]
     have e3:(y:Int).fdiv (2^min (Int.toNat 32) 64)=((y / 2^32:Nat):Int):=by
       rw[show min (Int.toNat 32) 64=32 by decide,Int.fdiv_eq_ediv_of_nonneg _ (by decide)]
       omega
     rw[e1,e2]
     have F:=e3;refine BA [0,2] ?_;clear F
     refine Dh [0,2] ?_
     exact Bk trivial [] []
   · simp only[ge_iff_le,decide_eq_false_iff_not]at h
     have e1:BH 32 y=y:=by unfold BH;rw[if_neg (by omega)]
     have e2:CX 32 y=0:=by unfold CX;rw[if_neg (by omega)]
     rw[e1,e2]
     exact Bk trivial [] []
 have g1:CX 32 y≤32:=by unfold CX;split<;>omega
 unfold GF
 generalize CX 32 y=c at*
 have hcl:c≤32:=by omega
 generalize BH 32 y=y at*
 have h0:=hcl
 refine Dh [0,2,8] ?_
 refine AW.join hk 0 ⟨[(0,U64 ((BH 16 y:Nat):Int)),(2,I ((c+CX 16 y:Nat):Int))],[]⟩ ?_ ?_
 · refine C8 rfl (fun h=>?_) (fun h=>AW.skip (Aw ?_))
   · simp only[ge_iff_le,decide_eq_true_eq]at h
     have e1:BH 16 y=y / 2^16:=by unfold BH;rw[if_pos (by omega)]
     have e2:CX 16 y=16:=by unfold CX;rw[if_pos (by omega)]
     have e3:(y:Int).fdiv (2^min (Int.toNat 16) 64)=((y / 2^16:Nat):Int):=by
       rw[show min (Int.toNat 16) 64=16 by decide,Int.fdiv_eq_ediv_of_nonneg _ (by decide)]
       omega
     have e4:=As (n:=(c:Int)+16) (by omega)
     rw[e1,e2]
     have F:=e3;refine BA [0,2] ?_;clear F
     have F:=e4;refine BA [0,2] ?_;clear F
     exact Bk h0 [] []
   · simp only[ge_iff_le,decide_eq_false_iff_not]at h
     have e1:BH 16 y=y:=by unfold BH;rw[if_neg (by omega)]
     have e2:CX 16 y=0:=by unfold CX;rw[if_neg (by omega)]
     rw[e1,e2]
     exact Bk trivial [] []
 have g2:CX 16 y≤16:=by unfold CX;split<;>omega
 generalize hcc2:c+CX 16 y=c
 have hcl:c≤48:=by omega
 generalize BH 16 y=y at*
 have h0:=hcl
 refine Dh [0,2,14] ?_
 refine AW.join hk 0 ⟨[(0,U64 ((BH 8 y:Nat):Int)),(2,I ((c+CX 8 y:Nat):Int))],[]⟩ ?_ ?_
 · refine C8 rfl (fun h=>?_) (fun h=>AW.skip (Aw ?_))
   · simp only[ge_iff_le,decide_eq_true_eq]at h
     have e1:BH 8 y=y / 2^8:=by unfold BH;rw[if_pos (by omega)]
     have e2:CX 8 y=8:=by unfold CX;rw[if_pos (by omega)]
     have e3:(y:Int).fdiv (2^min (Int.toNat 8) 64)=((y / 2^8:Nat):Int):=by
       rw[show min (Int.toNat 8) 64=8 by decide,Int.fdiv_eq_ediv_of_nonneg _ (by decide)]
       omega
     have e4:=As (n:=(c:Int)+8) (by omega)
     rw[e1,e2]
     have F:=e3;refine BA [0,2] ?_;clear F
     have F:=e4;refine BA [0,2] ?_;clear F
     exact Bk h0 [] []
   · simp only[ge_iff_le,decide_eq_false_iff_not]at h
     have e1:BH 8 y=y:=by unfold BH;rw[if_neg (by omega)]
     have e2:CX 8 y=0:=by unfold CX;rw[if_neg (by omega)]
     rw[e1,e2]
     exact Bk trivial [] []
 have g3:CX 8 y≤8:=by unfold CX;split<;>omega
 generalize hcc3:c+CX 8 y=c
 generalize BH 8 y=y at*
 have g4:=OZ y h3
 have e4:IntKind.u8.wrap (y:Int)=y:=by rw[IU];omega
 have e5:=Ad0 y h3
 have e6:=ofNat_toNat (Iz y) (by omega)
 have e7:=As (n:=(Iz y:Int)) (by omega)
 have e8:=As (n:=(c:Int)+(Iz y:Int)) (by omega)
 have F:=And.intro e4 (And.intro e5 (And.intro e6 (And.intro e7 e8)));refine BA [2] ?_;clear F
 exact AW.ret (BX trivial [] [])
theorem Ql(a:Nat)(ha:a<2^64):AN .and .u64 (a:Int) 1=((a%2:Nat):Int):=by
 simp only[AN]
 have e:IntKind.u64.bits=64:=rfl
 rw[BitVec.toNat_and,BitVec.ofInt_natCast,show(BitVec.ofInt IntKind.u64.bits 1).toNat=1 by rfl,BitVec.toNat_ofNat,e,Nat.mod_eq_of_lt ha,Nat.and_one_is_mod]
 exact IntWalk.u64_in _ (by omega)
theorem Aav(a k:Nat)(hk:k≤64):(a:Int).fdiv (2^min (k:Int).toNat 64)=((a / 2^k:Nat):Int):=by
 rw[show min (k:Int).toNat 64=k by omega,Int.fdiv_eq_ediv_of_nonneg _ (Int.pow_nonneg (by decide))]
 push_cast
 rfl
theorem AfG(d k:Nat)(hd:d<2^64)(hk:k≤64):(AN .and .u64 ((d:Int).fdiv (2^min k 64)) 1==1)=d.testBit k:=by
 have hh:min k 64=min (k:Int).toNat 64:=by omega
 rw[hh]
 rw[Aav d k hk,Ql _ (by have:=Nat.div_le_self d (2^k);omega),Nat.testBit_eq_decide_div_mod_eq]
 rw[Bool.eq_iff_iff]
 generalize d / 2^k=m
 simp only[beq_iff_eq,decide_eq_true_eq]
 omega
theorem rep0(n:Nat):List.replicate n [AV.val (.int .u8 0)]=Ab (List.replicate n 0):=by simp[Ab,FE]
def Hh(o:List UInt8)(p:Nat):List UInt8:=o.set (p / 8) (UInt8.ofNat ((o.getD (p / 8) 0).toNat ||| 2^(p%8)))
theorem Yn(a p:Nat)(ha:a<256)(hp:p<8):AN .or .u8 (a:Int) (IntKind.u8.wrap (1*2^min p 8))=((a ||| 2^p:Nat):Int)∧a ||| 2^p<256:=by
 have h2: ∀ (x:Fin 256) (y:Fin 8),AN .or .u8 ((x.val:Nat):Int) (IntKind.u8.wrap (1*2^min y.val 8))=((x.val ||| 2^y.val:Nat):Int)∧x.val ||| 2^y.val<256:=by decide+kernel
 exact h2 ⟨a,ha⟩ ⟨p,hp⟩
def dU(lo x:Int):Nat:=(IntKind.u64.wrap (IntKind.u64.wrap x-IntKind.u64.wrap lo)).toNat
def Dd(d at_:Nat):Nat→List UInt8→List UInt8
 |0,o=>o
 |k+1,o=>if d.testBit k then Hh (Dd d at_ k o) (at_+k)else Dd d at_ k o
theorem Ig(d at_ k:Nat)(o:List UInt8):(Dd d at_ k o).length=o.length:=by
 induction k with
 |zero=>rfl
 |succ k ih=>simp only[Dd];split<;>simp[Hh,ih]
def Bz(v:List Int)(lo:Int)(w:Nat):Nat→List UInt8
 |0=>List.replicate ((v.length*w+7) / 8) 0
 |i+1=>Dd (dU lo (v.getD i 0)) (i*w) w (Bz v lo w i)
theorem ET(v:List Int)(lo:Int)(w i:Nat):(Bz v lo w i).length=(v.length*w+7) / 8:=by
 induction i with
 |zero=>simp[Bz]
 |succ i ih=>simp only[Bz,Ig,ih]
def loF(v:List Int):Int:=DG v v.length
def Bg(v:List Int):Nat:=GF (dU (loF v) (B9 v v.length))
def EL(v:List Int):List UInt8:=if v.length=0 then []else Be (loF v)++[UInt8.ofNat (Bg v)]++Bz v (loF v) (Bg v) v.length
theorem GQ(lo x:Int):dU lo x<2^64:=by
 have:=J4 (IntKind.u64.wrap x-IntKind.u64.wrap lo)
 unfold dU;omega
theorem Mk(lo x:Int):IntKind.u64.wrap (IntKind.u64.wrap x-IntKind.u64.wrap lo)=(dU lo x:Int):=by
 have:=J4 (IntKind.u64.wrap x-IntKind.u64.wrap lo)
 unfold dU;omega
theorem Py(w x:Nat):CX w x≤w:=by unfold CX;split<;>omega
theorem HT(x:Nat)(hx:x<2^64):GF x≤64:=by
 have h1:BH 32 x<2^32:=Gy (w:=32) hx (by omega)
 have h2:BH 16 (BH 32 x)<2^16:=Gy (w:=16) h1 (by omega)
 have h3:BH 8 (BH 16 (BH 32 x))<2^8:=Gy (w:=8) h2 (by omega)
 have:=(OZ _ h3).1
 have:=Py 32 x
 have:=Py 16 (BH 32 x)
 have:=Py 8 (BH 16 (BH 32 x))
 unfold GF;omega
theorem AfD(b:List UInt8)(v:List Int)(h0:0<v.length)(hl:v.length≤2^30)(hb:b.length≤2^30):
   Af Tryz.prog 187 [.osl 0 b.length 1,.sl 1 (Ak v)] [some ⟨5,1,Ab b⟩] (.osl 1 (b++EL v).length 1) [none,some ⟨5,1,Ab (b++EL v)⟩]:=by
 refine acN 83 1 Tryz.func187 fun C hN hk=>?_
 have e1:((v.length:Int)==0)=false:=by simp;intro h;rw[h]at h0;simp at h0
 have q1:=Abt v h0 (by omega)
 have q2:=TP (dU (loF v) (B9 v v.length)) (GQ _ _)
 have q3:=Kb b (loF v) (by omega)
 have e2:=Mk (loF v) (B9 v v.length)
 have hw:=HT _ (GQ (loF v) (B9 v v.length))
 unfold EL
 rw[if_neg (by omega)]
 rw[show DG v v.length=loF v from rfl]at q1
 rw[show GF (dU (loF v) (B9 v v.length))=Bg v from rfl]at q2 hw
 refine Dh [0,1] ?_ noc [0]
 have F:=e1;refine BA [0,1,16] ?_ noc [0];clear F
 refine Ar rfl (AW.skip (Aw ?_))
 refine Dh [0,1,5,6] ?_ (onc 1 (pc [.sl 1 (Ak v)] (.tup [I (loF v),I (B9 v v.length),B true]) []) noc) [0] (hp:=by exact BN q1 rfl (by simp))
 have F:=e2;refine BA [0,1,5,8] ?_ (onc 5 (pc [U64 (dU (loF v) (B9 v v.length))] (I (Bg v)) []) noc) [0] (hp:=by exact BN q2 rfl (by simp));clear F
 clear q1 q2 e2
 generalize Bg v=w at*
 generalize loF v=lo at*
 have hz:(Be lo).length≤11:=Bh _
 generalize Be lo=pl at*
 have e3:IntKind.u8.wrap (w:Int)=w:=by rw[IU];omega
 have F:=And.intro e3 (HU w (by omega));refine BA [0,1,5,8] ?_ (onc 2 (oc 0 ⟨5,1,Ab b⟩ [.osl 0 b.length 1,I lo] (.osl 1 (b++pl).length 1) [none,some ⟨5,1,Ab (b++pl)⟩]) noc) [0] (hp:=by exact⟨⟨DJ q3 rfl (by simp) (by simp) rfl (by simp) (by simp) rfl,by simp⟩,by simp;omega⟩);clear F
 have hl3:(b++pl).length+1=(b++pl++[UInt8.ofNat w]).length:=by simp[Nat.add_assoc]
 rw[hl3]
 have hl4:(b++pl++[UInt8.ofNat w]).length≤2^31:=by simp;omega
 have hre:b++(pl++[UInt8.ofNat w]++Bz v lo w v.length)=b++pl++[UInt8.ofNat w]++Bz v lo w v.length:=by simp
 rw[hre]
 clear hre hl3 q3 hz
 generalize b++pl++[UInt8.ofNat w]=b1 at*
 have hvw:v.length*w≤2^30*64:=Nat.mul_le_mul hl hw
 have e4:=As (n:=(v.length:Int)*(w:Int)) (by have:((v.length*w:Nat):Int)=(v.length:Int)*w:=by push_cast;rfl
                                             omega)
 have e5:=As (n:=(v.length:Int)*(w:Int)+7) (by have:((v.length*w:Nat):Int)=(v.length:Int)*w:=by push_cast;rfl
                                               omega)
 have e6:((v.length:Int)*(w:Int)+7).tdiv 8=(((v.length*w+7) / 8:Nat):Int):=by
   have:((v.length*w:Nat):Int)=(v.length:Int)*w:=by push_cast;rfl
   rw[Int.tdiv_eq_ediv_of_nonneg (by omega),← this];omega
 have e7:=As (n:=(((v.length*w+7) / 8:Nat):Int)) (by omega)
 have F:=And.intro e4 (And.intro e5 (And.intro e6 (And.intro e7 rep0)));refine BA [0,1,5,8,9] ?_ noc [0] (hp:=by exact⟨by decide,by omega,by omega⟩);clear F
 refine Dh [0,1,5,8,9,10] ?_ noc [0]
 refine Dh [0,1,5,8,9,10,11] ?_ noc [0]
 generalize hL:(v.length*w+7) / 8=L at*
 refine Bw hk 3 (fun i:Nat=>⟨[(0,.osl 1 b1.length 1),(1,.sl 1 (Ak v)),(5,I lo),(8,I w),(9,.osl 2 L 1),(10,I ((i*w:Nat):Int)),(11,I i)],[(0,none),(1,some ⟨5,1,Ab b1⟩),(2,some ⟨5,1,Ab (Bz v lo w i)⟩)]⟩) (fun i=>i≤v.length) (fun i=>v.length-i) 0 (by omega) (Bk (And.intro (And.intro Bz.eq_1 Bz.eq_2) hL) [some 0,some 1,some 2] []) ?_
 intro i h1
 by_cases hi:i<v.length
 · have e8:decide ((i:Int)<v.length)=true:=by simp;omega
   have hx:=List.getElem?_eq_getElem hi
   have hx2:v.getD i 0=v[i]:=by simp[List.getD,hi]
   have hpk:Bz v lo w (i+1)=Dd (dU lo v[i]) (i*w) w (Bz v lo w i):=by rw[Bz,hx2]
   have hol:=ET v lo w i
   rw[hL]at hol
   generalize v[i]=x at*
   have e9:=Mk lo x
   have hdl:=GQ lo x
   have e10:=As (n:=(i:Int)+1) (by omega)
   have hiw:i*w+w≤v.length*w:=by rw[← Nat.succ_mul];exact Nat.mul_le_mul_right _ hi
   have F:=e8;refine BA [0,1,5,8,9,10,11,47] ?_ noc [0];clear F
   refine AI rfl (AW.skip (Aw ?_))
   have F:=And.intro hx e9;refine BA [0,1,5,8,9,10,11,12] ?_ noc [0];clear F
   refine Dh [0,1,5,8,9,10,11,12,13] ?_ noc [0]
   generalize dU lo x=d at*
   generalize Bz v lo w i=o at*
   refine Bw hk 3 (fun k:Nat=>⟨[(0,.osl 1 b1.length 1),(1,.sl 1 (Ak v)),(5,I lo),(8,I w),(9,.osl 2 L 1),(10,I ((i*w+k:Nat):Int)),(11,I i),(12,U64 d),(13,I k)],[(0,none),(1,some ⟨5,1,Ab b1⟩),(2,some ⟨5,1,Ab (Dd d (i*w) k o)⟩)]⟩) (fun k=>k≤w) (fun k=>w-k) 0 (by omega) (Bk (And.intro Dd.eq_1 Dd.eq_2) [some 0,some 1,some 2] []) ?_
   intro k h2
   by_cases hk2:k<w
   · have e11:decide ((k:Int)<w)=true:=by simp;omega
     have F:=e11;refine BA [0,1,5,8,9,10,11,12,13,60] ?_ noc [0];clear F
     refine AI rfl (AW.skip (Aw ?_))
     have e12:=AfG d k hdl (by omega)
     have F:=e12;refine BA [0,1,5,8,9,10,11,12,13,67] ?_ noc [0];clear F
     have hpk2:Dd d (i*w) (k+1) o=if d.testBit k then Hh (Dd d (i*w) k o) (i*w+k)else Dd d (i*w) k o:=rfl
     have hpl:=Ig d (i*w) k o
     rw[hol]at hpl
     generalize Dd d (i*w) k o=o2 at*
     generalize hp:i*w+k=p at*
     have hpb:p / 8<L:=by omega
     have e16:=As (n:=(p:Int)+1) (by omega)
     have e17:=As (n:=(k:Int)+1) (by omega)
     refine nx ?_
     refine AW.join hk 3 ⟨[(0,.osl 1 b1.length 1),(1,.sl 1 (Ak v)),(5,I lo),(8,I w),(9,.osl 2 L 1),(10,I p),(11,I i),(12,U64 d),(13,I k)],[(0,none),(1,some ⟨5,1,Ab b1⟩),(2,some ⟨5,1,Ab (Dd d (i*w) (k+1) o)⟩)]⟩ ?_ ?_
     · refine C8 rfl (fun h=>?_) (fun h=>AW.skip (Aw ?_))
       · rw[hpk2,if_pos h]
         have e13:(p:Int).tdiv 8=((p / 8:Nat):Int):=by rw[Int.tdiv_eq_ediv_of_nonneg (by omega)];omega
         have e14:(p:Int).tmod 8=((p%8:Nat):Int):=by rw[Int.tmod_eq_emod_of_nonneg (by omega)];omega
         have e15:=As (n:=((p / 8:Nat):Int)) (by omega)
         have hy:=List.getElem?_eq_getElem (show p / 8<o2.length by omega)
         have hy2:o2.getD (p / 8) 0=o2[p / 8]:=by simp[List.getD,show p / 8<o2.length by omega]
         have hy3:Hh o2 p=o2.set (p / 8) (UInt8.ofNat ((o2[p / 8]).toNat ||| 2^(p%8))):=by rw[Hh,hy2]
         generalize o2[p / 8]=y at*
         have e18:=Yn y.toNat (p%8) y.toNat_lt (by omega)
         have hset:(Ab o2).set (p / 8) [AV.val (.int .u8 ((y.toNat ||| 2^(p%8):Nat):Int))]=Ab (Hh o2 p):=by
           rw[hy3,HU _ e18.2,Ab,Ab,List.map_set]
         have F:=And.intro e13 (And.intro e14 (And.intro e15 (And.intro hy (And.intro (e18.1) hset))));refine OV [0,1,5,8,9,10,11,12,13] ?_ noc [0] (hp:=by exact⟨⟨⟨by decide,by omega⟩,by decide⟩,by omega⟩);clear F
         exact Bk trivial [some 0,some 1,some 2] []
       · rw[hpk2,if_neg (by simp[h])]
         exact Bk trivial [some 0,some 1,some 2] []
     have F:=e16;refine BA [0,1,5,8,9,10,11,12,13] ?_ noc [0];clear F
     have F:=e17;refine BA [0,1,5,8,9,10,11,12,13] ?_ noc [0];clear F
     exact⟨k+1,by omega,by omega,(Bk (And.intro (Eq.symm hp) @Int.add_assoc) [some 0,some 1,some 2] [])⟩
   · have e11:decide ((k:Int)<w)=false:=by simp;omega
     have:k=w:=by omega
     subst this
     have F:=e11;refine BA [0,1,5,8,9,10,11,60] ?_ noc [0];clear F
     refine Ar rfl (AW.exit (A8 (A8 (BW ?_))))
     have F:=e10;refine BA [0,1,5,8,9,10,11] ?_ noc [0];clear F
     exact⟨i+1,by omega,by omega,(Bk (And.intro @Int.add_mul hpk) [some 0,some 1,some 2] [])⟩
 · have e8:decide ((i:Int)<v.length)=false:=by simp;omega
   have:i=v.length:=by omega
   subst this
   have F:=e8;refine BA [0,9,47] ?_ noc [0];clear F
   refine Ar rfl (AW.exit (A8 (A8 (BW (Aw ?_)))))
   have hol:=ET v lo w v.length
   rw[hL]at hol
   generalize Bz v lo w v.length=o at*
   refine Dh [4] ?_ noc [0] (hp:=by exact⟨hol,LD o,by omega⟩)
   exact AW.ret (BX trivial [some 0,some 1] [])
def BD(k:Nat)(v:List Int):List UInt8:=[UInt8.ofNat k]++An v.length
def Cq(v:List Int):Nat→List UInt8
 |0=>BD 0 v
 |i+1=>Cq v i++Be (v.getD i 0)
def EV(v:List Int)(i:Nat):Int:=if 0<i then IntKind.i64.wrap (v.getD i 0-v.getD (i-1) 0)else v.getD i 0
def B3(v:List Int):Nat→List UInt8
 |0=>BD 1 v
 |i+1=>B3 v i++Be (EV v i)
theorem CV(x:Int):(Be x).length≤11:=Bh _
theorem Fw(k:Nat)(v:List Int):(BD k v).length≤12:=by
 have:=Bh v.length
 simp[BD];omega
theorem I9(v:List Int): ∀ i,(Cq v i).length≤12+i*11
 |0=>by have:=Fw 0 v;simp only[Cq];omega
 |i+1=>by
   have:=I9 v i
   have:=CV (v.getD i 0)
   simp only[Cq,List.length_append];omega
theorem I2(v:List Int): ∀ i,(B3 v i).length≤12+i*11
 |0=>by have:=Fw 1 v;simp only[B3];omega
 |i+1=>by
   have:=I2 v i
   have:=CV (EV v i)
   simp only[B3,List.length_append];omega
theorem ZL(v:List Int)(hl:v.length≤16384):
   Af Tryz.prog 130 [I 0,.sl 1 (Ak v)] [] (.tup [.osl 0 (Cq v v.length).length 1,I 0]) [some ⟨5,1,Ab (Cq v v.length)⟩]:=by
 refine acN 95 0 Tryz.func130 fun C hN hk=>?_
 have a1:decide ((0:Int)<0)=false:=by decide
 have a2:decide ((0:Int)>3)=false:=by decide
 have a3:decide ((v.length:Int)>16384)=false:=by simp;omega
 have a4:IntKind.u8.wrap (0:Int)=0:=by decide
 have a5:IntKind.u64.wrap (v.length:Int)=v.length:=IntWalk.u64_in _ (by omega)
 have a6:((0:Int)==3)=false:=by decide
 have a7:((0:Int)==2)=false:=by decide
 have a8:((0:Int)==1)=false:=by decide
 have q1:=C7 [UInt8.ofNat 0] v.length (by omega) (by simp)
 refine Dh [0,1] ?_
 have F:=And.intro a1 a2;refine BA [0,1,14] ?_;clear F
 refine Ar rfl (AW.skip (Aw ?_))
 have F:=a3;refine BA [0,1,17] ?_;clear F
 refine Ar rfl (AW.skip (Aw ?_))
 have F:=And.intro a4 a5;refine BA [0,1,6] ?_ (onc 6 (oc 16 ⟨5,1,Ab [UInt8.ofNat 0]⟩ [.osl 0 [UInt8.ofNat 0].length 1,U64 v.length] (.osl 1 ([UInt8.ofNat 0]++An v.length).length 1) [none,some ⟨5,1,Ab ([UInt8.ofNat 0]++An v.length)⟩]) noc) (hp:=by exact⟨by simp,DJ q1 rfl (by simp) (by simp) rfl (by simp) (by simp) rfl⟩);clear F
 rw[show(An v.length).length+1=(BD 0 v).length from rfl,show UInt8.ofNat 0::An v.length=BD 0 v from rfl]
 clear q1
 have F:=a6;refine BA [0,1,6,26] ?_;clear F
 refine Ar rfl (AW.skip (Aw ?_))
 refine Dh [0,1,6,7] ?_
 refine Bw hk 1 (fun i:Nat=>⟨[(0,I 0),(1,.sl 1 (Ak v)),(6,.osl 0 (Cq v i).length 1),(7,I i)],[(0,some ⟨5,1,Ab (Cq v i)⟩)]⟩) (fun i=>i≤v.length) (fun i=>v.length-i) 0 (by omega) (Bk (And.intro Cq.eq_1 Cq.eq_2) [some 0] []) ?_
 intro i h1
 by_cases hi:i<v.length
 · have b1:decide ((i:Int)<v.length)=true:=by simp;omega
   have hx:=List.getElem?_eq_getElem hi
   have hx2:v.getD i 0=v[i]:=by simp[List.getD,hi]
   have b2:=As (n:=(i:Int)+1) (by omega)
   have hol:=I9 v i
   have hpk:Cq v (i+1)=Cq v i++Be (v.getD i 0):=rfl
   rw[hx2]at hpk
   generalize v[i]=x at*
   have q2:=Kb (Cq v i) x (by omega)
   generalize Cq v i=o at*
   generalize Be x=px at*
   have F:=b1;refine BA [0,1,6,7,33] ?_;clear F
   refine AI rfl (AW.skip (Aw ?_))
   have F:=a7;refine BA [0,1,6,7,42] ?_;clear F
   refine cF ?_;have F:=a8;refine BA [0,1,6,7,75] ?_;clear F
   refine cF ?_;have F:=hx;refine BA [0,1,6,7] ?_ (onc 5 (oc 0 ⟨5,1,Ab o⟩ [.osl 0 o.length 1,I x] (.osl 1 (o++px).length 1) [none,some ⟨5,1,Ab (o++px)⟩]) noc) (hp:=by exact DJ q2 rfl (by simp) (by simp) rfl (by simp) (by simp) rfl);clear F
   have F:=b2;refine BA [0,1,6,7] ?_;clear F
   exact⟨i+1,by omega,by omega,(Bk hpk [some 0] [])⟩
 · have b1:decide ((i:Int)<v.length)=false:=by simp;omega
   have:i=v.length:=by omega
   subst this
   have F:=b1;refine BA [6,33] ?_;clear F
   refine Ar rfl (AW.exit (A8 (A8 (BW (Aw ?_)))))
   refine Dh [4,5] ?_
   exact AW.ret (BX trivial [some 0] [])
theorem YY(v:List Int)(hl:v.length≤16384):
   Af Tryz.prog 130 [I 1,.sl 1 (Ak v)] [] (.tup [.osl 0 (B3 v v.length).length 1,I 0]) [some ⟨5,1,Ab (B3 v v.length)⟩]:=by
 refine acN 95 0 Tryz.func130 fun C hN hk=>?_
 have a1:decide ((1:Int)<0)=false:=by decide
 have a2:decide ((1:Int)>3)=false:=by decide
 have a3:decide ((v.length:Int)>16384)=false:=by simp;omega
 have a4:IntKind.u8.wrap (1:Int)=1:=by decide
 have a5:IntKind.u64.wrap (v.length:Int)=v.length:=IntWalk.u64_in _ (by omega)
 have a6:((1:Int)==3)=false:=by decide
 have a7:((1:Int)==2)=false:=by decide
 have a8:((1:Int)==1)=true:=by decide
 have q1:=C7 [UInt8.ofNat 1] v.length (by omega) (by simp)
 refine Dh [0,1] ?_
 have F:=And.intro a1 a2;refine BA [0,1,14] ?_;clear F
 refine Ar rfl (AW.skip (Aw ?_))
 have F:=a3;refine BA [0,1,17] ?_;clear F
 refine Ar rfl (AW.skip (Aw ?_))
 have F:=And.intro a4 a5;refine BA [0,1,6] ?_ (onc 6 (oc 16 ⟨5,1,Ab [UInt8.ofNat 1]⟩ [.osl 0 [UInt8.ofNat 1].length 1,U64 v.length] (.osl 1 ([UInt8.ofNat 1]++An v.length).length 1) [none,some ⟨5,1,Ab ([UInt8.ofNat 1]++An v.length)⟩]) noc) (hp:=by exact⟨by simp,DJ q1 rfl (by simp) (by simp) rfl (by simp) (by simp) rfl⟩);clear F
 rw[show(An v.length).length+1=(BD 1 v).length from rfl,show UInt8.ofNat 1::An v.length=BD 1 v from rfl]
 clear q1
 have F:=a6;refine BA [0,1,6,26] ?_;clear F
 refine Ar rfl (AW.skip (Aw ?_))
 refine Dh [0,1,6,7] ?_
 refine Bw hk 1 (fun i:Nat=>⟨[(0,I 1),(1,.sl 1 (Ak v)),(6,.osl 0 (B3 v i).length 1),(7,I i)],[(0,some ⟨5,1,Ab (B3 v i)⟩)]⟩) (fun i=>i≤v.length) (fun i=>v.length-i) 0 (by omega) (Bk (And.intro B3.eq_1 B3.eq_2) [some 0] []) ?_
 intro i h1
 by_cases hi:i<v.length
 · have b1:decide ((i:Int)<v.length)=true:=by simp;omega
   have hx:=List.getElem?_eq_getElem hi
   have hx2:v.getD i 0=v[i]:=by simp[List.getD,hi]
   have b2:=As (n:=(i:Int)+1) (by omega)
   have hol:=I2 v i
   have hpk:B3 v (i+1)=B3 v i++Be (EV v i):=rfl
   have F:=b1;refine BA [0,1,6,7,33] ?_;clear F
   refine AI rfl (AW.skip (Aw ?_))
   have F:=a7;refine BA [0,1,6,7,42] ?_;clear F
   refine cF ?_
   by_cases hi0:0<i
   · have b3:decide ((i:Int)>0)=true:=by simp;omega
     have hy:=List.getElem?_eq_getElem (show i-1<v.length by omega)
     have hy2:v.getD (i-1) 0=v[i-1]:=by simp[List.getD,show i-1<v.length by omega]
     rw[EV,if_pos hi0,hx2,hy2]at hpk
     generalize v[i]=x at*
     generalize v[i-1]=y at*
     have b4:=As (n:=(i:Int)-1) (by omega)
     have b5:((i:Int)-1).toNat=i-1:=by omega
     generalize hz:IntKind.i64.wrap (x-y)=z at*
     have q2:=Kb (B3 v i) z (by omega)
     generalize B3 v i=o at*
     generalize Be z=px at*
     have F:=And.intro a8 b3;refine BA [0,1,6,7,75] ?_;clear F
     refine cT ?_;have F:=And.intro hx (And.intro hy (And.intro b4 (And.intro b5 hz)));refine OV [0,1,6,7] ?_ (onc 11 (oc 0 ⟨5,1,Ab o⟩ [.osl 0 o.length 1,I z] (.osl 1 (o++px).length 1) [none,some ⟨5,1,Ab (o++px)⟩]) noc) (hp:=by exact⟨by omega,DJ q2 rfl (by simp) (by simp) rfl (by simp) (by simp) rfl⟩);clear F
     have F:=b2;refine BA [0,1,6,7] ?_;clear F
     exact⟨i+1,by omega,by omega,(Bk hpk [some 0] [])⟩
   · have b3:decide ((i:Int)>0)=false:=by simp;omega
     rw[EV,if_neg hi0,hx2]at hpk
     generalize v[i]=x at*
     have q2:=Kb (B3 v i) x (by omega)
     generalize B3 v i=o at*
     generalize Be x=px at*
     have F:=And.intro a8 b3;refine BA [0,1,6,7,75] ?_;clear F
     refine cF ?_;have F:=hx;refine BA [0,1,6,7] ?_ (onc 5 (oc 0 ⟨5,1,Ab o⟩ [.osl 0 o.length 1,I x] (.osl 1 (o++px).length 1) [none,some ⟨5,1,Ab (o++px)⟩]) noc) (hp:=by exact DJ q2 rfl (by simp) (by simp) rfl (by simp) (by simp) rfl);clear F
     have F:=b2;refine BA [0,1,6,7] ?_;clear F
     exact⟨i+1,by omega,by omega,(Bk hpk [some 0] [])⟩
 · have b1:decide ((i:Int)<v.length)=false:=by simp;omega
   have:i=v.length:=by omega
   subst this
   have F:=b1;refine BA [6,33] ?_;clear F
   refine Ar rfl (AW.exit (A8 (A8 (BW (Aw ?_)))))
   refine Dh [4,5] ?_
   exact AW.ret (BX trivial [some 0] [])
def E6(v:List Int):List UInt8:=BD 3 v++EL v
theorem VX(v:List Int)(h0:0<v.length)(hl:v.length≤16384):
   Af Tryz.prog 130 [I 3,.sl 1 (Ak v)] [] (.tup [.osl 0 (E6 v).length 1,I 0]) [some ⟨5,1,Ab (E6 v)⟩]:=by
 refine acN 95 0 Tryz.func130 fun C hN hk=>?_
 have a1:decide ((3:Int)<0)=false:=by decide
 have a2:decide ((3:Int)>3)=false:=by decide
 have a3:decide ((v.length:Int)>16384)=false:=by simp;omega
 have a4:IntKind.u8.wrap (3:Int)=3:=by decide
 have a5:IntKind.u64.wrap (v.length:Int)=v.length:=IntWalk.u64_in _ (by omega)
 have a6:((3:Int)==3)=true:=by decide
 have a7:((3:Int)==2)=false:=by decide
 have a8:((3:Int)==1)=false:=by decide
 have q1:=C7 [UInt8.ofNat 3] v.length (by omega) (by simp)
 refine Dh [0,1] ?_
 have F:=And.intro a1 a2;refine BA [0,1,14] ?_;clear F
 refine Ar rfl (AW.skip (Aw ?_))
 have F:=a3;refine BA [0,1,17] ?_;clear F
 refine Ar rfl (AW.skip (Aw ?_))
 have F:=And.intro a4 a5;refine BA [0,1,6] ?_ (onc 6 (oc 16 ⟨5,1,Ab [UInt8.ofNat 3]⟩ [.osl 0 [UInt8.ofNat 3].length 1,U64 v.length] (.osl 1 ([UInt8.ofNat 3]++An v.length).length 1) [none,some ⟨5,1,Ab ([UInt8.ofNat 3]++An v.length)⟩]) noc) (hp:=by exact⟨by simp,DJ q1 rfl (by simp) (by simp) rfl (by simp) (by simp) rfl⟩);clear F
 rw[show(An v.length).length+1=(BD 3 v).length from rfl,show UInt8.ofNat 3::An v.length=BD 3 v from rfl]
 clear q1
 have F:=a6;refine BA [0,1,6,26] ?_;clear F
 refine cT ?_
 have hhl:=Fw 3 v
 have q2:=AfD (BD 3 v) v h0 (by omega) (by omega)
 unfold E6
 generalize BD 3 v=o at*
 generalize EL v=px at*
 refine Dh [4,5] ?_ (onc 2 (oc 0 ⟨5,1,Ab o⟩ [.osl 0 o.length 1,.sl 1 (Ak v)] (.osl 1 (o++px).length 1) [none,some ⟨5,1,Ab (o++px)⟩]) noc) (hp:=by exact DJ q2 rfl (by simp) (by simp) rfl (by simp) (by simp) rfl)
 exact AW.ret (BX trivial [some 0] [])
end Go.Proofs.YtpkhodjlnodagaaGreatDoor
