/- Part 27 of the proof of PlanSkipsOnlyWhatCannotMatch. -/
import Derived.Test.YtpkhodjlnodagaaGreatDoorB06
import Derived.Test.YtpkhodjlnodagaaGreatDoorB26
set_option linter.unusedSimpArgs false
set_option linter.unusedVariables false
set_option linter.unusedSectionVars false
namespace Go.Proofs.YtpkhodjlnodagaaGreatDoor
open Go.Av
set_option maxHeartbeats 4000000
attribute [local irreducible] Ad
theorem Vr:Tryz.prog.underlying 9=some .string:=by kernel_rfl
theorem Agg:Tryz.prog.underlying 203=some (.struct #[⟨ "Name",9,0,false,"","",0⟩,⟨ "Value",9,1,false,"","",16⟩]):=by kernel_rfl
theorem inf9: ∃ i,Tryz.prog.info? 9=some i:=⟨Tryz.t9,by kernel_rfl⟩
theorem Ahp:Tryz.prog.stoodInHeld 203=false:=by kernel_rfl
theorem Aha:Tryz.prog.eqGuardType Tryz.prog.depth 203=false:=by kernel_rfl
theorem eqFl(s s' t t':ByteArray):Rv Tryz.prog 203 [.string s,.string t] [.string s',.string t'] (bl s==bl s'&&(bl t==bl t'&&true)):=by
 refine⟨Aha,fun w=>?_⟩
 obtain⟨i9,h9⟩:=inf9
 show(Op.equalIn (9998+1+1) 203 _ _).run Tryz.prog w=_
 rw[Op.equalIn,run_bind,At Agg]
 simp only[run_bind,Fe,Ahp]
 simp only[Bool.false_eq_true,if_false,List.forIn_toArray,List.forIn_cons,List.forIn_nil,run_bind,Nt Vr h9,Dw,OL Vr]
 by_cases g1:bl s=bl s'<;>by_cases g3:bl t=bl t'<;>
   simp[g1,g3,run_pure,run_bind,Nt Vr h9,Dw,OL Vr]
theorem VO(L:List Fl)(hl:L.length≤2^40):Ad Tryz.prog 157 [.sl 2 (flE L),.sl 2 (flE L)] [] (B true) []:=by
 refine acN 26 0 Tryz.func157 fun C hN hk=>?_
 refine Af [0,1] ?_
 refine rG hN hk noc [] [0,1,10] fun K hK=>?_;simp only[go_sem,seval,bne_self_eq_false]
 try simp (disch:=omega) only[au]
 (first|with_reducible refine hK _ _ ?_|refine obK (hK _ _ ?_));clear hK K;refine nx ?_
 refine cF ?_;refine Af [0,1,5] ?_
 refine lpF hk 0 (fun i:Nat=>⟨[(0,.sl 2 (flE L)),(1,.sl 2 (flE L)),(5,I i)],[]⟩) (fun i=>i≤L.length) (fun i=>L.length-i) 0 (Ea [] []) ?_
 intro i h1
 by_cases hi:i<L.length
 · have hx:=List.getElem?_eq_getElem hi
   generalize L[i]=x at*
   have q:=eqFl ⟨x.name.toArray⟩ ⟨x.name.toArray⟩ ⟨x.val.toArray⟩ ⟨x.val.toArray⟩
   simp only[Aby,beq_self_eq_true,Bool.and_true]at q
   refine AL [0,1,5,14] ?_
   refine cT ?_;have F:=hx;refine DI [0,1,5,25] ?_;clear F
   refine nx ?_;refine cF ?_;refine AL [0,1,5] ?_
   refine eE (i+1) (Ea [] [])
 · refine AL [0,1,5,14] ?_
   refine cF ?_;refine Af [4] ?_
   refine AW.ret (Dx [] [])
def B7(a b:Ev):Bool:=if a.time≠b.time then decide (a.time<b.time)else if a.host≠b.host then decide (a.host<b.host)else if a.file≠b.file then decide (a.file<b.file)else decide (a.frm<b.frm)
theorem Yk(a b:Ev):Ad Tryz.prog 100 [.agg (evC a),.agg (evC b)] [] (B (B7 a b)) []:=by
 refine acN 43 0 Tryz.func100 fun C hN hk=>?_
 rcases dqE a.time b.time with ⟨p0,e0,f0⟩|⟨p0,e0,f0⟩
 · rcases dqE a.host b.host with ⟨p1,e1,f1⟩|⟨p1,e1,f1⟩
   · rcases dqE a.file b.file with ⟨p2,e2,f2⟩|⟨p2,e2,f2⟩
     · have e:B7 a b=decide (a.frm<b.frm):=by simp[B7,p0,p1,p2]
       rw[e]
       have F:=And.intro f0 (And.intro f1 f2);refine AD [2,3] ?_;clear F
       have F:=And.intro f0 (And.intro f1 f2);refine A6 [2,3,5] ?_;clear F;refine cF ?_;have F:=And.intro f0 (And.intro f1 f2);refine A6 [2,3,16] ?_;clear F;refine cF ?_;have F:=And.intro f0 (And.intro f1 f2);refine A6 [2,3,27] ?_;clear F;refine cF ?_;have F:=And.intro f0 (And.intro f1 f2);refine A6 [4] ?_;clear F
       refine AW.ret (Dx [] [])
     · have e:B7 a b=decide (a.file<b.file):=by simp[B7,p0,p1,p2]
       rw[e]
       have F:=And.intro f0 (And.intro f1 f2);refine AD [2,3] ?_;clear F
       have F:=And.intro f0 (And.intro f1 f2);refine A6 [2,3,5] ?_;clear F;refine cF ?_;have F:=And.intro f0 (And.intro f1 f2);refine A6 [2,3,16] ?_;clear F;refine cF ?_;have F:=And.intro f0 (And.intro f1 f2);refine A6 [2,3,27] ?_;clear F;refine cT ?_;have F:=And.intro f0 (And.intro f1 f2);refine A6 [4] ?_;clear F
       refine AW.ret (Dx [] [])
   · have e:B7 a b=decide (a.host<b.host):=by simp[B7,p0,p1]
     rw[e]
     have F:=And.intro f0 f1;refine AD [2,3] ?_;clear F
     have F:=And.intro f0 f1;refine A6 [2,3,5] ?_;clear F;refine cF ?_;have F:=And.intro f0 f1;refine A6 [2,3,16] ?_;clear F;refine cT ?_;have F:=And.intro f0 f1;refine A6 [4] ?_;clear F
     refine AW.ret (Dx [] [])
 · have e:B7 a b=decide (a.time<b.time):=by simp[B7,p0]
   rw[e]
   have F:=f0;refine AD [2,3] ?_;clear F
   have F:=f0;refine A6 [2,3,5] ?_;clear F;refine cT ?_;have F:=f0;refine A6 [4] ?_;clear F
   refine AW.ret (Dx [] [])
end Go.Proofs.YtpkhodjlnodagaaGreatDoor
namespace Go.Proofs.YtpkhodjlnodagaaGreatDoor
open Go.Av
theorem LK(a:Ev):B7 a a=false:=by simp[B7]
theorem Ti{a b:Ev}(h:B7 a b=true):B7 b a=false:=by
 unfold B7 at*
 split at h<;>split<;>(try split at h)<;>(try split)<;>(try split at h)<;>(try split)<;>simp_all<;>omega
def Asc(l:List Ev):Prop:=l.Pairwise fun a b=>B7 a b=true
def CI:List Ev→(Nat→Bool)→List Ev
 | [],_=>[]
 |x::l,p=>if p 0 then x::CI l (fun i=>p (i+1))else CI l (fun i=>p (i+1))
theorem HX: ∀ (l:List Ev) (p:Nat→Bool),(CI l p).Sublist l
 | [],_=>List.Sublist.slnil
 |x::l,p=>by
   simp only[CI]
   split
   · exact(HX l _).cons_cons x
   · exact(HX l _).cons x
theorem Ru: ∀ (l:List Ev) (p:Nat→Bool),(∀ i,i<l.length→p i=true)→CI l p=l
 | [],_,_=>rfl
 |x::l,p,h=>by
   simp only[CI,h 0 sP,if_true]
   rw[Ru l _ (fun i hi=>h (i+1) sO)]
theorem P2: ∀ (l:List Ev) (p:Nat→Bool),(∀ i,i<l.length→p i=false)→CI l p=[]
 | [],_,_=>rfl
 |x::l,p,h=>by
   simp only[CI,h 0 sP,Bool.false_eq_true,if_false]
   exact P2 l _ (fun i hi=>h (i+1) sO)
def CQ:List Ev→List Ev→List Ev→List Ev
 | [],b,out=>out++b
 |x::a,[],out=>out++(x::a)
 |x::a,y::b,out=>if B7 x y then CQ a (y::b) (out++[x])else if B7 y x then CQ (x::a) b (out++[y])else CQ a b (out++[x])
termination_by a b _=>a.length+b.length
theorem TW{l:List Ev}{p:Nat→Bool}{x:Ev}(h:x∈CI l p):x∈l:=(HX l p).subset h
theorem Tv(a out:List Ev):CQ a [] out=out++a:=by cases a<;>simp[CQ]
theorem Nj: ∀ (l:List Ev) (p q:Nat→Bool) (out:List Ev),Asc l→CQ (CI l p) (CI l q) out=out++CI l (fun i=>p i||q i)
 | [],p,q,out,_=>by simp[CI,CQ]
 |x::l,p,q,out,h=>by
   have h1:=(List.pairwise_cons.1 h).1
   have h2:=(List.pairwise_cons.1 h).2
   have IH:=fun p q out=>Nj l p q out h2
   cases hp:p 0<;>cases hq:q 0
   · simp only[CI,hp,hq,Bool.false_eq_true,if_false,Bool.or_self]
     exact IH _ _ _
   · simp only[CI,hp,hq,Bool.false_eq_true,if_false,if_true,Bool.false_or,Bool.or_true]
     have IH:=IH (fun i=>p (i+1)) (fun i=>q (i+1)) (out++[x])
     cases hs:CI l (fun i=>p (i+1))with
     |nil=>rw[hs]at IH;rw[CQ]at IH ⊢;rw[show out++x::CI l (fun i=>q (i+1))=out++[x]++CI l (fun i=>q (i+1)) by simp,IH];simp
     |cons z a=>
       rw[hs]at IH
       have hz:=h1 z (TW (by rw[hs];simp))
       rw[CQ,if_neg (by simp[Ti hz]),if_pos hz,IH];simp
   · simp only[CI,hp,hq,Bool.false_eq_true,if_false,if_true,Bool.or_false]
     have IH:=IH (fun i=>p (i+1)) (fun i=>q (i+1)) (out++[x])
     cases hs:CI l (fun i=>q (i+1))with
     |nil=>rw[hs]at IH;rw[Tv]at IH ⊢;rw[show out++x::CI l (fun i=>p (i+1))=out++[x]++CI l (fun i=>p (i+1)) by simp,IH];simp
     |cons z b=>
       rw[hs]at IH
       have hz:=h1 z (TW (by rw[hs];simp))
       rw[CQ,if_pos hz,IH];simp
   · simp only[CI,hp,hq,if_true,Bool.or_self]
     have IH:=IH (fun i=>p (i+1)) (fun i=>q (i+1)) (out++[x])
     rw[CQ,if_neg (by simp[LK]),if_neg (by simp[LK]),IH];simp
end Go.Proofs.YtpkhodjlnodagaaGreatDoor
namespace Go.Proofs.YtpkhodjlnodagaaGreatDoor
open Go.Av
set_option maxHeartbeats 4000000
attribute [local irreducible] Ad
def EQ(l:List Ev)(e:Ev):Nat→Nat
 |0=>0
 |i+1=>match l[i]? with
   |some y=>if B7 e y then EQ l e i else i+1
   |none=>i+1
def H8(l:List Ev)(e:Ev):List Ev:=l.take (EQ l e l.length)++[e]++l.drop (EQ l e l.length)
theorem KU(l:List Ev)(e:Ev): ∀ i,EQ l e i≤i
 |0=>by simp[EQ]
 |i+1=>by
   have:=KU l e i
   unfold EQ
   split
   · split<;>omega
   · omega
theorem Aa7(l:List Ev)(e:Ev)(hl:l.length≤2^30):Ad Tryz.prog 54 [.sl 10 (evE l),.agg (evC e)] [] (.osl 0 (H8 l e).length 10) [some ⟨56,10,evE (H8 l e)⟩]:=by
 refine acN 34 0 Tryz.func54 fun C hN hk=>?_
 have hle:=KU l e l.length
 refine Af [0,3] ?_
 refine Af [0,3,5] ?_
 refine lpF hk 1 (fun i:Nat=>⟨[(0,.sl 10 (evE l)),(3,.ptr 0 10 0 0),(5,I i)],[(0,some ⟨56,10,[evC e]⟩)]⟩) (fun i=>i≤l.length∧EQ l e i=EQ l e l.length) (fun i=>i) l.length (Cz evC.eq_1 [some 0] []) ?_
 rintro i ⟨h1,h2⟩
 have fin: ∀ k,k=EQ l e l.length→(l.take k++[e]++l.drop k)=H8 l e:=by intro k hk;subst hk;rfl
 cases i with
 |zero=>
   have hf:=fin 0 h2
   simp only[List.take_zero,List.drop_zero,List.nil_append]at hf
   have d0:decide (((0:Nat):Int)>0)=false:=by simp
   have hfl:(H8 l e).length=1+l.length:=by rw[← hf];simp;omega
   refine nx ?_
   refine rD hN hk noc [] [0,3,5,19] fun K tok htok hK=>?_
   simp only[go_sem,seval,d0]
   try simp (disch:=omega) only[au]
   try simp only[go_sem,seval,d0]
   refine⟨htok _ dK,?_⟩
   (first|with_reducible refine hK _ _ ?_|refine obK (hK _ _ ?_));clear hK K htok tok
   refine nx ?_;refine cF ?_;refine Af [0,3,5,6] ?_
   refine IB [4] ?_
   rw[← hf]
   have hcons: ∀ l,evE (e::l)=evC e::evE l:=fun _=>rfl
   refine AW.ret (BY [some 0] [] rfl (by simp[Az,lk,lkh,I,str,B,U8,U64,U32,hcons,evC,AF,AN]<;>omega) (by first|(simp[Am,Ai,Ak,lkh,hcons,evC,AF,AN];done)|simp[Am,Ai,Ak,lkh,I,str,hcons,evC,AF,AN]))
 |succ j=>
   have hj:j<l.length:=by omega
   have hx:=List.getElem?_eq_getElem hj
   have q:=Yk e l[j]
   have h3:EQ l e (j+1)=if B7 e l[j]then EQ l e j else j+1:=by rw[EQ,hx]
   have e1:(((j+1:Nat):Int)-1)=(j:Int):=by omega
   have d0:decide (((j+1:Nat):Int)>0)=true:=by simp
   have w1:=Ar (n:=(j:Int)) oM
   generalize l[j]=y at*
   cases hb:B7 e y with
   |true=>
     rw[hb]at q h3
     rw[if_pos rfl]at h3
     refine nx ?_
     refine rD hN hk (onc 9 (pcq q) noc) [] [0,3,5,19] fun K tok htok hK=>?_
     simp only[go_sem,seval,d0,e1,w1,hx]
     try simp (disch:=omega) only[au]
     try simp only[go_sem,seval,d0,e1,w1,hx]
     refine⟨htok _ dK,?_⟩
     refine obK (hK _ _ ?_);clear hK K htok tok
     refine nx ?_;refine cT ?_;have F:=And.intro e1 w1;refine A6 [0,3,5] ?_;clear F
     refine eE (j) (Cz evC.eq_1 [some 0] [])
   |false=>
     rw[hb]at q h3
     rw[if_neg sP]at h3
     have hf:=fin (j+1) oM
     have e3:(((j+1:Nat):Int)).toNat=j+1:=by omega
     have hfl:(H8 l e).length=l.length+1:=by rw[← hf];simp;omega
     refine nx ?_
     refine rD hN hk (onc 9 (pcq q) noc) [] [0,3,5,19] fun K tok htok hK=>?_
     simp only[go_sem,seval,d0,e1,w1,hx]
     try simp (disch:=omega) only[au]
     try simp only[go_sem,seval,d0,e1,w1,hx]
     refine⟨htok _ dK,?_⟩
     refine obK (hK _ _ ?_);clear hK K htok tok
     refine nx ?_;refine cF ?_;have F:=e3;refine AD [0,3,5,6] ?_;clear F
     have F:=e3;refine DI [4] ?_;clear F
     rw[← hf]
     refine AW.ret (Dx [some 0] [])
def orF(l:List Int):Int:=match l.find? fun x=>x !=0 with
 |some x=>x
 |none=>0
theorem Ahy(l:List Int)(hl:l.length≤2^30):Ad Tryz.prog 97 [.sl 1 (An l)] [] (I (orF l)) []:=by
 refine acN 18 0 Tryz.func97 fun C hN hk=>?_
 refine Af [0] ?_
 refine Af [0,3] ?_
 refine Af [3,6,7,8] ?_
 refine lpF hk 0 (fun i:Nat=>⟨[(3,I 0),(6,.sl 1 (An l)),(7,I l.length),(8,I i)],[]⟩) (fun i=>i≤l.length∧ ∀ x∈l.take i,(x !=0)=false) (fun i=>l.length-i) 0 (Ea [] []) ?_
 rintro i ⟨h1,h2⟩
 by_cases hi:i<l.length
 · have hx:=List.getElem?_eq_getElem hi
   rcases dqB (l[i] !=0)with e|e
   · have hg:orF l=l[i]:=by unfold orF;rw[Uk hi h2 e]
     rw[hg]
     generalize l[i]=x at*
     have F:=And.intro hx e;refine A6 [3,6,7,8,9] ?_;clear F;refine cT ?_;have F:=And.intro hx e;refine AD [3,5,6,7,8] ?_;clear F
     have F:=And.intro hx e;refine A6 [3,5,6,7,8,14] ?_;clear F;refine cT ?_;have F:=And.intro hx e;refine AD [2] ?_;clear F
     refine AW.ret (Dx [] [])
   · have h3: ∀ x∈l.take (i+1),(x !=0)=false:=by
       rw[List.take_add_one,hx]
       intro x hx
       rcases List.mem_append.1 hx with hx|hx
       · exact h2 x hx
       · simp at hx;rw[hx];exact e
     generalize l[i]=x at*
     have F:=And.intro hx e;refine A6 [3,6,7,8,9] ?_;clear F;refine cT ?_;have F:=And.intro hx e;refine AD [3,5,6,7,8] ?_;clear F
     have F:=And.intro hx e;refine A6 [3,5,6,7,8,14] ?_;clear F;refine cF ?_;have F:=And.intro hx e;refine A6 [3,6,7,8] ?_;clear F
     refine eE (i+1) (Ea [] [])
 · have:i=l.length:=by omega
   subst this
   rw[List.take_length]at h2
   have hg:orF l=0:=by
     unfold orF
     rw[List.find?_eq_none.2 (fun x hx=>by simp[h2 x hx])]
   rw[hg]
   refine AL [3,6,7,8,9] ?_;refine cF ?_;refine Af [2] ?_
   refine AW.ret (Dx [] [])
theorem M1{x y:Int}(h:x<y):ES x y= -1:=by simp[ES,h]
theorem MD{x y:Int}(h:y<x):ES x y=1:=by unfold ES;rw[if_neg oM,if_pos h]
theorem MQ(x:Int):ES x x=0:=by simp[ES]
theorem Aee(a b:Ev):decide (orF [ES a.time b.time,ES a.host b.host,ES a.file b.file,ES a.frm b.frm]<0)=B7 a b:=by
 unfold orF B7
 rcases Int.lt_trichotomy a.time b.time with h1|h1|h1
 · rw[M1 h1,if_pos oM];simp[h1]
 · rw[h1,MQ,if_neg sP]
   rcases Int.lt_trichotomy a.host b.host with h2|h2|h2
   · rw[M1 h2,if_pos oM];simp[h2]
   · rw[h2,MQ,if_neg sP]
     rcases Int.lt_trichotomy a.file b.file with h3|h3|h3
     · rw[M1 h3,if_pos oM];simp[h3]
     · rw[h3,MQ,if_neg sP]
       rcases Int.lt_trichotomy a.frm b.frm with h4|h4|h4
       · rw[M1 h4];simp[h4]
       · rw[h4,MQ];simp
       · rw[MD h4];simp;omega
     · rw[MD h3,if_pos oM];simp;omega
   · rw[MD h2,if_pos oM];simp;omega
 · rw[MD h1,if_pos oM];simp;omega
theorem Qw(a b:Ev):Ad Tryz.prog 51 [.agg (evC a),.agg (evC b)] [] (B (B7 a b)) []:=by
 refine acN 28 0 Tryz.func51 fun C hN hk=>?_
 have q1:=K2 a.time b.time
 have q2:=K2 a.host b.host
 have q3:=K2 a.file b.file
 have q4:=K2 a.frm b.frm
 have q5:=Ahy [ES a.time b.time,ES a.host b.host,ES a.file b.file,ES a.frm b.frm] sP
 have he:=Aee a b
 generalize orF _=r at*
 generalize ES a.time b.time=c1 at*
 generalize ES a.host b.host=c2 at*
 generalize ES a.file b.file=c3 at*
 generalize ES a.frm b.frm=c4 at*
 rw[← he]
 refine Af [2,3] ?_
 refine rD hN hk (onc 4 (pcq q1) (onc 9 (pcq q2) (onc 14 (pcq q3) (onc 19 (pcq q4) (onc 21 (bcq [162] q5) noc))))) [] [4] fun K tok htok hK=>?_
 simp only[go_sem,seval]
 try simp (disch:=omega) only[au]
 refine⟨htok _ dK,?_⟩
 refine obK (hK _ _ ?_);clear hK K htok tok
 refine nx ?_
 refine AW.ret (Dx [] [])
def fnV(g:Nat):AV:= .val (.func (.func g) #[] #[])
attribute [go_sem] fnV
def Jz(a b:List Ev):List Ev:=CQ a b []
theorem Tu: ∀ (n:Nat) (a b out:List Ev),a.length+b.length≤n→(CQ a b out).length≤out.length+a.length+b.length:=by
 intro n
 induction n with
 |zero=>
   intro a b out h
   have ha:a=[]:=List.length_eq_zero_iff.1 oM
   have hb:b=[]:=List.length_eq_zero_iff.1 oM
   subst ha hb
   simp[CQ]
 |succ n ih=>
   intro a b out h
   match a,b with
   | [],b=>simp[CQ]
   |x::a,[]=>simp[CQ]
   |x::a,y::b=>
     rw[CQ]
     split
     · have:=ih a (y::b) (out++[x]) (by simp at h ⊢;omega)
       simp at*;omega
     · split
       · have:=ih (x::a) b (out++[y]) (by simp at h ⊢;omega)
         simp at*;omega
       · have:=ih a b (out++[x]) (by simp at h ⊢;omega)
         simp at*;omega
theorem AaW(a b:List Ev):(Jz a b).length≤a.length+b.length:=by
 have:=Tu _ a b [] (Nat.le_refl _)
 simpa [Jz] using this
theorem Zo(a b:List Ev)(ha:a.length≤2^30)(hb:b.length≤2^30):Ad Tryz.prog 50 [.sl 10 (evE a),.sl 10 (evE b),fnV 51] [] (.osl 0 (Jz a b).length 10) [some ⟨56,10,evE (Jz a b)⟩]:=by
 refine acN 65 0 Tryz.func50 fun C hN hk=>?_
 unfold Jz
 refine Af [0,1,2] ?_
 refine Af [0,1,2,7] ?_
 refine lpF hk 1 (fun s:List Ev×List Ev×List Ev=>⟨[(0,.sl 10 (evE s.1)),(1,.sl 10 (evE s.2.1)),(2,fnV 51),(7,.osl 0 s.2.2.length 10)],[(0,some ⟨56,10,evE s.2.2⟩)]⟩) (fun s=>s.1.length+s.2.1.length+s.2.2.length≤a.length+b.length∧CQ s.1 s.2.1 s.2.2=CQ a b []) (fun s=>s.1.length+s.2.1.length) (a,b,[]) (Cz fnV.eq_1 [none] []) ?_
 rintro⟨a',b',out⟩ ⟨h1,h2⟩
 simp only at h1 h2
 match a',b' with
 | [],b'=>
   have d0:decide (((([]:List Ev).length:Nat):Int)>0)=false:=by simp
   rw[CQ]at h2
   simp only[List.length_nil]at h1
   refine nx ?_;refine rG hN hk noc [] [0,1,2,7,15] fun K hK=>?_;simp only[go_sem,seval,d0]
   try simp (disch:=omega) only[au]
   try simp only[go_sem,seval,d0]
   (first|with_reducible refine hK _ _ ?_|refine obK (hK _ _ ?_));clear hK K;refine nx ?_
   refine cF ?_;refine Af [6] ?_
   rw[← h2]
   refine AW.ret (Dx [some 0] [])
 |x::a',[]=>
   have d0:decide (((a'.length+1:Nat):Int)>0)=true:=by simp
   have d1:decide ((0:Int)>0)=false:=by simp
   rw[CQ]at h2
   simp only[List.length_nil,List.length_cons]at h1
   refine nx ?_;refine rG hN hk noc [] [0,1,2,7,15] fun K hK=>?_;simp only[go_sem,seval,d0,Pq,List.length_nil]
   try simp (disch:=omega) only[au]
   try simp only[go_sem,seval,d0,Pq,List.length_nil]
   (first|with_reducible refine hK _ _ ?_|refine obK (hK _ _ ?_));clear hK K;refine nx ?_
   refine cF ?_;have F:=Pq;refine AD [6] ?_;clear F
   rw[← h2]
   refine AW.ret (Dx [some 0] [])
 |x::a',y::b'=>
   have d0:decide (((a'.length+1:Nat):Int)>0)=true:=by simp
   have d1:decide (((b'.length+1:Nat):Int)>0)=true:=by simp
   have q1:=Qw x y
   have q2:=Qw y x
   rw[CQ]at h2
   simp only[List.length_cons]at h1
   cases hl:B7 x y with
   |true=>
     rw[hl]at q1
     rw[if_pos hl]at h2
     refine nx ?_;refine rG hN hk noc [] [0,1,2,7,15] fun K hK=>?_;simp only[go_sem,seval,d0,d1]
     try simp (disch:=omega) only[au]
     try simp only[go_sem,seval,d0,d1]
     (first|with_reducible refine hK _ _ ?_|refine obK (hK _ _ ?_));clear hK K;refine nx ?_
     refine cT ?_;refine IB [0,1,2,7,26] ?_ (onc 7 (pcq q1) noc)
     refine nx ?_;refine cT ?_;refine nx ?_
     refine rD hN hk noc [] [0,1,2,7] fun K tok htok hK=>?_
     simp only[go_sem,seval,List.take_length]
     refine⟨htok _ dK,?_⟩
     (first|with_reducible refine hK _ _ ?_|refine obK (hK _ _ ?_));clear hK K htok tok
     refine nx ?_
     refine eE ((a',y::b',out++[x])) (Cz fnV.eq_1 [some 0] [])
   |false=>
     rw[hl]at q1
     rw[if_neg (by simp[hl])]at h2
     cases hl2:B7 y x with
     |true=>
       rw[hl2]at q2
       rw[if_pos hl2]at h2
       refine nx ?_;refine rG hN hk noc [] [0,1,2,7,15] fun K hK=>?_;simp only[go_sem,seval,d0,d1]
       try simp (disch:=omega) only[au]
       try simp only[go_sem,seval,d0,d1]
       (first|with_reducible refine hK _ _ ?_|refine obK (hK _ _ ?_));clear hK K;refine nx ?_
       refine cT ?_;refine IB [0,1,2,7,26] ?_ (onc 7 (pcq q1) noc)
       refine nx ?_;refine cF ?_;refine IB [0,1,2,7,43] ?_ (onc 7 (pcq q2) noc)
       refine nx ?_;refine cT ?_;refine nx ?_
       refine rD hN hk noc [] [0,1,2,7] fun K tok htok hK=>?_
       simp only[go_sem,seval,List.take_length]
       refine⟨htok _ dK,?_⟩
       (first|with_reducible refine hK _ _ ?_|refine obK (hK _ _ ?_));clear hK K htok tok
       refine nx ?_
       refine eE ((x::a',b',out++[y])) (Cz fnV.eq_1 [some 0] [])
     |false=>
       rw[hl2]at q2
       rw[if_neg (by simp[hl2])]at h2
       refine nx ?_;refine rG hN hk noc [] [0,1,2,7,15] fun K hK=>?_;simp only[go_sem,seval,d0,d1]
       try simp (disch:=omega) only[au]
       try simp only[go_sem,seval,d0,d1]
       (first|with_reducible refine hK _ _ ?_|refine obK (hK _ _ ?_));clear hK K;refine nx ?_
       refine cT ?_;refine IB [0,1,2,7,26] ?_ (onc 7 (pcq q1) noc)
       refine nx ?_;refine cF ?_;refine IB [0,1,2,7,43] ?_ (onc 7 (pcq q2) noc)
       refine nx ?_;refine cF ?_;refine nx ?_
       refine rD hN hk noc [] [0,1,2,7] fun K tok htok hK=>?_
       simp only[go_sem,seval,List.take_length]
       refine⟨htok _ dK,?_⟩
       (first|with_reducible refine hK _ _ ?_|refine obK (hK _ _ ?_));clear hK K htok tok
       refine nx ?_
       refine eE ((a',b',out++[x])) (Cz fnV.eq_1 [some 0] [])
def GM(ls:List (List Ev))(i:Nat):List Ev:=(ls.take i).foldl Jz []
theorem X5(ls:List (List Ev))(i:Nat)(h:i<ls.length):GM ls (i+1)=Jz (GM ls i) ls[i]:=by
 unfold GM
 rw[List.take_add_one,List.getElem?_eq_getElem h,List.foldl_append]
 rfl
theorem RN(ls:List (List Ev))(h: ∀ l∈ls,l.length≤4096): ∀ i,i≤ls.length→(GM ls i).length≤i*4096
 |0,_=>by simp[GM]
 |i+1,hi=>by
   have:=RN ls h i oM
   have:=h ls[i] (List.getElem_mem _)
   have:=AaW (GM ls i) ls[i]
   rw[X5 ls i oM];omega
theorem X9(ls:List (List Ev))(hn:ls.length≤4096)(hl: ∀ l∈ls,l.length≤4096):Ad Tryz.prog 16 [.sl 1 (elE ls)] [] (.sl 10 (evE (GM ls ls.length))) []:=by
 refine acN 17 0 Tryz.func16 fun C hN hk=>?_
 have hml:=RN ls hl
 refine Af [0] ?_
 refine Af [0,3] ?_
 refine Af [3,6,7,8] ?_
 refine lpF hk 0 (fun i:Nat=>⟨[(3,.sl 10 (evE (GM ls i))),(6,.sl 1 (elE ls)),(7,I ls.length),(8,I i)],[]⟩) (fun i=>i≤ls.length) (fun i=>ls.length-i) 0 (Cz GM.eq_1 [] []) ?_
 intro i h1
 have hmi:=hml i h1
 by_cases hi:i<ls.length
 · have hx:=List.getElem?_eq_getElem hi
   have h2:=hl _ (List.getElem_mem hi)
   have hs:=X5 ls i hi
   have q:=Zo (GM ls i) ls[i] oM oM
   generalize Jz (GM ls i) ls[i]=r at*
   generalize GM ls i=m at*
   generalize ls[i]=l at*
   have F:=hx;refine A6 [3,6,7,8,9] ?_;clear F;refine cT ?_;refine Do [3,5,6,7,8] ?_
   refine Do [3,6,7,8] ?_ (onc 2 (pcq q) noc)
   have F:=hx;refine A6 [3,6,7,8] ?_;clear F
   refine eE (i+1) (Oa [] [0])
 · have:i=ls.length:=by omega
   subst this
   generalize GM ls ls.length=m at*
   refine AL [3,6,7,8,9] ?_;refine cF ?_;refine Af [2] ?_
   refine AW.ret (Dx [] [])
theorem Xg(l:List Ev)(h:Asc l): ∀ (ps:List (Nat→Bool)) (q:Nat→Bool),(ps.map (CI l)).foldl Jz (CI l q)=CI l (fun i=>q i||ps.any fun p=>p i)
 | [],q=>by simp
 |p::ps,q=>by
   have e:Jz (CI l q) (CI l p)=CI l (fun i=>q i||p i):=by
     unfold Jz;rw[Nj l q p [] h];rfl
   simp only[List.map_cons,List.foldl_cons,e]
   rw[Xg l h ps]
   congr 1;funext i;simp[Bool.or_assoc]
theorem Agy(l:List Ev)(h:Asc l)(ps:List (Nat→Bool))(hall: ∀ i,i<l.length→ps.any (fun p=>p i)=true):GM (ps.map (CI l)) (ps.map (CI l)).length=l:=by
 unfold GM
 rw[List.take_length]
 have e:([]:List Ev)=CI l (fun _=>false):=(P2 l _ (fun _ _=>rfl)).symm
 rw[e,Xg l h ps]
 exact Ru l _ (fun i hi=>by simp[hall i hi])
end Go.Proofs.YtpkhodjlnodagaaGreatDoor
